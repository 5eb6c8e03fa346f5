/- The walks of disk: New for any size, Drop, Cut. -/
import Derived.Test.YtmehohpboliibaaDkMath
namespace Go.Proofs.Ytmehohpboliibaa
open Go.RowKit
set_option linter.unusedVariables false

theorem new_any (n : Int) (w : World) (h : 0 ≤ n ∧ n ≤ 1048576) : Calls Try.prog 20 #[.int .i64 n] w fun e w' => e = .returned (.tuple #[.pointer (some ⟨w.heap.size, 0, none⟩), .int .i64 0]) ∧ DkAt w' w.heap.size ⟨false, false, 0, ⟨#[]⟩, 0, n⟩ ∧ w.grownBy w' none := by
  obtain ⟨h0, h1⟩ := h
  go_enter Try.func20, Try.ntmps20
  go_wp2
  go_ret2
  exact ⟨rfl, Blk.new _ _ _, gr_alloc (gr_refl _ _) _⟩
theorem new_not (n : Int) (w : World) (h : n < 0 ∨ 1048576 < n) : Calls Try.prog 20 #[.int .i64 n] w fun e w' => e = .returned (.tuple #[.pointer none, .int .i64 1]) ∧ w' = w := by
  by_cases h0 : n < 0
  · clear h
    go_enter Try.func20, Try.ntmps20
    go_wp2
    go_ret2
    exact ⟨rfl, rfl⟩
  · have h1 : 1048576 < n := by omega
    clear h
    go_enter Try.func20, Try.ntmps20
    go_wp2
    go_ret2
    exact ⟨rfl, rfl⟩

def DK.drop (d : DK) (n : Int) : Int × DK :=
  if d.down = false ∧ (n < 0 ∨ d.safe < n) then (1, d) else
  if d.step.1 = 0 then (0, { d.step.2 with b := d.step.2.b.extract n.toNat d.step.2.b.size, safe := d.step.2.safe - n }) else (d.step.1, d.step.2)
def DK.cut (d : DK) (n : Int) : Int × DK :=
  if d.down = true then (7, d) else
  if n < 0 ∨ (d.b.size : Int) < n then (1, d) else (0, { d with b := d.b.extract 0 n.toNat, safe := min d.safe n })
theorem DK.spend_b (d : DK) (n : Int) : (d.spend n).2.b = d.b ∧ (d.spend n).2.safe = d.safe ∧ (d.spend n).2.size = d.size := by
  unfold DK.spend
  split <;> exact ⟨rfl, rfl, rfl⟩
theorem DK.step_b (d : DK) : d.step.2.b = d.b ∧ d.step.2.safe = d.safe ∧ d.step.2.size = d.size := by
  have := d.spend_b 1
  unfold DK.step
  split
  · exact ⟨rfl, rfl, rfl⟩
  · split <;> exact this
theorem DK.step_01 (d : DK) : d.step.1 = 0 ∨ d.step.1 = 7 := by
  unfold DK.step
  split
  · exact .inr rfl
  · split
    · exact .inr rfl
    · exact .inl rfl

set_option maxHeartbeats 1600000 in
theorem drop_c {g : Nat} {d : DK} {w : World} (n : Int) (hd : d.ok) (h : DkAt w g d) : Calls Try.prog 35 #[.pointer (some ⟨g, 0, none⟩), .int .i64 n] w fun e w' => e = .returned (.int .i64 (d.drop n).1) ∧ DkAt w' g (d.drop n).2 ∧ w.grownBy w' (some g) := by
  have S := As.mk (step_c h)
  have D := As.mk (down_c h)
  have H := As.mk h
  have sb := d.step_b
  obtain ⟨hd0, hd1, hd2, hd3⟩ := hd
  have c4 : w.cell? ⟨g, 4, none⟩ = some (.int .i64 d.safe) := h.cell 4
  have d7 := d.step_01
  clear h
  unfold DK.drop
  rcases hs : d.step with ⟨m, d1⟩
  rw [hs] at S sb d7
  dsimp only at sb d7
  obtain ⟨sb1, sb2, sb3⟩ := sb
  by_cases hx : d.down = false ∧ (n < 0 ∨ d.safe < n)
  · rw [if_pos hx]
    obtain ⟨hx1, hx2⟩ := hx
    clear sb1 sb2 sb3 hd0 hd1 hd2 hd3 d7 S hs
    by_cases hx3 : n < 0
    · clear hx2
      go_enter Try.func35, Try.ntmps35
      go_wp2_with fail
      refine D.out.mono ?_
      rintro e w1 ⟨rfl, rfl⟩
      rw [hx1]
      go_wp2
      go_ret
      exact ⟨rfl, H.out, gr_refl _ _⟩
    · have hx4 : d.safe < n := by omega
      clear hx2
      go_enter Try.func35, Try.ntmps35
      go_wp2_with fail
      refine D.out.mono ?_
      rintro e w1 ⟨rfl, rfl⟩
      rw [hx1]
      go_wp2
      go_ret
      exact ⟨rfl, H.out, gr_refl _ _⟩
  · rw [if_neg hx]
    by_cases hm : m = 0
    · subst hm
      rw [if_pos rfl]
      have hn : d.down = false := by
        cases hq : d.down with
        | false => rfl
        | true => unfold DK.step at hs; rw [hq] at hs; simp at hs
      have hr : ¬ n < 0 := fun q => hx ⟨hn, .inl q⟩
      have hr2 : ¬ d.safe < n := fun q => hx ⟨hn, .inr q⟩
      have e1 : IntKind.i64.wrap (d.safe - n) = d.safe - n := by rw [IntKind.wrap_i64]; omega
      have z0 : 0 ≤ n := by omega
      have z1 : n ≤ (d.b.size : Int) := by omega
      clear hx hs hd0 hd1 hd2 hd3 d7 sb3
      go_enter Try.func35, Try.ntmps35
      go_wp2_with fail
      refine D.out.mono ?_
      rintro e w1 ⟨rfl, rfl⟩
      rw [hn]
      go_wp2_with fail
      refine S.out.mono ?_
      rintro e w2 ⟨rfl, h1, h2⟩
      have k3 : w2.cell? ⟨g, 3, none⟩ = some (.string d.b) := by rw [← sb1]; exact h1.cell 3
      have k4 : w2.cell? ⟨g, 4, none⟩ = some (.int .i64 d.safe) := by rw [← sb2]; exact h1.cell 4
      have f4 := h1.free
      have H1 := As.mk h1
      have H2 := As.mk h2
      have SB1 := As.mk sb1
      have SB2 := As.mk sb2
      clear h1 h2 sb1 sb2
      go_wp2
      go_ret
      refine ⟨rfl, ?_, gr_own (gr_own H2.out _ _) _ _⟩
      rw [SB1.out, SB2.out]
      exact ((show Blk _ _ _ _ from H1.out).set 3 _).set 4 _
    · rw [if_neg hm]
      have hm7 : m = 7 := by omega
      subst hm7
      clear sb1 sb2 sb3 hd0 hd1 hd2 hd3 hs d7
      by_cases hn : d.down = true
      · go_enter Try.func35, Try.ntmps35
        go_wp2_with fail
        refine D.out.mono ?_
        rintro e w1 ⟨rfl, rfl⟩
        rw [hn]
        clear hx
        go_wp2_with fail
        refine S.out.mono ?_
        rintro e w2 ⟨rfl, h1, h2⟩
        have H1 := As.mk h1
        have H2 := As.mk h2
        clear h1 h2
        go_wp2
        go_ret
        exact ⟨rfl, H1.out, H2.out⟩
      · have hn : d.down = false := by simpa using hn
        have hr : ¬ n < 0 := fun q => hx ⟨hn, .inl q⟩
        have hr2 : ¬ d.safe < n := fun q => hx ⟨hn, .inr q⟩
        clear hx
        go_enter Try.func35, Try.ntmps35
        go_wp2_with fail
        refine D.out.mono ?_
        rintro e w1 ⟨rfl, rfl⟩
        rw [hn]
        go_wp2_with fail
        refine S.out.mono ?_
        rintro e w2 ⟨rfl, h1, h2⟩
        have H1 := As.mk h1
        have H2 := As.mk h2
        clear h1 h2
        go_wp2
        go_ret
        exact ⟨rfl, H1.out, H2.out⟩
set_option maxHeartbeats 1600000 in
theorem cut_c {g : Nat} {d : DK} {w : World} (n : Int) (h : DkAt w g d) : Calls Try.prog 37 #[.pointer (some ⟨g, 0, none⟩), .int .i64 n] w fun e w' => e = .returned (.int .i64 (d.cut n).1) ∧ DkAt w' g (d.cut n).2 ∧ w.grownBy w' (some g) := by
  have D := As.mk (down_c h)
  have H := As.mk h
  have c3 : w.cell? ⟨g, 3, none⟩ = some (.string d.b) := h.cell 3
  have c4 : w.cell? ⟨g, 4, none⟩ = some (.int .i64 d.safe) := h.cell 4
  have f4 := h.free
  clear h
  unfold DK.cut
  by_cases hn : d.down = true
  · rw [if_pos hn]
    go_enter Try.func37, Try.ntmps37
    go_wp2_with fail
    refine D.out.mono ?_
    rintro e w1 ⟨rfl, rfl⟩
    rw [hn]
    go_wp2
    go_ret
    exact ⟨rfl, H.out, gr_refl _ _⟩
  · rw [if_neg hn]
    have hn : d.down = false := by simpa using hn
    by_cases hx : n < 0 ∨ (d.b.size : Int) < n
    · rw [if_pos hx]
      by_cases hx3 : n < 0
      · clear hx
        go_enter Try.func37, Try.ntmps37
        go_wp2_with fail
        refine D.out.mono ?_
        rintro e w1 ⟨rfl, rfl⟩
        rw [hn]
        go_wp2
        go_ret
        exact ⟨rfl, H.out, gr_refl _ _⟩
      · have hx4 : (d.b.size : Int) < n := by omega
        clear hx
        go_enter Try.func37, Try.ntmps37
        go_wp2_with fail
        refine D.out.mono ?_
        rintro e w1 ⟨rfl, rfl⟩
        rw [hn]
        go_wp2
        go_ret
        exact ⟨rfl, H.out, gr_refl _ _⟩
    · rw [if_neg hx]
      have hr : ¬ n < 0 := fun q => hx (.inl q)
      have hr2 : ¬ (d.b.size : Int) < n := fun q => hx (.inr q)
      have z0 : 0 ≤ n := by omega
      have z1 : n ≤ (d.b.size : Int) := by omega
      clear hx
      go_enter Try.func37, Try.ntmps37
      go_wp2_with fail
      refine D.out.mono ?_
      rintro e w1 ⟨rfl, rfl⟩
      rw [hn]
      go_wp2
      go_ret
      exact ⟨rfl, ((show Blk _ _ _ _ from H.out).set 3 _).set 4 _, gr_own (gr_own (gr_refl _ _) _ _) _ _⟩
end Go.Proofs.Ytmehohpboliibaa
