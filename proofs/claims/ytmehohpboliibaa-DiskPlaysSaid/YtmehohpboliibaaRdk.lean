/- The walks of the document's disk: byte by byte. -/
import Derived.Test.YtmehohpboliibaaDiskF
namespace Go.Proofs.Ytmehohpboliibaa
open Go.RowKit
set_option linter.unusedVariables false

structure RK where
  b : ByteArray
  safe : Int
  size : Int
  fuse : Int
  down : Bool
def RkAt (w : World) (g : Nat) (r : RK) : Prop := Blk w g 66 #[.string r.b, .int .i64 r.safe, .int .i64 r.size, .int .i64 r.fuse, .bool r.down]
def RK.ok (r : RK) : Prop := r.fuse ≤ 9223372036854775807 ∧ 0 ≤ r.safe ∧ r.safe ≤ r.b.size ∧ r.b.size ≤ 140737488351232 ∧ 0 ≤ r.size ∧ r.size ≤ 9223372036854775807
def RK.step (r : RK) : Bool × RK := if r.fuse = 0 then (false, { r with down := true }) else if 0 < r.fuse then (true, { r with fuse := r.fuse - 1 }) else (true, r)
def RK.run (r : RK) (s : ByteArray) : Int × RK :=
  if r.fuse < 0 then (0, { r with b := r.b ++ s }) else
  if (s.size : Int) ≤ r.fuse then (0, { r with b := r.b ++ s, fuse := r.fuse - s.size }) else (7, { r with b := r.b ++ s.extract 0 r.fuse.toNat, fuse := 0, down := true })
def RK.append (r : RK) (s : ByteArray) : Int × RK :=
  if r.down = true then (7, r) else
  if r.size - (r.b.size : Int) < s.size then (6, r) else r.run s
def RK.sync (r : RK) : Int × RK :=
  if r.down = true then (7, r) else
  if r.step.1 = true then (0, { r.step.2 with safe := (r.step.2.b.size : Int) }) else (7, r.step.2)
def RK.drop (r : RK) (n : Int) : Int × RK :=
  if r.down = true then (7, r) else
  if n < 0 ∨ r.safe < n then (1, r) else
  if r.step.1 = true then (0, { r.step.2 with b := r.step.2.b.extract n.toNat r.step.2.b.size, safe := r.step.2.safe - n }) else (7, r.step.2)
def RK.cut (r : RK) (n : Int) : Int × RK :=
  if r.down = true then (7, r) else
  if n < 0 ∨ (r.b.size : Int) < n then (1, r) else (0, { r with b := r.b.extract 0 n.toNat, safe := if n < r.safe then n else r.safe })
def RK.set (r : RK) (n : Int) : RK := { r with fuse := if n < 0 then -1 else n }
def RK.keep (r : RK) (k : Int) : Int := r.safe + min (max k 0) ((r.b.size : Int) - r.safe)
def RK.crash (r : RK) (k : Int) : RK := { r with b := r.b.extract 0 (r.keep k).toNat, safe := r.keep k, fuse := -1, down := false }

theorem rnew_any (n : Int) (w : World) (h : 0 ≤ n ∧ n ≤ 1048576) : Calls Try.prog 32 #[.int .i64 n] w fun e w' => e = .returned (.pointer (some ⟨w.heap.size, 0, none⟩)) ∧ RkAt w' w.heap.size ⟨⟨#[]⟩, 0, n, -1, false⟩ ∧ w.grownBy w' none := by
  obtain ⟨h0, h1⟩ := h
  go_enter Try.func32, Try.ntmps32
  go_wp2
  go_ret
  exact ⟨rfl, Blk.new _ _ _, gr_alloc (gr_refl _ _) _⟩
theorem rnew_not (n : Int) (w : World) (h : n < 0 ∨ 1048576 < n) : Calls Try.prog 32 #[.int .i64 n] w fun e w' => e = .returned (.pointer none) ∧ w' = w := by
  by_cases h0 : n < 0
  · clear h
    go_enter Try.func32, Try.ntmps32
    go_wp2
    go_ret
    exact ⟨rfl, rfl⟩
  · have h1 : 1048576 < n := by omega
    clear h
    go_enter Try.func32, Try.ntmps32
    go_wp2
    go_ret
    exact ⟨rfl, rfl⟩
theorem rstep_c {g : Nat} {r : RK} {w : World} (hf : r.fuse ≤ 9223372036854775807) (h : RkAt w g r) : Calls Try.prog 57 #[.pointer (some ⟨g, 0, none⟩)] w fun e w' => e = .returned (.bool r.step.1) ∧ RkAt w' g r.step.2 ∧ w.grownBy w' (some g) := by
  have c3 : w.cell? ⟨g, 3, none⟩ = some (.int .i64 r.fuse) := h.cell 3
  have c4 : w.cell? ⟨g, 4, none⟩ = some (.bool r.down) := h.cell 4
  have f4 := h.free
  have H := As.mk h
  clear h
  unfold RK.step
  obtain ⟨b, safe, size, fuse, down⟩ := r
  dsimp only at *
  by_cases h0 : fuse = 0
  · subst h0
    rw [if_pos rfl]
    go_enter Try.func57, Try.ntmps57
    go_wp2
    go_ret
    exact ⟨rfl, (show Blk _ _ _ _ from H.out).set 4 _, gr_own (gr_refl _ _) _ _⟩
  · rw [if_neg h0]
    by_cases h1 : 0 < fuse
    · rw [if_pos h1]
      have e1 : IntKind.i64.wrap (fuse - 1) = fuse - 1 := by rw [IntKind.wrap_i64]; omega
      go_enter Try.func57, Try.ntmps57
      go_wp2
      go_ret
      exact ⟨rfl, (show Blk _ _ _ _ from H.out).set 3 _, gr_own (gr_refl _ _) _ _⟩
    · rw [if_neg h1]
      go_enter Try.func57, Try.ntmps57
      go_wp2
      go_ret
      exact ⟨rfl, H.out, gr_refl _ _⟩
theorem rsync_c {g : Nat} {r : RK} {w : World} (hf : r.fuse ≤ 9223372036854775807) (h : RkAt w g r) : Calls Try.prog 34 #[.pointer (some ⟨g, 0, none⟩)] w fun e w' => e = .returned (.int .i64 r.sync.1) ∧ RkAt w' g r.sync.2 ∧ w.grownBy w' (some g) := by
  have S := As.mk (rstep_c hf h)
  have c4 : w.cell? ⟨g, 4, none⟩ = some (.bool r.down) := h.cell 4
  have H := As.mk h
  clear h
  unfold RK.sync
  rcases hs : r.step with ⟨m, r1⟩
  rw [hs] at S
  cases hd : r.down with
  | true =>
    rw [hd] at c4
    clear hs hf
    go_enter Try.func34, Try.ntmps34
    go_wp2
    go_ret
    exact ⟨rfl, H.out, gr_refl _ _⟩
  | false =>
    rw [hd] at c4
    rw [if_neg (by simp)]
    clear hs hf
    cases m with
    | true =>
      rw [if_pos rfl]
      go_enter Try.func34, Try.ntmps34
      go_wp2_with fail
      refine S.out.mono ?_
      rintro e w1 ⟨rfl, h1, h2⟩
      have k0 : w1.cell? ⟨g, 0, none⟩ = some (.string r1.b) := h1.cell 0
      have k1 : w1.cell? ⟨g, 1, none⟩ = some (.int .i64 r1.safe) := h1.cell 1
      have f4 := h1.free
      have H1 := As.mk h1
      have H2 := As.mk h2
      clear h1 h2
      go_wp2
      go_ret
      exact ⟨rfl, (show Blk _ _ _ _ from H1.out).set 1 _, gr_own H2.out _ _⟩
    | false =>
      rw [if_neg (by simp)]
      go_enter Try.func34, Try.ntmps34
      go_wp2_with fail
      refine S.out.mono ?_
      rintro e w1 ⟨rfl, h1, h2⟩
      have H1 := As.mk h1
      have H2 := As.mk h2
      clear h1 h2
      go_wp2
      go_ret
      exact ⟨rfl, H1.out, H2.out⟩
theorem RK.step_b (r : RK) : r.step.2.b = r.b ∧ r.step.2.safe = r.safe ∧ r.step.2.size = r.size := by
  unfold RK.step
  split
  · exact ⟨rfl, rfl, rfl⟩
  · split <;> exact ⟨rfl, rfl, rfl⟩
set_option maxHeartbeats 1600000 in
theorem rdrop_c {g : Nat} {r : RK} {w : World} (n : Int) (hr : r.ok) (h : RkAt w g r) : Calls Try.prog 36 #[.pointer (some ⟨g, 0, none⟩), .int .i64 n] w fun e w' => e = .returned (.int .i64 (r.drop n).1) ∧ RkAt w' g (r.drop n).2 ∧ w.grownBy w' (some g) := by
  obtain ⟨hf, hd1, hd2, hd3, -, -⟩ := hr
  have S := As.mk (rstep_c hf h)
  have sb := r.step_b
  have c4 : w.cell? ⟨g, 4, none⟩ = some (.bool r.down) := h.cell 4
  have c1 : w.cell? ⟨g, 1, none⟩ = some (.int .i64 r.safe) := h.cell 1
  have H := As.mk h
  clear h hf
  unfold RK.drop
  rcases hs : r.step with ⟨m, r1⟩
  rw [hs] at S sb
  dsimp only at sb
  obtain ⟨sb1, sb2, sb3⟩ := sb
  clear hs sb3
  cases hd : r.down with
  | true =>
    rw [hd] at c4
    clear sb1 sb2 hd1 hd2 hd3
    go_enter Try.func36, Try.ntmps36
    go_wp2
    go_ret
    exact ⟨rfl, H.out, gr_refl _ _⟩
  | false =>
    rw [hd] at c4
    rw [if_neg (by simp)]
    by_cases hx : n < 0 ∨ r.safe < n
    · rw [if_pos hx]
      clear sb1 sb2 hd1 hd2 hd3
      by_cases hx3 : n < 0
      · clear hx
        go_enter Try.func36, Try.ntmps36
        go_wp2
        go_ret
        exact ⟨rfl, H.out, gr_refl _ _⟩
      · have hx4 : r.safe < n := by omega
        clear hx
        go_enter Try.func36, Try.ntmps36
        go_wp2
        go_ret
        exact ⟨rfl, H.out, gr_refl _ _⟩
    · rw [if_neg hx]
      have hr1 : ¬ n < 0 := fun q => hx (.inl q)
      have hr2 : ¬ r.safe < n := fun q => hx (.inr q)
      have e1 : IntKind.i64.wrap (r.safe - n) = r.safe - n := by rw [IntKind.wrap_i64]; omega
      have z0 : 0 ≤ n := by omega
      have z1 : n ≤ (r.b.size : Int) := by omega
      clear hx hd1 hd2 hd3
      cases m with
      | true =>
        rw [if_pos rfl]
        have SB := As.mk (And.intro sb1 sb2)
        clear sb1 sb2
        go_enter Try.func36, Try.ntmps36
        go_wp2_with fail
        refine S.out.mono ?_
        rintro e w1 ⟨rfl, h1, h2⟩
        have k0 : w1.cell? ⟨g, 0, none⟩ = some (.string r.b) := by rw [← SB.out.1]; exact h1.cell 0
        have k1 : w1.cell? ⟨g, 1, none⟩ = some (.int .i64 r.safe) := by rw [← SB.out.2]; exact h1.cell 1
        have f4 := h1.free
        have H1 := As.mk h1
        have H2 := As.mk h2
        clear h1 h2
        go_wp2
        go_ret
        refine ⟨rfl, ?_, gr_own (gr_own H2.out _ _) _ _⟩
        rw [SB.out.1, SB.out.2]
        exact ((show Blk _ _ _ _ from H1.out).set 0 _).set 1 _
      | false =>
        rw [if_neg (by simp)]
        clear sb1 sb2
        go_enter Try.func36, Try.ntmps36
        go_wp2_with fail
        refine S.out.mono ?_
        rintro e w1 ⟨rfl, h1, h2⟩
        have H1 := As.mk h1
        have H2 := As.mk h2
        clear h1 h2
        go_wp2
        go_ret
        exact ⟨rfl, H1.out, H2.out⟩
set_option maxHeartbeats 1600000 in
theorem rcut_c {g : Nat} {r : RK} {w : World} (n : Int) (h : RkAt w g r) : Calls Try.prog 38 #[.pointer (some ⟨g, 0, none⟩), .int .i64 n] w fun e w' => e = .returned (.int .i64 (r.cut n).1) ∧ RkAt w' g (r.cut n).2 ∧ w.grownBy w' (some g) := by
  have H := As.mk h
  have c0 : w.cell? ⟨g, 0, none⟩ = some (.string r.b) := h.cell 0
  have c1 : w.cell? ⟨g, 1, none⟩ = some (.int .i64 r.safe) := h.cell 1
  have c4 : w.cell? ⟨g, 4, none⟩ = some (.bool r.down) := h.cell 4
  have f4 := h.free
  clear h
  unfold RK.cut
  obtain ⟨b, safe, size, fuse, down⟩ := r
  dsimp only at *
  cases down with
  | true =>
    rw [if_pos rfl]
    go_enter Try.func38, Try.ntmps38
    go_wp2
    go_ret
    exact ⟨rfl, H.out, gr_refl _ _⟩
  | false =>
    rw [if_neg (by simp)]
    by_cases hx : n < 0 ∨ (b.size : Int) < n
    · rw [if_pos hx]
      by_cases hx3 : n < 0
      · clear hx
        go_enter Try.func38, Try.ntmps38
        go_wp2
        go_ret
        exact ⟨rfl, H.out, gr_refl _ _⟩
      · have hx4 : (b.size : Int) < n := by omega
        clear hx
        go_enter Try.func38, Try.ntmps38
        go_wp2
        go_ret
        exact ⟨rfl, H.out, gr_refl _ _⟩
    · rw [if_neg hx]
      have hr : ¬ n < 0 := fun q => hx (.inl q)
      have hr2 : ¬ (b.size : Int) < n := fun q => hx (.inr q)
      have z0 : 0 ≤ n := by omega
      have z1 : n ≤ (b.size : Int) := by omega
      clear hx
      by_cases hc : n < safe
      · rw [if_pos hc]
        go_enter Try.func38, Try.ntmps38
        go_wp2
        go_ret
        exact ⟨rfl, ((show Blk _ _ _ _ from H.out).set 0 _).set 1 _, gr_own (gr_own (gr_refl _ _) _ _) _ _⟩
      · rw [if_neg hc]
        go_enter Try.func38, Try.ntmps38
        go_wp2
        go_ret
        exact ⟨rfl, (show Blk _ _ _ _ from H.out).set 0 _, gr_own (gr_refl _ _) _ _⟩
theorem rset_c {g : Nat} {r : RK} {w : World} (n : Int) (h : RkAt w g r) : Calls Try.prog 39 #[.pointer (some ⟨g, 0, none⟩), .int .i64 n] w fun e w' => e = .returned (.tuple #[]) ∧ RkAt w' g (r.set n) ∧ w.grownBy w' (some g) := by
  have H := As.mk h
  have c3 : w.cell? ⟨g, 3, none⟩ = some (.int .i64 r.fuse) := h.cell 3
  have f4 := h.free
  clear h
  unfold RK.set
  by_cases hn : n < 0
  · rw [if_pos hn]
    go_enter Try.func39, Try.ntmps39
    go_wp2
    go_end0
    exact ⟨rfl, ((show Blk _ _ _ _ from H.out).set 3 _).set 3 _, gr_own (gr_own (gr_refl _ _) _ _) _ _⟩
  · rw [if_neg hn]
    go_enter Try.func39, Try.ntmps39
    go_wp2
    go_end0
    exact ⟨rfl, (show Blk _ _ _ _ from H.out).set 3 _, gr_own (gr_refl _ _) _ _⟩
set_option maxHeartbeats 3200000 in
theorem rcrash_c {g : Nat} {r : RK} {w : World} (k : Int) (hr : r.ok) (h : RkAt w g r) : Calls Try.prog 40 #[.pointer (some ⟨g, 0, none⟩), .int .i64 k] w fun e w' => e = .returned (.tuple #[]) ∧ RkAt w' g (r.crash k) ∧ w.grownBy w' (some g) := by
  obtain ⟨hf, hd1, hd2, hd3, -, -⟩ := hr
  have H := As.mk h
  have HQ := As.mk (show r.keep k = r.safe + min (max k 0) ((r.b.size : Int) - r.safe) from rfl)
  have c0 : w.cell? ⟨g, 0, none⟩ = some (.string r.b) := h.cell 0
  have c1 : w.cell? ⟨g, 1, none⟩ = some (.int .i64 r.safe) := h.cell 1
  have c3 : w.cell? ⟨g, 3, none⟩ = some (.int .i64 r.fuse) := h.cell 3
  have c4 : w.cell? ⟨g, 4, none⟩ = some (.bool r.down) := h.cell 4
  have f4 := h.free
  clear h hf
  unfold RK.crash
  obtain ⟨b, safe, size, fuse, down⟩ := r
  dsimp only at *
  generalize RK.keep _ k = q at *
  go_enter Try.func40, Try.ntmps40
  go_wp2
  go_quiet (fail)
  go_wp2_with fail
  go_loopw [4, 5] (fun s i wr => ∃ j : Int, safe ≤ j ∧ j ≤ q ∧ s = .string (b.extract 0 j.toNat) ∧ i = .int .i64 j ∧ ∃ n, wr = w.drewN n) (fun _ i _ => (q - intOf i).toNat)
  case atStart => exact ⟨safe, Int.le_refl _, by have := HQ.out; omega, rfl, rfl, _, rfl⟩
  case round =>
    obtain ⟨j, hj1, hj2, rfl, rfl, nd, rfl⟩ := hrel
    have hq := HQ.out
    have e1 : IntKind.i64.wrap (j - safe) = j - safe := by rw [IntKind.wrap_i64]; omega
    have e2 : IntKind.i64.wrap (j + 1) = j + 1 := by rw [IntKind.wrap_i64]; omega
    by_cases hlt : j < (b.size : Int)
    · by_cases hk : j - safe < k
      · have z0 : 0 ≤ j + 1 := by omega
        have z1 : j + 1 ≤ (b.size : Int) := by omega
        have z2 : j + 1 ≤ q := by omega
        have Z2 := As.mk z2
        have Z3 := As.mk hj1
        clear hq z2 hd1 hd2 hd3 hj1 hj2
        go_wp2_with fail
        go_roundw
        case measure => simp [intOf]; have := Z2.out; omega
        case rel => exact ⟨j + 1, by have := Z3.out; omega, Z2.out, rfl, rfl, _, rfl⟩
      · have hj : j = q := by omega
        subst hj
        have Z := As.mk (show ((min j.toNat b.size : Nat) : Int) = j by omega)
        clear hq hd1 hd2 hd3 hj1 hj2
        go_wp2
        go_end0
        rw [Z.out]
        exact ⟨rfl, (((((show Blk _ _ _ _ from H.out).drewN nd).set 0 _).set 1 _).set 3 _).set 4 _, gr_own (gr_own (gr_own (gr_own (gr_drewN (gr_refl _ _) _) _ _) _ _) _ _) _ _⟩
    · have hj : j = q := by omega
      subst hj
      have Z := As.mk (show ((min j.toNat b.size : Nat) : Int) = j by omega)
      clear hq hd1 hd2 hd3 hj1 hj2
      go_wp2
      go_end0
      rw [Z.out]
      exact ⟨rfl, (((((show Blk _ _ _ _ from H.out).drewN nd).set 0 _).set 1 _).set 3 _).set 4 _, gr_own (gr_own (gr_own (gr_own (gr_drewN (gr_refl _ _) _) _ _) _ _) _ _) _ _⟩
end Go.Proofs.Ytmehohpboliibaa
