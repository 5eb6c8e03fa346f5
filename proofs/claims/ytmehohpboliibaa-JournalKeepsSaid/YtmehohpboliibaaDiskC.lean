/- The walks of disk: what changes it. -/
import Derived.Test.YtmehohpboliibaaDiskB
namespace Go.Proofs.Ytmehohpboliibaa
open Go.RowKit
set_option linter.unusedVariables false

theorem gr_own {w w' : World} {g : Nat} (h : w.grownBy w' (some g)) (i : Nat) (u : Value) : w.grownBy (w'.setCell ⟨g, i, none⟩ u) (some g) := gr_set h (a := ⟨g, i, none⟩) (.inl rfl) u

def DK.set (d : DK) (n : Int) : DK := { d with on := decide (0 ≤ n), left := max n 0 }
def DK.step (d : DK) : Int × DK := if d.down = true then (7, d) else if (d.spend 1).1 < 1 then (7, (d.spend 1).2) else (0, (d.spend 1).2)
def DK.sync (d : DK) : Int × DK := if d.step.1 = 0 then (0, { d.step.2 with safe := (d.step.2.b.size : Int) }) else (d.step.1, d.step.2)
def DK.keep (d : DK) (k : Int) : Int := d.safe + min (max k 0) ((d.b.size : Int) - d.safe)
def DK.crash (d : DK) (k : Int) : DK := { d with on := false, down := false, left := 0, b := d.b.extract 0 (d.keep k).toNat, safe := d.keep k }
def DK.ok (d : DK) : Prop := (d.on = true → 0 ≤ d.left) ∧ 0 ≤ d.safe ∧ d.safe ≤ d.b.size ∧ d.b.size ≤ 140737488351232

theorem new_c (n : Int) (w : World) (h0 : 0 ≤ n) (h1 : n ≤ 65536) : Calls Try.prog 20 #[.int .i64 n] w fun e w' => e = .returned (.tuple #[.pointer (some ⟨w.heap.size, 0, none⟩), .int .i64 0]) ∧ DkAt w' w.heap.size ⟨false, false, 0, ⟨#[]⟩, 0, n⟩ ∧ w.grownBy w' none := by
  go_enter Try.func20, Try.ntmps20
  go_wp2
  go_ret2
  exact ⟨rfl, Blk.new _ _ _, gr_alloc (gr_refl _ _) _⟩

theorem set_c {g : Nat} {d : DK} {w : World} (n : Int) (hn : (Lit.int .i64 n).wf = true) (h : DkAt w g d) : Calls Try.prog 56 #[.pointer (some ⟨g, 0, none⟩), .int .i64 n] w fun e w' => e = .returned (.tuple #[]) ∧ DkAt w' g (d.set n) ∧ w.grownBy w' (some g) := by
  have c0 : w.cell? ⟨g, 0, none⟩ = some (.bool d.on) := h.cell 0
  have c2 : w.cell? ⟨g, 2, none⟩ = some (.int .i64 d.left) := h.cell 2
  have f0 := h.free
  have H := As.mk h
  clear h
  go_enter Try.func56, Try.ntmps56
  go_wp2
  go_end0
  refine ⟨rfl, ?_, gr_own (gr_own (gr_refl _ _) 0 _) 2 _⟩
  unfold DK.set DkAt
  dsimp only
  generalize decide (0 ≤ n) = x
  generalize max n 0 = y
  have q := H.out
  unfold DkAt at q
  have q1 := (q.set 0 (.bool x)).set 2 (.int .i64 y)
  clear q H
  simp only [List.setIfInBounds_toArray, List.set_cons_zero, List.set_cons_succ] at q1
  exact q1
theorem fuse_c {g : Nat} {d : DK} {w : World} (n : Int) (hn : (Lit.int .i64 n).wf = true) (h : DkAt w g d) : Calls Try.prog 23 #[.pointer (some ⟨g, 0, none⟩), .int .i64 n] w fun e w' => e = .returned (.tuple #[]) ∧ DkAt w' g (d.set n) ∧ w.grownBy w' (some g) := by
  have S := As.mk (set_c n hn h)
  clear h
  go_enter Try.func23, Try.ntmps23
  go_wp2_with fail
  refine S.out.mono ?_
  rintro e w1 ⟨rfl, h1, h2⟩
  have H1 := As.mk h1
  have H2 := As.mk h2
  clear h1 h2
  go_wp2
  go_end0
  exact ⟨rfl, H1.out, H2.out⟩
theorem step_c {g : Nat} {d : DK} {w : World} (h : DkAt w g d) : Calls Try.prog 55 #[.pointer (some ⟨g, 0, none⟩)] w fun e w' => e = .returned (.int .i64 d.step.1) ∧ DkAt w' g d.step.2 ∧ w.grownBy w' (some g) := by
  have D := As.mk (fun w (h : DkAt w g d) => down_c h)
  have H := As.mk h
  clear h
  unfold DK.step
  cases hd : d.down with
  | true =>
    go_enter Try.func55, Try.ntmps55
    go_wp2_with fail
    refine (D.out _ H.out).mono ?_
    rintro e w1 ⟨rfl, rfl⟩
    rw [hd]
    go_wp2
    go_ret
    exact ⟨rfl, H.out, gr_refl _ _⟩
  | false =>
    rw [if_neg (by simp)]
    rcases hs : d.spend 1 with ⟨m, d1⟩
    have S := As.mk (fun w (h : DkAt w g d) => spend_c hs h)
    by_cases hm : m < 1
    · go_enter Try.func55, Try.ntmps55
      go_wp2_with fail
      refine (D.out _ H.out).mono ?_
      rintro e w1 ⟨rfl, rfl⟩
      rw [hd]
      go_wp2_with fail
      refine (S.out _ H.out).mono ?_
      rintro e w1 ⟨rfl, h1, h2⟩
      have H1 := As.mk h1
      have H2 := As.mk h2
      clear h1 h2
      go_wp2
      go_ret
      exact ⟨rfl, H1.out, H2.out⟩
    · go_enter Try.func55, Try.ntmps55
      go_wp2_with fail
      refine (D.out _ H.out).mono ?_
      rintro e w1 ⟨rfl, rfl⟩
      rw [hd]
      go_wp2_with fail
      refine (S.out _ H.out).mono ?_
      rintro e w1 ⟨rfl, h1, h2⟩
      have H1 := As.mk h1
      have H2 := As.mk h2
      clear h1 h2
      go_wp2
      go_ret
      exact ⟨rfl, H1.out, H2.out⟩
theorem sync_c {g : Nat} {d : DK} {w : World} (h : DkAt w g d) : Calls Try.prog 22 #[.pointer (some ⟨g, 0, none⟩)] w fun e w' => e = .returned (.int .i64 d.sync.1) ∧ DkAt w' g d.sync.2 ∧ w.grownBy w' (some g) := by
  have S := As.mk (step_c h)
  clear h
  unfold DK.sync
  rcases hs : d.step with ⟨m, d1⟩
  rw [hs] at S
  by_cases hm : m = 0
  · subst hm
    go_enter Try.func22, Try.ntmps22
    go_wp2_with fail
    refine S.out.mono ?_
    rintro e w1 ⟨rfl, h1, h2⟩
    have c3 : w1.cell? ⟨g, 3, none⟩ = some (.string d1.b) := h1.cell 3
    have c4 : w1.cell? ⟨g, 4, none⟩ = some (.int .i64 d1.safe) := h1.cell 4
    have f4 := h1.free 4
    have H1 := As.mk h1
    have H2 := As.mk h2
    clear h1 h2
    go_wp2
    go_ret
    exact ⟨rfl, H1.out.set 4 _, gr_set H2.out (.inl rfl) _⟩
  · go_enter Try.func22, Try.ntmps22
    go_wp2_with fail
    refine S.out.mono ?_
    rintro e w1 ⟨rfl, h1, h2⟩
    have H1 := As.mk h1
    have H2 := As.mk h2
    clear h1 h2
    go_wp2
    go_ret
    exact ⟨rfl, H1.out, H2.out⟩
end Go.Proofs.Ytmehohpboliibaa
