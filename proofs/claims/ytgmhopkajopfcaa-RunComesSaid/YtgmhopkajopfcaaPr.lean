/- The walks of prog's in, plain, right, and of slices.ContainsFunc over them. -/
import Derived.Test.YtgmhopkajopfcaaPo
import Derived.RegionTactic
import Derived.BigRegion
namespace Go.Proofs.Ytgmhopkajopfcaa
open Go.RowKit
set_option linter.unusedVariables false

def inR (n lo hi : Int) : Bool := decide (lo ≤ n) && decide (n ≤ hi)
theorem inR_true {n lo hi : Int} (h : inR n lo hi = true) : lo ≤ n ∧ n ≤ hi := by simpa [inR] using h
set_option maxRecDepth 100000 in
theorem pin_c (w : World) (n lo hi : Int) (r : Bool) (h : inR n lo hi = r) : Calls Try.prog 52 #[.int .i64 n, .int .i64 lo, .int .i64 hi] w fun e w' => e = .returned (.bool r) ∧ w' = w := by
  subst h
  unfold inR
  by_cases h1 : lo ≤ n
  · by_cases h2 : n ≤ hi
    · go_enter Try.func52, Try.ntmps52
      go_wp2
      go_ret
      exact ⟨by simp [h1, h2], rfl⟩
    · go_enter Try.func52, Try.ntmps52
      go_wp2
      go_ret
      exact ⟨by simp [h2], rfl⟩
  · go_enter Try.func52, Try.ntmps52
    go_wp2
    go_ret
    exact ⟨by simp; omega, rfl⟩
/-- An operation without the fields that its kind doesn't have. -/
def plainOp (x : POp) : POp :=
  if x.k = 1 ∨ x.k = 2 then ⟨x.k, x.c, x.r, 0, 0⟩ else if x.k = 3 then ⟨x.k, 0, x.r, 0, x.n⟩ else if x.k = 4 ∨ x.k = 5 then ⟨x.k, 0, x.r, x.o, 0⟩ else if x.k = 6 then ⟨x.k, 0, x.r, 0, 0⟩ else if x.k = 9 then ⟨x.k, x.c, 0, 0, 0⟩ else ⟨x.k, 0, 0, 0, 0⟩
set_option maxRecDepth 100000 in
set_option maxHeartbeats 6400000 in
theorem plain_c (x : POp) (w : World) : Calls Try.prog 53 #[opV x] w fun e w' => e = .returned (opV (plainOp x)) ∧ w.grownBy w' none := by
  obtain ⟨k, c, r, o, n⟩ := x
  show Calls Try.prog 53 #[.agg #[.int .i64 k, .int .i64 c, .int .i64 r, .int .i64 o, .int .i64 n]] w _
  by_cases h1 : k = 1
  · subst h1
    go_enter Try.func53, Try.ntmps53
    go_wp2
    go_region
    all_goals (go_wp2)
    exact bodyPost_ret (results_cell_row (P := Try.prog) rfl _ _ (w.heap.size + 1) 57 _ (0, 0) _ rfl (Blk.drew (Blk.alloc (Blk.new2 w _ 57 _) _)) Try.underlying57 rfl (by kernel_rfl)) rfl ⟨rfl, gr_drew (gr_alloc (gr_alloc (gr_alloc (gr_refl w none) _) _) _)⟩
  · have b1 : (k == 1) = false := by rw [beq_eq_false_iff_ne]; exact h1
    by_cases h2 : k = 2
    · subst h2
      go_enter Try.func53, Try.ntmps53
      go_wp2
      go_region
      all_goals (go_wp2)
      exact bodyPost_ret (results_cell_row (P := Try.prog) rfl _ _ (w.heap.size + 1) 57 _ (0, 0) _ rfl (Blk.drew (Blk.alloc (Blk.new2 w _ 57 _) _)) Try.underlying57 rfl (by kernel_rfl)) rfl ⟨rfl, gr_drew (gr_alloc (gr_alloc (gr_alloc (gr_refl w none) _) _) _)⟩
    · have b2 : (k == 2) = false := by rw [beq_eq_false_iff_ne]; exact h2
      by_cases h3 : k = 3
      · subst h3
        go_enter Try.func53, Try.ntmps53
        go_wp2
        go_region
        all_goals (go_wp2)
        exact bodyPost_ret (results_cell_row (P := Try.prog) rfl _ _ (w.heap.size + 1) 57 _ (0, 0) _ rfl (Blk.drew (Blk.alloc (Blk.new2 w _ 57 _) _)) Try.underlying57 rfl (by kernel_rfl)) rfl ⟨rfl, gr_drew (gr_alloc (gr_alloc (gr_alloc (gr_refl w none) _) _) _)⟩
      · have b3 : (k == 3) = false := by rw [beq_eq_false_iff_ne]; exact h3
        by_cases h4 : k = 4
        · subst h4
          go_enter Try.func53, Try.ntmps53
          go_wp2
          go_region
          all_goals (go_wp2)
          exact bodyPost_ret (results_cell_row (P := Try.prog) rfl _ _ (w.heap.size + 1) 57 _ (0, 0) _ rfl (Blk.drew (Blk.alloc (Blk.new2 w _ 57 _) _)) Try.underlying57 rfl (by kernel_rfl)) rfl ⟨rfl, gr_drew (gr_alloc (gr_alloc (gr_alloc (gr_refl w none) _) _) _)⟩
        · have b4 : (k == 4) = false := by rw [beq_eq_false_iff_ne]; exact h4
          by_cases h5 : k = 5
          · subst h5
            go_enter Try.func53, Try.ntmps53
            go_wp2
            go_region
            all_goals (go_wp2)
            exact bodyPost_ret (results_cell_row (P := Try.prog) rfl _ _ (w.heap.size + 1) 57 _ (0, 0) _ rfl (Blk.drew (Blk.alloc (Blk.new2 w _ 57 _) _)) Try.underlying57 rfl (by kernel_rfl)) rfl ⟨rfl, gr_drew (gr_alloc (gr_alloc (gr_alloc (gr_refl w none) _) _) _)⟩
          · have b5 : (k == 5) = false := by rw [beq_eq_false_iff_ne]; exact h5
            by_cases h6 : k = 6
            · subst h6
              go_enter Try.func53, Try.ntmps53
              go_wp2
              exact bodyPost_ret (results_cell_row (P := Try.prog) rfl _ _ (w.heap.size + 1) 57 _ (0, 0) _ rfl (Blk.alloc (Blk.new2 w _ 57 _) _) Try.underlying57 rfl (by kernel_rfl)) rfl ⟨rfl, gr_alloc (gr_alloc (gr_alloc (gr_refl w none) _) _) _⟩
            · have b6 : (k == 6) = false := by rw [beq_eq_false_iff_ne]; exact h6
              by_cases h9 : k = 9
              · subst h9
                go_enter Try.func53, Try.ntmps53
                go_wp2
                exact bodyPost_ret (results_cell_row (P := Try.prog) rfl _ _ (w.heap.size + 1) 57 _ (0, 0) _ rfl (Blk.alloc (Blk.new2 w _ 57 _) _) Try.underlying57 rfl (by kernel_rfl)) rfl ⟨rfl, gr_alloc (gr_alloc (gr_alloc (gr_refl w none) _) _) _⟩
              · have b9 : (k == 9) = false := by rw [beq_eq_false_iff_ne]; exact h9
                go_enter Try.func53, Try.ntmps53
                go_wp2
                rw [show plainOp ⟨k, c, r, o, n⟩ = ⟨k, 0, 0, 0, 0⟩ by unfold plainOp; rw [if_neg (by dsimp only; omega), if_neg h3, if_neg (by dsimp only; omega), if_neg h6, if_neg h9]]
                exact bodyPost_ret (results_cell_row (P := Try.prog) rfl _ _ (w.heap.size + 1) 57 _ (0, 0) _ rfl (Blk.alloc (Blk.new2 w _ 57 _) _) Try.underlying57 rfl (by kernel_rfl)) rfl ⟨rfl, gr_alloc (gr_alloc (gr_alloc (gr_refl w none) _) _) _⟩
theorem plain_c' (x p : POp) (hp : plainOp x = p) (w : World) : Calls Try.prog 53 #[.agg #[.int .i64 x.k, .int .i64 x.c, .int .i64 x.r, .int .i64 x.o, .int .i64 x.n]] w fun e w' => e = .returned (.agg #[.int .i64 p.k, .int .i64 p.c, .int .i64 p.r, .int .i64 p.o, .int .i64 p.n]) ∧ w.grownBy w' none := by
  subst hp
  exact plain_c x w
def opRight (x : POp) : Bool := inR x.k 1 12 && (eqOp x (plainOp x) && (inR x.c 0 15 && (inR x.r 0 7 && inR x.o 0 7)))
theorem plainOp_k (x : POp) : (plainOp x).k = x.k := by
  unfold plainOp
  repeat' (first | rfl | split)
end Go.Proofs.Ytgmhopkajopfcaa
