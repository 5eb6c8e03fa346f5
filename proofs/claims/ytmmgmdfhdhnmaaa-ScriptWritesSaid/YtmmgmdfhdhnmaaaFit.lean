/- The walks of what may be told: in, fits, right, and the document's Right. -/
import Derived.Test.YtmmgmdfhdhnmaaaAwk
import Derived.Test.YtmmgmdfhdhnmaaaSm
import Derived.Test.YtmmgmdfhdhnmaaaWrb
namespace Go.Proofs.Ytmmgmdfhdhnmaaa
open Go.RowKit
set_option linter.unusedVariables false

def inR (n lo hi : Int) : Bool := decide (lo ≤ n) && decide (n ≤ hi)
theorem inR_true {n lo hi : Int} (h : inR n lo hi = true) : lo ≤ n ∧ n ≤ hi := by simpa [inR] using h
theorem inR_false {n lo hi : Int} (h : inR n lo hi = false) : ¬ (lo ≤ n ∧ n ≤ hi) := by
  intro ⟨a, b⟩
  simp [inR, a, b] at h
set_option maxRecDepth 100000 in
theorem in_c (w : World) (n lo hi : Int) (r : Bool) (hr : inR n lo hi = r) : Calls Try.prog 20 #[.int .i64 n, .int .i64 lo, .int .i64 hi] w fun e w' => e = .returned (.bool r) ∧ w' = w := by
  go_enter Try.func20, Try.ntmps20
  by_cases h0 : lo ≤ n
  · by_cases h1 : n ≤ hi
    · have : r = true := by rw [← hr]; simp [inR, h0, h1]
      subst this
      go_wp2; go_ret; exact ⟨rfl, rfl⟩
    · have : r = false := by rw [← hr]; simp [inR, h1]
      subst this
      go_wp2; go_ret; exact ⟨rfl, rfl⟩
  · have : r = false := by rw [← hr]; simp [inR, h0]
    subst this
    go_wp2; go_ret; exact ⟨rfl, rfl⟩
def opFits (x : POp) : Bool := inR x.k 0 255 && (inR x.r 0 255 && (inR x.o 0 255 && (inR x.c 0 255 && inR x.n (-128) 127)))
abbrev opV (x : POp) : Value := .agg #[.int .i64 x.k, .int .i64 x.c, .int .i64 x.r, .int .i64 x.o, .int .i64 x.n]
set_option maxRecDepth 100000 in
set_option maxHeartbeats 1600000 in
theorem fits_c (w : World) (x : POp) (r : Bool) (hr : opFits x = r) : Calls Try.prog 36 #[opV x] w fun e w' => e = .returned (.bool r) ∧ w.grownBy w' none := by
  have B := As.mk (Blk.new w 79 #[.int .i64 x.k, .int .i64 x.c, .int .i64 x.r, .int .i64 x.o, .int .i64 x.n])
  have G := As.mk (gr_alloc (gr_refl w none) (.cells #[.int .i64 x.k, .int .i64 x.c, .int .i64 x.r, .int .i64 x.o, .int .i64 x.n] 79))
  go_enter Try.func36, Try.ntmps36
  unfold opFits at hr
  cases h1 : inR x.k 0 255
  · rw [h1] at hr
    go_wp2_with (go_at_call 20; refine (in_c _ _ _ _ _ (by assumption)).mono ?_; rintro e w1 ⟨rfl, rfl⟩)
    go_ret; exact ⟨by rw [← hr]; rfl, G.out⟩
  cases h2 : inR x.r 0 255
  · rw [h1, h2] at hr
    go_wp2_with (go_at_call 20; refine (in_c _ _ _ _ _ (by assumption)).mono ?_; rintro e w1 ⟨rfl, rfl⟩)
    go_ret; exact ⟨by rw [← hr]; rfl, G.out⟩
  cases h3 : inR x.o 0 255
  · rw [h1, h2, h3] at hr
    go_wp2_with (go_at_call 20; refine (in_c _ _ _ _ _ (by assumption)).mono ?_; rintro e w1 ⟨rfl, rfl⟩)
    go_ret; exact ⟨by rw [← hr]; rfl, G.out⟩
  cases h4 : inR x.c 0 255
  · rw [h1, h2, h3, h4] at hr
    go_wp2_with (go_at_call 20; refine (in_c _ _ _ _ _ (by assumption)).mono ?_; rintro e w1 ⟨rfl, rfl⟩)
    go_ret; exact ⟨by rw [← hr]; rfl, G.out⟩
  cases h5 : inR x.n (-128) 127 <;>
  · rw [h1, h2, h3, h4, h5] at hr
    go_wp2_with (go_at_call 20; refine (in_c _ _ _ _ _ (by assumption)).mono ?_; rintro e w1 ⟨rfl, rfl⟩)
    go_ret; exact ⟨by rw [← hr]; rfl, G.out⟩
end Go.Proofs.Ytmmgmdfhdhnmaaa
