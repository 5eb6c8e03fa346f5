/- The walk of prog's Right. -/
import Derived.Test.YtgmhopkajopfcaaPp
import Derived.Test.YtgmhopkajopfcaaPrc
namespace Go.Proofs.Ytgmhopkajopfcaa
open Go.RowKit
set_option linter.unusedVariables false

def pRight (l : List POp) : Bool := decide (l.length ≤ 32) && (!l.any (fun x => !opRight x) && pairsOk l)
set_option maxRecDepth 100000 in
set_option maxHeartbeats 3200000 in
theorem pRight_c (v : Value) (l : List POp) (w : World) (h : Arr OpE 5 w v l) (r : Bool) (hr : pRight l = r) :
    Calls Try.prog 23 #[v] w fun e w' => e = .returned (.bool r) ∧ w.grownBy w' none := by
  obtain ⟨A, c, rfl⟩ := h.len
  have H := As.mk h
  clear h
  unfold pRight at hr
  by_cases h32 : l.length ≤ 32
  · have h32I : ¬ (32 : Int) < (l.length : Int) := by omega
    rw [decide_eq_true h32, Bool.true_and] at hr
    cases ha : l.any (fun x => !opRight x)
    · rw [ha, Bool.not_false, Bool.true_and] at hr
      go_enter Try.func23, Try.ntmps23
      go_wp2_with fail
      refine (conOp_c _ _ l H.out _ ha).mono ?_
      rintro e w1 ⟨rfl, g1⟩
      have G1 := As.mk g1
      clear g1
      go_wp2_with fail
      refine (pairs_c _ l _ (H.out.below G1.out (fun _ _ => OpE.any _ _)) (by omega)).mono ?_
      rintro e w2 ⟨hp, g2⟩
      have G2 := As.mk (gr_then G1.out g2 (.inl rfl))
      clear g2
      unfold pairsOk at hr
      rcases hp with ⟨hn, rfl⟩ | ⟨s, b, hs, rfl, -⟩
      · rw [hn] at hr
        obtain rfl : false = r := hr
        go_wp2_with fail
        go_ret
        exact ⟨rfl, G2.out⟩
      · rw [hs] at hr
        obtain rfl : s.st.isEmpty = r := hr
        go_wp2_with fail
        go_ret
        exact ⟨rfl, G2.out⟩
    · rw [ha] at hr
      obtain rfl : false = r := hr
      go_enter Try.func23, Try.ntmps23
      go_wp2_with fail
      refine (conOp_c _ _ l H.out _ ha).mono ?_
      rintro e w1 ⟨rfl, g1⟩
      have G1 := As.mk g1
      clear g1
      go_wp2_with fail
      go_ret
      exact ⟨rfl, G1.out⟩
  · have h32I : (32 : Int) < (l.length : Int) := by omega
    rw [decide_eq_false h32] at hr
    obtain rfl : false = r := hr
    go_enter Try.func23, Try.ntmps23
    go_wp2_with fail
    go_ret
    exact ⟨rfl, gr_refl _ _⟩
end Go.Proofs.Ytgmhopkajopfcaa
