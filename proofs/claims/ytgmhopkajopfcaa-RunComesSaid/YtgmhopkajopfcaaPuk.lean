/- Plain: what a right operation is; operations in a block. (Cut out of Pu and Pul for seats without lines.) -/
import Derived.Test.YtgmhopkajopfcaaPq
namespace Go.Proofs.Ytgmhopkajopfcaa
open Go.RowKit
set_option linter.unusedVariables false

theorem opRight_k' {x : POp} (h : opRight x = true) : inR x.k 1 12 = true := by
  unfold opRight at h
  simp only [Bool.and_eq_true] at h
  exact h.1
theorem pRight_all {l : List POp} (h : pRight l = true) : l.length ≤ 32 ∧ (∀ x ∈ l, opRight x = true) ∧ pairsOk l = true := by
  unfold pRight at h
  simp only [Bool.and_eq_true, decide_eq_true_eq, Bool.not_eq_true', List.any_eq_false] at h
  exact ⟨h.1, fun x hx => by have := h.2.1 x hx; simpa using this, h.2.2⟩
theorem kind_nat {x : POp} (h : opRight x = true) : ∃ i : Nat, i < 12 ∧ x.k = (i : Int) + 1 := by
  have := inR_true (opRight_k' h)
  exact ⟨(x.k - 1).toNat, by omega, by omega⟩
theorem opRight_plain {x : POp} (h : opRight x = true) : x = plainOp x := by
  unfold opRight at h
  simp only [Bool.and_eq_true] at h
  exact (eqOp_iff _ _).1 h.2.1
theorem ops_block {w : World} {g : Nat} {t : TypeId} {xs : List POp} (h : Blk w g t (opsCells xs).toArray) (hm : xs.length ≤ 1000) : Arr OpE 5 w (.slice (some ⟨g, 0, none⟩) xs.length xs.length) xs :=
  Arr.block h (Nat.le_refl _) (by omega) (fun j x hx => ⟨_, rfl, rfl, fun i u hu => by simpa using opsCells_at xs j x hx i u hu⟩)
end Go.Proofs.Ytgmhopkajopfcaa
