/- Rows of elements of several cells. -/
import Derived.Test.YtgmhopkajopfcaaOw
namespace Go.Proofs.Ytgmhopkajopfcaa
open Go.RowKit
set_option linter.unusedVariables false

theorem own_cap {w : World} {base : Nat} {e : TypeId} {size n g cap : Nat} {xs : List Value} (h : w.ownsRow base e size (.slice (some ⟨g, 0, none⟩) n cap) n xs) : base ≤ g ∧ n ≤ cap ∧ cap ≤ 9223372036854775807 := by
  rcases h.2 with ⟨hv, _⟩ | ⟨g', cap', cur, hv, hb, hg, h1, h2, h3, h4⟩
  · cases hv
  · injection hv with hv1 _ hv3
    injection hv1 with hv1
    injection hv1 with hv1
    subst hv1 hv3
    exact ⟨hb, h1, by simp only [maxLen] at h2; omega⟩
theorem flat_dropN {α : Type} (f : α → List Value) (s : Nat) (hf : ∀ x, (f x).length = s) (l : List α) (k : Nat) : (l.flatMap f).drop (k * s) = (l.drop k).flatMap f := by
  induction l generalizing k with
  | nil => simp
  | cons x l ih =>
    cases k with
    | zero => simp
    | succ k =>
      rw [List.flatMap_cons, List.drop_succ_cons, Nat.succ_mul, Nat.add_comm, List.drop_append, hf x, List.drop_eq_nil_of_le (by rw [hf x]; omega), List.nil_append, show s + k * s - s = k * s by omega, ih]
theorem flat_atN {α : Type} (f : α → List Value) (s : Nat) (hf : ∀ x, (f x).length = s) (l : List α) (j : Nat) (x : α) (hx : l[j]? = some x) : ∀ i u, (f x)[i]? = some u → (l.flatMap f)[j * s + i]? = some u := by
  intro i u hu
  have hj := (List.getElem?_eq_some_iff.1 hx).1
  have hi : i < s := by have := (List.getElem?_eq_some_iff.1 hu).1; rwa [hf x] at this
  have h1 : ((l.flatMap f).drop (j * s))[i]? = some u := by
    rw [flat_dropN f s hf, List.drop_eq_getElem_cons hj, List.flatMap_cons, List.getElem?_append_left (by rw [hf]; exact hi)]
    have : l[j] = x := (List.getElem?_eq_some_iff.1 hx).2
    rw [this]; exact hu
  rwa [List.getElem?_drop] at h1
theorem flat_lenN {α : Type} (f : α → List Value) (s : Nat) (hf : ∀ x, (f x).length = s) (l : List α) : (l.flatMap f).length = l.length * s := by
  induction l with
  | nil => simp
  | cons x l ih => rw [List.flatMap_cons, List.length_append, ih, hf x, List.length_cons, Nat.succ_mul, Nat.add_comm]
end Go.Proofs.Ytgmhopkajopfcaa
