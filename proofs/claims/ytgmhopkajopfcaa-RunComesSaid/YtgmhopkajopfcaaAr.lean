/- A slice that reads as a list. -/
import Derived.Test.YtgmhopkajopfcaaBase
namespace Go.Proofs.Ytgmhopkajopfcaa
open Go.RowKit
set_option linter.unusedVariables false

/-- A slice that reads as a list, each element's cells telling it. -/
def Arr {α : Type} (E : World → α → List Value → Prop) (sz : Nat) (w : World) (v : Value) (xs : List α) : Prop :=
  ∃ A c, v = .slice A xs.length c ∧ (xs.length ≤ 9223372036854775807 ∧ xs.length ≤ c) ∧ (0 < xs.length → ∃ ad : Addr, A = some ad ∧ ad.spot = none ∧ ∀ j x, xs[j]? = some x → ∃ cs, E w x cs ∧ cs.length = sz ∧ ∀ i u, cs[i]? = some u → w.cell? ⟨ad.block, ad.off + j * sz + i, none⟩ = some u)
theorem Arr.at_ {α : Type} {E : World → α → List Value → Prop} {sz : Nat} {w : World} {A : Option Addr} {n c : Nat} {xs : List α} (h : Arr E sz w (.slice A n c) xs) (j : Nat) (x : α) (hx : xs[j]? = some x) :
    ∃ b o cs, A = some ⟨b, o, none⟩ ∧ E w x cs ∧ cs.length = sz ∧ ∀ i u, cs[i]? = some u → w.cell? ⟨b, o + j * sz + i, none⟩ = some u := by
  obtain ⟨A', c', he, hm, h⟩ := h
  obtain ⟨rfl, rfl, rfl⟩ : A = A' ∧ n = xs.length ∧ c = c' := by injection he with h1 h2 h3; exact ⟨h1, h2, h3⟩
  have hj : j < xs.length := (List.getElem?_eq_some_iff.1 hx).1
  obtain ⟨⟨b, o, sp⟩, rfl, hs, hh⟩ := h (by omega)
  dsimp only at hs
  subst hs
  obtain ⟨cs, h1, h2, h3⟩ := hh j x hx
  exact ⟨b, o, cs, rfl, h1, h2, h3⟩
theorem Arr.len {α : Type} {E : World → α → List Value → Prop} {sz : Nat} {w : World} {v : Value} {xs : List α} (h : Arr E sz w v xs) : ∃ A c, v = .slice A xs.length c := let ⟨A, c, e, _⟩ := h; ⟨A, c, e⟩
theorem Arr.le {α : Type} {E : World → α → List Value → Prop} {sz : Nat} {w : World} {v : Value} {xs : List α} (h : Arr E sz w v xs) : xs.length ≤ 9223372036854775807 := let ⟨A, c, _, hm, _⟩ := h; hm.1
theorem Arr.cap {α : Type} {E : World → α → List Value → Prop} {sz : Nat} {w : World} {A : Option Addr} {n c : Nat} {xs : List α} (h : Arr E sz w (.slice A n c) xs) : xs.length ≤ c := by
  obtain ⟨A', c', he, hm, h⟩ := h
  injection he with h1 h2 h3
  rw [h3]; exact hm.2
/-- What reads does so behind a step that turns no cell that was there. -/
theorem Arr.below {α : Type} {E : World → α → List Value → Prop} {sz : Nat} {w w' : World} {v : Value} {xs : List α} (h : Arr E sz w v xs) (hg : w.grownBy w' none) (hE : ∀ x cs, E w x cs → E w' x cs) : Arr E sz w' v xs := by
  obtain ⟨A, c, e, hm, hh⟩ := h
  refine ⟨A, c, e, hm, fun h0 => ?_⟩
  obtain ⟨ad, h1, h2, h3⟩ := hh h0
  refine ⟨ad, h1, h2, fun j x hx => ?_⟩
  obtain ⟨cs, g1, g2, g3⟩ := h3 j x hx
  exact ⟨cs, hE _ _ g1, g2, fun i u hu => hg.cell (g3 i u hu) (by simp)⟩
/-- A fresh block that holds elements of one cell reads as their list. -/
theorem Arr.block {α : Type} {E : World → α → List Value → Prop} {sz : Nat} {w : World} {g : Nat} {t : TypeId} {cs : Array Value} {xs : List α} {c : Nat} (h : Blk w g t cs) (hc : xs.length ≤ c) (hm : xs.length ≤ 9223372036854775807)
    (hE : ∀ j x, xs[j]? = some x → ∃ ds, E w x ds ∧ ds.length = sz ∧ ∀ i u, ds[i]? = some u → cs[j * sz + i]? = some u) : Arr E sz w (.slice (some ⟨g, 0, none⟩) xs.length c) xs :=
  ⟨_, c, rfl, ⟨hm, hc⟩, fun _ => ⟨_, rfl, rfl, fun j x hx => by
    obtain ⟨ds, h1, h2, h3⟩ := hE j x hx
    refine ⟨ds, h1, h2, fun i u hu => ?_⟩
    rw [Nat.zero_add, h.cell]
    exact h3 i u hu⟩⟩
end Go.Proofs.Ytgmhopkajopfcaa
