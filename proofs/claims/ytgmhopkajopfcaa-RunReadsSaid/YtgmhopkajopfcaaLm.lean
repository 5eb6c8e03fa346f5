/- Rows of structs: sources, copies. -/
import Derived.Test.YtgmhopkajopfcaaAr
import Derived.Test.YtgmhopkajopfcaaNpa
import Derived.Test.YtgmhopkajopfcaaAp1
import Derived.Laws.CopyRow
import Derived.Laws.CopyOwn
import Derived.Lib.AppendZerosOnto
import Derived.Lib.Overlaps
import Derived.Lib.SliceRun
import Derived.Deep.Slices
import Derived.Deep.Strs
namespace Go.Proofs.Ytgmhopkajopfcaa
open Go.RowKit
set_option linter.unusedVariables false

/-- What Clone leaves. -/
def ClonePost (w : World) (t : TypeId) (s n : Nat) (xs : List Value) (e : Ending) (w' : World) : Prop := ∃ v, e = .returned v ∧ w'.ownsRow w.heap.size t s v n xs ∧ w.grownBy w' none
theorem SrcV.grown {w w' : World} {s : Nat} {v : Value} {n : Nat} {xs : List Value} (h : SrcV w s v n xs) (hg : w.grownBy w' none) : SrcV w' s v n xs := by
  rcases h with h | ⟨ad, c, h0, h1, h2, h3⟩
  · exact .inl h
  · exact .inr ⟨ad, c, h0, h1, fun j u hu => hg.cell (h2 j u hu) (by simp), h3⟩
theorem own_srcV {w : World} {base : Nat} {e : TypeId} {size n : Nat} {v : Value} {xs : List Value} (h : w.ownsRow base e size v n xs) (h1 : ∀ u ∈ xs, u.oneCell' = true) : SrcV w size v n xs := by
  rcases h.2 with ⟨rfl, rfl⟩ | ⟨g, cap, cur, rfl, _⟩
  · exact .inl ⟨rfl, rfl, by have := h.1; simpa using this⟩
  · exact .inr ⟨_, cap, rfl, h.1, fun j u hu => h.cells (g := g) rfl j u hu, h1⟩
/-- .. nil with whatever room, too. -/
def SrcA (w : World) (size : Nat) (x : Value) (m : Nat) (news : List Value) : Prop :=
  (∃ c, x = .slice none 0 c ∧ m = 0 ∧ news = []) ∨ ∃ ad c, x = .slice (some ad) m c ∧ news.length = m * size ∧ (∀ j u, news[j]? = some u → w.cell? (ad.add j) = some u) ∧ ∀ u ∈ news, u.oneCell' = true
theorem SrcV.srcA {w : World} {s : Nat} {v : Value} {n : Nat} {xs : List Value} (h : SrcV w s v n xs) : SrcA w s v n xs := by
  rcases h with ⟨h1, h2, h3⟩ | h
  · exact .inl ⟨0, h1, h2, h3⟩
  · exact .inr h
theorem SrcA.grown {w w' : World} {s : Nat} {v : Value} {n : Nat} {xs : List Value} (h : SrcA w s v n xs) (hg : w.grownBy w' none) : SrcA w' s v n xs := by
  rcases h with h | ⟨ad, c, h0, h1, h2, h3⟩
  · exact .inl h
  · exact .inr ⟨ad, c, h0, h1, fun j u hu => hg.cell (h2 j u hu) (by simp), h3⟩
/-- The cells of a slice that reads as a list. -/
theorem Arr.cellsOf {α : Type} {E : World → α → List Value → Prop} {sz : Nat} {w : World} {v : Value} {xs : List α} (h : Arr E sz w v xs) (hz : 0 < sz) (h1 : ∀ x cs, E w x cs → ∀ u ∈ cs, u.oneCell' = true) :
    ∃ css : List (List Value), css.length = xs.length ∧ (∀ (j : Nat) (x : α), xs[j]? = some x → ∃ cs, css[j]? = some cs ∧ E w x cs ∧ cs.length = sz) ∧ (∀ cs ∈ css, cs.length = sz) ∧ SrcA w sz v xs.length css.flatten := by
  obtain ⟨A, c, rfl, ⟨hm, hc⟩, hh⟩ := h
  by_cases h0 : 0 < xs.length
  · obtain ⟨ad, rfl, hs, hall⟩ := hh h0
    obtain ⟨b, o, sp⟩ := ad
    dsimp only at hs
    subst hs
    have hch : ∀ j, j < xs.length → ∃ cs : List Value, (∃ x, xs[j]? = some x ∧ E w x cs) ∧ cs.length = sz ∧ ∀ i u, cs[i]? = some u → w.cell? ⟨b, o + j * sz + i, none⟩ = some u := fun j hj => by
      obtain ⟨cs, q1, q2, q3⟩ := hall j xs[j] (List.getElem?_eq_getElem hj)
      exact ⟨cs, ⟨_, List.getElem?_eq_getElem hj, q1⟩, q2, q3⟩
    obtain ⟨X, hX⟩ := Go.Deep.choose_lt (α := List Value) (n := xs.length) hch
    refine ⟨(List.range xs.length).map X, by simp, fun j x hx => ?_, fun cs hcs => ?_, .inr ⟨_, c, rfl, ?_, fun j u hu => ?_, fun u hu => ?_⟩⟩
    · have hj : j < xs.length := (List.getElem?_eq_some_iff.1 hx).1
      obtain ⟨⟨y, hy, q1⟩, q2, _⟩ := hX j hj
      rw [hx] at hy
      cases hy
      exact ⟨X j, by simp [hj], q1, q2⟩
    · obtain ⟨j, hj, rfl⟩ := List.mem_map.1 hcs
      exact (hX j (List.mem_range.1 hj)).2.1
    · rw [List.length_flatten, List.map_map]
      have : (List.range xs.length).map (List.length ∘ X) = List.replicate xs.length sz := by
        apply List.ext_getElem
        · simp
        · intro i q1 q2
          simp at q1
          simp [(hX i q1).2.1]
      rw [this]; simp
    · have hfl : ∀ (m : Nat), m ≤ xs.length → ∀ j u, (((List.range m).map X).flatten)[j]? = some u → ∃ i k, i < m ∧ k < sz ∧ j = i * sz + k ∧ (X i)[k]? = some u := by
        intro m
        induction m with
        | zero => intro _ j u q; simp at q
        | succ m ih =>
          intro hm' j u q
          have hlen : ((List.range m).map X).flatten.length = m * sz := by
            rw [List.length_flatten, List.map_map]
            have : (List.range m).map (List.length ∘ X) = List.replicate m sz := by
              apply List.ext_getElem
              · simp
              · intro i q1 q2
                simp at q1
                simp [(hX i (by omega)).2.1]
            rw [this]; simp
          rw [List.range_succ, List.map_append, List.flatten_append] at q
          by_cases hj : j < m * sz
          · rw [List.getElem?_append_left (by omega)] at q
            obtain ⟨i, k, e1, e2, e3, e4⟩ := ih (by omega) j u q
            exact ⟨i, k, by omega, e2, e3, e4⟩
          · rw [List.getElem?_append_right (by omega), hlen] at q
            simp only [List.map_cons, List.map_nil, List.flatten_cons, List.flatten_nil, List.append_nil] at q
            have hk := (List.getElem?_eq_some_iff.1 q).1
            rw [(hX m (by omega)).2.1] at hk
            exact ⟨m, j - m * sz, by omega, hk, by omega, q⟩
      obtain ⟨i, k, e1, e2, e3, e4⟩ := hfl xs.length (Nat.le_refl _) j u hu
      have := (hX i e1).2.2 k u e4
      rw [e3]
      rw [← this]
      congr 1
      unfold Addr.add
      split <;> simp_all
      omega
    · obtain ⟨cs, hcs, hu2⟩ := List.mem_flatten.1 hu
      obtain ⟨j, hj, rfl⟩ := List.mem_map.1 hcs
      obtain ⟨⟨y, hy, q1⟩, _, _⟩ := hX j (List.mem_range.1 hj)
      exact h1 y _ q1 u hu2
  · obtain rfl : xs = [] := List.eq_nil_of_length_eq_zero (by omega)
    refine ⟨[], rfl, fun j x hx => absurd hx (by simp), fun cs hcs => absurd hcs (by simp), ?_⟩
    rcases A with _ | ad
    · exact .inl ⟨c, rfl, rfl, rfl⟩
    · exact .inr ⟨ad, c, rfl, by simp, fun j u hu => by simp at hu, fun u hu => by simp at hu⟩
end Go.Proofs.Ytgmhopkajopfcaa
