/- An argument []string, opened as Strs; the sizes of its texts. -/
import Derived.Test.YtmehohpboliibaaDiskE
import Derived.SliceStrings
import Derived.SizedLaws
import Derived.Carry
namespace Go.Proofs.Ytmehohpboliibaa
open Go.RowKit Go.ChangeShapes Go.WideShapes
set_option linter.unusedVariables false

theorem strs_of {W : World} {a : Addr} {len cap : Nat} {ss : List ByteArray} (hcell : ∀ i, i < ss.length → W.cell? (a.add i) = some (.string (ss.getD i ByteArray.empty))) (hz : ss.length = cap) (hl : len ≤ cap) : Strs W (.slice (some a) len cap) (ss.take len) := by
  by_cases h0 : len = 0
  · subst h0
    exact .inl ⟨by simp, _, _, rfl⟩
  · have c0 := hcell 0 (by omega)
    obtain ⟨b, o, sp⟩ := a
    have hs : sp = none := by simpa [Addr.add] using World.cell?_spot c0
    subst hs
    have hlen : (ss.take len).length = len := by rw [List.length_take]; omega
    have hlt := World.block_lt_of_cell? W _ c0
    refine .inr ⟨b, o, cap, by rw [hlen], by omega, by simpa [Addr.add] using hlt, fun j x hx => ?_⟩
    have hj : j < len := by
      have := (List.getElem?_eq_some_iff.1 hx).1
      omega
    have := hcell j (by omega)
    rw [List.getElem?_take_of_lt hj] at hx
    rw [List.getD_eq_getElem?_getD, hx] at this
    rw [show (⟨b, o + j, none⟩ : Addr) = (⟨b, o, none⟩ : Addr).add j from by unfold Addr.add; split <;> simp_all]
    exact this
theorem strs_mem {H : Type} {P : Program} {e : TypeId} : ∀ {xs : List ByteArray} {s : ByteArray}, s ∈ xs → s.data.toList.length ∈ DataW.weightsAll P e (strs (H := H) xs)
  | [], _, h => by cases h
  | x :: xs, s, h => by
    simp only [strs, List.map_cons, DataW.weightsAll]
    rcases List.mem_cons.1 h with rfl | h
    · exact List.mem_append.2 (.inl (by simp [DataW.weights]))
    · exact List.mem_append.2 (.inr (strs_mem h))
theorem strs_small {H : Type} {P : Program} {ts : List TypeId} {ds : List (DataW H)} (hsz : (DataW.weightsEach P ts ds).all (· ≤ reachBytes) = true) {j : Nat} {t e : TypeId} {xs ys : List ByteArray} (ht : ts[j]? = some t) (hd : ds[j]? = some (.slice (strs xs) (strs ys))) (hu : P.underlying t = some (.slice e)) : ∀ s ∈ xs, s.size ≤ 140737488351232 := by
  intro s hs
  have h1 := strs_mem (H := H) (P := P) (e := e) hs
  have := List.all_eq_true.1 hsz _ (DataW.weights_mem_each ht hd s.data.toList.length (by simp only [DataW.weights, hu]; exact List.mem_cons.2 (.inr (List.mem_append.2 (.inl h1)))))
  have h2 : s.data.toList.length ≤ reachBytes := by simpa using this
  rw [Array.length_toList] at h2
  exact h2
theorem strs_arg {H : Type} {enc : TypeId × Value → H} {P : Program} {W : World} {base : Nat} {held : Bool} {t e : TypeId} (ht : P.underlying t = some (.slice e)) (he : P.underlying e = some .string) (hc : P.cellsOf e = 1) {A : Option Addr} {l c : Nat} {d : DataW H} {p : List MemPlace}
    (h : DataW.Trod enc P W base (fun _ => true) held t (.slice A l c) d p) {ts : List TypeId} {ds : List (DataW H)} (hsz : (DataW.weightsEach P ts ds).all (· ≤ reachBytes) = true) {j : Nat} (hts : ts[j]? = some t) (hds : ds[j]? = some d) :
    ∃ xs, Strs W (.slice A l c) xs ∧ ∀ s ∈ xs, s.size ≤ 140737488351232 := by
  obtain ⟨n, hf⟩ := h
  rcases open_strings ht he hc hf with ⟨hcs, hx⟩ | ⟨a, len', cap', ss, hcs, _, hl, hm, hz, hx, hcell, hs2⟩
  · injection hcs with hcs
    injection hcs with e1 e2 e3
    subst e1; subst e2; subst e3
    exact ⟨[], .inl ⟨rfl, _, _, rfl⟩, by simp⟩
  · injection hcs with hcs
    injection hcs with e1 e2 e3
    subst e1; subst e2; subst e3
    injection hx with hx1 hx2
    subst hx1
    exact ⟨ss.take l, strs_of hcell (by simpa using hz) hl, strs_small hsz hts hds ht⟩
end Go.Proofs.Ytmehohpboliibaa
