/- Plain: a sorted list without repeats is known by what it holds. -/
import Derived.Test.YtihibljjbdjeoaaDoorPo
import Derived.Lib.SlicesCompact
import Derived.Lib.RowBridge
namespace Go.Proofs.YtihibljjbdjeoaaDoor
open Go.RowKit
set_option linter.unusedVariables false

theorem ext_sorted : ∀ (l m : List Int), l.Pairwise (· < ·) → m.Pairwise (· < ·) → (∀ x, x ∈ l ↔ x ∈ m) → l = m
  | [], [], _, _, _ => rfl
  | [], y :: m, _, _, h => by have := (h y).2 (List.mem_cons_self ..); simp at this
  | x :: l, [], _, _, h => by have := (h x).1 (List.mem_cons_self ..); simp at this
  | x :: l, y :: m, hl, hm, h => by
    rw [List.pairwise_cons] at hl hm
    have hxy : x = y := by
      rcases List.mem_cons.1 ((h x).1 (List.mem_cons_self ..)) with e | e
      · exact e
      · rcases List.mem_cons.1 ((h y).2 (List.mem_cons_self ..)) with e' | e'
        · exact e'.symm
        · have a := hl.1 y e'
          have b := hm.1 x e
          omega
    subst hxy
    rw [ext_sorted l m hl.2 hm.2 (fun z => ⟨fun hz => by
      have a := hl.1 z hz
      rcases List.mem_cons.1 ((h z).1 (List.mem_cons_of_mem _ hz)) with e | e
      · omega
      · exact e, fun hz => by
      have a := hm.1 z hz
      rcases List.mem_cons.1 ((h z).2 (List.mem_cons_of_mem _ hz)) with e | e
      · omega
      · exact e⟩)]
theorem compact_upto (d : Array Int) (hd : ∀ i j, i ≤ j → j < d.size → d[i]! ≤ d[j]!) : ∀ m, m ≤ d.size →
    (Lib.compactUpTo d m).Pairwise (· < ·) ∧ (∀ x, x ∈ Lib.compactUpTo d m ↔ ∃ i, i < m ∧ d[i]! = x)
  | 0, _ => ⟨by simp [Lib.compactUpTo], by simp [Lib.compactUpTo]⟩
  | m + 1, h => by
    obtain ⟨h1, h2⟩ := compact_upto d hd m (by omega)
    rw [Lib.compactUpTo_succ]
    by_cases hk : Lib.keeps d m = true
    · rw [if_pos hk]
      refine ⟨?_, ?_⟩
      · rw [List.pairwise_append]
        refine ⟨h1, by simp, fun a ha b hb => ?_⟩
        rw [List.mem_singleton.1 hb]
        obtain ⟨i, hi, rfl⟩ := (h2 a).1 ha
        have hm0 : m ≠ 0 := by omega
        have hne : d[m]! ≠ d[m - 1]! := by
          unfold Lib.keeps at hk
          simpa [hm0] using hk
        have a1 := hd i (m - 1) (by omega) (by omega)
        have a2 := hd (m - 1) m (by omega) (by omega)
        omega
      · intro x
        rw [List.mem_append, h2]
        constructor
        · rintro (⟨i, hi, e⟩ | e)
          · exact ⟨i, by omega, e⟩
          · exact ⟨m, by omega, (List.mem_singleton.1 e).symm⟩
        · rintro ⟨i, hi, e⟩
          by_cases him : i = m
          · subst him; exact .inr (by rw [e]; simp)
          · exact .inl ⟨i, by omega, e⟩
    · rw [if_neg hk, List.append_nil]
      refine ⟨h1, fun x => ?_⟩
      rw [h2]
      unfold Lib.keeps at hk
      simp only [decide_eq_true_eq, not_or, ne_eq, Classical.not_not] at hk
      constructor
      · rintro ⟨i, hi, e⟩
        exact ⟨i, by omega, e⟩
      · rintro ⟨i, hi, e⟩
        by_cases him : i = m
        · subst him; exact ⟨i - 1, by omega, by rw [← hk.2]; exact e⟩
        · exact ⟨i, by omega, e⟩
def sortI (zs : List Int) : List Int := zs.mergeSort fun x y => decide (x ≤ y)
theorem compact_sort (zs : List Int) : (Lib.compact (sortI zs)).Pairwise (· < ·) ∧ ∀ x, x ∈ Lib.compact (sortI zs) ↔ x ∈ zs := by
  have hs : (sortI zs).Pairwise (fun a b => decide (a ≤ b) = true) := List.pairwise_mergeSort (fun a b c h1 h2 => by simp only [decide_eq_true_eq] at *; omega) (fun a b => by simp only [Bool.or_eq_true, decide_eq_true_eq]; omega) zs
  have hd : ∀ i j, i ≤ j → j < (sortI zs).toArray.size → (sortI zs).toArray[i]! ≤ (sortI zs).toArray[j]! := fun i j hij hj => by
    rw [List.size_toArray] at hj
    rw [List.getElem!_toArray, List.getElem!_toArray, getElem!_pos (sortI zs) i (by omega), getElem!_pos (sortI zs) j hj]
    rcases Nat.lt_or_ge i j with h | h
    · have := List.pairwise_iff_getElem.1 hs i j (by omega) hj h
      simpa using this
    · obtain rfl : i = j := by omega
      exact Int.le_refl _
  have := compact_upto (sortI zs).toArray hd (sortI zs).length (by simp)
  refine ⟨this.1, fun x => ?_⟩
  have h2 := this.2 x
  unfold Lib.compact
  rw [h2]
  rw [← (List.mergeSort_perm zs (fun x y => decide (x ≤ y))).mem_iff]
  show _ ↔ x ∈ sortI zs
  rw [List.mem_iff_getElem]
  constructor
  · rintro ⟨i, hi, e⟩
    exact ⟨i, hi, by rw [List.getElem!_toArray, getElem!_pos (sortI zs) i hi] at e; exact e⟩
  · rintro ⟨i, hi, e⟩
    exact ⟨i, hi, by rw [List.getElem!_toArray, getElem!_pos (sortI zs) i hi]; exact e⟩
/-- The cells that a program has to do with. -/
def cellK (k : Int) : Bool := k == 1 || (k == 2 || k == 9)
def cellsL (l : List POp) : List Int := (l.filter fun x => cellK x.k).map POp.c
theorem cellsL_snoc (l : List POp) (x : POp) : cellsL (l ++ [x]) = cellsL l ++ (if cellK x.k then [x.c] else []) := by
  unfold cellsL
  rw [List.filter_append, List.map_append]
  congr 1
  by_cases h : cellK x.k = true
  · simp [h]
  · simp [h]
def cellsC (l : List POp) : List Int := Lib.compact (sortI (cellsL l))
def hasCell (l : List POp) (c : Nat) : Bool := l.any fun x => cellK x.k && x.c == (c : Int)
def cellsD (l : List POp) (n : Nat) : List Int := ((List.range n).filter (hasCell l)).map (fun c : Nat => (c : Int))
theorem cellsD_succ (l : List POp) (n : Nat) : cellsD l (n + 1) = cellsD l n ++ (if hasCell l n then [(n : Int)] else []) := by
  unfold cellsD
  rw [List.range_succ, List.filter_append, List.map_append]
  congr 1
  by_cases h : hasCell l n = true
  · simp [h]
  · simp [h]
theorem cells_eq {l : List POp} (h : ∀ x ∈ l, 0 ≤ x.c ∧ x.c ≤ 15) : cellsC l = cellsD l 16 := by
  obtain ⟨h1, h2⟩ := compact_sort (cellsL l)
  refine ext_sorted _ _ h1 ?_ ?_
  · unfold cellsD
    rw [List.pairwise_map]
    refine List.Pairwise.filter _ ?_
    refine (List.pairwise_lt_range (n := 16)).imp ?_
    intro a b hab
    omega
  · intro x
    show x ∈ Lib.compact (sortI (cellsL l)) ↔ _
    rw [h2]
    unfold cellsL cellsD hasCell
    simp only [List.mem_map, List.mem_filter, List.mem_range, List.any_eq_true, Bool.and_eq_true, beq_iff_eq]
    constructor
    · rintro ⟨y, ⟨hy, hk⟩, rfl⟩
      have := h y hy
      exact ⟨y.c.toNat, ⟨by omega, y, hy, hk, by omega⟩, by omega⟩
    · rintro ⟨c, ⟨hc, y, hy, hk, e⟩, rfl⟩
      exact ⟨y, ⟨hy, hk⟩, e⟩
end Go.Proofs.YtihibljjbdjeoaaDoor
