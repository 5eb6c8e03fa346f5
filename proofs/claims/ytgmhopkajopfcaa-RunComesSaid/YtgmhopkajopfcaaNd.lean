/- The walk of the law's does; the law's example. -/
import Derived.Test.YtgmhopkajopfcaaNm
namespace Go.Proofs.Ytgmhopkajopfcaa
open Go.RowKit Go.Maps
set_option linter.unusedVariables false

structure PNo where
  k : Int
  c : Int
  v : Int
  a : Int
def PNo.ok (o : PNo) : Prop := K64 o.c ∧ K64 o.v ∧ K64 o.a ∧ K64 o.k
def doE (o : PNo) (rd : Rd) (lv : Lv) : Int := if o.k = 0 then sawE rd o.c o.v else if o.k = 1 then wriE rd o.c else if o.k = 2 then begE lv else if o.k = 3 then undE lv else if o.k = 4 then undE lv else 0
def doR (o : PNo) (rd : Rd) : Rd := if o.k = 0 then sawR rd o.c o.v o.a else rd
def doL (o : PNo) (rd : Rd) (lv : Lv) : Lv := if o.k = 1 then wriL rd lv o.c o.a else if o.k = 2 then begL lv else if o.k = 3 then undL lv else if o.k = 4 then merL lv else lv
structure NInv (K : Nat) (rd : Rd) (lv : Lv) : Prop where
  pos : 0 < lv.length
  five : lv.length ≤ 5
  reads : rd.1 ≤ K
  sum : (lv.map (·.1)).sum ≤ K
theorem NInv.mono {K K' : Nat} {rd : Rd} {lv : Lv} (h : NInv K rd lv) (hk : K ≤ K') : NInv K' rd lv := ⟨h.pos, h.five, Nat.le_trans h.reads hk, Nat.le_trans h.sum hk⟩
theorem sum_mem {l : List Nat} {x : Nat} (h : x ∈ l) : x ≤ l.sum := by
  induction l with
  | nil => simp at h
  | cons y l ih =>
    rcases List.mem_cons.1 h with rfl | h
    · simp
    · have := ih h; simp; omega
theorem NInv.mem {K : Nat} {rd : Rd} {lv : Lv} (h : NInv K rd lv) : ∀ p ∈ lv, p.1 ≤ K := fun p hp => Nat.le_trans (sum_mem (List.mem_map.2 ⟨p, hp, rfl⟩)) h.sum
theorem lv_last {lv : Lv} (h : 0 < lv.length) : ∃ ini p, lv = ini ++ [p] := by
  rcases List.eq_nil_or_concat lv with e | ⟨ini, p, e⟩
  · subst e; simp at h
  · exact ⟨ini, p, by rw [e, List.concat_eq_append]⟩
theorem NInv.upd {K : Nat} {rd : Rd} {lv : Lv} (h : NInv K rd lv) (c a : Int) : NInv (K + 1) rd (updLast lv c a) := by
  obtain ⟨ini, p, rfl⟩ := lv_last h.pos
  have h2 := h.five
  have h4 := h.sum
  simp at h2 h4
  refine ⟨by simp [updLast], by simp [updLast]; omega, by have := h.reads; omega, by simp [updLast]; omega⟩
theorem NInv.beg {K : Nat} {rd : Rd} {lv : Lv} (h : NInv K rd lv) : NInv K rd (begL lv) := by
  unfold begL
  split
  · exact h
  · exact ⟨by simp, by simp; omega, h.reads, by have := h.sum; simp at *; omega⟩
theorem NInv.und {K : Nat} {rd : Rd} {lv : Lv} (h : NInv K rd lv) : NInv K rd (undL lv) := by
  unfold undL
  split
  · exact h
  · rename_i h1
    obtain ⟨ini, p, rfl⟩ := lv_last h.pos
    have h2 := h.five
    have h4 := h.sum
    simp at h1 h2 h4
    rw [List.dropLast_concat]
    exact ⟨by have : ini.length ≠ 0 := by simpa using h1
              omega, by omega, h.reads, by omega⟩
theorem NInv.mer {K : Nat} {rd : Rd} {lv : Lv} (h : NInv K rd lv) : NInv K rd (merL lv) := by
  obtain ⟨ini, p, rfl⟩ := lv_last h.pos
  rcases List.eq_nil_or_concat ini with e | ⟨ini2, q, e⟩
  · subst e; exact h
  · rw [List.concat_eq_append] at e
    subst e
    have e2 : merL (ini2 ++ [q] ++ [p]) = ini2 ++ [(q.1 + p.1, orF p.2 q.2)] := by
      unfold merL
      rw [List.getLast?_concat, List.dropLast_concat, List.getLast?_concat, List.dropLast_concat]
    rw [e2]
    have h2 := h.five
    have h4 := h.sum
    simp at h2 h4
    exact ⟨by simp, by simp; omega, h.reads, by simp; omega⟩
theorem NInv.step {K : Nat} {rd : Rd} {lv : Lv} (h : NInv K rd lv) (o : PNo) : NInv (K + 1) (doR o rd) (doL o rd lv) := by
  unfold doR doL
  by_cases h0 : o.k = 0
  · rw [if_pos h0, if_neg (by omega), if_neg (by omega), if_neg (by omega), if_neg (by omega)]
    refine ⟨h.pos, h.five, ?_, by have := h.sum; omega⟩
    have := h.reads
    unfold sawR
    split <;> first | omega | (dsimp only; omega)
  · rw [if_neg h0]
    by_cases h1 : o.k = 1
    · rw [if_pos h1]
      unfold wriL
      split
      · exact h.upd _ _
      · exact h.mono (by omega)
    · rw [if_neg h1]
      split
      · exact h.beg.mono (by omega)
      · split
        · exact h.und.mono (by omega)
        · split
          · exact h.mer.mono (by omega)
          · exact h.mono (by omega)
def noV (o : PNo) : Value := .agg #[.int .i64 o.k, .int .i64 o.c, .int .i64 o.v, .int .i64 o.a]
end Go.Proofs.Ytgmhopkajopfcaa
