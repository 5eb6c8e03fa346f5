/- The walks of the law's values and same. -/
import Derived.Test.YtgmhopkajopfcaaNn
import Derived.Lib.SlKeysI
namespace Go.Proofs.Ytgmhopkajopfcaa
open Go.RowKit Go.Maps
set_option linter.unusedVariables false

/-- What the numbers in a nest are. -/
structure NVal (rd : Rd) (lv : Lv) : Prop where
  cell : ∀ c p, rd.2 c = some p → cellOk c = true
  val : ∀ c p, rd.2 c = some p → K64 p.1 ∧ K64 p.2
  lev : ∀ p ∈ lv, ∀ c u, p.2 c = some u → K64 u
theorem NVal.upd {rd : Rd} {lv : Lv} (h : NVal rd lv) {c a : Int} (ha : K64 a) : NVal rd (updLast lv c a) := by
  refine ⟨h.cell, h.val, fun p hp x u hu => ?_⟩
  unfold updLast at hp
  split at hp
  · exact h.lev p hp x u hu
  · rename_i q hq
    rcases List.mem_append.1 hp with hp | hp
    · exact h.lev p ((List.dropLast_sublist _).subset hp) x u hu
    · simp at hp
      subst hp
      unfold updF at hu
      dsimp only at hu
      split at hu
      · injection hu with hu; subst hu; exact ha
      · exact h.lev q (List.mem_of_getLast? hq) x u hu
theorem NVal.sub {rd : Rd} {lv lv' : Lv} (h : NVal rd lv) (hs : ∀ p ∈ lv', p ∈ lv ∨ ∀ c, p.2 c = none) : NVal rd lv' :=
  ⟨h.cell, h.val, fun p hp c u hu => by
    rcases hs p hp with q | q
    · exact h.lev p q c u hu
    · rw [q] at hu; cases hu⟩
theorem NVal.mer {rd : Rd} {lv : Lv} (h : NVal rd lv) : NVal rd (merL lv) := by
  refine ⟨h.cell, h.val, fun p hp c u hu => ?_⟩
  unfold merL at hp
  split at hp
  · rename_i p1 q1 hp1 hq1
    rcases List.mem_append.1 hp with hp | hp
    · exact h.lev p ((List.dropLast_sublist _).subset ((List.dropLast_sublist _).subset hp)) c u hu
    · simp at hp
      subst hp
      unfold orF at hu
      dsimp only at hu
      split at hu
      · rename_i z hz
        injection hu with hu; subst hu
        exact h.lev p1 (List.mem_of_getLast? hp1) c _ hz
      · exact h.lev q1 ((List.dropLast_sublist _).subset (List.mem_of_getLast? hq1)) c u hu
  · exact h.lev p hp c u hu
theorem NVal.beg {rd : Rd} {lv : Lv} (h : NVal rd lv) : NVal rd (begL lv) := by
  refine h.sub fun p hp => ?_
  unfold begL at hp
  split at hp
  · exact .inl hp
  · rcases List.mem_append.1 hp with hp | hp
    · exact .inl hp
    · simp at hp; subst hp; exact .inr fun _ => rfl
theorem NVal.und {rd : Rd} {lv : Lv} (h : NVal rd lv) : NVal rd (undL lv) := by
  refine h.sub fun p hp => ?_
  unfold undL at hp
  split at hp
  · exact .inl hp
  · exact .inl ((List.dropLast_sublist _).subset hp)
theorem NVal.saw {rd : Rd} {lv : Lv} (h : NVal rd lv) {c v a : Int} (hv : K64 v) (ha : K64 a) : NVal (sawR rd c v a) lv := by
  unfold sawR
  split
  · rename_i h0
    have hc : cellOk c = true := by
      unfold sawE at h0
      split at h0
      · cases h0
      · rename_i q
        cases hcc : cellOk c
        · exact absurd (.inl hcc) q
        · rfl
    refine ⟨fun x p hp => ?_, fun x p hp => ?_, h.lev⟩
    · unfold updF at hp
      dsimp only at hp
      split at hp
      · rename_i e; rw [e]; exact hc
      · exact h.cell x p hp
    · unfold updF at hp
      dsimp only at hp
      split at hp
      · injection hp with hp; subst hp; exact ⟨hv, ha⟩
      · exact h.val x p hp
  · exact h
theorem NVal.step {rd : Rd} {lv : Lv} (h : NVal rd lv) {o : PNo} (ho : o.ok) : NVal (doR o rd) (doL o rd lv) := by
  obtain ⟨hc, hv, ha, hk⟩ := ho
  unfold doR doL
  by_cases h0 : o.k = 0
  · rw [if_pos h0, if_neg (by omega), if_neg (by omega), if_neg (by omega), if_neg (by omega)]
    exact h.saw hv ha
  · rw [if_neg h0]
    split
    · unfold wriL
      split
      · exact h.upd ha
      · exact h
    · split
      · exact h.beg
      · split
        · exact h.und
        · split
          · exact h.mer
          · exact h
theorem wrF_some {lv : Lv} {c u : Int} (h : wrF lv c = some u) : ∃ p ∈ lv, p.2 c = some u := by
  unfold wrF at h
  obtain ⟨p, hp, he⟩ := List.exists_of_findSome?_eq_some h
  exact ⟨p, List.mem_reverse.1 hp, he⟩
theorem NVal.valF {rd : Rd} {lv : Lv} (h : NVal rd lv) {c u : Int} (hu : valF rd lv c = some u) : K64 u ∧ cellOk c = true := by
  unfold Go.Proofs.Ytgmhopkajopfcaa.valF at hu
  split at hu
  · cases hu
  · rename_i p hp
    injection hu with hu
    subst hu
    refine ⟨?_, h.cell c p hp⟩
    cases hw : wrF lv c with
    | none => exact (h.val c p hp).2
    | some z =>
      obtain ⟨q, hq, hz⟩ := wrF_some hw
      exact h.lev q hq c z hz
noncomputable def elVal : El Int := { elLev with t := 80, ut := Try.underlying80 }
/-- The values of the cells below k. -/
def valsN (rd : Rd) (lv : Lv) (k : Nat) : Int → Option Int := fun x => if 0 ≤ x ∧ x < k then valF rd lv x else none
theorem valsN_none {rd : Rd} {lv : Lv} {k : Nat} (h : valF rd lv k = none) : valsN rd lv (k + 1) = valsN rd lv k := by
  funext x
  unfold valsN
  by_cases e : x = k
  · subst e
    rw [if_pos (by omega), if_neg (by omega), h]
  · by_cases e2 : 0 ≤ x ∧ x < k
    · rw [if_pos (by omega), if_pos e2]
    · rw [if_neg (by omega), if_neg e2]
theorem valsN_some {rd : Rd} {lv : Lv} {k : Nat} {u : Int} (h : valF rd lv k = some u) : valsN rd lv (k + 1) = updF (valsN rd lv k) k u := by
  funext x
  unfold valsN updF
  dsimp only
  by_cases e : x = k
  · subst e
    rw [if_pos (by omega), if_pos rfl, h]
  · rw [if_neg e]
    by_cases e2 : 0 ≤ x ∧ x < k
    · rw [if_pos (by omega), if_pos e2]
    · rw [if_neg (by omega), if_neg e2]
theorem valsN_zero {rd : Rd} {lv : Lv} : valsN rd lv 0 = fun _ => none := by
  funext x
  unfold valsN
  rw [if_neg (by omega)]
theorem valsN_some_iff {rd : Rd} {lv : Lv} (hv : NVal rd lv) {c u : Int} : valsN rd lv 16 c = some u ↔ valF rd lv c = some u := by
  unfold valsN
  constructor
  · intro h
    split at h
    · exact h
    · cases h
  · intro h
    have := (hv.valF h).2
    unfold cellOk at this
    simp at this
    rw [if_pos (by omega)]
    exact h
end Go.Proofs.Ytgmhopkajopfcaa
