/- Plain: the lines of a right program tell it. -/
import Derived.Test.YtihibljjbdjeoaaDoorLs
namespace Go.Proofs.YtihibljjbdjeoaaDoor
open Go.RowKit
set_option linter.unusedVariables false

def nameL (k : Int) : List UInt8 := (nameK k).data.toList
/-- What stands behind the name and its blank, and a blank. -/
def restL (x : POp) : List UInt8 :=
  if x.k = 1 then 114 :: (Lib.itoa x.r ++ 32 :: 99 :: (Lib.itoa x.c ++ [32])) else if x.k = 2 then 99 :: (Lib.itoa x.c ++ 32 :: 114 :: (Lib.itoa x.r ++ [32])) else if x.k = 3 then 114 :: (Lib.itoa x.r ++ 32 :: (Lib.itoa x.n ++ [32]))
  else if x.k = 4 then 114 :: (Lib.itoa x.r ++ 32 :: 114 :: (Lib.itoa x.o ++ [32])) else if x.k = 5 then 114 :: (Lib.itoa x.r ++ 32 :: 114 :: (Lib.itoa x.o ++ [32])) else if x.k = 6 then 114 :: (Lib.itoa x.r ++ [32]) else if x.k = 9 then 99 :: (Lib.itoa x.c ++ [32]) else []
theorem line_list (x : POp) : (lineOf x).data.toList ++ [32] = nameL x.k ++ 32 :: restL x := by
  obtain ⟨k, c, r, o, n⟩ := x
  unfold lineOf restL nameL
  dsimp only
  by_cases h1 : k = 1
  · subst h1; simp [regS, celS, num, ByteArray.data_append]
  by_cases h2 : k = 2
  · subst h2; simp [regS, celS, num, ByteArray.data_append]
  by_cases h3 : k = 3
  · subst h3; simp [regS, num, ByteArray.data_append]
  by_cases h4 : k = 4
  · subst h4; simp [regS, num, ByteArray.data_append]
  by_cases h5 : k = 5
  · subst h5; simp [regS, num, ByteArray.data_append]
  by_cases h6 : k = 6
  · subst h6; simp [regS, num, ByteArray.data_append]
  by_cases h9 : k = 9
  · subst h9; simp [celS, num, ByteArray.data_append]
  simp [h1, h2, h3, h4, h5, h6, h9]
theorem name_inj : ∀ i, i < 12 → ∀ j, j < 12 → nameL ((i : Nat) + 1 : Int) = nameL ((j : Nat) + 1 : Int) → i = j := by decide
theorem name_no : ∀ i, i < 12 → ∀ b ∈ nameL ((i : Nat) + 1 : Int), b ≠ 32 ∧ b ≠ 10 := by decide
theorem kind_nat {x : POp} (h : opRight x = true) : ∃ i : Nat, i < 12 ∧ x.k = (i : Int) + 1 := by
  have := inR_true (opRight_k h)
  exact ⟨(x.k - 1).toNat, by omega, by omega⟩
theorem opRight_plain {x : POp} (h : opRight x = true) : x = plainOp x := by
  unfold opRight at h
  simp only [Bool.and_eq_true] at h
  exact (eqOp_iff _ _).1 h.2.1
theorem itoa_sp (n : Int) : ∀ b ∈ Lib.itoa n, b ≠ 32 := itoa_no (by decide) n
theorem itoa_nl (n : Int) : ∀ b ∈ Lib.itoa n, b ≠ 10 := itoa_no (by decide) n
theorem app_sp {a b : Int} (h : Lib.itoa a ++ [32] = Lib.itoa b ++ [32]) : a = b := itoa_inj (List.append_cancel_right h)
theorem lineOf_inj {x y : POp} (hx : opRight x = true) (hy : opRight y = true) (h : (lineOf x).data.toList = (lineOf y).data.toList) : x = y := by
  obtain ⟨i, hi, ei⟩ := kind_nat hx
  obtain ⟨j, hj, ej⟩ := kind_nat hy
  have h1 : (lineOf x).data.toList ++ [32] = (lineOf y).data.toList ++ [32] := by rw [h]
  rw [line_list, line_list] at h1
  obtain ⟨e1, e2⟩ := split_at (fun b hb => (name_no i hi b (by rw [← ei]; exact hb)).1) (fun b hb => (name_no j hj b (by rw [← ej]; exact hb)).1) h1
  rw [ei, ej] at e1
  have hij := name_inj i hi j hj e1
  subst hij
  have px := opRight_plain hx
  have py := opRight_plain hy
  obtain ⟨k, c, r, o, n⟩ := x
  obtain ⟨k', c', r', o', n'⟩ := y
  dsimp only at ei ej
  subst ei
  subst ej
  unfold plainOp at px py
  unfold restL at e2
  dsimp only at px py e2
  by_cases h1 : (i : Int) + 1 = 1
  · simp only [h1, if_true, true_or, POp.mk.injEq, true_and] at px py e2
    simp only [List.cons.injEq, true_and] at e2
    obtain ⟨a, b⟩ := split_at (itoa_sp _) (itoa_sp _) e2
    simp only [List.cons.injEq, true_and] at b
    rw [itoa_inj a, app_sp b, px.1, px.2, py.1, py.2]
  by_cases h2 : (i : Int) + 1 = 2
  · simp only [h2, if_true, or_true, POp.mk.injEq, true_and, show ¬ ((2 : Int) = 1) by decide, if_false] at px py e2
    simp only [List.cons.injEq, true_and] at e2
    obtain ⟨a, b⟩ := split_at (itoa_sp _) (itoa_sp _) e2
    simp only [List.cons.injEq, true_and] at b
    rw [itoa_inj a, app_sp b, px.1, px.2, py.1, py.2]
  rw [if_neg (by omega)] at px py
  rw [if_neg h1, if_neg h2] at e2
  rw [if_neg h1, if_neg h2] at e2
  by_cases h3 : (i : Int) + 1 = 3
  · rw [if_pos h3] at px py
    rw [if_pos h3, if_pos h3] at e2
    simp only [POp.mk.injEq, true_and, and_true] at px py
    simp only [List.cons.injEq, true_and] at e2
    obtain ⟨a, b⟩ := split_at (itoa_sp _) (itoa_sp _) e2
    rw [itoa_inj a, app_sp b, px.1, px.2, py.1, py.2]
  rw [if_neg h3] at px py
  rw [if_neg h3, if_neg h3] at e2
  by_cases h4 : (i : Int) + 1 = 4
  · rw [if_pos (by omega)] at px py
    rw [if_pos h4, if_pos h4] at e2
    simp only [POp.mk.injEq, true_and] at px py
    simp only [List.cons.injEq, true_and] at e2
    obtain ⟨a, b⟩ := split_at (itoa_sp _) (itoa_sp _) e2
    simp only [List.cons.injEq, true_and] at b
    rw [itoa_inj a, app_sp b, px.1, px.2, py.1, py.2]
  rw [if_neg h4, if_neg h4] at e2
  by_cases h5 : (i : Int) + 1 = 5
  · rw [if_pos (by omega)] at px py
    rw [if_pos h5, if_pos h5] at e2
    simp only [POp.mk.injEq, true_and] at px py
    simp only [List.cons.injEq, true_and] at e2
    obtain ⟨a, b⟩ := split_at (itoa_sp _) (itoa_sp _) e2
    simp only [List.cons.injEq, true_and] at b
    rw [itoa_inj a, app_sp b, px.1, px.2, py.1, py.2]
  rw [if_neg (by omega)] at px py
  rw [if_neg h5, if_neg h5] at e2
  by_cases h6 : (i : Int) + 1 = 6
  · rw [if_pos h6] at px py
    rw [if_pos h6, if_pos h6] at e2
    simp only [POp.mk.injEq, true_and] at px py
    simp only [List.cons.injEq, true_and] at e2
    rw [app_sp e2, px.1, px.2.1, px.2.2, py.1, py.2.1, py.2.2]
  rw [if_neg h6] at px py
  rw [if_neg h6, if_neg h6] at e2
  by_cases h9 : (i : Int) + 1 = 9
  · rw [if_pos h9] at px py
    rw [if_pos h9, if_pos h9] at e2
    simp only [POp.mk.injEq, true_and] at px py
    simp only [List.cons.injEq, true_and] at e2
    rw [app_sp e2, px.1, px.2.1, px.2.2, py.1, py.2.1, py.2.2]
  rw [if_neg h9] at px py
  exact px.trans py.symm
theorem line_no {x : POp} (hx : opRight x = true) : ∀ b ∈ (lineOf x).data.toList, b ≠ 10 := by
  intro b hb
  have hb' : b ∈ nameL x.k ++ 32 :: restL x := by rw [← line_list]; exact List.mem_append_left _ hb
  obtain ⟨i, hi, ei⟩ := kind_nat hx
  rcases List.mem_append.1 hb' with h | h
  · rw [ei] at h
    exact (name_no i hi b h).2
  · rcases List.mem_cons.1 h with rfl | h
    · decide
    · unfold restL at h
      have sp : (32 : UInt8) ≠ 10 := by decide
      have rr : (114 : UInt8) ≠ 10 := by decide
      have cc : (99 : UInt8) ≠ 10 := by decide
      have a1 := itoa_nl x.r b
      have a2 := itoa_nl x.c b
      have a3 := itoa_nl x.o b
      have a4 := itoa_nl x.n b
      split at h
      · simp only [List.mem_cons, List.mem_append, List.not_mem_nil, or_false] at h
        rcases h with rfl | h | rfl | rfl | h | rfl <;> first | assumption | exact a1 h | exact a2 h
      · split at h
        · simp only [List.mem_cons, List.mem_append, List.not_mem_nil, or_false] at h
          rcases h with rfl | h | rfl | rfl | h | rfl <;> first | assumption | exact a1 h | exact a2 h
        · split at h
          · simp only [List.mem_cons, List.mem_append, List.not_mem_nil, or_false] at h
            rcases h with rfl | h | rfl | h | rfl <;> first | assumption | exact a1 h | exact a4 h
          · split at h
            · simp only [List.mem_cons, List.mem_append, List.not_mem_nil, or_false] at h
              rcases h with rfl | h | rfl | rfl | h | rfl <;> first | assumption | exact a1 h | exact a3 h
            · split at h
              · simp only [List.mem_cons, List.mem_append, List.not_mem_nil, or_false] at h
                rcases h with rfl | h | rfl | rfl | h | rfl <;> first | assumption | exact a1 h | exact a3 h
              · split at h
                · simp only [List.mem_cons, List.mem_append, List.not_mem_nil, or_false] at h
                  rcases h with rfl | h | rfl <;> first | assumption | exact a1 h
                · split at h
                  · simp only [List.mem_cons, List.mem_append, List.not_mem_nil, or_false] at h
                    rcases h with rfl | h | rfl <;> first | assumption | exact a2 h
                  · cases h
theorem linesB_inj : ∀ (a b : List POp), (∀ x ∈ a, opRight x = true) → (∀ x ∈ b, opRight x = true) → linesB a = linesB b → a = b
  | [], [], _, _, _ => rfl
  | [], y :: b, _, _, h => by simp [linesB] at h
  | x :: a, [], _, _, h => by simp [linesB] at h
  | x :: a, y :: b, ha, hb, h => by
    unfold linesB at h
    rw [List.flatMap_cons, List.flatMap_cons, List.append_assoc, List.append_assoc, List.singleton_append, List.singleton_append] at h
    obtain ⟨h1, h2⟩ := split_at (line_no (ha x (List.mem_cons_self ..))) (line_no (hb y (List.mem_cons_self ..))) h
    rw [lineOf_inj (ha x (List.mem_cons_self ..)) (hb y (List.mem_cons_self ..)) h1, linesB_inj a b (fun z hz => ha z (List.mem_cons_of_mem _ hz)) (fun z hz => hb z (List.mem_cons_of_mem _ hz)) h2]
theorem linesS_iff {a b : List POp} (ha : pRight a = true) (hb : pRight b = true) : linesS a = linesS b ↔ a = b := by
  refine ⟨fun h => ?_, fun h => by rw [h]⟩
  unfold linesS at h
  rw [if_pos ha, if_pos hb] at h
  have h' := congrArg (fun s : ByteArray => s.data.toList) h
  exact linesB_inj a b (pRight_all ha).2.1 (pRight_all hb).2.1 (by simpa using h')
end Go.Proofs.YtihibljjbdjeoaaDoor
