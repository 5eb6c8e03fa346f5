/- Plain: what Format puts is read back. -/
import Derived.Test.YtmmgmdfhdhnmaaaFmt
import Derived.Test.YtmmgmdfhdhnmaaaScLaw
namespace Go.Proofs.Ytmmgmdfhdhnmaaa
open Go.RowKit
set_option linter.unusedVariables false

theorem byteAt_app (pre t : List UInt8) (i : Nat) : byteAt ⟨(pre ++ t).toArray⟩ (pre.length + i) = (t.getD i 0).toNat := by
  unfold byteAt
  have hs : (ByteArray.mk (pre ++ t).toArray).size = pre.length + t.length := by
    show (pre ++ t).toArray.size = _
    simp
  split
  · rename_i h
    rw [hs] at h
    have hi : i < t.length := by omega
    show ((pre ++ t).toArray[pre.length + i]'_).toNat = _
    simp only [List.getElem_toArray]
    rw [List.getElem_append_right (by omega)]
    simp [List.getD_eq_getElem?_getD, hi]
  · rename_i h
    rw [hs] at h
    have hi : ¬ i < t.length := by omega
    simp [List.getD_eq_getElem?_getD, List.getElem?_eq_none (Nat.le_of_not_lt hi)]
theorem size_app (pre t : List UInt8) : (ByteArray.mk (pre ++ t).toArray).size = pre.length + t.length := by
  show (pre ++ t).toArray.size = _
  simp
theorem byteOf_toNat (n : Int) (h0 : 0 ≤ n) (h1 : n < 256) : (byteOf n).toNat = n.toNat := by
  have := byteOf_nat n h0 h1
  omega
theorem opAt_bytes (pre rest : List UInt8) (o : POp) (h : opFits o = true) : opAt ⟨(pre ++ (opBytes o ++ rest)).toArray⟩ pre.length = o := by
  obtain ⟨h1, h2, h3, h4, h5⟩ := fits_parts h
  have b0 := byteAt_app pre (opBytes o ++ rest) 0
  have b1 := byteAt_app pre (opBytes o ++ rest) 1
  have b2 := byteAt_app pre (opBytes o ++ rest) 2
  have b3 := byteAt_app pre (opBytes o ++ rest) 3
  have b4 := byteAt_app pre (opBytes o ++ rest) 4
  simp only [Nat.add_zero] at b0
  simp only [opBytes, List.cons_append, List.nil_append, List.getD_cons_zero, List.getD_cons_succ] at b0 b1 b2 b3 b4
  rw [byteOf_toNat _ (by omega) (by omega)] at b0 b1 b2 b3 b4
  unfold opAt
  simp only [opBytes, List.cons_append, List.nil_append]
  rw [b0, b1, b2, b3, b4]
  obtain ⟨k, c, r, oo, n⟩ := o
  dsimp only at *
  rw [POp.mk.injEq]
  refine ⟨by omega, by omega, by omega, by omega, ?_⟩
  unfold sgn8
  split <;> omega
theorem opsAt_bytes (pre rest : List UInt8) (ops : List POp) (h : ∀ o ∈ ops, opFits o = true) : ∀ n, n ≤ ops.length → opsAt ⟨(pre ++ (ops.flatMap opBytes ++ rest)).toArray⟩ pre.length n = ops.take n
  | 0, _ => by simp [opsAt]
  | n + 1, hn => by
    have hlt : n < ops.length := by omega
    rw [opsAt, opsAt_bytes pre rest ops h n (by omega), List.take_succ_eq_append_getElem hlt]
    congr 2
    have e : ops.flatMap opBytes = (ops.take n).flatMap opBytes ++ (opBytes (ops[n]'hlt) ++ (ops.drop (n + 1)).flatMap opBytes) := by
      conv => lhs; rw [← List.take_append_drop n ops, List.flatMap_append, List.drop_eq_getElem_cons hlt, List.flatMap_cons]
    have hlen : (pre ++ (ops.take n).flatMap opBytes).length = pre.length + 5 * n := by
      rw [List.length_append, opsBytes_len, List.length_take, Nat.min_eq_left (by omega)]
    have := opAt_bytes (pre ++ (ops.take n).flatMap opBytes) ((ops.drop (n + 1)).flatMap opBytes ++ rest) (ops[n]'hlt) (h _ (List.getElem_mem hlt))
    rw [hlen] at this
    rw [e]
    simpa only [List.append_assoc] using this
theorem evAt_bytes (pre rest : List UInt8) (e : PEv) (h : evRight e = true) :
    byteAt ⟨(pre ++ (evBytes e ++ rest)).toArray⟩ pre.length % 12 = e.k.toNat ∧ evAt ⟨(pre ++ (evBytes e ++ rest)).toArray⟩ (pre.length + 1) e.k.toNat = some (e, pre.length + (evBytes e).length) := by
  obtain ⟨hk, ha, hb, hn, hr1, hr2⟩ := right_parts h
  have b0 := byteAt_app pre (evBytes e ++ rest) 0
  have b1 := byteAt_app pre (evBytes e ++ rest) 1
  have b2 := byteAt_app pre (evBytes e ++ rest) 2
  have hs := size_app pre (evBytes e ++ rest)
  simp only [Nat.add_zero] at b0
  by_cases h1 : e.k = 1
  · obtain ⟨q1, q2, q3, q4⟩ := hr1 h1
    have E : evBytes e = byteOf e.k :: byteOf e.a :: byteOf e.ops.length :: e.ops.flatMap opBytes := by unfold evBytes; rw [if_pos h1]
    have ho := opsAt_bytes (pre ++ [byteOf e.k, byteOf e.a, byteOf e.ops.length]) rest e.ops q4 e.ops.length (Nat.le_refl _)
    have hz : (evBytes e).length = 3 + 5 * e.ops.length := by rw [E]; simp only [List.length_cons, opsBytes_len]; omega
    have hS : pre ++ [byteOf e.k, byteOf e.a, byteOf e.ops.length] ++ (e.ops.flatMap opBytes ++ rest) = pre ++ (evBytes e ++ rest) := by rw [E]; simp
    rw [hS, List.take_length, List.length_append] at ho
    rw [List.length_append] at hs
    generalize hB : ByteArray.mk (pre ++ (evBytes e ++ rest)).toArray = S at *
    rw [E] at b0 b1 b2
    simp only [List.cons_append, List.getD_cons_zero, List.getD_cons_succ] at b0 b1 b2
    rw [byteOf_toNat _ (by omega) (by omega)] at b0 b1 b2
    refine ⟨by rw [b0]; omega, ?_⟩
    unfold evAt
    rw [if_neg (by simp [h1])]
    have hm : byteAt S (pre.length + 1 + 1) % 33 = e.ops.length := by rw [show pre.length + 1 + 1 = pre.length + 2 from rfl, b2]; omega
    rw [hm, if_pos (by omega), b1]
    rw [show pre.length + 1 + 2 = pre.length + [byteOf e.k, byteOf e.a, byteOf e.ops.length].length from rfl, ho, hz]
    obtain ⟨k, a, b, n, ops⟩ := e
    dsimp only at *
    subst h1 q1 q2
    simp only [Option.some.injEq, Prod.mk.injEq, PEv.mk.injEq, true_and, and_true]
    refine ⟨by omega, ?_⟩
    simp only [List.length_cons, List.length_nil]
    omega
  · have q := hr2 h1
    have b3 := byteAt_app pre (evBytes e ++ rest) 3
    have b4 := byteAt_app pre (evBytes e ++ rest) 4
    have E : evBytes e = byteOf e.k :: byteOf e.a :: byteOf e.b :: countBytes e.n := by unfold evBytes; rw [if_neg h1]
    have hz : (evBytes e).length = 5 := by rw [E]; rfl
    rw [List.length_append] at hs
    generalize hB : ByteArray.mk (pre ++ (evBytes e ++ rest)).toArray = S at *
    rw [E] at b0 b1 b2 b3 b4
    simp only [countBytes, List.cons_append, List.getD_cons_zero, List.getD_cons_succ] at b0 b1 b2 b3 b4
    rw [byteOf_toNat _ (by omega) (by omega)] at b0 b1 b2 b3 b4
    refine ⟨by rw [b0]; omega, ?_⟩
    unfold evAt
    rw [if_pos (by omega), if_pos (by omega), b1, show pre.length + 1 + 1 = pre.length + 2 from rfl, b2, show pre.length + 1 + 2 = pre.length + 3 from rfl, b3, show pre.length + 1 + 3 = pre.length + 4 from rfl, b4, hz]
    obtain ⟨k, a, b, n, ops⟩ := e
    dsimp only at *
    subst q
    simp only [Option.some.injEq, Prod.mk.injEq, PEv.mk.injEq, and_true]
    refine ⟨by omega, by omega, by omega, by omega⟩
theorem evBytes_pos (e : PEv) : 0 < (evBytes e).length := by unfold evBytes; simp
theorem evsFrom_bytes : ∀ (l : List PEv) (pre : List UInt8) (fuel n : Nat), (∀ e ∈ l, evRight e = true) → n + l.length ≤ 400 → (l.flatMap evBytes).length < fuel → evsFrom ⟨(pre ++ l.flatMap evBytes).toArray⟩ fuel pre.length n = l
  | [], pre, fuel, n, _, _, hf => by
    cases fuel with
    | zero => rfl
    | succ fuel =>
      rw [evsFrom, if_neg]
      have := size_app pre (List.flatMap evBytes [])
      intro hc
      rw [this] at hc
      simp at hc
  | e :: l, pre, 0, n, _, _, hf => by omega
  | e :: l, pre, fuel + 1, n, hr, hn, hf => by
    obtain ⟨h1, h2⟩ := evAt_bytes pre (l.flatMap evBytes) e (hr e (List.mem_cons_self ..))
    have hk := (right_parts (hr e (List.mem_cons_self ..))).1
    have hp := evBytes_pos e
    have ih := evsFrom_bytes l (pre ++ evBytes e) fuel (n + 1) (fun x hx => hr x (List.mem_cons_of_mem _ hx)) (by simp only [List.length_cons] at hn; omega) (by rw [List.flatMap_cons, List.length_append] at hf; omega)
    rw [List.append_assoc, List.length_append] at ih
    have hs := size_app pre (evBytes e ++ l.flatMap evBytes)
    rw [List.length_append] at hs
    rw [List.flatMap_cons]
    rw [evsFrom, if_pos ⟨by simp only [List.length_cons] at hn; omega, by rw [hs]; omega⟩, h1, if_neg (by omega), h2]
    dsimp only
    rw [ih]
theorem fmt_read (n c d : Int) (l : List PEv) (h : fmtRight n c d l = true) :
    pNodes ⟨(fmtBytes n c d l).toArray⟩ = n ∧ pCells ⟨(fmtBytes n c d l).toArray⟩ = c ∧ pDisk ⟨(fmtBytes n c d l).toArray⟩ = d ∧ pEvs ⟨(fmtBytes n c d l).toArray⟩ = l ∧
    4 ≤ (ByteArray.mk (fmtBytes n c d l).toArray).size ∧ (ByteArray.mk (fmtBytes n c d l).toArray).size ≤ 100000 ∧ byteAt ⟨(fmtBytes n c d l).toArray⟩ 0 < 16 ∧ byteAt ⟨(fmtBytes n c d l).toArray⟩ 1 < 16 := by
  simp only [fmtRight, cfgRight, inR, Bool.and_eq_true, decide_eq_true_eq, beq_iff_eq, Bool.not_eq_true', List.any_eq_false] at h
  obtain ⟨⟨h1, h2, h3, h4⟩, h5, h6⟩ := h
  have hr : ∀ e ∈ l, evRight e = true := fun e he => by have := h6 e he; simpa using this
  have hl := evsBytes_len l hr
  have E : fmtBytes n c d l = [] ++ ([byteOf (n - 1), byteOf (c - 1)] ++ countBytes (d / 16) ++ l.flatMap evBytes) := rfl
  have hs := size_app [] ([byteOf (n - 1), byteOf (c - 1)] ++ countBytes (d / 16) ++ l.flatMap evBytes)
  have b0 := byteAt_app [] ([byteOf (n - 1), byteOf (c - 1)] ++ countBytes (d / 16) ++ l.flatMap evBytes) 0
  have b1 := byteAt_app [] ([byteOf (n - 1), byteOf (c - 1)] ++ countBytes (d / 16) ++ l.flatMap evBytes) 1
  have b2 := byteAt_app [] ([byteOf (n - 1), byteOf (c - 1)] ++ countBytes (d / 16) ++ l.flatMap evBytes) 2
  have b3 := byteAt_app [] ([byteOf (n - 1), byteOf (c - 1)] ++ countBytes (d / 16) ++ l.flatMap evBytes) 3
  have ev := evsFrom_bytes l ([byteOf (n - 1), byteOf (c - 1)] ++ countBytes (d / 16)) ((ByteArray.mk (fmtBytes n c d l).toArray).size + 1) 0 hr (by omega)
  rw [← E] at hs b0 b1 b2 b3
  rw [List.length_append, show ([byteOf (n - 1), byteOf (c - 1)] ++ countBytes (d / 16)).length = 4 from rfl] at hs
  simp only [List.length_nil, Nat.zero_add, countBytes, List.cons_append, List.nil_append, List.getD_cons_zero, List.getD_cons_succ] at hs b0 b1 b2 b3
  rw [byteOf_toNat _ (by omega) (by omega)] at b0 b1 b2 b3
  have ev' := ev (by rw [hs]; omega)
  rw [show ([byteOf (n - 1), byteOf (c - 1)] ++ countBytes (d / 16)) ++ l.flatMap evBytes = fmtBytes n c d l from rfl, show ([byteOf (n - 1), byteOf (c - 1)] ++ countBytes (d / 16)).length = 4 from rfl] at ev'
  clear E ev
  generalize ByteArray.mk (fmtBytes n c d l).toArray = S at *
  rw [big_nodes S (by omega), big_cells S (by omega), big_disk S (by omega), big_evs S (by omega), b0, b1, b2, b3]
  refine ⟨by omega, by omega, by omega, ev', by omega, by omega, by omega, by omega⟩
end Go.Proofs.Ytmmgmdfhdhnmaaa
