/- Plain: what is read has just the bytes that it was read of; what was written is read again. -/
import Derived.Test.YtihibljjbdjeoaaDoorEn
import Derived.Test.YtihibljjbdjeoaaDoorRk
namespace Go.Proofs.YtihibljjbdjeoaaDoor
open Go.RowKit
set_option linter.unusedVariables false

theorem take_step {L : List UInt8} {p : Nat} (n : Nat) (h : p < L.length) : (L.drop p).take (n + 1) = L[p] :: (L.drop (p + 1)).take n := by
  rw [List.drop_eq_getElem_cons h, List.take_succ_cons]
theorem ext_list (S : ByteArray) (p q : Nat) : (S.extract p q).data.toList = (S.data.toList.drop p).take (q - p) := by
  rw [ByteArray.data_extract, Array.toList_extract, List.extract_eq_take_drop]
theorem byteI_at {S : ByteArray} {p : Nat} (h : p < S.size) : byteI ((byteAt S p : Nat) : Int) = S.data.toList[p]'(by rw [ba_len]; exact h) := by
  have e : S.data.toList[p]'(by rw [ba_len]; exact h) = S[p]'h := rfl
  apply u8_of_int
  rw [e]
  have := byteAt_get h
  have := byteAt_lt S p
  omega
theorem eight {S : ByteArray} {p : Nat} (h : p + 8 ≤ S.size) : enc8 (num8 S p) = (S.data.toList.drop p).take 8 := by
  have hl := ba_len S
  unfold num8
  rw [ext_list, Nat.add_sub_cancel_left]
  rw [take_step 7 (by omega), take_step 6 (by omega), take_step 5 (by omega), take_step 4 (by omega), take_step 3 (by omega), take_step 2 (by omega), take_step 1 (by omega), take_step 0 (by omega), List.take_zero]
  exact enc8_num _ _ _ _ _ _ _ _
theorem encOp_at {S : ByteArray} {p : Nat} (h : p + 12 ≤ S.size) : encOp (opAt S p) = (S.data.toList.drop p).take 12 := by
  have hl := ba_len S
  unfold encOp opAt
  dsimp only
  rw [byteI_at (by omega), byteI_at (by omega), byteI_at (by omega), byteI_at (by omega), eight (by omega)]
  rw [take_step 11 (by omega), take_step 10 (by omega), take_step 9 (by omega), take_step 8 (by omega)]
  rfl
theorem encOps_rd {S : ByteArray} : ∀ k, k ≤ cnt S → 2 + 12 * cnt S ≤ S.size → encOps ((rdL S).take k) = (S.data.toList.drop 2).take (12 * k)
  | 0, _, _ => by simp [encOps]
  | k + 1, hk, hs => by
    rw [rdL_take (by omega)]
    have := encOps_rd (S := S) k (by omega) hs
    unfold encOps at *
    rw [List.flatMap_append, this]
    have e : ([opAt S (2 + 12 * k)].flatMap encOp) = encOp (opAt S (2 + 12 * k)) := by simp
    rw [e, encOp_at (by omega), Nat.mul_add, Nat.mul_one, List.take_add, List.drop_drop]
theorem encL_rd {S : ByteArray} (hs : S.size = 2 + 12 * cnt S) (h32 : cnt S ≤ 32) : (⟨(encL (rdL S)).toArray⟩ : ByteArray) = S := by
  have hl := ba_len S
  have hlen : (rdL S).length = cnt S := by simp [rdL]
  have h1 := encOps_rd (S := S) (cnt S) (Nat.le_refl _) (by omega)
  rw [List.take_of_length_le (by omega)] at h1
  have hc : countBytes ((rdL S).length : Int) = S.data.toList.take 2 := by
    have t : S.data.toList.take 2 = (S.data.toList.drop 0).take 2 := rfl
    rw [t, take_step 1 (by omega), take_step 0 (by omega), List.take_zero]
    unfold countBytes
    rw [hlen]
    have b0 := byteAt_lt S 0
    have b1 := byteAt_lt S 1
    have e0 := byteI_at (S := S) (p := 0) (by omega)
    have e1 := byteI_at (S := S) (p := 1) (by omega)
    unfold byteI at e0 e1
    rw [← e0, ← e1]
    rw [show ((cnt S : Nat) : Int) / 256 = ((byteAt S 0 : Nat) : Int) % 256 by unfold cnt; omega, show ((cnt S : Nat) : Int) % 256 = ((byteAt S 1 : Nat) : Int) % 256 by unfold cnt; omega]
  have e : encL (rdL S) = S.data.toList := by
    unfold encL
    rw [hc, h1, List.take_of_length_le (l := S.data.toList.drop 2) (by rw [List.length_drop]; omega), List.take_append_drop]
  rw [e]
theorem encR_rd {S : ByteArray} (h : (rdR S).2 = true) : encR (rdR S).1 = (S, 0) := by
  unfold rdR at *
  by_cases h2 : S.size < 2
  · rw [if_pos h2] at h; cases h
  · rw [if_neg h2] at h ⊢
    by_cases hs : S.size ≠ 2 + 12 * cnt S ∨ 32 < cnt S
    · rw [if_pos hs] at h; cases h
    · rw [if_neg hs] at h ⊢
      dsimp only at h ⊢
      unfold encR
      rw [h, if_pos rfl, encL_rd (by omega) (by omega)]
theorem rdR_len {S : ByteArray} (h : (rdR S).2 = true) : (rdR S).1.length ≤ 32 := by
  unfold rdR at *
  by_cases h2 : S.size < 2
  · rw [if_pos h2] at h; cases h
  · rw [if_neg h2] at h ⊢
    by_cases hs : S.size ≠ 2 + 12 * cnt S ∨ 32 < cnt S
    · rw [if_pos hs] at h; cases h
    · rw [if_neg hs]
      simp only [rdL, List.length_map, List.length_range]
      omega
end Go.Proofs.YtihibljjbdjeoaaDoor
