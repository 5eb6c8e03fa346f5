/- Plain: what Decode reads, where the bytes are enough and where they are not. -/
import Derived.Test.YtihibljjbdjeoaaDoorDc
namespace Go.Proofs.YtihibljjbdjeoaaDoor
open Go.RowKit
set_option linter.unusedVariables false

def opAt (S : ByteArray) (p : Nat) : POp := ⟨byteAt S p, byteAt S (p + 3), byteAt S (p + 1), byteAt S (p + 2), num8 S (p + 4)⟩
theorem rByte_fit {S : ByteArray} {p : Nat} (h : p < S.size) : rByte S ⟨p, false⟩ = (byteAt S p, ⟨p + 1, false⟩) := by simp [rByte, h]
theorem rNum_fit {S : ByteArray} {p : Nat} (h : p + 8 ≤ S.size) : rNum S ⟨p, false⟩ = (num8 S p, ⟨p + 8, false⟩) := by simp [rNum, h]
theorem rOp_fit {S : ByteArray} {p : Nat} (h : p + 12 ≤ S.size) : rOp S ⟨p, false⟩ = (opAt S p, ⟨p + 12, false⟩) := by
  unfold rOp opAt
  rw [rByte_fit (by omega)]
  dsimp only
  rw [rByte_fit (by omega)]
  dsimp only
  rw [rByte_fit (by omega)]
  dsimp only
  rw [rByte_fit (by omega)]
  dsimp only
  rw [rNum_fit (by omega)]
theorem rOps_fit {S : ByteArray} {p : Nat} : ∀ k, p + 12 * k ≤ S.size → rOps S ⟨p, false⟩ k = ((List.range k).map fun i => opAt S (p + 12 * i), ⟨p + 12 * k, false⟩)
  | 0, _ => rfl
  | k + 1, h => by
    rw [rOps, rOps_fit k (by omega)]
    dsimp only
    rw [rOp_fit (by omega), List.range_succ, List.map_append]
    simp
    omega
theorem rByte_br {S : ByteArray} {t : St} (h : t.br = true) : (rByte S t).2.br = true := by unfold rByte; rw [if_neg (by rw [h]; simp)]
theorem rNum_br {S : ByteArray} {t : St} (h : t.br = true) : (rNum S t).2.br = true := by unfold rNum; rw [if_neg (by rw [h]; simp)]
theorem rOp_br {S : ByteArray} {t : St} (h : t.br = true) : (rOp S t).2.br = true := rNum_br (rByte_br (rByte_br (rByte_br (rByte_br h))))
theorem rByte_end {S : ByteArray} {t : St} (h : t.br = true ∨ S.size ≤ t.p) : (rByte S t).2.br = true := by
  unfold rByte
  rw [if_neg (by rintro ⟨h1, h2⟩; rcases h with h | h; rw [h] at h1; cases h1; omega)]
theorem rByte_left {S : ByteArray} {t : St} {k : Nat} (h : t.br = true ∨ S.size < t.p + (k + 1)) : (rByte S t).2.br = true ∨ S.size < (rByte S t).2.p + k := by
  unfold rByte
  split
  · rename_i hc
    rcases h with h | h
    · rw [h] at hc; simp at hc
    · right; dsimp only; omega
  · exact .inl rfl
theorem rOp_short {S : ByteArray} {t : St} (h : t.br = true ∨ S.size < t.p + 12) : (rOp S t).2.br = true := by
  have h1 := rByte_left (k := 11) h
  have h2 := rByte_left (k := 10) h1
  have h3 := rByte_left (k := 9) h2
  have h4 := rByte_left (k := 8) h3
  show (rNum S (rByte S (rByte S (rByte S (rByte S t).2).2).2).2).2.br = true
  unfold rNum
  rw [if_neg (by rintro ⟨q1, q2⟩; rcases h4 with h | h; rw [h] at q1; cases q1; omega)]
theorem rOps_short {S : ByteArray} {p : Nat} : ∀ k, S.size < p + 12 * k → p ≤ S.size → (rOps S ⟨p, false⟩ k).2.br = true
  | 0, h, hp => by omega
  | k + 1, h, hp => by
    rw [rOps]
    by_cases hk : S.size < p + 12 * k
    · exact rOp_br (rOps_short k hk hp)
    · rw [rOps_fit k (by omega)]
      exact rOp_short (.inr (by dsimp only; omega))
/-- What the document's Read says. -/
def cnt (S : ByteArray) : Nat := byteAt S 0 * 256 + byteAt S 1
def rdL (S : ByteArray) : List POp := (List.range (cnt S)).map fun i => opAt S (2 + 12 * i)
def rdR (S : ByteArray) : List POp × Bool := if S.size < 2 then ([], false) else if S.size ≠ 2 + 12 * cnt S ∨ 32 < cnt S then ([], false) else (rdL S, pRight (rdL S))
theorem decR_eq (S : ByteArray) : decR S = if (rdR S).2 = true then ((rdR S).1, 0) else ([], 2) := by
  unfold decR rdR
  by_cases h2 : S.size < 2
  · rw [if_pos h2]
    have hc : rCount S ⟨0, false⟩ = (0, ⟨0, true⟩) := by unfold rCount; rw [if_neg (by rintro ⟨_, h⟩; dsimp only at h; omega)]
    rw [hc]
    simp [rOps, rEnd]
  · rw [if_neg h2]
    have hc : rCount S ⟨0, false⟩ = (cnt S, ⟨2, false⟩) := by unfold rCount; rw [if_pos ⟨rfl, by dsimp only; omega⟩]; rfl
    rw [hc]
    dsimp only
    by_cases h32 : 32 < cnt S
    · rw [if_pos h32, if_pos (Or.inr h32)]
      rfl
    · rw [if_neg h32]
      by_cases hs : S.size = 2 + 12 * cnt S
      · have hneg : ¬ (S.size ≠ 2 + 12 * cnt S ∨ 32 < cnt S) := by omega
        rw [rOps_fit _ (by omega), if_neg hneg]
        have he : rEnd S ⟨2 + 12 * cnt S, false⟩ = 0 := by unfold rEnd; simp; omega
        dsimp only
        rw [he]
        change (if (0 : Int) = 0 ∧ pRight (rdL S) = true then (rdL S, (0 : Int)) else ([], 2)) = if pRight (rdL S) = true then (rdL S, 0) else ([], 2)
        cases h : pRight (rdL S) <;> simp
      · rw [if_pos (Or.inl hs)]
        by_cases hlt : S.size < 2 + 12 * cnt S
        · have hb := rOps_short (S := S) (p := 2) (cnt S) hlt (by omega)
          have he : ¬ rEnd S (rOps S ⟨2, false⟩ (cnt S)).2 = 0 := by unfold rEnd; rw [hb]; simp
          rw [if_neg (fun h => he h.1)]
          rfl
        · rw [rOps_fit _ (by omega)]
          have he : ¬ rEnd S ⟨2 + 12 * cnt S, false⟩ = 0 := by unfold rEnd; rw [if_neg (by simp), if_pos (by dsimp only; omega)]; decide
          rw [if_neg (fun h => he h.1)]
          rfl
end Go.Proofs.YtihibljjbdjeoaaDoor
