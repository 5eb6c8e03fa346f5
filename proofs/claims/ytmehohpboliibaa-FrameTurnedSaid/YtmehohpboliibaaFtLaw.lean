/- The walk of the law FrameTurned. -/
import Derived.Test.YtmehohpboliibaaFtPure
import Derived.Test.YtmehohpboliibaaFaLaw
import Derived.Lib.BufferMore
namespace Go.Proofs.Ytmehohpboliibaa
open Go.RowKit
set_option linter.unusedVariables false

def xb (m k : Nat) : UInt8 := (m / 256 ^ k).toUInt8
def turnK (l : List UInt8) (a m : Nat) : Nat → List UInt8
  | 0 => l
  | k + 1 => (turnK l a m k).set (a + k) (l.getD (a + k) 0 ^^^ xb m k)
def chg (m : Nat) : Nat → Bool
  | 0 => false
  | k + 1 => chg m k || xb m k != 0
theorem turnK_len (l : List UInt8) (a m : Nat) : ∀ k, (turnK l a m k).length = l.length
  | 0 => rfl
  | k + 1 => by rw [turnK, List.length_set, turnK_len l a m k]
theorem turnK_far (l : List UInt8) (a m : Nat) : ∀ k j, j < a ∨ a + k ≤ j → (turnK l a m k)[j]? = l[j]?
  | 0, _, _ => rfl
  | k + 1, j, h => by rw [turnK, List.getElem?_set_ne (by omega), turnK_far l a m k j (by omega)]
theorem turnK_near (l : List UInt8) (a m : Nat) : ∀ k i, i < k → a + i < l.length → (turnK l a m k)[a + i]? = some (l.getD (a + i) 0 ^^^ xb m i)
  | 0, _, h, _ => absurd h (by omega)
  | k + 1, i, h, hl => by
    rw [turnK]
    by_cases e : i = k
    · subst e
      rw [List.getElem?_set_self (by rw [turnK_len]; exact hl)]
    · rw [List.getElem?_set_ne (by omega), turnK_near l a m k i (by omega) hl]
theorem turnK_take (l : List UInt8) (a m k : Nat) : (turnK l a m k).take a = l.take a := by
  apply List.ext_getElem?
  intro j
  by_cases h : j < a
  · rw [List.getElem?_take_of_lt h, List.getElem?_take_of_lt h, turnK_far l a m k j (.inl h)]
  · rw [List.getElem?_take_eq_none (by omega), List.getElem?_take_eq_none (by omega)]
theorem turnK_drop (l : List UInt8) (a m k : Nat) (h4 : k ≤ 4) : (turnK l a m k).drop (a + 4) = l.drop (a + 4) := by
  apply List.ext_getElem?
  intro j
  rw [List.getElem?_drop, List.getElem?_drop, turnK_far l a m k _ (.inr (by omega))]
theorem turnK_same (l : List UInt8) (a m : Nat) : ∀ k, chg m k = false → turnK l a m k = l
  | 0, _ => rfl
  | k + 1, h => by
    simp only [chg, Bool.or_eq_false_iff, bne_eq_false_iff_eq] at h
    rw [turnK, turnK_same l a m k h.1, h.2, UInt8.xor_zero]
    by_cases hl : a + k < l.length
    · rw [List.getD_eq_getElem?_getD, List.getElem?_eq_getElem hl]
      exact List.set_getElem_self hl
    · rw [List.set_eq_of_length_le (by omega)]
theorem turnK_other (l : List UInt8) (a m : Nat) : ∀ k, a + k ≤ l.length → chg m k = true → turnK l a m k ≠ l := by
  intro k hk h e
  have : ∃ i, i < k ∧ xb m i ≠ 0 := by
    clear e hk
    induction k with
    | zero => cases h
    | succ k ih =>
      simp only [chg, Bool.or_eq_true, bne_iff_ne] at h
      rcases h with h | h
      · obtain ⟨i, hi, hx⟩ := ih h
        exact ⟨i, by omega, hx⟩
      · exact ⟨k, by omega, h⟩
  obtain ⟨i, hi, hx⟩ := this
  have h1 := turnK_near l a m k i hi (by omega)
  rw [e, List.getD_eq_getElem?_getD, List.getElem?_eq_getElem (show a + i < l.length by omega)] at h1
  injection h1 with h1
  apply hx
  have h2 := congrArg UInt8.toNat h1
  rw [UInt8.toNat_xor] at h2
  apply UInt8.toNat_inj.1
  have h3 : (l[a + i]'(by omega)).toNat ^^^ 0 = (l[a + i]'(by omega)).toNat ^^^ (xb m i).toNat := by rw [Nat.xor_zero]; exact h2
  exact (xor_cancel_l h3).symm
/-- A block that holds these bytes at its head; they are not frozen. -/
def BytesIn (w : World) (g : Nat) (l : List UInt8) : Prop := ∃ cs fr, w.heap[g]? = some (.cells cs 5 fr) ∧ l.length ≤ fr.1 ∧ ∀ j (h : j < l.length), cs[j]? = some (.int .u8 (l[j].toNat : Int))
theorem BytesIn.cell {w : World} {g : Nat} {l : List UInt8} (h : BytesIn w g l) (j : Nat) (hj : j < l.length) : w.cell? ⟨g, j, none⟩ = some (.int .u8 (l[j].toNat : Int)) := by
  obtain ⟨cs, fr, h1, h2, h3⟩ := h
  rw [cell_of_row w g j cs _ fr h1, h3 j hj]
theorem BytesIn.free {w : World} {g : Nat} {l : List UInt8} (h : BytesIn w g l) (j : Nat) (hj : j < l.length) : w.frozen? ⟨g, j, none⟩ = false := by
  obtain ⟨cs, fr, h1, h2, h3⟩ := h
  unfold World.frozen?
  rw [h1]
  simp
  omega
theorem BytesIn.set {w : World} {g : Nat} {l : List UInt8} (h : BytesIn w g l) (j : Nat) (x : UInt8) : BytesIn (w.setCell ⟨g, j, none⟩ (.int .u8 (x.toNat : Int))) g (l.set j x) := by
  obtain ⟨cs, fr, h1, h2, h3⟩ := h
  refine ⟨_, fr, Go.Lib.heap_setCell_same h1 _, by rw [List.length_set]; exact h2, fun i hi => ?_⟩
  rw [List.length_set] at hi
  have h4 := h3 i hi
  have hs : i < cs.size := by
    rcases Nat.lt_or_ge i cs.size with q | q
    · exact q
    · rw [Array.getElem?_eq_none q] at h4; cases h4
  rw [Array.getElem?_setIfInBounds]
  by_cases e : j = i
  · subst e
    rw [if_pos rfl, if_pos hs]
    simp
  · rw [if_neg e, h4]
    simp [List.getElem_set_ne e]
theorem BytesIn.new (w : World) (s : ByteArray) (cap : Nat) (hc : s.size ≤ cap) : BytesIn (w.alloc (.cells (bytesRow s cap) 5 ((bytesRow s cap).size, (bytesRow s cap).size + 1))) w.heap.size s.data.toList := by
  refine ⟨_, _, heap_alloc_new w _, ?_, fun j hj => ?_⟩
  · rw [ba_sz]
    unfold bytesRow
    rw [Array.size_append, Array.size_map]
    exact Nat.le_add_right _ _
  · rw [bytesRow_at s cap j (by simpa using hj)]
    simp
theorem xor8 (a b : UInt8) : bits .xor .u8 (a.toNat : Int) (b.toNat : Int) = (((a ^^^ b).toNat : Nat) : Int) := by
  have e : (BitVec.ofNat 8 a.toNat ^^^ BitVec.ofNat 8 b.toNat).toNat = a.toNat ^^^ b.toNat := by
    rw [BitVec.toNat_xor, BitVec.toNat_ofNat, BitVec.toNat_ofNat, Nat.mod_eq_of_lt a.toNat_lt, Nat.mod_eq_of_lt b.toNat_lt]
  have e2 : bits .xor .u8 (a.toNat : Int) (b.toNat : Int) = IntKind.u8.wrap ((BitVec.ofNat 8 a.toNat ^^^ BitVec.ofNat 8 b.toNat).toNat : Nat) := by
    simp only [bits, BitVec.ofInt_natCast]
    rfl
  have hlt : a.toNat ^^^ b.toNat < 2 ^ 8 := Nat.xor_lt_two_pow a.toNat_lt b.toNat_lt
  rw [e2, e, IntKind.wrap_u8, UInt8.toNat_xor]
  omega
end Go.Proofs.Ytmehohpboliibaa
