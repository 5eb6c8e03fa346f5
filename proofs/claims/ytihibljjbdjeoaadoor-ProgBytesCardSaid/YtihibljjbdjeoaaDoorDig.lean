/- Plain: decimal numerals: what the document's Digits says is what strconv's Itoa says; a numeral tells its number; it has digits and a sign alone. -/
import Derived.Test.YtihibljjbdjeoaaDoorBase
import Derived.Lib.ItoaNum
import Derived.Lib.ItoaLen
namespace Go.Proofs.YtihibljjbdjeoaaDoor
open Go.RowKit
set_option linter.unusedVariables false

/-- A numeral's text. -/
def num (n : Int) : ByteArray := ⟨(Lib.itoa n).toArray⟩
theorem num_size (n : Int) (h0 : -9223372036854775808 ≤ n) (h1 : n ≤ 9223372036854775807) : (num n).size ≤ 21 := by
  have := Lib.itoa_length_le n h0 h1
  show (Lib.itoa n).toArray.size ≤ 21
  simpa using this
theorem num_ge (u : Nat) (h : 10 ≤ u) : num (u : Int) = num ((u / 10 : Nat) : Int) ++ num ((u % 10 : Nat) : Int) := by
  have e : Lib.itoa (u : Int) = Lib.itoa ((u / 10 : Nat) : Int) ++ Lib.itoa ((u % 10 : Nat) : Int) := by
    unfold Lib.itoa
    rw [if_neg (by omega), if_neg (by omega), if_neg (by omega)]
    simp only [Int.toNat_natCast]
    rw [Lib.decDigits, dif_neg (by omega), Lib.decDigits_one (i := u % 10) (by omega)]
  apply ByteArray.ext
  show (Lib.itoa (u : Int)).toArray = _
  rw [e, ByteArray.data_append]
  simp [num]
theorem num_small (u : Nat) (h : u < 10) : num (u : Int) = ⟨#[UInt8.ofNat (48 + u)]⟩ := by
  unfold num Lib.itoa
  rw [if_neg (by omega)]
  simp only [Int.toNat_natCast]
  rw [Lib.decDigits_one h]
theorem num_neg_small (u : Nat) (h0 : 0 < u) : num (-(u : Int)) = (⟨#[45]⟩ : ByteArray) ++ num (u : Int) := by
  apply ByteArray.ext
  rw [ByteArray.data_append]
  unfold num Lib.itoa
  rw [if_pos (by omega), if_neg (by omega)]
  simp
theorem num_neg_ge (u : Nat) (h : 10 ≤ u) : num (-(u : Int)) = num (-((u / 10 : Nat) : Int)) ++ num ((u % 10 : Nat) : Int) := by
  rw [num_neg_small u (by omega), num_ge u h, num_neg_small (u / 10) (by omega)]
  apply ByteArray.ext
  simp [ByteArray.data_append]

/-! ### A numeral tells its number -/
def digVal (l : List UInt8) : Nat := l.foldl (fun a b => a * 10 + (b.toNat - 48)) 0
theorem digit_nat {d : Nat} (h : d < 10) : (UInt8.ofNat (48 + d)).toNat = 48 + d := by
  rw [UInt8.toNat_ofNat']
  omega
theorem digVal_dec : ∀ u, digVal (Lib.decDigits u) = u
  | u => by
    rw [Lib.decDigits]
    split
    · rename_i h
      simp only [digVal, List.foldl_cons, List.foldl_nil]
      rw [digit_nat h]
      omega
    · rename_i h
      have ih := digVal_dec (u / 10)
      unfold digVal at *
      rw [List.foldl_append, ih]
      simp only [List.foldl_cons, List.foldl_nil]
      rw [digit_nat (by omega)]
      omega
termination_by u => u
theorem dec_digits : ∀ u, ∀ b ∈ Lib.decDigits u, 48 ≤ b.toNat ∧ b.toNat ≤ 57
  | u, b, hb => by
    rw [Lib.decDigits] at hb
    split at hb
    · rename_i h
      rw [List.mem_singleton.1 hb, digit_nat h]
      omega
    · rename_i h
      rcases List.mem_append.1 hb with hb | hb
      · exact dec_digits (u / 10) b hb
      · rw [List.mem_singleton.1 hb, digit_nat (by omega)]
        omega
termination_by u => u
theorem dec_ne (u : Nat) : Lib.decDigits u ≠ [] := by
  rw [Lib.decDigits]
  split <;> simp
theorem dec_inj {u v : Nat} (h : Lib.decDigits u = Lib.decDigits v) : u = v := by
  rw [← digVal_dec u, ← digVal_dec v, h]
theorem itoa_inj {n m : Int} (h : Lib.itoa n = Lib.itoa m) : n = m := by
  unfold Lib.itoa at h
  have head : ∀ u (l : List UInt8), Lib.decDigits u = 45 :: l → False := fun u l e => by
    have := dec_digits u 45 (by rw [e]; simp)
    have h45 : (45 : UInt8).toNat = 45 := rfl
    omega
  split at h
  · split at h
    · injection h with _ h
      have := dec_inj h
      omega
    · exact (head _ _ h.symm).elim
  · split at h
    · exact (head _ _ h).elim
    · have := dec_inj h
      omega
theorem itoa_bytes (n : Int) : ∀ b ∈ Lib.itoa n, b.toNat = 45 ∨ 48 ≤ b.toNat ∧ b.toNat ≤ 57 := by
  intro b hb
  unfold Lib.itoa at hb
  split at hb
  · rcases List.mem_cons.1 hb with rfl | hb
    · exact .inl rfl
    · exact .inr (dec_digits _ b hb)
  · exact .inr (dec_digits _ b hb)
/-- Parts that lie ahead of the first of a byte. -/
theorem split_at {c : UInt8} : ∀ {l m : List UInt8} {r s : List UInt8}, (∀ b ∈ l, b ≠ c) → (∀ b ∈ m, b ≠ c) → l ++ c :: r = m ++ c :: s → l = m ∧ r = s
  | [], [], r, s, _, _, h => by simpa using h
  | [], y :: m, r, s, _, hm, h => by
    simp at h
    exact absurd h.1.symm (hm y (by simp))
  | x :: l, [], r, s, hl, _, h => by
    simp at h
    exact absurd h.1 (hl x (by simp))
  | x :: l, y :: m, r, s, hl, hm, h => by
    simp at h
    obtain ⟨h1, h2⟩ := split_at (fun b hb => hl b (List.mem_cons_of_mem _ hb)) (fun b hb => hm b (List.mem_cons_of_mem _ hb)) h.2
    exact ⟨by rw [h.1, h1], h2⟩
theorem itoa_no {c : UInt8} (hc : c.toNat ≠ 45 ∧ (c.toNat < 48 ∨ 57 < c.toNat)) (n : Int) : ∀ b ∈ Lib.itoa n, b ≠ c := by
  rintro b hb rfl
  have := itoa_bytes n b hb
  omega
end Go.Proofs.YtihibljjbdjeoaaDoor
