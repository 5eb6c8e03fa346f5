/- Plain words on the check sum: bit by bit, half a byte at once. -/
import Derived.Test.YtmehohpboliibaaBase
import Derived.Laws.BitsLemmas
namespace Go.Proofs.Ytmehohpboliibaa
set_option linter.unusedVariables false

def poly : Nat := 3988292384
/-- A sum's next state, by one bit. -/
def b1 (c : Nat) : Nat := (c >>> 1) ^^^ (if c % 2 = 1 then poly else 0)
def bN : Nat → Nat → Nat
  | 0, c => c
  | k + 1, c => b1 (bN k c)
theorem bN_add (j : Nat) : ∀ k c, bN (j + k) c = bN j (bN k c) := by
  induction j with
  | zero => intro k c; rw [Nat.zero_add]; rfl
  | succ j ih => intro k c; rw [Nat.add_right_comm]; show b1 (bN (j + k) c) = b1 (bN j (bN k c)); rw [ih]
theorem xor_mod2 (a b : Nat) : (a ^^^ b) % 2 = 1 ↔ ¬ (a % 2 = 1 ↔ b % 2 = 1) := by
  have h1 := Nat.testBit_xor a b 0
  simp only [Nat.testBit_zero] at h1
  by_cases ha : a % 2 = 1 <;> by_cases hb : b % 2 = 1 <;> simp [ha, hb] at h1 ⊢ <;> omega
theorem b1_xor (a b : Nat) : b1 (a ^^^ b) = b1 a ^^^ b1 b := by
  unfold b1
  rw [Nat.shiftRight_xor_distrib]
  have h := xor_mod2 a b
  by_cases ha : a % 2 = 1 <;> by_cases hb : b % 2 = 1
  · rw [if_neg (by rw [h]; simp [ha, hb]), if_pos ha, if_pos hb, Nat.xor_zero]
    rw [Nat.xor_assoc, ← Nat.xor_assoc poly, Nat.xor_comm poly, Nat.xor_assoc, Nat.xor_self, Nat.xor_zero]
  · rw [if_pos (by rw [h]; simp [ha, hb]), if_pos ha, if_neg hb, Nat.xor_zero]
    rw [Nat.xor_assoc, Nat.xor_comm _ poly, ← Nat.xor_assoc]
  · rw [if_pos (by rw [h]; simp [ha, hb]), if_neg ha, if_pos hb, Nat.xor_zero]
    rw [Nat.xor_assoc]
  · rw [if_neg (by rw [h]; simp [ha, hb]), if_neg ha, if_neg hb, Nat.xor_zero, Nat.xor_zero, Nat.xor_zero]
theorem bN_xor (k : Nat) : ∀ a b, bN k (a ^^^ b) = bN k a ^^^ bN k b := by
  induction k with
  | zero => intro a b; rfl
  | succ k ih => intro a b; show b1 (bN k (a ^^^ b)) = _; rw [ih, b1_xor]; rfl
theorem b1_even (y : Nat) : b1 (2 * y) = y := by
  unfold b1
  rw [if_neg (by omega), Nat.xor_zero, Nat.shiftRight_succ, Nat.shiftRight_zero]
  omega
theorem split16 (c : Nat) : c = (16 * (c / 16)) ^^^ (c % 16) := by
  have h := Nat.two_pow_add_eq_or_of_lt (show c % 16 < 2 ^ 4 from Nat.mod_lt _ (by decide)) (c / 16)
  apply Nat.eq_of_testBit_eq
  intro i
  rw [Nat.testBit_xor]
  have e16 : 16 * (c / 16) = (c / 16) <<< 4 := by rw [Nat.shiftLeft_eq]; omega
  have e2 : c / 16 = c >>> 4 := by rw [Nat.shiftRight_eq_div_pow]
  rw [e16, e2, Nat.testBit_shiftLeft, Nat.testBit_shiftRight, show (16 : Nat) = 2 ^ 4 from rfl, Nat.testBit_mod_two_pow]
  by_cases hi : 4 ≤ i
  · simp [hi, show ¬ i < 4 by omega]
  · simp [hi, show i < 4 by omega]
theorem bN4_high (y : Nat) : bN 4 (16 * y) = y := by
  show b1 (b1 (b1 (b1 (16 * y)))) = y
  rw [show 16 * y = 2 * (2 * (2 * (2 * y))) by omega, b1_even, b1_even, b1_even, b1_even]
/-- Half a byte at once. -/
theorem half (c : Nat) : bN 4 c = (c / 16) ^^^ bN 4 (c % 16) := by
  conv => lhs; rw [split16 c]
  rw [bN_xor, bN4_high]
theorem b1_lt {c : Nat} (h : c < 4294967296) : b1 c < 4294967296 := by
  unfold b1
  have h1 : c >>> 1 < 2 ^ 32 := by rw [Nat.shiftRight_succ, Nat.shiftRight_zero]; omega
  have h2 : (if c % 2 = 1 then poly else 0) < 2 ^ 32 := by split <;> decide
  exact Nat.xor_lt_two_pow h1 h2
theorem bN_lt (k : Nat) {c : Nat} (h : c < 4294967296) : bN k c < 4294967296 := by
  induction k with
  | zero => exact h
  | succ k ih => exact b1_lt ih
/-- A sum's next state, by one byte. -/
def byteStep (c : Nat) (x : UInt8) : Nat := bN 8 (c ^^^ x.toNat)
def runSum (c : Nat) (l : List UInt8) : Nat := l.foldl byteStep c
theorem byteStep_lt {c : Nat} (h : c < 4294967296) (x : UInt8) : byteStep c x < 4294967296 := by
  refine bN_lt 8 (Nat.xor_lt_two_pow (n := 32) h ?_)
  have := x.toNat_lt
  omega
theorem runSum_lt {c : Nat} (h : c < 4294967296) (l : List UInt8) : runSum c l < 4294967296 := by
  induction l generalizing c with
  | nil => exact h
  | cons x r ih => exact ih (byteStep_lt h x)
theorem runSum_append (c : Nat) (l r : List UInt8) : runSum c (l ++ r) = runSum (runSum c l) r := List.foldl_append
theorem byteStep_halves (c : Nat) (x : UInt8) : byteStep c x = bN 4 (bN 4 (c ^^^ x.toNat)) := bN_add 4 4 _
/-- The sum with a text behind. -/
def moreSum (c : Nat) (s : ByteArray) : Nat := runSum (c ^^^ 4294967295) s.data.toList ^^^ 4294967295
theorem moreSum_lt {c : Nat} (h : c < 4294967296) (s : ByteArray) : moreSum c s < 4294967296 :=
  Nat.xor_lt_two_pow (n := 32) (runSum_lt (Nat.xor_lt_two_pow (n := 32) h (by decide)) _) (by decide)

theorem wraps_u32n (n : Int) (h₀ : 0 ≤ n) (h₁ : n < 2 ^ 32) : IntKind.u32.wrap n = n := by rw [IntKind.wrap_u32]; omega
theorem xor32 (a b : Nat) (ha : a < 4294967296) (hb : b < 4294967296) : bits .xor .u32 (a : Int) (b : Int) = ((a ^^^ b : Nat) : Int) := by
  have ha' : a % 2 ^ 32 = a := Nat.mod_eq_of_lt ha
  have hb' : b % 2 ^ 32 = b := Nat.mod_eq_of_lt hb
  have h : a ^^^ b < 2 ^ 32 := Nat.xor_lt_two_pow ha hb
  have e : (BitVec.ofNat 32 a ^^^ BitVec.ofNat 32 b).toNat = a ^^^ b := by rw [BitVec.toNat_xor, BitVec.toNat_ofNat, BitVec.toNat_ofNat, ha', hb']
  have e2 : bits .xor .u32 (a : Int) (b : Int) = IntKind.u32.wrap ((BitVec.ofNat 32 a ^^^ BitVec.ofNat 32 b).toNat : Nat) := by
    simp only [bits, BitVec.ofInt_natCast]
    rfl
  rw [e2, e]
  exact wraps_u32n _ (Int.natCast_nonneg _) (by exact_mod_cast h)
theorem and32_1 (a : Nat) (ha : a < 4294967296) : bits .and .u32 (a : Int) 1 = ((a % 2 : Nat) : Int) := by
  have := bits_mask .u32 32 (by decide) wraps_u32n 1 (by decide) (a : Int) (by omega) (by omega)
  simpa using this
theorem and32_15 (a : Nat) (ha : a < 4294967296) : bits .and .u32 (a : Int) 15 = ((a % 16 : Nat) : Int) := by
  have := bits_mask .u32 32 (by decide) wraps_u32n 4 (by decide) (a : Int) (by omega) (by omega)
  simpa using this
end Go.Proofs.Ytmehohpboliibaa
