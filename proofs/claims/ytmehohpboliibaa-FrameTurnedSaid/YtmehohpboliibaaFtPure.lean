/- Plain words on the check sum: up to four bytes side by side that are others make another sum. -/
import Derived.Test.YtmehohpboliibaaFpure
namespace Go.Proofs.Ytmehohpboliibaa
open Go.RowKit
set_option linter.unusedVariables false

def leNat : List UInt8 → Nat
  | [] => 0
  | x :: r => x.toNat + 256 * leNat r
theorem leNat_lt : ∀ l : List UInt8, leNat l < 256 ^ l.length
  | [] => by decide
  | x :: r => by
    have := leNat_lt r
    have h := x.toNat_lt
    rw [leNat, List.length_cons, Nat.pow_succ]
    omega
theorem leNat_inj : ∀ (l m : List UInt8), l.length = m.length → leNat l = leNat m → l = m
  | [], [], _, _ => rfl
  | [], _ :: _, h, _ => by simp at h
  | _ :: _, [], h, _ => by simp at h
  | x :: r, y :: t, h, e => by
    have h1 := x.toNat_lt
    have h2 := y.toNat_lt
    simp only [leNat] at e
    have e1 : x.toNat = y.toNat := by omega
    have e2 : leNat r = leNat t := by omega
    rw [UInt8.toNat_inj.1 e1, leNat_inj r t (by simpa using h) e2]
theorem split256 (c : Nat) : c = (256 * (c / 256)) ^^^ (c % 256) := by
  apply Nat.eq_of_testBit_eq
  intro i
  rw [Nat.testBit_xor]
  have e16 : 256 * (c / 256) = (c / 256) <<< 8 := by rw [Nat.shiftLeft_eq]; omega
  have e2 : c / 256 = c >>> 8 := by rw [Nat.shiftRight_eq_div_pow]
  rw [e16, e2, Nat.testBit_shiftLeft, Nat.testBit_shiftRight, show (256 : Nat) = 2 ^ 8 from rfl, Nat.testBit_mod_two_pow]
  by_cases hi : 8 ≤ i
  · simp [hi, show ¬ i < 8 by omega]
  · simp [hi, show i < 8 by omega]
theorem bN8_high (y : Nat) : bN 8 (256 * y) = y := by
  rw [show (8 : Nat) = 4 + 4 from rfl, bN_add, show 256 * y = 16 * (16 * y) by omega, bN4_high, bN4_high]
/-- The bytes' sum is that of one number. -/
theorem runSum_bN : ∀ (l : List UInt8) (c : Nat), runSum c l = bN (8 * l.length) (c ^^^ leNat l)
  | [], c => by rw [show leNat [] = 0 from rfl, Nat.xor_zero]; rfl
  | x :: r, c => by
    have h1 : runSum c (x :: r) = runSum (byteStep c x) r := rfl
    have hx := x.toNat_lt
    have e : leNat (x :: r) = (256 * leNat r) ^^^ x.toNat := by
      have := split256 (leNat (x :: r))
      rw [show leNat (x :: r) / 256 = leNat r by rw [leNat]; omega, show leNat (x :: r) % 256 = x.toNat by rw [leNat]; omega] at this
      exact this
    rw [h1, runSum_bN r, List.length_cons, show 8 * (r.length + 1) = 8 * r.length + 8 by omega, bN_add, e]
    congr 1
    rw [Nat.xor_comm (256 * leNat r), ← Nat.xor_assoc, bN_xor, bN8_high]
    rfl
theorem b1_zero (z : Nat) (hz : z < 4294967296) (h : b1 z = 0) : z = 0 := by
  unfold b1 at h
  have hs : z >>> 1 = z / 2 := by rw [Nat.shiftRight_succ, Nat.shiftRight_zero]
  by_cases h1 : z % 2 = 1
  · rw [if_pos h1] at h
    have : z >>> 1 = poly := by
      have h2 := congrArg (· ^^^ poly) h
      simpa [Nat.xor_assoc] using h2
    rw [hs] at this
    unfold poly at this
    omega
  · rw [if_neg h1, Nat.xor_zero, hs] at h
    omega
theorem xor_zero_eq {a b : Nat} (h : a ^^^ b = 0) : a = b := by
  have h2 := congrArg (· ^^^ b) h
  simpa [Nat.xor_assoc] using h2
theorem b1_inj {a b : Nat} (ha : a < 4294967296) (hb : b < 4294967296) (h : b1 a = b1 b) : a = b := by
  apply xor_zero_eq
  apply b1_zero _ (Nat.xor_lt_two_pow (n := 32) ha hb)
  rw [b1_xor, h, Nat.xor_self]
theorem bN_inj : ∀ (k : Nat) {a b : Nat}, a < 4294967296 → b < 4294967296 → bN k a = bN k b → a = b
  | 0, _, _, _, _, h => h
  | k + 1, _, _, ha, hb, h => bN_inj k ha hb (b1_inj (bN_lt k ha) (bN_lt k hb) h)
theorem xor_cancel {a b c : Nat} (h : a ^^^ c = b ^^^ c) : a = b := by
  have h2 := congrArg (· ^^^ c) h
  simpa [Nat.xor_assoc] using h2
theorem xor_cancel_l {a b c : Nat} (h : c ^^^ a = c ^^^ b) : a = b := by
  rw [Nat.xor_comm c, Nat.xor_comm c] at h
  exact xor_cancel h
theorem runSum_inj_state : ∀ (l : List UInt8) {a b : Nat}, a < 4294967296 → b < 4294967296 → runSum a l = runSum b l → a = b
  | [], _, _, _, _, h => h
  | x :: r, a, b, ha, hb, h => by
    have h1 := runSum_inj_state r (byteStep_lt ha x) (byteStep_lt hb x) h
    have hx : x.toNat < 4294967296 := by have := x.toNat_lt; omega
    exact xor_cancel (bN_inj 8 (Nat.xor_lt_two_pow (n := 32) ha hx) (Nat.xor_lt_two_pow (n := 32) hb hx) h1)
theorem runSum_inj_four {c : Nat} (hc : c < 4294967296) (l m : List UInt8) (hl : l.length = m.length) (h4 : l.length ≤ 4) (h : runSum c l = runSum c m) : l = m := by
  have b1 : ∀ q : List UInt8, q.length ≤ 4 → leNat q < 4294967296 := fun q hq => by
    have h1 := leNat_lt q
    have h2 : 256 ^ q.length ≤ 256 ^ 4 := Nat.pow_le_pow_right (by decide) hq
    omega
  rw [runSum_bN, runSum_bN, hl] at h
  have h5 := bN_inj _ (Nat.xor_lt_two_pow (n := 32) hc (b1 l h4)) (Nat.xor_lt_two_pow (n := 32) hc (b1 m (by omega))) h
  exact leNat_inj l m hl (xor_cancel_l h5)
theorem leNat_le4 (m : Nat) (hm : m < 4294967296) : leNat (le4 m).data.toList = m := by
  show leNat [m.toUInt8, (m / 256).toUInt8, (m / 65536).toUInt8, (m / 16777216).toUInt8] = m
  have e0 : m.toUInt8.toNat = m % 256 := by simp
  have e1 : (m / 256).toUInt8.toNat = m / 256 % 256 := by simp
  have e2 : (m / 65536).toUInt8.toNat = m / 65536 % 256 := by simp
  have e3 : (m / 16777216).toUInt8.toNat = m / 16777216 % 256 := by simp
  simp only [leNat, e0, e1, e2, e3]
  omega
/-- Behind a text and its sum the sum's state is always the same. -/
theorem residue (a : ByteArray) : runSum 4294967295 (a ++ le4 (moreSum 0 a)).data.toList = bN 32 4294967295 := by
  rw [ba_app, runSum_append, runSum_bN, leNat_le4 _ (moreSum_lt (by decide) a)]
  have e : moreSum 0 a = runSum 4294967295 a.data.toList ^^^ 4294967295 := by
    unfold moreSum
    rw [Nat.zero_xor]
  rw [e, ← Nat.xor_assoc, Nat.xor_self, Nat.zero_xor]
  rfl
/-- What is read as one whole frame: its sum's state is that. -/
theorem whole_state (s : ByteArray) (h : (openF s).2.2 = 0) (hr : (openF s).2.1 = ⟨#[]⟩) : runSum 4294967295 s.data.toList = bN 32 4294967295 := by
  unfold openF at h hr
  by_cases h6 : s.size < 6
  · rw [if_pos h6] at h; exact absurd h (by decide)
  · rw [if_neg h6] at h hr
    by_cases h4 : 4096 < hd s
    · rw [if_pos h4] at h; exact absurd h (by decide)
    · rw [if_neg h4] at h hr
      by_cases h5 : s.size < 6 + hd s
      · rw [if_pos h5] at h; exact absurd h (by decide)
      · rw [if_neg h5] at h hr
        split at h
        · rename_i hc
          rw [if_pos hc] at hr
          dsimp only at hr
          have hz := congrArg ByteArray.size hr
          rw [ByteArray.size_extract] at hz
          have hz0 : ByteArray.size ⟨#[]⟩ = 0 := rfl
          rw [hz0] at hz
          have hs : s.size = 6 + hd s := by omega
          have e : s = s.extract 0 (2 + hd s) ++ le4 (moreSum 0 (s.extract 0 (2 + hd s))) := by
            rw [hc, ext_ext s 0 _ _ (by omega) (by omega), ← hs, ByteArray.extract_zero_size]
          have hres := residue (s.extract 0 (2 + hd s))
          rw [← e] at hres
          exact hres
        · exact absurd h (by decide)
/-- Two whole frames that differ in up to four bytes side by side at most are the same. -/
theorem burst (a x y b : List UInt8) (hx : x.length = y.length) (h4 : x.length ≤ 4) (h : runSum 4294967295 (a ++ x ++ b) = runSum 4294967295 (a ++ y ++ b)) : x = y := by
  have ha := runSum_lt (c := 4294967295) (by decide) a
  rw [runSum_append, runSum_append, runSum_append, runSum_append] at h
  have h1 := runSum_inj_state b (runSum_lt ha x) (runSum_lt ha y) h
  exact runSum_inj_four ha x y hx h4 h1
/-- A frame of which some bytes are others, up to four, side by side: it's none, or there is a rest. -/
theorem turned_not (p : ByteArray) (hp : p.size ≤ 4096) (t : ByteArray) (i : Nat) (hi : i ≤ (frameOf p).size) (hsz : t.size = (frameOf p).size) (hpre : t.data.toList.take i = (frameOf p).data.toList.take i) (hsuf : t.data.toList.drop (i + 4) = (frameOf p).data.toList.drop (i + 4)) (hne : t ≠ frameOf p) :
    (openF t).2.2 ≠ 0 ∨ (openF t).2.1 ≠ ⟨#[]⟩ := by
  by_cases h0 : (openF t).2.2 = 0
  · right
    intro hr
    apply hne
    have w1 := whole_state t h0 hr
    have os := open_seal p ⟨#[]⟩ hp
    rw [show frameOf p ++ (⟨#[]⟩ : ByteArray) = frameOf p from ByteArray.append_empty] at os
    have w2 := whole_state (frameOf p) (by rw [os]) (by rw [os])
    have split : ∀ l : List UInt8, l = l.take i ++ (l.drop i).take 4 ++ l.drop (i + 4) := fun l => by
      rw [List.append_assoc, show l.drop (i + 4) = (l.drop i).drop 4 by rw [List.drop_drop], List.take_append_drop, List.take_append_drop]
    have lt : t.data.toList.length = (frameOf p).data.toList.length := by rw [ba_sz, ba_sz, hsz]
    have hb := burst (t.data.toList.take i) ((t.data.toList.drop i).take 4) (((frameOf p).data.toList.drop i).take 4) (t.data.toList.drop (i + 4)) (by simp only [List.length_take, List.length_drop, lt]) (by rw [List.length_take]; omega) (by
      rw [← split, w1]
      rw [hpre, hsuf, ← split, w2])
    apply ba_eq
    rw [split t.data.toList, hb, hpre, hsuf, ← split]
  · exact .inl h0
end Go.Proofs.Ytmehohpboliibaa
