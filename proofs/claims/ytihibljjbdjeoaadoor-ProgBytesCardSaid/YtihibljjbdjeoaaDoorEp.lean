/- Plain: what Encode writes, and that reading it gives it back. -/
import Derived.Test.YtihibljjbdjeoaaDoorRq
import Derived.Test.YtihibljjbdjeoaaDoorWrb
import Derived.Test.YtihibljjbdjeoaaDoorLs
namespace Go.Proofs.YtihibljjbdjeoaaDoor
open Go.RowKit
set_option linter.unusedVariables false

def byteI (n : Int) : UInt8 := byteOf (n % 256)
theorem byteI_nat (n : Int) : (((byteI n).toNat : Nat) : Int) = n % 256 := byteOf_nat _ (by omega) (by omega)
/-- A number's eight bytes. -/
def enc8 (n : Int) : List UInt8 := [byteI (n / 72057594037927936), byteI (n / 281474976710656), byteI (n / 1099511627776), byteI (n / 4294967296), byteI (n / 16777216), byteI (n / 65536), byteI (n / 256), byteI n]
theorem enc8_len (n : Int) : (enc8 n).length = 8 := rfl
def encOp (x : POp) : List UInt8 := [byteI x.k, byteI x.r, byteI x.o, byteI x.c] ++ enc8 x.n
theorem encOp_len (x : POp) : (encOp x).length = 12 := rfl
def encOps (l : List POp) : List UInt8 := l.flatMap encOp
def encL (l : List POp) : List UInt8 := countBytes l.length ++ encOps l
theorem encOps_len (l : List POp) : (encOps l).length = 12 * l.length := by
  induction l with
  | nil => rfl
  | cons x l ih =>
    unfold encOps at *
    rw [List.flatMap_cons, List.length_append, ih, encOp_len, List.length_cons]
    omega
theorem encL_len (l : List POp) : (encL l).length = 2 + 12 * l.length := by
  unfold encL
  rw [List.length_append, encOps_len]
  rfl
theorem wrap64_val (n : Int) (h0 : 0 ≤ n) (h1 : n < 18446744073709551616) : IntKind.i64.wrap n = if n < 9223372036854775808 then n else n - 18446744073709551616 := by
  simp [IntKind.wrap, IntKind.bits, IntKind.signed]
  split <;> omega
theorem numL_eight (c0 c1 c2 c3 c4 c5 c6 c7 : UInt8) : numL [c0, c1, c2, c3, c4, c5, c6, c7] = (c0.toNat : Int) * 72057594037927936 + c1.toNat * 281474976710656 + c2.toNat * 1099511627776 + c3.toNat * 4294967296 + c4.toNat * 16777216 + c5.toNat * 65536 + c6.toNat * 256 + c7.toNat := by
  have h0 := c0.toNat_lt
  have h1 := c1.toNat_lt
  have h2 := c2.toNat_lt
  have h3 := c3.toNat_lt
  have h4 := c4.toNat_lt
  have h5 := c5.toNat_lt
  have h6 := c6.toNat_lt
  have h7 := c7.toNat_lt
  unfold numL
  simp only [List.foldl_cons, List.foldl_nil, numStep]
  omega
theorem u8_of_int (c : UInt8) (n : Int) (h : n % 256 = (c.toNat : Int)) : byteI n = c := by
  apply UInt8.toNat.inj
  have := byteI_nat n
  omega
theorem enc8_num (c0 c1 c2 c3 c4 c5 c6 c7 : UInt8) : enc8 (IntKind.i64.wrap (numL [c0, c1, c2, c3, c4, c5, c6, c7])) = [c0, c1, c2, c3, c4, c5, c6, c7] := by
  have hr := numL_range [c0, c1, c2, c3, c4, c5, c6, c7]
  have hv := numL_eight c0 c1 c2 c3 c4 c5 c6 c7
  have h0 := c0.toNat_lt
  have h1 := c1.toNat_lt
  have h2 := c2.toNat_lt
  have h3 := c3.toNat_lt
  have h4 := c4.toNat_lt
  have h5 := c5.toNat_lt
  have h6 := c6.toNat_lt
  have h7 := c7.toNat_lt
  rw [wrap64_val _ hr.1 hr.2]
  generalize numL [c0, c1, c2, c3, c4, c5, c6, c7] = N at *
  generalize hM : (if N < 9223372036854775808 then N else N - 18446744073709551616) = M
  have hM' : M = N ∨ M = N - 18446744073709551616 := by split at hM <;> omega
  clear hM
  unfold enc8
  rw [u8_of_int c0 _ (by omega), u8_of_int c1 _ (by omega), u8_of_int c2 _ (by omega), u8_of_int c3 _ (by omega), u8_of_int c4 _ (by omega), u8_of_int c5 _ (by omega), u8_of_int c6 _ (by omega), u8_of_int c7 _ (by omega)]
theorem num_enc8 (n : Int) (h : In64' n) : IntKind.i64.wrap (numL (enc8 n)) = n := by
  have hr := numL_range (enc8 n)
  rw [wrap64_val _ hr.1 hr.2]
  have hv : numL (enc8 n) = n % 18446744073709551616 := by
    unfold enc8
    rw [numL_eight]
    simp only [byteI_nat]
    omega
  rw [hv]
  obtain ⟨h0, h1⟩ := h
  split <;> omega
end Go.Proofs.YtihibljjbdjeoaaDoor
