/- The walk of the document's check sum: bit by bit. -/
import Derived.Test.YtmehohpboliibaaMore
namespace Go.Proofs.Ytmehohpboliibaa
open Go.RowKit
set_option linter.unusedVariables false

theorem ref_bit (z y : Nat) : ((z ^^^ y) % 2 = y % 2 → (z ^^^ y) / 2 = b1 z ^^^ (y >>> 1)) ∧ ((z ^^^ y) % 2 ≠ y % 2 → ((z ^^^ y) / 2) ^^^ poly = b1 z ^^^ (y >>> 1)) := by
  have hm := xor_mod2 z y
  have hs : (z ^^^ y) / 2 = (z >>> 1) ^^^ (y >>> 1) := by
    rw [← Nat.shiftRight_xor_distrib, Nat.shiftRight_succ, Nat.shiftRight_zero]
  have hx := Nat.mod_two_eq_zero_or_one (z ^^^ y)
  have hy := Nat.mod_two_eq_zero_or_one y
  constructor
  · intro h
    have hz : ¬ z % 2 = 1 := by
      rcases hx with hx | hx <;> rcases hy with hy | hy <;> simp_all
    unfold b1
    rw [if_neg hz, Nat.xor_zero, hs]
  · intro h
    have hz : z % 2 = 1 := by
      rcases hx with hx | hx <;> rcases hy with hy | hy <;> simp_all
    unfold b1
    rw [if_pos hz, hs, Nat.xor_assoc, Nat.xor_comm (y >>> 1), ← Nat.xor_assoc]
set_option maxRecDepth 100000 in
set_option maxHeartbeats 3200000 in
theorem rmore_c (c : Nat) (hc : c < 4294967296) (s : ByteArray) (hz : s.size ≤ 140737488351232) (w : World) :
    Calls Try.prog 53 #[.int .u32 (c : Int), .string s] w fun e w' => e = .returned (.int .u32 ((moreSum c s : Nat) : Int)) ∧ ∃ n, w' = w.drewN n := by
  have ex : bits .xor .u32 (c : Int) 4294967295 = ((c ^^^ 4294967295 : Nat) : Int) := xor32 c 4294967295 hc (by decide)
  have hc2 : c ^^^ 4294967295 < 4294967296 := Nat.xor_lt_two_pow (n := 32) hc (by decide)
  have HL := As.mk hc2
  clear hc2 hc
  unfold moreSum
  generalize c ^^^ 4294967295 = c0 at *
  go_enter Try.func53, Try.ntmps53
  go_wp2_with fail
  clear ex
  go_loopw [5, 6] (fun z i wr => ∃ j : Nat, j ≤ s.size ∧ z = .int .u32 ((runSum c0 (s.data.toList.take j) : Nat) : Int) ∧ i = .int .i64 j ∧ ∃ n, wr = w.drewN n) (fun _ i _ => s.size - (intOf i).toNat)
  case atStart => exact ⟨0, Nat.zero_le _, rfl, rfl, 0, rfl⟩
  case round =>
    obtain ⟨j, hj, rfl, rfl, nd, rfl⟩ := hrel
    by_cases hjl : j < s.size
    · have hltJ : (j : Int) < (s.size : Int) := by omega
      have hj0 : (0 : Int) ≤ (j : Int) := by omega
      have hb := (s[j]'hjl).toNat_lt
      have zl := runSum_lt HL.out (s.data.toList.take j)
      have EZ := As.mk (show runSum c0 (s.data.toList.take (j + 1)) = byteStep (runSum c0 (s.data.toList.take j)) s[j] by rw [ba_snoc s j hjl, runSum_append]; rfl)
      generalize runSum c0 (s.data.toList.take j) = z at *
      have hwr : IntKind.u32.wrap ((s[j]'hjl).toNat : Int) = ((s[j]'hjl).toNat : Int) := wraps_u32n _ (by omega) (by omega)
      have EB := As.mk (show byteStep z s[j] = bN 8 (z ^^^ (s[j]'hjl).toNat) from rfl)
      have ql : z ^^^ (s[j]'hjl).toNat < 4294967296 := Nat.xor_lt_two_pow (n := 32) zl (by omega)
      have EQ := As.mk (show z = z ^^^ (s[j]'hjl).toNat ^^^ (s[j]'hjl).toNat by rw [Nat.xor_assoc, Nat.xor_self, Nat.xor_zero])
      have XL := As.mk hb
      clear hb zl
      go_wp2_with fail
      go_loopw [5, 7] (fun v i w3 => ∃ k : Nat, k ≤ 8 ∧ v = .int .u32 ((bN k (z ^^^ (s[j]'hjl).toNat) ^^^ ((s[j]'hjl).toNat >>> k) : Nat) : Int) ∧ i = .int .i64 k ∧ ∃ n, w3 = w.drewN n) (fun _ i _ => 8 - (intOf i).toNat)
      case atStart => exact ⟨0, Nat.zero_le _, congrArg (fun t : Nat => Value.int .u32 (t : Int)) EQ.out, rfl, _, rfl⟩
      case round =>
        obtain ⟨k, hk, rfl, rfl, nd2, rfl⟩ := hrel
        by_cases hk8 : k < 8
        · have hk8I : (k : Int) < 8 := by omega
          have hk0 : (0 : Int) ≤ (k : Int) := by omega
          have hk32 : (k : Int) ≤ 32 := by omega
          have wk : IntKind.u64.wrap (k : Int) = (k : Int) := by
            have hw : ∀ n : Int, IntKind.u64.wrap n = n % 18446744073709551616 := fun n => by simp [IntKind.wrap, IntKind.bits, IntKind.signed]
            rw [hw]; omega
          have hq := bN_lt k ql
          have EN := As.mk (show bN (k + 1) (z ^^^ (s[j]'hjl).toNat) = b1 (bN k (z ^^^ (s[j]'hjl).toNat)) from rfl)
          have EY := As.mk (show (s[j]'hjl).toNat >>> (k + 1) = ((s[j]'hjl).toNat >>> k) >>> 1 from Nat.shiftRight_add _ _ _)
          have yl : (s[j]'hjl).toNat >>> k < 4294967296 := by
            rw [Nat.shiftRight_eq_div_pow]
            have h9 := Nat.div_le_self (s[j]'hjl).toNat (2 ^ k)
            have := XL.out
            omega
          have sy : ((s[j]'hjl).toNat : Int) / 2 ^ k = (((s[j]'hjl).toNat >>> k : Nat) : Int) := by
            rw [Nat.shiftRight_eq_div_pow]
            simp
          generalize bN k (z ^^^ (s[j]'hjl).toNat) = q at *
          generalize (s[j]'hjl).toNat >>> k = y at *
          have rb := ref_bit q y
          have cl : q ^^^ y < 4294967296 := Nat.xor_lt_two_pow (n := 32) hq yl
          have a1 := and32_1 y yl
          have a2 := and32_1 (q ^^^ y) cl
          have xp := xor32 ((q ^^^ y) / 2) poly (by omega) (by decide)
          have xp : bits .xor .u32 (((q ^^^ y : Nat) : Int) / 2) 3988292384 = (((q ^^^ y) / 2 ^^^ poly : Nat) : Int) := xp
          have dv : ((q ^^^ y : Nat) : Int) / 2 = (((q ^^^ y) / 2 : Nat) : Int) := rfl
          have hx := Nat.mod_two_eq_zero_or_one (q ^^^ y)
          have hy := Nat.mod_two_eq_zero_or_one y
          have RB := As.mk rb
          have DV := As.mk dv
          clear rb ql hq dv yl cl
          generalize q ^^^ y = v at *
          rcases hx with hx | hx
          · rw [hx] at a2
            rcases hy with hy | hy <;> rw [hy] at a1
            · have RE := As.mk (RB.out.1 (by rw [hx, hy]))
              clear xp hx hy RB
              go_wp2_with fail
              go_roundw
              case measure => simp [intOf]; omega
              case rel => exact ⟨k + 1, by omega, by rw [EN.out, EY.out, ← RE.out]; rfl, by go_num, _, rfl⟩
            · have RE := As.mk (RB.out.2 (by rw [hx, hy]; decide))
              clear hx hy RB
              go_wp2_with fail
              go_roundw
              case measure => simp [intOf]; omega
              case rel => exact ⟨k + 1, by omega, by rw [EN.out, EY.out, ← RE.out], by go_num, _, rfl⟩
          · rw [hx] at a2
            rcases hy with hy | hy <;> rw [hy] at a1
            · have RE := As.mk (RB.out.2 (by rw [hx, hy]; decide))
              clear hx hy RB
              go_wp2_with fail
              go_roundw
              case measure => simp [intOf]; omega
              case rel => exact ⟨k + 1, by omega, by rw [EN.out, EY.out, ← RE.out], by go_num, _, rfl⟩
            · have RE := As.mk (RB.out.1 (by rw [hx, hy]))
              clear xp hx hy RB
              go_wp2_with fail
              go_roundw
              case measure => simp [intOf]; omega
              case rel => exact ⟨k + 1, by omega, by rw [EN.out, EY.out, ← RE.out]; rfl, by go_num, _, rfl⟩
        · obtain rfl : k = 8 := by omega
          have e8 : (s[j]'hjl).toNat >>> 8 = 0 := by
            rw [Nat.shiftRight_eq_div_pow]
            have := XL.out
            omega
          rw [e8, Nat.xor_zero, ← EB.out, ← EZ.out]
          go_wp2_with fail
          go_roundw
          case measure => simp [intOf]; omega
          case rel => exact ⟨j + 1, by omega, rfl, by go_num, _, rfl⟩
    · obtain rfl : j = s.size := by omega
      rw [ba_all]
      have e1 := xor32 (runSum c0 s.data.toList) 4294967295 (runSum_lt HL.out _) (by decide)
      have e1 : bits .xor .u32 ((runSum c0 s.data.toList : Nat) : Int) 4294967295 = ((runSum c0 s.data.toList ^^^ 4294967295 : Nat) : Int) := e1
      go_wp2
      go_ret
      exact ⟨rfl, _, rfl⟩
end Go.Proofs.Ytmehohpboliibaa
