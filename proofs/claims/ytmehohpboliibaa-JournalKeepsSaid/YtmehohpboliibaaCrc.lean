/- The walks of crc: step, halves. -/
import Derived.Test.YtmehohpboliibaaCrcMath
namespace Go.Proofs.Ytmehohpboliibaa
open Go.RowKit
set_option linter.unusedVariables false

theorem b1_int (c : Nat) (h : c < 4294967296) : (c % 2 = 1 → bits .xor .u32 ((c : Int) / 2) 3988292384 = ((b1 c : Nat) : Int)) ∧ (¬ c % 2 = 1 → (c : Int) / 2 = ((b1 c : Nat) : Int)) := by
  have hs : c >>> 1 = c / 2 := by rw [Nat.shiftRight_succ, Nat.shiftRight_zero]
  constructor
  · intro h1
    unfold b1
    rw [if_pos h1, hs]
    have := xor32 (c / 2) poly (by omega) (by decide)
    rw [← this]
    rfl
  · intro h1
    unfold b1
    rw [if_neg h1, hs, Nat.xor_zero]
    rfl
set_option maxHeartbeats 1600000 in
theorem crcstep_c (c : Nat) (hc : c < 4294967296) (w : World) : Calls Try.prog 72 #[.int .u32 (c : Int)] w fun e w' => e = .returned (.int .u32 ((bN 4 c : Nat) : Int)) ∧ ∃ n, w' = w.drewN n := by
  go_enter Try.func72, Try.ntmps72
  go_wp2_with fail
  go_loopw [0, 4] (fun s i wr => ∃ k : Nat, k ≤ 4 ∧ s = .int .u32 ((bN k c : Nat) : Int) ∧ i = .int .i64 k ∧ ∃ n, wr = w.drewN n) (fun _ i _ => 4 - (intOf i).toNat)
  case atStart => exact ⟨0, Nat.zero_le _, rfl, rfl, 0, rfl⟩
  case round =>
    obtain ⟨k, hk, rfl, rfl, nd, rfl⟩ := hrel
    have hl := bN_lt k hc
    have hb := b1_int (bN k c) hl
    have ea := and32_1 (bN k c) hl
    have EN := As.mk (show bN (k + 1) c = b1 (bN k c) from rfl)
    by_cases hlt : k < 4
    · have hltI : (k : Int) < 4 := by omega
      generalize bN k c = z at *
      by_cases h1 : z % 2 = 1
      · have hx := hb.1 h1
        have ea : bits .and .u32 (z : Int) 1 = 1 := by rw [ea, h1]; rfl
        clear hb h1 hl
        go_wp2_with fail
        go_roundw
        case measure => simp [intOf]; omega
        case rel => exact ⟨k + 1, by omega, by rw [EN.out], by go_num, _, rfl⟩
      · have hx := hb.2 h1
        have ea : bits .and .u32 (z : Int) 1 = 0 := by rw [ea, show z % 2 = 0 by omega]; rfl
        clear hb h1 hl
        go_wp2_with fail
        go_roundw
        case measure => simp [intOf]; omega
        case rel => exact ⟨k + 1, by omega, by rw [EN.out], by go_num, _, rfl⟩
    · obtain rfl : k = 4 := by omega
      clear hb ea hl
      go_wp2
      go_ret
      exact ⟨rfl, _, rfl⟩
end Go.Proofs.Ytmehohpboliibaa
