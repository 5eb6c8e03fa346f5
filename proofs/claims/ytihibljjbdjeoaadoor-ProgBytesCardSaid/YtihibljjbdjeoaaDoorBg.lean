/- The walk of the document's Big. -/
import Derived.Test.YtihibljjbdjeoaaDoorNu
import Derived.Laws.MakeOwn
import Derived.OwnWalk
namespace Go.Proofs.YtihibljjbdjeoaaDoor
open Go.RowKit
set_option linter.unusedVariables false

/-- The lowest j bytes, the highest first. -/
def lowB (n : Nat) : Nat → List UInt8
  | 0 => []
  | j + 1 => (n / 256 ^ j).toUInt8 :: lowB n j
theorem lowB_len (n : Nat) : ∀ j, (lowB n j).length = j
  | 0 => rfl
  | j + 1 => by rw [lowB, List.length_cons, lowB_len n j]
def bigC (n K j : Nat) : List Value := List.replicate (K - j) (.int .u8 0) ++ byteVals (lowB n j)
theorem bigC_set (n K j : Nat) (h : j < K) : ((bigC n K j).set (K - 1 - j) (.int .u8 ((((n / 256 ^ j).toUInt8.toNat) : Nat) : Int))) = bigC n K (j + 1) := by
  unfold bigC
  obtain ⟨d, rfl⟩ : ∃ d, K = j + 1 + d := ⟨K - (j + 1), by omega⟩
  rw [show j + 1 + d - j = d + 1 by omega, show j + 1 + d - 1 - j = d by omega, show j + 1 + d - (j + 1) = d by omega, List.set_append_left _ _ (by simp), List.replicate_succ', List.set_append_right _ _ (by simp)]
  simp [lowB, byteVals]
theorem made_u8 (K : Nat) : madeCells (Value.cells (.int .u8 0)) K = Array.replicate K (Value.int .u8 0) := by
  unfold madeCells
  apply Array.ext
  · simp
  · intro i h1 h2
    simp [Value.cells, Nat.mod_one]
set_option maxRecDepth 100000 in
set_option maxHeartbeats 1600000 in
theorem big_c (n K : Nat) (hn : n < 18446744073709551616) (hK : K ≤ 8) (hK0 : 0 < K) (w : World) : Calls Tryd.prog 58 #[.int .u64 (n : Int), .int .i64 (K : Int)] w fun e w' => e = .returned (.string ⟨(lowB n K).toArray⟩) ∧ w.grownBy w' none := by
  have hq : (Tryd.prog.info? 5).map (fun i => (i.zero, i.size, i.bytes)) = some (some (.int .u8 0), 1, 1) := by kernel_rfl
  obtain ⟨i0, hi, hq2⟩ := Option.map_eq_some_iff.1 hq
  obtain ⟨hz0, hz3⟩ := Prod.mk.inj hq2
  obtain ⟨hz1, hz2⟩ := Prod.mk.inj hz3
  clear hq hq2 hz3
  have hmk := run_makeSlice (P := Tryd.prog) (w := w) 71 5 i0 (.int .u8 0) Tryd.underlying71 hi hz0 .i64 .i64 (K : Int) (K : Int) (by omega) (by omega) (by rw [hz1]; simp; omega) (by rw [hz2]; simp; omega) (by omega)
  rw [hz1, Nat.mul_one, Int.toNat_natCast, made_u8] at hmk
  clear hi hz0 hz1 hz2
  have hKI : (K : Int) ≤ 8 := by omega
  have hKI0 : (0 : Int) < (K : Int) := by omega
  go_enter Tryd.func58, Tryd.ntmps58
  go_wp2_with fail
  clear hmk
  have B0 : As (Blk (w.alloc (.cells (Array.replicate K (Value.int .u8 0)) 5)) w.heap.size 5 (bigC n K 0).toArray) := ⟨by have := Blk.new w 5 (Array.replicate K (Value.int .u8 0)); unfold bigC; simpa [lowB, byteVals] using this⟩
  have G0 : As (w.grownBy (w.alloc (.cells (Array.replicate K (Value.int .u8 0)) 5)) none) := ⟨gr_alloc (gr_refl _ _) _⟩
  obtain ⟨g, hg⟩ : ∃ g, g = w.heap.size := ⟨_, rfl⟩
  rw [← hg] at B0 ⊢
  have HE := As.mk hg
  clear hg
  generalize w.alloc (.cells (Array.replicate K (Value.int .u8 0)) 5) = W0 at *
  go_loopw [0, 6] (fun m i wr => ∃ j : Nat, j ≤ K ∧ m = .int .u64 ((n / 256 ^ j : Nat) : Int) ∧ i = .int .i64 ((K : Int) - 1 - (j : Int)) ∧ As (Blk wr g 5 (bigC n K j).toArray) ∧ As (w.grownBy wr none)) (fun _ i _ => (intOf i + 1).toNat)
  case atStart => exact ⟨0, Nat.zero_le _, by simp, by simp, B0, G0⟩
  case round =>
    clear B0 G0
    obtain ⟨j, hj, rfl, rfl, HB, HG⟩ := hrel
    by_cases hlt : j < K
    · have hltI : (0 : Int) ≤ (K : Int) - 1 - (j : Int) := by omega
      have hlt2 : (K : Int) - 1 - (j : Int) < (K : Int) := by omega
      have HS := As.mk (bigC_set n K j hlt)
      have HP := As.mk (show n / 256 ^ j / 256 = n / 256 ^ (j + 1) by rw [Nat.div_div_eq_div_mul, Nat.pow_succ])
      generalize hm : n / 256 ^ j = m at *
      have hm9 : m < 18446744073709551616 := by rw [← hm]; exact Nat.lt_of_le_of_lt (Nat.div_le_self _ _) hn
      clear hm
      have e2 : (m : Int).tmod 256 = ((m % 256 : Nat) : Int) := by rw [Int.tmod_eq_emod_of_nonneg (by omega)]; rfl
      have e3 : (m : Int).tdiv 256 = ((m / 256 : Nat) : Int) := by rw [Int.tdiv_eq_ediv_of_nonneg (by omega)]; rfl
      have ht : ((K : Int) - 1 - (j : Int)).toNat = K - 1 - j := by omega
      have c1 : wr.cell? ⟨g, K - 1 - j, none⟩ = some (.int .u8 0) := by
        rw [HB.out.cell]
        unfold bigC
        rw [List.getElem?_toArray, List.getElem?_append_left (by rw [List.length_replicate]; omega), List.getElem?_replicate, if_pos (by omega)]
      have f1 := HB.out.free (K - 1 - j)
      go_wp2_with fail
      have ev : (m : Int) % 256 = ((m.toUInt8.toNat : Nat) : Int) := by simp
      refine ⟨?rel, by simp [intOf]; omega⟩
      case rel => exact ⟨j + 1, by omega, by rw [← HP.out]; rfl, by go_num, ⟨by rw [ev, ← HS.out]; simpa using HB.out.set (K - 1 - j) _⟩, ⟨gr_set HG.out (.inr (by rw [HE.out]; exact Nat.le_refl _)) _⟩⟩
    · obtain rfl : j = K := by omega
      have hcv := run_convert_bytes_back (P := Tryd.prog) wr 71 9 5 ⟨g, 0, none⟩ j (lowB n j) Tryd.underlying71 Tryd.underlying5 Tryd.underlying9 (fun q hq => by
        rw [Go.WideShapes.add_plain, Nat.zero_add, HB.out.cell q]
        unfold bigC
        rw [Nat.sub_self]
        simp [byteVals, hq])
      rw [lowB_len] at hcv
      go_wp2_with fail
      go_ret
      exact ⟨rfl, HG.out⟩
end Go.Proofs.YtihibljjbdjeoaaDoor
