/- The walks of the document's frame: Big, Seal, Open. -/
import Derived.Test.YtmehohpboliibaaRmore
import Derived.Test.YtmehohpboliibaaFop
import Derived.Laws.MakeOwn
import Derived.OwnWalk
namespace Go.Proofs.Ytmehohpboliibaa
open Go.RowKit
set_option linter.unusedVariables false

def bigK (n k : Nat) : Array Value := #[.int .u8 (if 2 ≤ k then (((n / 256).toUInt8.toNat : Nat) : Int) else 0), .int .u8 (if 1 ≤ k then ((n.toUInt8.toNat : Nat) : Int) else 0)]
set_option maxRecDepth 100000 in
set_option maxHeartbeats 1600000 in
theorem big2_c (n : Nat) (hn : n < 18446744073709551616) (w : World) : Calls Try.prog 52 #[.int .u64 (n : Int), .int .i64 2] w fun e w' => e = .returned (.string (len2 n)) ∧ w.grownBy w' none := by
  have hq : (Try.prog.info? 5).map (fun i => (i.zero, i.size, i.bytes)) = some (some (.int .u8 0), 1, 1) := by kernel_rfl
  obtain ⟨i0, hi, hq2⟩ := Option.map_eq_some_iff.1 hq
  obtain ⟨hz0, hz3⟩ := Prod.mk.inj hq2
  obtain ⟨hz1, hz2⟩ := Prod.mk.inj hz3
  clear hq hq2 hz3
  have hmk := run_makeSlice (P := Try.prog) (w := w) 35 5 i0 (.int .u8 0) Try.underlying35 hi hz0 .i64 .i64 2 2 (by decide) (by decide) (by rw [hz1]; decide) (by rw [hz2]; decide) (by decide : (2 : Int) ≤ 9223372036854775807)
  have hm2 : madeCells (Value.cells (.int .u8 0)) ((2 : Int).toNat * i0.size) = #[.int .u8 0, .int .u8 0] := by rw [hz1]; kernel_rfl
  rw [hm2] at hmk
  clear hm2 hi hz0 hz1 hz2
  have hmk : (Instr.makeSlice 35 (.int .i64 2) (.int .i64 2)).run Try.prog w = .ok (.slice (some ⟨w.heap.size, 0, none⟩) 2 2) (w.alloc (.cells #[.int .u8 0, .int .u8 0] 5)) := hmk
  go_enter Try.func52, Try.ntmps52
  go_wp2_with fail
  have B0 : As (Blk (w.alloc (.cells #[.int .u8 0, .int .u8 0] 5)) w.heap.size 5 (bigK n 0)) := ⟨Blk.new _ _ _⟩
  have G0 : As (w.grownBy (w.alloc (.cells #[.int .u8 0, .int .u8 0] 5)) none) := ⟨gr_alloc (gr_refl _ _) _⟩
  clear hmk
  have HE : ∃ g, g = w.heap.size := ⟨_, rfl⟩
  obtain ⟨g, hg⟩ := HE
  rw [← hg] at B0 ⊢
  have HE := As.mk hg
  clear hg
  go_loopw [0, 6] (fun m i wr => ∃ k : Nat, k ≤ 2 ∧ m = .int .u64 ((n / 256 ^ k : Nat) : Int) ∧ i = .int .i64 (1 - (k : Int)) ∧ As (Blk wr g 5 (bigK n k)) ∧ As (w.grownBy wr none)) (fun _ i _ => (intOf i + 1).toNat)
  case atStart => exact ⟨0, Nat.zero_le _, by simp, rfl, B0, G0⟩
  case round =>
    clear B0 G0
    obtain ⟨k, hk, rfl, rfl, HB, HG⟩ := hrel
    match k, hk with
    | 0, _ =>
      have e1 : ((n / 256 ^ 0 : Nat) : Int) = (n : Int) := by simp
      have e2 : (n : Int).tmod 256 = ((n % 256 : Nat) : Int) := by rw [Int.tmod_eq_emod_of_nonneg (by omega)]; rfl
      have e3 : (n : Int).tdiv 256 = ((n / 256 : Nat) : Int) := by rw [Int.tdiv_eq_ediv_of_nonneg (by omega)]; rfl
      rw [e1]
      have c1 : wr.cell? ⟨g, 1, none⟩ = some (.int .u8 0) := HB.out.cell 1
      have f1 := HB.out.free 1
      go_wp2_with fail
      have ev : (n : Int) % 256 = ((n.toUInt8.toNat : Nat) : Int) := by simp
      go_roundw
      case measure => simp [intOf]
      case rel => exact ⟨1, by decide, by rw [Nat.pow_one]; rfl, rfl, ⟨by rw [ev]; exact HB.out.set 1 _⟩, ⟨gr_set HG.out (.inr (by rw [HE.out]; exact Nat.le_refl _)) _⟩⟩
    | 1, _ =>
      have e1 : ((n / 256 ^ 1 : Nat) : Int) = ((n / 256 : Nat) : Int) := by simp
      have ev : ((n / 256 : Nat) : Int) % 256 = (((n / 256).toUInt8.toNat : Nat) : Int) := by simp
      have e3 : (n / 256) / 256 = n / 256 ^ 2 := by rw [Nat.div_div_eq_div_mul]
      rw [e1]
      have E3 := As.mk e3
      clear e1 e3
      have hM : ∃ m, m = n / 256 := ⟨_, rfl⟩
      obtain ⟨m, hM⟩ := hM
      rw [← hM] at ev E3 ⊢
      have hm : m < 18446744073709551616 := by omega
      have HM := As.mk hM
      clear hM
      have e2 : (m : Int).tmod 256 = ((m % 256 : Nat) : Int) := by rw [Int.tmod_eq_emod_of_nonneg (by omega)]; rfl
      have e3 : (m : Int).tdiv 256 = ((m / 256 : Nat) : Int) := by rw [Int.tdiv_eq_ediv_of_nonneg (by omega)]; rfl
      have c0 : wr.cell? ⟨g, 0, none⟩ = some (.int .u8 0) := HB.out.cell 0
      have f0 := HB.out.free 0
      have EV := As.mk ev
      clear ev
      go_wp2_with fail
      have ev := EV.out
      go_roundw
      case measure => simp [intOf]
      case rel => exact ⟨2, by decide, by rw [← E3.out]; rfl, rfl, ⟨by rw [ev, HM.out]; exact HB.out.set 0 _⟩, ⟨gr_set HG.out (.inr (by rw [HE.out]; exact Nat.le_refl _)) _⟩⟩
    | 2, _ =>
      have hcv := run_convert_bytes_back (P := Try.prog) wr 35 9 5 ⟨g, 0, none⟩ 2 [(n / 256).toUInt8, n.toUInt8] Try.underlying35 Try.underlying5 Try.underlying9 (fun j hj => by
        rw [Go.WideShapes.add_plain, Nat.zero_add, HB.out.cell j]
        match j, hj with
        | 0, _ => rfl
        | 1, _ => rfl)
      simp only [List.length_cons, List.length_nil] at hcv
      go_wp2
      go_ret
      exact ⟨rfl, HG.out⟩
end Go.Proofs.Ytmehohpboliibaa
