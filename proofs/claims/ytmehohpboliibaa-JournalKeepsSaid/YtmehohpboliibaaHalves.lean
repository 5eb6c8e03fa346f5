/- The walk of crc.halves: the table. -/
import Derived.Test.YtmehohpboliibaaCrc
namespace Go.Proofs.Ytmehohpboliibaa
open Go.RowKit
set_option linter.unusedVariables false

def tv (i : Nat) : Value := .int .u32 ((bN 4 i : Nat) : Int)
def tabK (k : Nat) : Array Value := Array.ofFn (n := 16) fun i => if i.val < k then tv i.val else .int .u32 0
theorem tabK_set (k : Nat) (hk : k < 16) : (tabK k).setIfInBounds k (tv k) = tabK (k + 1) := by
  apply Array.ext
  · simp [tabK]
  · intro i h1 h2
    rw [Array.getElem_setIfInBounds (by simpa using h1)]
    by_cases h : k = i
    · subst h
      rw [if_pos rfl]
      simp [tabK]
    · rw [if_neg h]
      have : i < k ↔ i < k + 1 := by omega
      simp [tabK, this]
theorem tabK_at (k i : Nat) (hi : i < 16) (hk : i < k) : (tabK k)[i]? = some (tv i) := by
  rw [Array.getElem?_eq_getElem (by simpa [tabK] using hi)]
  simp [tabK, hk]
set_option maxRecDepth 100000 in
set_option maxHeartbeats 3200000 in
theorem halves_c (w : World) : Calls Try.prog 71 #[] w fun e w' => e = .returned (.agg (tabK 16)) ∧ w.grownBy w' none := by
  go_enter Try.func71, Try.ntmps71
  go_wp2_with fail
  have HG0 : As (w.grownBy ((w.alloc (.cells (tabK 0) 106)).alloc (.cells (tabK 0) 106)) none) := ⟨gr_alloc (gr_alloc (gr_refl _ _) _) _⟩
  have HR0 : As (Blk ((w.alloc (.cells (tabK 0) 106)).alloc (.cells (tabK 0) 106)) w.heap.size 106 (tabK 0)) := ⟨(Blk.new _ _ _).alloc _⟩
  have HT0 : As (Blk ((w.alloc (.cells (tabK 0) 106)).alloc (.cells (tabK 0) 106)) (w.heap.size + 1) 106 (tabK 0)) := ⟨by
    have h := Blk.new (w.alloc (.cells (tabK 0) 106)) 106 (tabK 0)
    simpa using h⟩
  have HB : As (∃ g, g = w.heap.size) := ⟨_, rfl⟩
  have HE : ∃ g, g = w.heap.size := ⟨_, rfl⟩
  obtain ⟨g0, hg0⟩ := HE
  rw [← hg0] at HR0 HT0 ⊢
  have HE := As.mk hg0
  clear hg0 HB
  go_loopw [3] (fun i wr => ∃ k : Nat, k ≤ 16 ∧ i = .int .i64 k ∧ As (Blk wr g0 106 (tabK 0)) ∧ As (Blk wr (g0 + 1) 106 (tabK k)) ∧ As (w.grownBy wr none)) (fun i _ => 16 - (intOf i).toNat)
  case atStart => exact ⟨0, Nat.zero_le _, rfl, HR0, HT0, HG0⟩
  case round =>
    clear HR0 HT0 HG0
    obtain ⟨k, hk, rfl, HR, HT, HG⟩ := hrel
    by_cases hlt : k < 16
    · have hltI : (k : Int) < 16 := by omega
      have hk0 : (0 : Int) ≤ (k : Int) := by omega
      have ew : IntKind.u32.wrap (k : Int) = (k : Int) := wraps_u32n _ (by omega) (by omega)
      go_wp2_with fail
      refine (crcstep_c k (by omega) _).mono ?_
      rintro e w1 ⟨rfl, nd, hw⟩
      have HR1 : As (Blk w1 g0 106 (tabK 0)) := ⟨by rw [hw]; exact HR.out.drewN nd⟩
      have HT1 : As (Blk w1 (g0 + 1) 106 (tabK k)) := ⟨by rw [hw]; exact HT.out.drewN nd⟩
      have HG1 : As (w.grownBy w1 none) := ⟨by rw [hw]; exact gr_drewN HG.out nd⟩
      have ck : w1.cell? ⟨g0 + 1, k, none⟩ = some (.int .u32 0) := (HT1.out.cell k).trans (by
        rw [Array.getElem?_eq_getElem (by simpa [tabK] using hlt)]
        simp [tabK])
      have fk := HT1.out.free k
      clear hw HR HT HG
      go_wp2_with fail
      go_roundw
      case measure => simp [intOf]; omega
      case rel => exact ⟨k + 1, by omega, by go_num, ⟨HR1.out.far (by simp) _⟩, ⟨by rw [← tabK_set k hlt]; exact HT1.out.set k _⟩, ⟨gr_set HG1.out (.inr (by rw [HE.out]; simp)) _⟩⟩
    · obtain rfl : k = 16 := by omega
      have c0 : wr.cell? ⟨g0 + 1, 0, none⟩ = some (.int .u32 ((bN 4 0 : Nat) : Int)) := (HT.out.cell 0).trans (tabK_at 16 0 (by decide) (by decide))
      have c1 : wr.cell? ⟨g0 + 1, 1, none⟩ = some (.int .u32 ((bN 4 1 : Nat) : Int)) := (HT.out.cell 1).trans (tabK_at 16 1 (by decide) (by decide))
      have c2 : wr.cell? ⟨g0 + 1, 2, none⟩ = some (.int .u32 ((bN 4 2 : Nat) : Int)) := (HT.out.cell 2).trans (tabK_at 16 2 (by decide) (by decide))
      have c3 : wr.cell? ⟨g0 + 1, 3, none⟩ = some (.int .u32 ((bN 4 3 : Nat) : Int)) := (HT.out.cell 3).trans (tabK_at 16 3 (by decide) (by decide))
      have c4 : wr.cell? ⟨g0 + 1, 4, none⟩ = some (.int .u32 ((bN 4 4 : Nat) : Int)) := (HT.out.cell 4).trans (tabK_at 16 4 (by decide) (by decide))
      have c5 : wr.cell? ⟨g0 + 1, 5, none⟩ = some (.int .u32 ((bN 4 5 : Nat) : Int)) := (HT.out.cell 5).trans (tabK_at 16 5 (by decide) (by decide))
      have c6 : wr.cell? ⟨g0 + 1, 6, none⟩ = some (.int .u32 ((bN 4 6 : Nat) : Int)) := (HT.out.cell 6).trans (tabK_at 16 6 (by decide) (by decide))
      have c7 : wr.cell? ⟨g0 + 1, 7, none⟩ = some (.int .u32 ((bN 4 7 : Nat) : Int)) := (HT.out.cell 7).trans (tabK_at 16 7 (by decide) (by decide))
      have c8 : wr.cell? ⟨g0 + 1, 8, none⟩ = some (.int .u32 ((bN 4 8 : Nat) : Int)) := (HT.out.cell 8).trans (tabK_at 16 8 (by decide) (by decide))
      have c9 : wr.cell? ⟨g0 + 1, 9, none⟩ = some (.int .u32 ((bN 4 9 : Nat) : Int)) := (HT.out.cell 9).trans (tabK_at 16 9 (by decide) (by decide))
      have c10 : wr.cell? ⟨g0 + 1, 10, none⟩ = some (.int .u32 ((bN 4 10 : Nat) : Int)) := (HT.out.cell 10).trans (tabK_at 16 10 (by decide) (by decide))
      have c11 : wr.cell? ⟨g0 + 1, 11, none⟩ = some (.int .u32 ((bN 4 11 : Nat) : Int)) := (HT.out.cell 11).trans (tabK_at 16 11 (by decide) (by decide))
      have c12 : wr.cell? ⟨g0 + 1, 12, none⟩ = some (.int .u32 ((bN 4 12 : Nat) : Int)) := (HT.out.cell 12).trans (tabK_at 16 12 (by decide) (by decide))
      have c13 : wr.cell? ⟨g0 + 1, 13, none⟩ = some (.int .u32 ((bN 4 13 : Nat) : Int)) := (HT.out.cell 13).trans (tabK_at 16 13 (by decide) (by decide))
      have c14 : wr.cell? ⟨g0 + 1, 14, none⟩ = some (.int .u32 ((bN 4 14 : Nat) : Int)) := (HT.out.cell 14).trans (tabK_at 16 14 (by decide) (by decide))
      have c15 : wr.cell? ⟨g0 + 1, 15, none⟩ = some (.int .u32 ((bN 4 15 : Nat) : Int)) := (HT.out.cell 15).trans (tabK_at 16 15 (by decide) (by decide))
      have z0 : wr.cell? ⟨g0, 0, none⟩ = some (.int .u32 0) := HR.out.cell 0
      have z1 : wr.cell? ⟨g0, 1, none⟩ = some (.int .u32 0) := HR.out.cell 1
      have z2 : wr.cell? ⟨g0, 2, none⟩ = some (.int .u32 0) := HR.out.cell 2
      have z3 : wr.cell? ⟨g0, 3, none⟩ = some (.int .u32 0) := HR.out.cell 3
      have z4 : wr.cell? ⟨g0, 4, none⟩ = some (.int .u32 0) := HR.out.cell 4
      have z5 : wr.cell? ⟨g0, 5, none⟩ = some (.int .u32 0) := HR.out.cell 5
      have z6 : wr.cell? ⟨g0, 6, none⟩ = some (.int .u32 0) := HR.out.cell 6
      have z7 : wr.cell? ⟨g0, 7, none⟩ = some (.int .u32 0) := HR.out.cell 7
      have z8 : wr.cell? ⟨g0, 8, none⟩ = some (.int .u32 0) := HR.out.cell 8
      have z9 : wr.cell? ⟨g0, 9, none⟩ = some (.int .u32 0) := HR.out.cell 9
      have z10 : wr.cell? ⟨g0, 10, none⟩ = some (.int .u32 0) := HR.out.cell 10
      have z11 : wr.cell? ⟨g0, 11, none⟩ = some (.int .u32 0) := HR.out.cell 11
      have z12 : wr.cell? ⟨g0, 12, none⟩ = some (.int .u32 0) := HR.out.cell 12
      have z13 : wr.cell? ⟨g0, 13, none⟩ = some (.int .u32 0) := HR.out.cell 13
      have z14 : wr.cell? ⟨g0, 14, none⟩ = some (.int .u32 0) := HR.out.cell 14
      have z15 : wr.cell? ⟨g0, 15, none⟩ = some (.int .u32 0) := HR.out.cell 15
      have fr := HR.out.free
      go_wp2
      have FB := As.mk (((((((((((((((((HR.out).set 0 (.int .u32 ((bN 4 0 : Nat) : Int))).set 1 (.int .u32 ((bN 4 1 : Nat) : Int))).set 2 (.int .u32 ((bN 4 2 : Nat) : Int))).set 3 (.int .u32 ((bN 4 3 : Nat) : Int))).set 4 (.int .u32 ((bN 4 4 : Nat) : Int))).set 5 (.int .u32 ((bN 4 5 : Nat) : Int))).set 6 (.int .u32 ((bN 4 6 : Nat) : Int))).set 7 (.int .u32 ((bN 4 7 : Nat) : Int))).set 8 (.int .u32 ((bN 4 8 : Nat) : Int))).set 9 (.int .u32 ((bN 4 9 : Nat) : Int))).set 10 (.int .u32 ((bN 4 10 : Nat) : Int))).set 11 (.int .u32 ((bN 4 11 : Nat) : Int))).set 12 (.int .u32 ((bN 4 12 : Nat) : Int))).set 13 (.int .u32 ((bN 4 13 : Nat) : Int))).set 14 (.int .u32 ((bN 4 14 : Nat) : Int))).set 15 (.int .u32 ((bN 4 15 : Nat) : Int)))
      have FG := As.mk (gr_set ((gr_set ((gr_set ((gr_set ((gr_set ((gr_set ((gr_set ((gr_set ((gr_set ((gr_set ((gr_set ((gr_set ((gr_set ((gr_set ((gr_set ((gr_set (HG.out) (a := ⟨g0, 0, none⟩) (.inr (by rw [HE.out]; simp)) (.int .u32 ((bN 4 0 : Nat) : Int)))) (a := ⟨g0, 1, none⟩) (.inr (by rw [HE.out]; simp)) (.int .u32 ((bN 4 1 : Nat) : Int)))) (a := ⟨g0, 2, none⟩) (.inr (by rw [HE.out]; simp)) (.int .u32 ((bN 4 2 : Nat) : Int)))) (a := ⟨g0, 3, none⟩) (.inr (by rw [HE.out]; simp)) (.int .u32 ((bN 4 3 : Nat) : Int)))) (a := ⟨g0, 4, none⟩) (.inr (by rw [HE.out]; simp)) (.int .u32 ((bN 4 4 : Nat) : Int)))) (a := ⟨g0, 5, none⟩) (.inr (by rw [HE.out]; simp)) (.int .u32 ((bN 4 5 : Nat) : Int)))) (a := ⟨g0, 6, none⟩) (.inr (by rw [HE.out]; simp)) (.int .u32 ((bN 4 6 : Nat) : Int)))) (a := ⟨g0, 7, none⟩) (.inr (by rw [HE.out]; simp)) (.int .u32 ((bN 4 7 : Nat) : Int)))) (a := ⟨g0, 8, none⟩) (.inr (by rw [HE.out]; simp)) (.int .u32 ((bN 4 8 : Nat) : Int)))) (a := ⟨g0, 9, none⟩) (.inr (by rw [HE.out]; simp)) (.int .u32 ((bN 4 9 : Nat) : Int)))) (a := ⟨g0, 10, none⟩) (.inr (by rw [HE.out]; simp)) (.int .u32 ((bN 4 10 : Nat) : Int)))) (a := ⟨g0, 11, none⟩) (.inr (by rw [HE.out]; simp)) (.int .u32 ((bN 4 11 : Nat) : Int)))) (a := ⟨g0, 12, none⟩) (.inr (by rw [HE.out]; simp)) (.int .u32 ((bN 4 12 : Nat) : Int)))) (a := ⟨g0, 13, none⟩) (.inr (by rw [HE.out]; simp)) (.int .u32 ((bN 4 13 : Nat) : Int)))) (a := ⟨g0, 14, none⟩) (.inr (by rw [HE.out]; simp)) (.int .u32 ((bN 4 14 : Nat) : Int)))) (a := ⟨g0, 15, none⟩) (.inr (by rw [HE.out]; simp)) (.int .u32 ((bN 4 15 : Nat) : Int)))
      clear c0 c1 c2 c3 c4 c5 c6 c7 c8 c9 c10 c11 c12 c13 c14 c15 z0 z1 z2 z3 z4 z5 z6 z7 z8 z9 z10 z11 z12 z13 z14 z15 fr HR HT HG
      generalize ((((((((((((((((wr.setCell ⟨g0, 0, none⟩ (.int .u32 ((bN 4 0 : Nat) : Int))).setCell ⟨g0, 1, none⟩ (.int .u32 ((bN 4 1 : Nat) : Int))).setCell ⟨g0, 2, none⟩ (.int .u32 ((bN 4 2 : Nat) : Int))).setCell ⟨g0, 3, none⟩ (.int .u32 ((bN 4 3 : Nat) : Int))).setCell ⟨g0, 4, none⟩ (.int .u32 ((bN 4 4 : Nat) : Int))).setCell ⟨g0, 5, none⟩ (.int .u32 ((bN 4 5 : Nat) : Int))).setCell ⟨g0, 6, none⟩ (.int .u32 ((bN 4 6 : Nat) : Int))).setCell ⟨g0, 7, none⟩ (.int .u32 ((bN 4 7 : Nat) : Int))).setCell ⟨g0, 8, none⟩ (.int .u32 ((bN 4 8 : Nat) : Int))).setCell ⟨g0, 9, none⟩ (.int .u32 ((bN 4 9 : Nat) : Int))).setCell ⟨g0, 10, none⟩ (.int .u32 ((bN 4 10 : Nat) : Int))).setCell ⟨g0, 11, none⟩ (.int .u32 ((bN 4 11 : Nat) : Int))).setCell ⟨g0, 12, none⟩ (.int .u32 ((bN 4 12 : Nat) : Int))).setCell ⟨g0, 13, none⟩ (.int .u32 ((bN 4 13 : Nat) : Int))).setCell ⟨g0, 14, none⟩ (.int .u32 ((bN 4 14 : Nat) : Int))).setCell ⟨g0, 15, none⟩ (.int .u32 ((bN 4 15 : Nat) : Int))) = wf at *
      have FC : Blk wf g0 106 _ := FB.out
      rw [show (Value.int .u32 ((bN 4 0 : Nat) : Int)) = tv 0 from rfl, tabK_set 0 (by decide)] at FC
      rw [show (Value.int .u32 ((bN 4 1 : Nat) : Int)) = tv 1 from rfl, tabK_set 1 (by decide)] at FC
      rw [show (Value.int .u32 ((bN 4 2 : Nat) : Int)) = tv 2 from rfl, tabK_set 2 (by decide)] at FC
      rw [show (Value.int .u32 ((bN 4 3 : Nat) : Int)) = tv 3 from rfl, tabK_set 3 (by decide)] at FC
      rw [show (Value.int .u32 ((bN 4 4 : Nat) : Int)) = tv 4 from rfl, tabK_set 4 (by decide)] at FC
      rw [show (Value.int .u32 ((bN 4 5 : Nat) : Int)) = tv 5 from rfl, tabK_set 5 (by decide)] at FC
      rw [show (Value.int .u32 ((bN 4 6 : Nat) : Int)) = tv 6 from rfl, tabK_set 6 (by decide)] at FC
      rw [show (Value.int .u32 ((bN 4 7 : Nat) : Int)) = tv 7 from rfl, tabK_set 7 (by decide)] at FC
      rw [show (Value.int .u32 ((bN 4 8 : Nat) : Int)) = tv 8 from rfl, tabK_set 8 (by decide)] at FC
      rw [show (Value.int .u32 ((bN 4 9 : Nat) : Int)) = tv 9 from rfl, tabK_set 9 (by decide)] at FC
      rw [show (Value.int .u32 ((bN 4 10 : Nat) : Int)) = tv 10 from rfl, tabK_set 10 (by decide)] at FC
      rw [show (Value.int .u32 ((bN 4 11 : Nat) : Int)) = tv 11 from rfl, tabK_set 11 (by decide)] at FC
      rw [show (Value.int .u32 ((bN 4 12 : Nat) : Int)) = tv 12 from rfl, tabK_set 12 (by decide)] at FC
      rw [show (Value.int .u32 ((bN 4 13 : Nat) : Int)) = tv 13 from rfl, tabK_set 13 (by decide)] at FC
      rw [show (Value.int .u32 ((bN 4 14 : Nat) : Int)) = tv 14 from rfl, tabK_set 14 (by decide)] at FC
      rw [show (Value.int .u32 ((bN 4 15 : Nat) : Int)) = tv 15 from rfl, tabK_set 15 (by decide)] at FC
      refine bodyPost_ret (results_cell_row (show Try.f71.results = #[.cell 0 106] by kernel_rfl) _ _ g0 106 _ (0, 0) _ rfl FC Try.underlying106 rfl (by kernel_rfl)) rfl ?_
      exact ⟨rfl, FG.out⟩
end Go.Proofs.Ytmehohpboliibaa
