/- The law NestFlat. -/
import Derived.Test.YtggkejkleficoaaNfl
import Derived.Test.YtggkejkleficoaaNt
namespace Go.Proofs.Ytggkejkleficoaa
open Go.RowKit Go.Maps
set_option linter.unusedVariables false
attribute [local go_sem] Oper.semAt_some

/-- The op that is done: Undo turned to Merge. -/
def flip3 (o : PNo) : PNo := if o.k = 3 then ⟨4, o.c, o.v, o.a⟩ else o
theorem flip3_ok {o : PNo} (h : o.ok) : (flip3 o).ok := by
  unfold flip3
  split
  · exact ⟨h.1, h.2.1, h.2.2.1, (show K64 4 by constructor <;> decide)⟩
  · exact h
theorem flip3_ne (o : PNo) : (flip3 o).k ≠ 3 := by
  unfold flip3
  split
  · show (4 : Int) ≠ 3
    decide
  · assumption
set_option maxRecDepth 100000 in
set_option maxHeartbeats 12800000 in
theorem nf_walk (v0 : Value) (l : List PNo) (w : World) (hl : Arr NoE 4 w v0 l) (hlo : ∀ x ∈ l, x.ok) :
    Calls Try.prog 6 #[v0] w fun e w' => e = .returned (.bool true) ∧ w.grownBy w' none := by
  obtain ⟨A0, c0, rfl⟩ := hl.len
  have hl63 : l.length ≤ 9223372036854775807 := by obtain ⟨_, _, _, q, _⟩ := hl; exact q.1
  have HA := As.mk (And.intro hl hlo)
  clear hl hlo
  by_cases h1 : 100 < l.length
  · have h1I : (100 : Int) < (l.length : Int) := by omega
    clear h1
    go_enter Try.func6, Try.ntmps6
    go_wp2_with fail
    refine (nawake_c _).mono ?_
    rintro e w1 ⟨rfl, g1⟩
    have HG1 := As.mk g1
    clear g1
    go_wp2_with fail
    go_ret
    exact ⟨rfl, HG1.out⟩
  · have h1I : ¬ (100 : Int) < (l.length : Int) := by omega
    go_enter Try.func6, Try.ntmps6
    go_wp2_with fail
    refine (nawake_c _).mono ?_
    rintro e w1 ⟨rfl, g1⟩
    have HG1 := As.mk g1
    clear g1
    go_wp2_with fail
    refine (new_c _).mono ?_
    rintro e w2 ⟨⟨nb, F, rfl, hN⟩, g2⟩
    have HS := As.mk (show USt w w2 w1.heap.size nb F aR0 aL0 0 from ⟨hN, HG1.out.trans g2, inv0, val0, HG1.out.size, g2.size⟩)
    obtain ⟨B, hB⟩ : ∃ B, B = w1.heap.size := ⟨_, rfl⟩
    rw [← hB] at HS
    clear hN g2 HG1 hB
    go_wp2_with fail
    refine (new_c _).mono ?_
    rintro e w3 ⟨⟨nb', F', rfl, hN⟩, g3⟩
    have HT := As.mk (show Two w w3 B nb F aR0 aL0 w2.heap.size nb' F' aR0 aL0 0 from ⟨HS.out.grow g3, ⟨hN, HS.out.gr.trans g3, inv0, val0, HS.out.gr.size, g3.size⟩, fun k hk q => by have := (hN.fp k hk).1; have := (HS.out.nest.fp k q).2; omega⟩)
    obtain ⟨B', hB'⟩ : ∃ B, B = w2.heap.size := ⟨_, rfl⟩
    rw [← hB'] at HT
    clear hN g3 HS hB'
    go_wp2_with fail
    go_loopw [17] (fun i wr => ∃ k : Nat, k ≤ l.length ∧ i = .int .i64 k ∧ As (∃ F rd lv F' rd' lv', Two w wr B nb F rd lv B' nb' F' rd' lv' (k + k) ∧ Flat rd lv rd' lv')) (fun i _ => l.length - (Go.RowKit.intOf i).toNat)
    case atStart => exact ⟨0, Nat.zero_le _, rfl, ⟨_, _, _, _, _, _, HT.out, flat0⟩⟩
    case round =>
      obtain ⟨k, hk, rfl, HL⟩ := hrel
      clear HT
      by_cases hlt : k < l.length
      · have hltI : (k : Int) < (l.length : Int) := by omega
        have hk0 : (0 : Int) ≤ (k : Int) := by omega
        have hok := HA.out.2 l[k] (List.getElem_mem hlt)
        obtain ⟨F, rd, lv, F', rd', lv', hT, hFl⟩ := HL.out
        obtain ⟨bb, o, cs, rfl, hE, hcs, hcell⟩ := HA.out.1.at_ k l[k] (List.getElem?_eq_getElem hlt)
        obtain rfl := hE
        have d0 : wr.cell? ⟨bb, o + k * 4, none⟩ = _ := hT.a.gr.cell (hcell 0 _ rfl) (by simp)
        have d1 := hT.a.gr.cell (hcell 1 _ rfl) (by simp)
        have d2 := hT.a.gr.cell (hcell 2 _ rfl) (by simp)
        have d3 := hT.a.gr.cell (hcell 3 _ rfl) (by simp)
        generalize l[k] = oo at *
        -- what both calls come to
        have hgo : ∀ (W : World) (fo : PNo), fo = flip3 oo → wr.grownBy W none → Blk W wr.heap.size 27 #[.int .i64 fo.k, .int .i64 fo.c, .int .i64 fo.v, .int .i64 fo.a] →
            Calls Try.prog 9 #[NP nb, noV fo] W fun e w' => e = .returned (.int .i64 (doE fo rd lv)) ∧ As (∃ F2, Two w w' B nb F2 (doR fo rd) (doL fo rd lv) B' nb' F' rd' lv' (k + k + 1) ∧ Blk w' wr.heap.size 27 #[.int .i64 fo.k, .int .i64 fo.c, .int .i64 fo.v, .int .i64 fo.a]) := fun W fo hfo hg hb => by
          subst hfo
          refine ((hT.grow hg).does (by omega) (flip3 oo) (flip3_ok hok) hb (fun q => by have := (hT.a.nest.fp _ q).2; omega) (fun q => by have := (hT.b.nest.fp _ q).2; omega)).mono ?_
          rintro e w4 ⟨rfl, F2, hT2, hb2, _⟩
          exact ⟨rfl, ⟨F2, hT2, hb2⟩⟩
        have HGO := As.mk hgo
        have HU := As.mk (And.intro hT.a.inv.pos (And.intro hFl hok))
        have HSZ := As.mk (And.intro (flip3_ok hok) (flip3_ne oo))
        clear hT hcell hcs HL hgo hok hFl
        by_cases h3 : oo.k = 3
        · have hfl : flip3 oo = ⟨4, oo.c, oo.v, oo.a⟩ := by unfold flip3; rw [if_pos h3]
          have HFL := As.mk hfl
          rw [h3] at d0
          clear hfl
          go_wp2_with fail
          refine (HGO.out _ ⟨4, oo.c, oo.v, oo.a⟩ HFL.out.symm (gr_alloc (gr_refl wr none) _) (Blk.new wr _ _)).mono ?_
          rintro e w4 ⟨rfl, HR⟩
          have HB4 : Blk w4 wr.heap.size 27 #[.int .i64 4, .int .i64 oo.c, .int .i64 oo.v, .int .i64 oo.a] := by obtain ⟨F2, -, q⟩ := HR.out; exact q
          have f0 := HB4.cell 0
          have HX := As.mk (show ∃ F rd lv F' rd' lv', Two w w4 B nb F rd lv B' nb' F' rd' lv' (k + 1 + (k + 1)) ∧ Flat rd lv rd' lv' from by
            obtain ⟨F2, hT2, -⟩ := HR.out
            have hl := HU.out.2.1.lone (flip3 oo) (by rw [HFL.out]; show (2 : Int) ≤ 4; decide) HSZ.out.2
            rw [HFL.out] at hl
            exact ⟨_, _, _, _, _, _, hT2.le (by omega), hl⟩)
          clear HB4 HR HGO
          go_wp2_with fail
          go_roundw
          case rel => exact ⟨k + 1, by omega, by simp, HX⟩
          case measure => simp [Go.RowKit.intOf]; omega
        · have hfl : flip3 oo = oo := by unfold flip3; rw [if_neg h3]
          have h3b : (oo.k == 3) = false := by rw [beq_eq_false_iff_ne]; exact h3
          have HFL := As.mk hfl
          clear hfl
          by_cases h2 : oo.k < 2
          · go_wp2_with fail
            refine (HGO.out _ oo HFL.out.symm (gr_alloc (gr_refl wr none) _) (Blk.new wr _ _)).mono ?_
            rintro e w4 ⟨rfl, HR⟩
            have HB4 : Blk w4 wr.heap.size 27 #[.int .i64 oo.k, .int .i64 oo.c, .int .i64 oo.v, .int .i64 oo.a] := by obtain ⟨F2, -, q⟩ := HR.out; exact q
            have f0 := HB4.cell 0
            have f1 := HB4.cell 1
            have f2 := HB4.cell 2
            have f3 := HB4.cell 3
            have HFB := As.mk (HU.out.2.1.both HU.out.1 oo h2)
            have HC := As.mk (show Calls Try.prog 9 #[NP nb', noV oo] w4 fun e w' => e = .returned (.int .i64 (doE oo rd lv)) ∧ As (∃ F rd lv F' rd' lv', Two w w' B nb F rd lv B' nb' F' rd' lv' (k + 1 + (k + 1)) ∧ Flat rd lv rd' lv') from by
              obtain ⟨F2, hT2, -⟩ := HR.out
              refine (hT2.does' (by omega) oo HU.out.2.2).mono ?_
              rintro e w5 ⟨rfl, F3, hT3⟩
              rw [HFB.out.2]
              exact ⟨rfl, ⟨_, _, _, _, _, _, hT3.le (by omega), HFB.out.1⟩⟩)
            clear HB4 HR HGO
            go_wp2_with fail
            refine HC.out.mono ?_
            rintro e w5 ⟨rfl, HX⟩
            clear HC
            go_wp2_with fail
            go_roundw
            case rel => exact ⟨k + 1, by omega, by simp, HX⟩
            case measure => simp [Go.RowKit.intOf]; omega
          · go_wp2_with fail
            refine (HGO.out _ oo HFL.out.symm (gr_alloc (gr_refl wr none) _) (Blk.new wr _ _)).mono ?_
            rintro e w4 ⟨rfl, HR⟩
            have HB4 : Blk w4 wr.heap.size 27 #[.int .i64 oo.k, .int .i64 oo.c, .int .i64 oo.v, .int .i64 oo.a] := by obtain ⟨F2, -, q⟩ := HR.out; exact q
            have f0 := HB4.cell 0
            have HX := As.mk (show ∃ F rd lv F' rd' lv', Two w w4 B nb F rd lv B' nb' F' rd' lv' (k + 1 + (k + 1)) ∧ Flat rd lv rd' lv' from by
              obtain ⟨F2, hT2, -⟩ := HR.out
              exact ⟨_, _, _, _, _, _, hT2.le (by omega), HU.out.2.1.lone oo (by omega) h3⟩)
            clear HB4 HR HGO
            go_wp2_with fail
            go_roundw
            case rel => exact ⟨k + 1, by omega, by simp, HX⟩
            case measure => simp [Go.RowKit.intOf]; omega
      · obtain rfl : k = l.length := by omega
        obtain ⟨F, rd, lv, F', rd', lv', hT, hFl⟩ := HL.out
        have HT := As.mk (And.intro hT hFl)
        clear hT hFl HL hlt h1
        go_wp2_with fail
        go_loopw [39] (fun _ wr => As (∃ F rd lv F' rd' lv', Two w wr B nb F rd lv B' nb' F' rd' lv' (l.length + l.length) ∧ Flat rd lv rd' lv')) (fun _ wr => levOf wr nb)
        case atStart => exact ⟨⟨_, _, _, _, _, _, HT.out⟩⟩
        case round =>
          have HL := hrel
          clear hrel HT
          obtain ⟨F, rd, lv, F', rd', lv', hT, hFl⟩ := HL.out
          have hlen := hT.a.inv.five
          have hpos := hT.a.inv.pos
          have hlev := As.mk hT.a.nest.levOf
          have HU := As.mk (And.intro hT hFl)
          clear hT hFl HL
          by_cases hgt : 1 < lv.length
          · have hgtI : (1 : Int) < (lv.length : Int) := by omega
            have hml := merL_len (lv := lv) (by omega)
            have HE := As.mk (show undE lv = 0 by unfold undE; rw [if_neg (by omega)])
            go_wp2_with fail
            refine (levels_c HU.out.1.a.nest).mono ?_
            rintro e w3 ⟨rfl, rfl⟩
            go_wp2_with fail
            refine (HU.out.1.merge (by omega)).mono ?_
            rintro e w4 ⟨rfl, F4, hT4⟩
            rw [HE.out]
            have H4 := As.mk (And.intro hT4 (show Flat rd (merL lv) rd' lv' from ⟨HU.out.2.fn, fun c => by rw [wrF_mer]; exact HU.out.2.wr c, HU.out.2.one⟩))
            clear hT4
            go_wp2_with fail
            go_roundw
            case rel => exact ⟨⟨_, _, _, _, _, _, H4.out⟩⟩
            case measure => rw [hlev.out, H4.out.1.a.nest.levOf]; omega
          · have hgtI : ¬ (1 : Int) < (lv.length : Int) := by omega
            have h1' := HU.out.2.one
            clear hlev
            go_wp2_with fail
            refine (levels_c HU.out.1.a.nest).mono ?_
            rintro e w3 ⟨rfl, rfl⟩
            go_wp2_with fail
            refine (items_c HU.out.1.a.nest (by omega) hpos HU.out.1.a.val).mono ?_
            rintro e w4 ⟨⟨u, rfl, hu⟩, g4⟩
            have H4 := As.mk (And.intro (HU.out.1.grow g4) (Arr.of_its hu))
            have HF := As.mk HU.out.2
            clear hu g4 HU
            go_wp2_with fail
            refine (items_c H4.out.1.b.nest (by omega) H4.out.1.b.inv.pos H4.out.1.b.val).mono ?_
            rintro e w5 ⟨⟨u', rfl, hu⟩, g5⟩
            rw [← HF.out.its] at hu
            have H5 := As.mk (And.intro (H4.out.1.grow g5) (And.intro (H4.out.2.below g5 (fun _ _ => ItE.any _ _)) (Arr.of_its hu)))
            clear hu g5 H4
            go_wp2_with fail
            refine (sameItems_c _ _ _ _ H5.out.2.1 H5.out.2.2).mono ?_
            rintro e w6 ⟨rfl, n6, rfl⟩
            have H6 := As.mk (H5.out.1.grow (gr_drewN (gr_refl _ none) n6))
            clear H5
            go_wp2_with fail
            refine (values_c H6.out.a.nest (by omega) hpos H6.out.a.val).mono ?_
            rintro e w7 ⟨⟨ba, rfl, hba, hma⟩, g7⟩
            have H7 := As.mk (And.intro (H6.out.grow g7) hma)
            clear hba hma g7 H6
            go_wp2_with fail
            refine (values_c H7.out.1.b.nest (by omega) H7.out.1.b.inv.pos H7.out.1.b.val).mono ?_
            rintro e w8 ⟨⟨bb, rfl, hbb, hmb⟩, g8⟩
            rw [← HF.out.vals] at hmb
            have H8 := As.mk (And.intro (H7.out.1.grow g8) (And.intro (H7.out.2.kept g8 (by simp)) hmb))
            clear hbb hmb g8 H7
            go_wp2_with fail
            refine (same_c H8.out.2.1 H8.out.2.2 (fun c => valsN_dom)).mono ?_
            rintro e w9 ⟨rfl, g9⟩
            have H9 := As.mk (H8.out.1.grow g9)
            clear g9 H8
            go_wp2_with fail
            refine (levels_c H9.out.b.nest).mono ?_
            rintro e w10 ⟨rfl, rfl⟩
            rw [h1']
            go_wp2_with fail
            go_ret
            exact ⟨rfl, H9.out.a.gr⟩
end Go.Proofs.Ytggkejkleficoaa
