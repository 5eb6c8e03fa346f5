/- The law NestUndoes. -/
import Derived.Test.YtggkejkleficoaaNx
import Derived.Test.YtggkejkleficoaaNt
namespace Go.Proofs.Ytggkejkleficoaa
open Go.RowKit Go.Maps
set_option linter.unusedVariables false
attribute [local go_sem] Oper.semAt_some

set_option maxRecDepth 100000 in
set_option maxHeartbeats 12800000 in
theorem nu_walk (v0 v1 : Value) (l m : List PNo) (b : Bool) (w : World) (hl : Arr NoE 4 w v0 l) (hm : Arr NoE 4 w v1 m) (hlo : ∀ x ∈ l, x.ok) (hmo : ∀ x ∈ m, x.ok) :
    Calls Try.prog 3 #[v0, v1, .bool b] w fun e w' => e = .returned (.bool true) ∧ w.grownBy w' none := by
  obtain ⟨A0, c0, rfl⟩ := hl.len
  obtain ⟨A1, c1, rfl⟩ := hm.len
  have hl63 : l.length ≤ 9223372036854775807 := by obtain ⟨_, _, _, q, _⟩ := hl; exact q.1
  have hm63 : m.length ≤ 9223372036854775807 := by obtain ⟨_, _, _, q, _⟩ := hm; exact q.1
  have HA := As.mk (And.intro hl (And.intro hm (And.intro hlo hmo)))
  clear hl hm hlo hmo
  by_cases h1 : 100 < l.length
  · have h1I : (100 : Int) < (l.length : Int) := by omega
    clear h1
    go_enter Try.func3, Try.ntmps3
    go_wp2_with fail
    refine (nawake_c _).mono ?_
    rintro e w1 ⟨rfl, g1⟩
    have HG1 := As.mk g1
    clear g1
    go_wp2_with fail
    go_ret
    exact ⟨rfl, HG1.out⟩
  · by_cases h2 : 100 < m.length
    · have h1I : ¬ (100 : Int) < (l.length : Int) := by omega
      have h2I : (100 : Int) < (m.length : Int) := by omega
      clear h1 h2
      go_enter Try.func3, Try.ntmps3
      go_wp2_with fail
      refine (nawake_c _).mono ?_
      rintro e w1 ⟨rfl, g1⟩
      have HG1 := As.mk g1
      clear g1
      go_wp2_with fail
      go_ret
      exact ⟨rfl, HG1.out⟩
    · have h1I : ¬ (100 : Int) < (l.length : Int) := by omega
      have h2I : ¬ (100 : Int) < (m.length : Int) := by omega
      go_enter Try.func3, Try.ntmps3
      go_wp2_with fail
      refine (nawake_c _).mono ?_
      rintro e w1 ⟨rfl, g1⟩
      have HG1 := As.mk g1
      clear g1
      go_wp2_with fail
      refine (new_c _).mono ?_
      rintro e w2 ⟨⟨nb, F, rfl, hN⟩, g2⟩
      have HS := As.mk (show USt w w2 w1.heap.size nb F aR0 aL0 0 from ⟨hN, HG1.out.trans g2, inv0, val0, HG1.out.size, g2.size⟩)
      obtain ⟨B, hB⟩ : ∃ B, B = w1.heap.size := ⟨_, rfl⟩
      rw [← hB] at HS
      clear hN g2 HG1 hB
      go_wp2_with fail
      go_loopw [32] (fun i wr => ∃ k : Nat, k ≤ l.length ∧ i = .int .i64 k ∧ As (∃ F rd lv, USt w wr B nb F rd lv k)) (fun i _ => l.length - (Go.RowKit.intOf i).toNat)
      case atStart => exact ⟨0, Nat.zero_le _, rfl, ⟨_, _, _, HS.out⟩⟩
      case round =>
        obtain ⟨k, hk, rfl, HL⟩ := hrel
        clear HS
        by_cases hlt : k < l.length
        · have hltI : (k : Int) < (l.length : Int) := by omega
          have hk0 : (0 : Int) ≤ (k : Int) := by omega
          have HLK := As.mk (And.intro hlt (HA.out.2.2.1 l[k] (List.getElem_mem _)))
          obtain ⟨F, rd, lv, hU⟩ := HL.out
          obtain ⟨bb, o, cs, rfl, hE, hcs, hcell⟩ := HA.out.1.at_ k l[k] (List.getElem?_eq_getElem hlt)
          obtain rfl := hE
          have d0 : wr.cell? ⟨bb, o + k * 4, none⟩ = _ := hU.gr.cell (hcell 0 _ rfl) (by simp)
          have d1 := hU.gr.cell (hcell 1 _ rfl) (by simp)
          have d2 := hU.gr.cell (hcell 2 _ rfl) (by simp)
          have d3 := hU.gr.cell (hcell 3 _ rfl) (by simp)
          have HU := As.mk hU
          clear hU hcell hcs HL
          go_wp2_with fail
          refine (((USt.grow HU.out (gr_alloc (gr_refl wr none) _)).does (by have := hk; omega) l[k] HLK.out.2)).mono ?_
          rintro e w3 ⟨rfl, F', hU', hG'⟩
          have HU' := As.mk hU'
          clear hU' hG'
          go_wp2_with fail
          go_roundw
          case rel => exact ⟨k + 1, by omega, by simp, ⟨_, _, _, HU'.out⟩⟩
          case measure => simp [Go.RowKit.intOf]; omega
        · obtain rfl : k = l.length := by omega
          obtain ⟨F, rd, lv, hU⟩ := HL.out
          have hlen := hU.inv.five
          have hpos := hU.inv.pos
          have HU := As.mk hU
          clear hU HL hlt h1 h2
          go_wp2_with fail
          refine (levels_c HU.out.nest).mono ?_
          rintro e w3 ⟨rfl, rfl⟩
          by_cases h5 : 5 ≤ lv.length
          · have h5I : (5 : Int) ≤ (lv.length : Int) := by omega
            have hbe : begE lv = 6 := by unfold begE; rw [if_pos (by omega)]
            have HE := As.mk hbe
            clear hbe h5
            go_wp2_with fail
            refine (begin_c HU.out.nest HU.out.hi (by omega)).mono ?_
            rintro e w4 ⟨rfl, F4, hN4, hG4⟩
            rw [HE.out]
            have H4 := As.mk (hG4.gr HU.out.gr (fun k hk => Nat.le_trans HU.out.lo (HU.out.nest.fp k hk).1))
            clear hN4 hG4
            go_wp2_with fail
            go_ret
            exact ⟨rfl, H4.out⟩
          · have h5I : ¬ (5 : Int) ≤ (lv.length : Int) := by omega
            have HV := As.mk (And.intro (show UInv rd lv rd (begL lv) from UInv.start (by omega)) (show begE lv = 0 by unfold begE; rw [if_neg (by omega)]))
            clear h5
            go_wp2_with fail
            refine (values_c HU.out.nest (by omega) hpos HU.out.val).mono ?_
            rintro e w4 ⟨⟨bw, rfl, hbw, hmw⟩, g4⟩
            have H4 := As.mk (And.intro (HU.out.grow g4) (And.intro hmw (show ¬ F bw from fun q => by have := (HU.out.nest.fp bw q).2; omega)))
            clear hbw hmw g4 HU
            go_wp2_with fail
            refine (levels_c H4.out.1.nest).mono ?_
            rintro e w5 ⟨rfl, rfl⟩
            go_wp2_with fail
            refine (begin_c H4.out.1.nest H4.out.1.hi (by omega)).mono ?_
            rintro e w6 ⟨rfl, F6, hN6, hG6⟩
            rw [HV.out.2]
            have H6 := As.mk (And.intro (H4.out.1.step hN6 hG6 (NInv.beg H4.out.1.inv) (NVal.beg H4.out.1.val)) (And.intro (H4.out.2.1.ng hG6 H4.out.2.2) HV.out.1))
            clear hN6 hG6 H4
            go_wp2_with fail
            go_loopw [55] (fun i wr => ∃ k : Nat, k ≤ m.length ∧ i = .int .i64 k ∧ As (∃ F' rd' lv', USt w wr B nb F' rd' lv' (l.length + k) ∧ (MapF elVal wr bw 16 (valsN rd lv 16) ∧ ¬ F' bw) ∧ UInv rd lv rd' lv')) (fun i _ => m.length - (Go.RowKit.intOf i).toNat)
            case atStart => exact ⟨0, Nat.zero_le _, rfl, ⟨_, _, _, H6.out.1.le (by omega), H6.out.2⟩⟩
            case round =>
              obtain ⟨k, hk, rfl, HL⟩ := hrel
              clear H6
              by_cases hlt : k < m.length
              · have hltI : (k : Int) < (m.length : Int) := by omega
                have hk0 : (0 : Int) ≤ (k : Int) := by omega
                have HLK := As.mk (And.intro hlt (HA.out.2.2.2 m[k] (List.getElem_mem _)))
                obtain ⟨F', rd', lv', hU, hM, hV⟩ := HL.out
                obtain ⟨bb, o, cs, rfl, hE, hcs, hcell⟩ := HA.out.2.1.at_ k m[k] (List.getElem?_eq_getElem hlt)
                obtain rfl := hE
                have d0 : wr.cell? ⟨bb, o + k * 4, none⟩ = _ := hU.gr.cell (hcell 0 _ rfl) (by simp)
                have d1 := hU.gr.cell (hcell 1 _ rfl) (by simp)
                have d2 := hU.gr.cell (hcell 2 _ rfl) (by simp)
                have d3 := hU.gr.cell (hcell 3 _ rfl) (by simp)
                have hgo : ¬ (3 ≤ m[k].k ∧ lv'.length = lv.length + 1) → Calls Try.prog 9 #[NP nb, noV m[k]] (wr.alloc (.cells #[.int .i64 m[k].k, .int .i64 m[k].c, .int .i64 m[k].v, .int .i64 m[k].a] 27)) fun e w' => (∃ n, e = .returned (.int .i64 n)) ∧
                    As (∃ F'' rd'' lv'', USt w w' B nb F'' rd'' lv'' (l.length + (k + 1)) ∧ (MapF elVal w' bw 16 (valsN rd lv 16) ∧ ¬ F'' bw) ∧ UInv rd lv rd'' lv'') := fun hn => by
                  refine ((USt.grow hU (gr_alloc (gr_refl wr none) _)).does (by omega) m[k] HLK.out.2).mono ?_
                  rintro e w3 ⟨rfl, F3, hU3, hG3⟩
                  exact ⟨⟨_, rfl⟩, ⟨_, _, _, hU3, (hM.1.alloc _).ng hG3 hM.2, hV.step (by omega) m[k] hn⟩⟩
                have HGO := As.mk hgo
                have HU := As.mk (And.intro hU (And.intro hM hV))
                have hlen' := hU.inv.five
                clear hU hM hV hcell hcs HL hgo
                by_cases h3 : 3 ≤ m[k].k
                · by_cases hq : lv'.length = lv.length + 1
                  · have hqb : ((lv'.length : Int) == (lv.length : Int) + 1) = true := by rw [hq]; simp
                    have HR := As.mk (show ∃ F'' rd'' lv'', USt w (wr.alloc (.cells #[.int .i64 m[k].k, .int .i64 m[k].c, .int .i64 m[k].v, .int .i64 m[k].a] 27)) B nb F'' rd'' lv'' (l.length + (k + 1)) ∧ (MapF elVal (wr.alloc (.cells #[.int .i64 m[k].k, .int .i64 m[k].c, .int .i64 m[k].v, .int .i64 m[k].a] 27)) bw 16 (valsN rd lv 16) ∧ ¬ F'' bw) ∧ UInv rd lv rd'' lv'' from
                      ⟨F', rd', lv', (HU.out.1.grow (gr_alloc (gr_refl wr none) _)).le (by omega), ⟨HU.out.2.1.1.alloc _, HU.out.2.1.2⟩, HU.out.2.2⟩)
                    clear hq
                    go_wp2_with fail
                    refine (levels_c (HU.out.1.grow (gr_alloc (gr_refl wr none) _)).nest).mono ?_
                    rintro e w3 ⟨rfl, rfl⟩
                    go_wp2_with fail
                    exact ⟨⟨k + 1, by omega, by simp, HR⟩, by simp [Go.RowKit.intOf]; omega⟩
                  · have hqb : ((lv'.length : Int) == (lv.length : Int) + 1) = false := by rw [beq_eq_false_iff_ne]; omega
                    have HC := As.mk (HGO.out (by omega))
                    clear HGO hq
                    go_wp2_with fail
                    refine (levels_c (HU.out.1.grow (gr_alloc (gr_refl wr none) _)).nest).mono ?_
                    rintro e w3 ⟨rfl, rfl⟩
                    go_wp2_with fail
                    refine HC.out.mono ?_
                    rintro e w4 ⟨⟨n, rfl⟩, HX⟩
                    clear HC
                    go_wp2_with fail
                    go_roundw
                    case rel => exact ⟨k + 1, by omega, by simp, HX⟩
                    case measure => simp [Go.RowKit.intOf]; omega
                · have HC := As.mk (HGO.out (by omega))
                  clear HGO
                  go_wp2_with fail
                  refine HC.out.mono ?_
                  rintro e w4 ⟨⟨n, rfl⟩, HX⟩
                  clear HC
                  go_wp2_with fail
                  go_roundw
                  case rel => exact ⟨k + 1, by omega, by simp, HX⟩
                  case measure => simp [Go.RowKit.intOf]; omega
              · obtain rfl : k = m.length := by omega
                obtain ⟨F2, rd2, lv2, hU2, hM2, hV2⟩ := HL.out
                have HU2 := As.mk (And.intro hU2 (And.intro hM2 hV2))
                clear hU2 hM2 hV2 HL hlt
                go_wp2_with fail
                go_loopw [74] (fun _ wr => As (∃ F' rd' lv', USt w wr B nb F' rd' lv' (l.length + m.length) ∧ (MapF elVal wr bw 16 (valsN rd lv 16) ∧ ¬ F' bw) ∧ UInv rd lv rd' lv')) (fun _ wr => levOf wr nb)
                case atStart => exact ⟨⟨_, _, _, HU2.out⟩⟩
                case round =>
                  have HL := hrel
                  clear hrel HU2
                  obtain ⟨F3, rd3, lv3, hU, hM, hV⟩ := HL.out
                  have hlen3 := hU.inv.five
                  have hge3 := hV.len
                  have hlev3 := As.mk hU.nest.levOf
                  have HU := As.mk (And.intro hU (And.intro hM hV))
                  clear hU hM hV HL
                  by_cases hgt : lv.length + 1 < lv3.length
                  · have hgtI : (lv.length : Int) + 1 < (lv3.length : Int) := by omega
                    go_wp2_with fail
                    refine (levels_c HU.out.1.nest).mono ?_
                    rintro e w3 ⟨rfl, rfl⟩
                    go_wp2_with fail
                    refine (HU.out.1.merge (by omega)).mono ?_
                    rintro e w4 ⟨rfl, F4, hU4, hG4⟩
                    have H4 := As.mk (And.intro hU4 (And.intro (HU.out.2.1.1.ng hG4 HU.out.2.1.2) (HU.out.2.2.mer (by omega))))
                    clear hU4 hG4
                    go_wp2_with fail
                    go_roundw
                    case rel => exact ⟨⟨_, _, _, H4.out.1, H4.out.2.1, H4.out.2.2.1⟩⟩
                    case measure => rw [hlev3.out, H4.out.1.nest.levOf]; have := H4.out.2.2.2; omega
                  · have hgtI : ¬ (lv.length : Int) + 1 < (lv3.length : Int) := by omega
                    have heq3 : lv3.length = lv.length + 1 := by omega
                    clear hgt hge3
                    go_wp2_with fail
                    refine (levels_c HU.out.1.nest).mono ?_
                    rintro e w3 ⟨rfl, rfl⟩
                    go_wp2_with fail
                    refine (values_c HU.out.1.nest (by omega) HU.out.1.inv.pos HU.out.1.val).mono ?_
                    rintro e w4 ⟨⟨bi, rfl, hbi, hmi⟩, g4⟩
                    have H4 := As.mk (And.intro (HU.out.1.grow g4) (And.intro (And.intro (HU.out.2.1.1.kept g4 (by simp)) HU.out.2.1.2) (And.intro HU.out.2.2 (And.intro hmi (show ¬ F3 bi from fun q => by have := (HU.out.1.nest.fp bi q).2; omega)))))
                    clear hbi hmi g4 HU hlev3
                    cases b
                    · have HE := As.mk (And.intro (H4.out.2.2.1.last (by omega) heq3).2 (H4.out.2.2.1.last (by omega) heq3).1)
                      go_wp2_with fail
                      refine H4.out.1.undo.mono ?_
                      rintro e w5 ⟨rfl, F5, hU5, hG5⟩
                      rw [HE.out.1]
                      rw [HE.out.2] at hU5
                      have H5 := As.mk (And.intro hU5 (And.intro (H4.out.2.1.1.ng hG5 H4.out.2.1.2) (H4.out.2.2.2.1.ng hG5 H4.out.2.2.2.2)))
                      have HV3 := As.mk H4.out.2.2.1
                      clear hU5 hG5 H4 HE
                      go_wp2_with fail
                      refine (levels_c H5.out.1.nest).mono ?_
                      rintro e w6 ⟨rfl, rfl⟩
                      obtain ⟨Dw, how, how2⟩ := H5.out.2.1.1
                      have how : w6.ownsMap Try.prog 3 (plainElem Try.prog 3) bw 16 Dw := how
                      have HDW := As.mk how2
                      clear how2
                      go_wp2_with (first
                        | (at_range; refine wpList_range_own _ rfl _ 32 rfl 3 3 keyInt Try.underlying32 (plainElem Try.prog 3) bw 16 _ rfl how ?_; intro w0 hrg0 hg0 hs0)
                        | go_in)
                      go_frame
                      have HR0 := As.mk (And.intro hrg0 (And.intro hg0 (And.intro (H5.out.1.grow hg0) (And.intro (H5.out.2.2.1.kept hg0 (by simp)) H5.out.2.2.2))))
                      clear hrg0 hg0 how
                      obtain ⟨r0, hr0⟩ : ∃ r, r = w6.heap.size := ⟨_, rfl⟩
                      go_loopw [15] (fun _ wr => ∃ (left : Lit → Bool) (cnt : Nat), wr.ranges Try.prog 3 (plainElem Try.prog 3) bw w6.heap.size 16 Dw left cnt ∧ As (USt w wr B nb F5 rd3 lv (l.length + m.length) ∧ (MapF elVal wr bi 16 (valsN rd3 lv3 16)) ∧ w6.heap.size ≤ wr.heap.size ∧ w6.grownBy wr none))
                        (fun _ wr => wr.rangeLeft bw w6.heap.size)
                      case atStart => exact ⟨_, _, HR0.out.1, ⟨HR0.out.2.2.1, HR0.out.2.2.2.1, HR0.out.2.1.size, HR0.out.2.1⟩⟩
                      case round =>
                        obtain ⟨left, cnt, hrg, HG⟩ := hrel
                        go_wp2_with (first
                          | (at_next; refine wpList_next_ranges_ii _ rfl _ rfl 3 3 .i64 .i64 keyInt Try.underlying3 Try.underlying3 bw w6.heap.size 16 _ _ _ rfl hrg ?_ ?_)
                          | go_in)
                        · intro hc0 hl0
                          clear hrg
                          go_wp2_with fail
                          refine (values_c HG.out.1.nest (by omega) HG.out.1.inv.pos HG.out.1.val).mono ?_
                          rintro e w7 ⟨⟨bz, rfl, hbz, Dz, hoz, hz2⟩, g7⟩
                          obtain ⟨Di, hoi, hi2⟩ := HG.out.2.1.kept g7 (by simp)
                          have HZ := As.mk (And.intro (size_F hoz hz2 (fun c => valsN_dom)) (And.intro (size_F hoi hi2 (fun c => valsN_dom)) (HG.out.1.gr.trans g7)))
                          clear hz2 hi2 hbz g7
                          go_wp2_with (first
                            | (at_len; refine wpList_len_own _ rfl _ 32 rfl 3 3 Try.underlying32 _ bz 16 Dz rfl hoz ?_)
                            | (at_len; refine wpList_len_own _ rfl _ 32 rfl 3 3 Try.underlying32 _ bi 16 Di rfl hoi ?_)
                            | go_in)
                          go_ret
                          refine ⟨?_, HZ.out.2.2⟩
                          rw [HZ.out.1, HZ.out.2.1, keysF_vals rd3 lv lv3]
                          simp
                        · intro x c w1 cnt1 hwx hwc hlx hat hrg1 hlt hg1 hs1 hen
                          have hx64 : K64 x := by simp [Lit.wf, IntKind.min, IntKind.max, IntKind.signed, IntKind.bits] at hwx; exact hwx
                          have hfx : valsN rd lv 16 x = some c := by
                            have h1 := (HDW.out x hx64).1 (.lit (.bool false))
                            rw [hat] at h1
                            cases hq : valsN rd lv 16 x with
                            | none => rw [hq] at h1; cases h1
                            | some u =>
                              rw [hq] at h1
                              have h1 : (DataW.lit (.int .i64 c) : DataW Unit) = .lit (.int .i64 u) := h1
                              injection h1 with h1
                              injection h1 with _ h1
                              rw [h1]
                          have HX := As.mk (And.intro (HV3.out.was (valsN_val hfx)) hx64)
                          have HG1 := As.mk (show w6.grownBy w1 none from HG.out.2.2.2.andThen hg1 (fun j hj => .inl (by injection hj with hj; omega)))
                          clear hfx hx64 hat hwx hwc HG
                          go_wp2_with fail
                          refine (value_c (H5.out.1.grow HG1.out).nest (by omega) H5.out.1.inv.pos x HX.out.2 _ HX.out.1).mono ?_
                          rintro e w7 ⟨rfl, g7⟩
                          have H7 := As.mk (And.intro (hrg1.kept g7 (by simp) (by simp)) (HG1.out.trans g7))
                          clear g7
                          dsimp only [Option.getD_some, Option.isSome_some]
                          go_wp2_with fail
                          go_roundw
                          case rel => exact ⟨_, cnt1, H7.out.1, ⟨H5.out.1.grow H7.out.2, H5.out.2.2.1.kept H7.out.2 (by simp), H7.out.2.size, H7.out.2⟩⟩
                          case measure => rw [H7.out.1.left_eq, hrg.left_eq]; exact hlt
                    · have hqb : ((lv3.length : Int) == (lv.length : Int) + 1) = true := by rw [heq3]; simp
                      have hml := merL_len (lv := lv3) (by omega)
                      have HE := As.mk (And.intro (H4.out.2.2.1.last (by omega) heq3).2 H4.out.2.2.1)
                      go_wp2_with fail
                      refine (H4.out.1.merge (by omega)).mono ?_
                      rintro e w5 ⟨rfl, F5, hU5, hG5⟩
                      rw [HE.out.1]
                      have hq5 : (((merL lv3).length : Int) == (lv.length : Int)) = true := by rw [beq_iff_eq]; omega
                      have hq6 : (merL lv3).length ≤ 5 := by omega
                      have H5 := As.mk (And.intro hU5 (H4.out.2.2.2.1.ng hG5 H4.out.2.2.2.2))
                      clear hU5 hG5 H4 hml
                      go_wp2_with fail
                      refine (values_c H5.out.1.nest (by omega) H5.out.1.inv.pos H5.out.1.val).mono ?_
                      rintro e w6 ⟨⟨bz, rfl, hbz, hmz⟩, g6⟩
                      rw [valsN_mer] at hmz
                      have H6 := As.mk (And.intro (H5.out.1.grow g6) (And.intro hmz (H5.out.2.1.kept g6 (by simp))))
                      clear hbz hmz g6 H5
                      go_wp2_with fail
                      refine (same_c H6.out.2.1 H6.out.2.2 (fun c => valsN_dom)).mono ?_
                      rintro e w7 ⟨rfl, g7⟩
                      have H7 := As.mk (H6.out.1.grow g7)
                      clear g7 H6
                      go_wp2_with fail
                      refine (levels_c H7.out.nest).mono ?_
                      rintro e w8 ⟨rfl, rfl⟩
                      go_wp2_with fail
                      go_ret
                      exact ⟨rfl, H7.out.gr⟩
end Go.Proofs.Ytggkejkleficoaa
