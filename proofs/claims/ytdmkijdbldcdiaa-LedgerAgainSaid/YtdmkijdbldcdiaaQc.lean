/- The walk of remuda/remudaref08.Records. (Printed by wip/gen/gen_qb.py.) -/
import Derived.Test.YtdmkijdbldcdiaaQb
namespace Go.Proofs.Ytdmkijdbldcdiaa
open Go.RowKit
set_option linter.unusedVariables false
set_option linter.unusedSimpArgs false
set_option maxRecDepth 100000

theorem infoRb : (Try.prog.info? 76).map (fun i => (i.zero, i.size, i.bytes)) = some (some (.agg #[.int .i64 0, .int .i64 0, .int .i64 0, .int .i64 0, .slice none 0 0, .slice none 0 0, .int .i64 0, .int .i64 0, .int .i64 0, .int .i64 0, .int .i64 0, .int .i64 0, .int .i64 0, .int .i64 0, .bool false]), 15, 152) := by kernel_rfl
set_option maxHeartbeats 25600000 in
theorem recsb_c (w : World) (s : PSt) (vP vQ vD vC : Value) (h : StR w s vP vQ vD vC) (hi : SInv s) :
    Calls Try.prog 21 #[.agg (stCells s vP vQ vD vC)] w (RecPost w (recsS s)) := by
  obtain ⟨qs, cs, hq⟩ := h.toQ
  obtain ⟨A1, c1, rfl⟩ := hq.pl.len
  obtain ⟨A2, c2, rfl⟩ := hq.pr.len
  obtain ⟨A3, c3, rfl⟩ := hq.de.len
  obtain ⟨A4, c4, rfl⟩ := hq.cm.len
  have HQ := As.mk hq
  have HQ2 := As.mk (show qs.length = s.prepared.length by rw [← hq.qp, List.length_map])
  have HQ4 := As.mk (show cs.length = s.commits.length by rw [← hq.cp, List.length_map])
  have HN := As.mk (show s.places.length ≤ 16 ∧ qs.length ≤ 512 ∧ s.decided.length ≤ 512 ∧ cs.length ≤ 512 from by
    have := hi.cells.2.2; have := hi.tb; have := hi.cm; have := HQ2.out; have := HQ4.out
    exact ⟨by omega, by omega, by omega, by omega⟩)
  have HEP := As.mk hi.epoch
  have HLP := As.mk (fun p (hp : p ∈ s.prepared) => (hi.pr p hp).len)
  have HLC := As.mk (fun p (hp : p ∈ s.commits) => (hi.cmo p hp).len)
  obtain ⟨iR, hR1, hR2, hR3, hR4⟩ := info_parts infoRb
  have HIR := As.mk (And.intro hR1 (And.intro hR2 (And.intro hR3 hR4)))
  have HB := As.mk (Blk.new w 50 #[.int .i64 s.node, .int .i64 s.nodes, .int .i64 s.cells, .int .i64 s.epoch, .slice A1 s.places.length c1, .slice A2 qs.length c2, .slice A3 s.decided.length c3, .slice A4 cs.length c4])
  have HG := As.mk (gr_alloc (gr_refl w none) (.cells #[.int .i64 s.node, .int .i64 s.nodes, .int .i64 s.cells, .int .i64 s.epoch, .slice A1 s.places.length c1, .slice A2 qs.length c2, .slice A3 s.decided.length c3, .slice A4 cs.length c4] 50))
  clear hR1 hR2 hR3 hR4 h hq hi
  unfold stCells
  go_enter Try.func21, Try.ntmps21
  obtain ⟨q0, q1, q2, q3, q4, q5, q6, q7⟩ := (HB.out).c8
  go_upto_if 20 with fail
  clear q0 q1 q2 q3 q4 q5 q6 q7
  have HR0 := As.mk (show RecRow (NN w) ((w.alloc (.cells #[.int .i64 s.node, .int .i64 s.nodes, .int .i64 s.cells, .int .i64 s.epoch, .slice A1 s.places.length c1, .slice A2 qs.length c2, .slice A3 s.decided.length c3, .slice A4 cs.length c4] 50)).alloc (.cells #[.int .i64 1, .int .i64 0, .int .i64 0, .int .i64 0, .slice none 0 0, .slice none 0 0, .int .i64 s.node, .int .i64 s.nodes, .int .i64 s.cells, .int .i64 0, .int .i64 0, .int .i64 0, .int .i64 0, .int .i64 0, .bool false] 76)) w.heap.size 76 (.slice (some ⟨w.heap.size + 1, 0, none⟩) 1 1) [baseR s] from ⟨[(⟨baseR s, none, 0, none, 0⟩ : QRe)], by
    have := own_ofBlk (n := 1) (sz := 15) (xs := (reCells (baseR s) none 0 none 0).toList) (Blk.new2 w (.cells #[.int .i64 s.node, .int .i64 s.nodes, .int .i64 s.cells, .int .i64 s.epoch, .slice A1 s.places.length c1, .slice A2 qs.length c2, .slice A3 s.decided.length c3, .slice A4 cs.length c4] 50) 76 #[.int .i64 1, .int .i64 0, .int .i64 0, .int .i64 0, .slice none 0 0, .slice none 0 0, .int .i64 s.node, .int .i64 s.nodes, .int .i64 s.cells, .int .i64 0, .int .i64 0, .int .i64 0, .int .i64 0, .int .i64 0, .bool false]) rfl w.heap.size (by omega) (by omega)
    simpa [rqC] using this, rfl, fun q hq => by rw [List.mem_singleton] at hq; subst hq; exact ⟨Arr.nil0, Arr.nil0⟩⟩)
  have HB1 := As.mk (HB.out.alloc (.cells #[.int .i64 1, .int .i64 0, .int .i64 0, .int .i64 0, .slice none 0 0, .slice none 0 0, .int .i64 s.node, .int .i64 s.nodes, .int .i64 s.cells, .int .i64 0, .int .i64 0, .int .i64 0, .int .i64 0, .int .i64 0, .bool false] 76))
  have HG1 := As.mk (gr_alloc HG.out (.cells #[.int .i64 1, .int .i64 0, .int .i64 0, .int .i64 0, .slice none 0 0, .slice none 0 0, .int .i64 s.node, .int .i64 s.nodes, .int .i64 s.cells, .int .i64 0, .int .i64 0, .int .i64 0, .int .i64 0, .int .i64 0, .bool false] 76))
  clear HB HG
  generalize ((w.alloc (.cells #[.int .i64 s.node, .int .i64 s.nodes, .int .i64 s.cells, .int .i64 s.epoch, .slice A1 s.places.length c1, .slice A2 qs.length c2, .slice A3 s.decided.length c3, .slice A4 cs.length c4] 50)).alloc (.cells #[.int .i64 1, .int .i64 0, .int .i64 0, .int .i64 0, .slice none 0 0, .slice none 0 0, .int .i64 s.node, .int .i64 s.nodes, .int .i64 s.cells, .int .i64 0, .int .i64 0, .int .i64 0, .int .i64 0, .int .i64 0, .bool false] 76)) = W at *
  go_cut [3, 20] (fun v _c wx => As (RecRow (NN w) wx w.heap.size 76 v (headR s) ∧ Blk wx w.heap.size 50 #[.int .i64 s.node, .int .i64 s.nodes, .int .i64 s.cells, .int .i64 s.epoch, .slice A1 s.places.length c1, .slice A2 qs.length c2, .slice A3 s.decided.length c3, .slice A4 cs.length c4] ∧ w.grownBy wx none))
  case first =>
    by_cases hep : 0 < s.epoch
    · have HH := As.mk (show headR s = [baseR s] ++ [epR s] by unfold headR; rw [if_pos hep]; rfl)
      have hne : (s.epoch != 0) = true := by simp; omega
      obtain ⟨rs, ho, hm, hn⟩ := HR0.out
      have hga := gr_alloc (gr_refl W none) (.cells #[.int .i64 2, .int .i64 0, .int .i64 0, .int .i64 0, .slice none 0 0, .slice none 0 0, .int .i64 0, .int .i64 0, .int .i64 s.epoch, .int .i64 0, .int .i64 0, .int .i64 0, .int .i64 0, .int .i64 0, .bool false] 76)
      have HG2 := As.mk (gr_then HG1.out hga (.inl rfl))
      have HB2 := As.mk (HB1.out.grown hga (by simp))
      have HO2 := As.mk (own_gr0 ho hga)
      have HBS := As.mk (Blk.new W 76 #[.int .i64 2, .int .i64 0, .int .i64 0, .int .i64 0, .slice none 0 0, .slice none 0 0, .int .i64 0, .int .i64 0, .int .i64 s.epoch, .int .i64 0, .int .i64 0, .int .i64 0, .int .i64 0, .int .i64 0, .bool false])
      have HRM := As.mk hm
      have HRN := As.mk hn
      have HWA := As.mk hga
      clear hga ho hm hn
      obtain ⟨q0, q1, q2, q3, q4, q5, q6, q7⟩ := (HB1.out).c8
      go_wp2_with (at_builtin; refine wpList_app1 (by rfl) _ _ _ (by rfl) w.heap.size 76 iR _ 15 152 Try.underlying73 HIR.out.1 HIR.out.2.1 HIR.out.2.2.1 HIR.out.2.2.2 rfl (by omega) (by omega) _ _ _ (by rfl) HO2.out W.heap.size (by rfl) _ HBS.out rfl (by simp [Value.oneCell']) (by simp) HG2.out.size ?_; intro v' w' ho hg' hv'; have HO3 := As.mk ho; have HW3 := As.mk hg'; clear ho hg' hv')
      have HG3 := As.mk (gr_then HG2.out HW3.out (.inr (.inr (own_lo HO2.out))))
      have HB3 := As.mk (HB2.out.grown HW3.out (own_ne HB2.out HO2.out (by decide)))
      go_meet
      case rel =>
        refine ⟨?_, HB3.out, HG3.out⟩
        rw [HH.out]
        exact RecRow.app HRM.out (fun q hq => HRN.out q hq) (⟨epR s, none, 0, none, 0⟩ : QRe) HO3.out ⟨Arr.nil0, Arr.nil0⟩
    · have HH := As.mk (show headR s = [baseR s] by unfold headR; rw [if_neg hep])
      have hne : (s.epoch != 0) = false := by have := HEP.out; rw [bne_eq_false_iff_eq]; omega
      clear hep
      go_wp2_with fail
      go_meet
      case rel => exact ⟨by rw [HH.out]; exact HR0.out, HB1.out, HG1.out⟩
  case rest =>
    have HX := hcut.out
    clear HR0 HB1 HG1
    have HR := As.mk HX.1
    have HB := As.mk HX.2.1
    have HG := As.mk HX.2.2
    clear HX hcut
    have hzz : plR s.places 0 = [] := rfl
    replace HR := As.mk (show RecRow _ _ _ _ _ (headR s ++ plR s.places 0) by rw [hzz, List.append_nil]; exact HR.out)
    clear hzz
    go_wp2_with fail
    go_loopw [3, 4] (fun v i wr => ∃ k : Nat, k ≤ s.places.length ∧ i = .int .i64 k ∧ As (RecRow (NN w) wr w.heap.size 76 v (headR s ++ plR s.places k) ∧ Blk wr w.heap.size 50 #[.int .i64 s.node, .int .i64 s.nodes, .int .i64 s.cells, .int .i64 s.epoch, .slice A1 s.places.length c1, .slice A2 qs.length c2, .slice A3 s.decided.length c3, .slice A4 cs.length c4] ∧ w.grownBy wr none)) (fun _ i _ => s.places.length - (intOf i).toNat)
    case atStart => exact ⟨0, Nat.zero_le _, rfl, ⟨HR.out, HB.out, HG.out⟩⟩
    case round =>
      obtain ⟨k, hk, rfl, HX⟩ := hrel
      clear HR HB HG
      obtain ⟨HR, HB, HG⟩ := HX.out
      clear HX
      replace HR := As.mk HR
      replace HB := As.mk HB
      replace HG := As.mk HG
      have hq_ := HB.out
      obtain ⟨q0, q1, q2, q3, q4, q5, q6, q7⟩ := (hq_).c8
      clear hq_
      by_cases hlt : k < s.places.length
      · have hltI : (k : Int) < (s.places.length : Int) := by omega
        have hk0 : (0 : Int) ≤ (k : Int) := by omega
        obtain ⟨x, hx⟩ : ∃ x, s.places[k]? = some x := ⟨_, List.getElem?_eq_getElem hlt⟩
        obtain ⟨b, off, ds, rfl, rfl, _, hcs⟩ := HQ.out.pl.at_ k x hx
        have hle := HQ.out.pl.cap
        have hle2 := HQ.out.pl.le
        have HXK := As.mk hx
        have e0 := HG.out.cell (hcs 0 _ rfl) (by simp)
        have e1 := HG.out.cell (hcs 1 _ rfl) (by simp)
        have e2 := HG.out.cell (hcs 2 _ rfl) (by simp)
        have e3 := HG.out.cell (hcs 3 _ rfl) (by simp)
        have e4 := HG.out.cell (hcs 4 _ rfl) (by simp)
        simp only [Nat.add_zero] at e0
        have HCS := As.mk hcs
        clear hcs hx
        have hlb : (headR s ++ plR s.places k).length ≤ 100000 := by
          have h1 := headR_len s
          have h2 := plR_len s.places k
          have h3 := cmR_len (s.commits.take k)
          have h4 := HN.out
          have h5 := HQ2.out
          have h6 := HQ4.out
          simp only [List.length_append, List.length_map, List.length_take] at h3 ⊢
          omega
        have HXB := As.mk (Blk.new wr 82 #[.int .i64 x.st, .int .i64 x.hop, .int .i64 x.to_, .int .i64 x.ver, .int .i64 x.val])
        have hga := gr_alloc (gr_refl wr none) (.cells #[.int .i64 x.st, .int .i64 x.hop, .int .i64 x.to_, .int .i64 x.ver, .int .i64 x.val] 82)
        have HG1 := As.mk (gr_then HG.out hga (.inl rfl))
        have HB1 := As.mk (HB.out.grown hga (by simp))
        have HWE := As.mk hga
        clear hga
        have HPK := As.mk (show plR s.places (k + 1) = plR s.places k ++ (if isZ x = true then [] else [cellR (k : Int) x]) by show plR s.places k ++ _ = _; rw [HXK.out])
        rcases bool_cases (isZ x) with hz | hz
        · have HPZ := As.mk (show headR s ++ plR s.places (k + 1) = (headR s ++ plR s.places k) ++ [cellR (k : Int) x] by rw [HPK.out, if_neg (by rw [hz]; decide), List.append_assoc])
          obtain ⟨rs, ho, hm, hn⟩ := HR.out
          have hga := gr_alloc HWE.out (.cells #[.int .i64 3, .int .i64 0, .int .i64 0, .int .i64 0, .slice none 0 0, .slice none 0 0, .int .i64 x.to_, .int .i64 0, .int .i64 0, .int .i64 (k : Int), .int .i64 x.st, .int .i64 x.hop, .int .i64 x.ver, .int .i64 x.val, .bool false] 76)
          have HG2 := As.mk (gr_then HG.out hga (.inl rfl))
          have HB2 := As.mk (HB.out.grown hga (by simp))
          have HO2 := As.mk (own_gr0 ho hga)
          have HBS := As.mk (show Blk _ (wr.heap.size + 1) 76 #[.int .i64 3, .int .i64 0, .int .i64 0, .int .i64 0, .slice none 0 0, .slice none 0 0, .int .i64 x.to_, .int .i64 0, .int .i64 0, .int .i64 (k : Int), .int .i64 x.st, .int .i64 x.hop, .int .i64 x.ver, .int .i64 x.val, .bool false] from Blk.new2 wr (.cells #[.int .i64 x.st, .int .i64 x.hop, .int .i64 x.to_, .int .i64 x.ver, .int .i64 x.val] 82) 76 #[.int .i64 3, .int .i64 0, .int .i64 0, .int .i64 0, .slice none 0 0, .slice none 0 0, .int .i64 x.to_, .int .i64 0, .int .i64 0, .int .i64 (k : Int), .int .i64 x.st, .int .i64 x.hop, .int .i64 x.ver, .int .i64 x.val, .bool false])
          have HRM := As.mk hm
          have HRN := As.mk hn
          have HWA := As.mk hga
          clear hga ho hm hn
          rcases bool_cases (x.st == 0) with z0 | z0
          · have y0 : (x.st != 0) = true := by simp [bne, z0]
            go_wp2_with (at_builtin; refine wpList_app1 (by rfl) _ _ _ (by rfl) w.heap.size 76 iR _ 15 152 Try.underlying73 HIR.out.1 HIR.out.2.1 HIR.out.2.2.1 HIR.out.2.2.2 rfl (by omega) (by omega) _ _ _ (by rfl) HO2.out (wr.heap.size + 1) (by rfl) _ HBS.out rfl (by simp [Value.oneCell']) (by omega) HG2.out.size ?_; intro v' w' ho hg' hv'; have HO3 := As.mk ho; have HW3 := As.mk hg'; clear ho hg' hv')
            have HG3 := As.mk (gr_then HG2.out HW3.out (.inr (.inr (own_lo HO2.out))))
            have HB3 := As.mk (HB2.out.grown HW3.out (own_ne HB2.out HO2.out (by decide)))
            clear e0 e1 e2 e3 e4
            clear q0 q1 q2 q3 q4 q5 q6 q7
            go_roundw
            case measure => simp [intOf]; omega
            case rel =>
              refine ⟨k + 1, by omega, by go_num, ⟨?_, HB3.out, HG3.out⟩⟩
              rw [HPZ.out]
              exact RecRow.app HRM.out (fun q hq => HRN.out q hq) (⟨cellR (k : Int) x, none, 0, none, 0⟩ : QRe) HO3.out ⟨Arr.nil0, Arr.nil0⟩
          · rcases bool_cases (x.hop == 0) with z1 | z1
            · have y0 : (x.st != 0) = false := by simp [bne, z0]
              have y1 : (x.hop != 0) = true := by simp [bne, z1]
              go_wp2_with (at_builtin; refine wpList_app1 (by rfl) _ _ _ (by rfl) w.heap.size 76 iR _ 15 152 Try.underlying73 HIR.out.1 HIR.out.2.1 HIR.out.2.2.1 HIR.out.2.2.2 rfl (by omega) (by omega) _ _ _ (by rfl) HO2.out (wr.heap.size + 1) (by rfl) _ HBS.out rfl (by simp [Value.oneCell']) (by omega) HG2.out.size ?_; intro v' w' ho hg' hv'; have HO3 := As.mk ho; have HW3 := As.mk hg'; clear ho hg' hv')
              have HG3 := As.mk (gr_then HG2.out HW3.out (.inr (.inr (own_lo HO2.out))))
              have HB3 := As.mk (HB2.out.grown HW3.out (own_ne HB2.out HO2.out (by decide)))
              clear e0 e1 e2 e3 e4
              clear q0 q1 q2 q3 q4 q5 q6 q7
              go_roundw
              case measure => simp [intOf]; omega
              case rel =>
                refine ⟨k + 1, by omega, by go_num, ⟨?_, HB3.out, HG3.out⟩⟩
                rw [HPZ.out]
                exact RecRow.app HRM.out (fun q hq => HRN.out q hq) (⟨cellR (k : Int) x, none, 0, none, 0⟩ : QRe) HO3.out ⟨Arr.nil0, Arr.nil0⟩
            · rcases bool_cases (x.to_ == 0) with z2 | z2
              · have y0 : (x.st != 0) = false := by simp [bne, z0]
                have y1 : (x.hop != 0) = false := by simp [bne, z1]
                have y2 : (x.to_ != 0) = true := by simp [bne, z2]
                go_wp2_with (at_builtin; refine wpList_app1 (by rfl) _ _ _ (by rfl) w.heap.size 76 iR _ 15 152 Try.underlying73 HIR.out.1 HIR.out.2.1 HIR.out.2.2.1 HIR.out.2.2.2 rfl (by omega) (by omega) _ _ _ (by rfl) HO2.out (wr.heap.size + 1) (by rfl) _ HBS.out rfl (by simp [Value.oneCell']) (by omega) HG2.out.size ?_; intro v' w' ho hg' hv'; have HO3 := As.mk ho; have HW3 := As.mk hg'; clear ho hg' hv')
                have HG3 := As.mk (gr_then HG2.out HW3.out (.inr (.inr (own_lo HO2.out))))
                have HB3 := As.mk (HB2.out.grown HW3.out (own_ne HB2.out HO2.out (by decide)))
                clear e0 e1 e2 e3 e4
                clear q0 q1 q2 q3 q4 q5 q6 q7
                go_roundw
                case measure => simp [intOf]; omega
                case rel =>
                  refine ⟨k + 1, by omega, by go_num, ⟨?_, HB3.out, HG3.out⟩⟩
                  rw [HPZ.out]
                  exact RecRow.app HRM.out (fun q hq => HRN.out q hq) (⟨cellR (k : Int) x, none, 0, none, 0⟩ : QRe) HO3.out ⟨Arr.nil0, Arr.nil0⟩
              · rcases bool_cases (x.ver == 0) with z3 | z3
                · have y0 : (x.st != 0) = false := by simp [bne, z0]
                  have y1 : (x.hop != 0) = false := by simp [bne, z1]
                  have y2 : (x.to_ != 0) = false := by simp [bne, z2]
                  have y3 : (x.ver != 0) = true := by simp [bne, z3]
                  go_wp2_with (at_builtin; refine wpList_app1 (by rfl) _ _ _ (by rfl) w.heap.size 76 iR _ 15 152 Try.underlying73 HIR.out.1 HIR.out.2.1 HIR.out.2.2.1 HIR.out.2.2.2 rfl (by omega) (by omega) _ _ _ (by rfl) HO2.out (wr.heap.size + 1) (by rfl) _ HBS.out rfl (by simp [Value.oneCell']) (by omega) HG2.out.size ?_; intro v' w' ho hg' hv'; have HO3 := As.mk ho; have HW3 := As.mk hg'; clear ho hg' hv')
                  have HG3 := As.mk (gr_then HG2.out HW3.out (.inr (.inr (own_lo HO2.out))))
                  have HB3 := As.mk (HB2.out.grown HW3.out (own_ne HB2.out HO2.out (by decide)))
                  clear e0 e1 e2 e3 e4
                  clear q0 q1 q2 q3 q4 q5 q6 q7
                  go_roundw
                  case measure => simp [intOf]; omega
                  case rel =>
                    refine ⟨k + 1, by omega, by go_num, ⟨?_, HB3.out, HG3.out⟩⟩
                    rw [HPZ.out]
                    exact RecRow.app HRM.out (fun q hq => HRN.out q hq) (⟨cellR (k : Int) x, none, 0, none, 0⟩ : QRe) HO3.out ⟨Arr.nil0, Arr.nil0⟩
                · rcases bool_cases (x.val == 0) with z4 | z4
                  · have y0 : (x.st != 0) = false := by simp [bne, z0]
                    have y1 : (x.hop != 0) = false := by simp [bne, z1]
                    have y2 : (x.to_ != 0) = false := by simp [bne, z2]
                    have y3 : (x.ver != 0) = false := by simp [bne, z3]
                    have y4 : (x.val != 0) = true := by simp [bne, z4]
                    go_wp2_with (at_builtin; refine wpList_app1 (by rfl) _ _ _ (by rfl) w.heap.size 76 iR _ 15 152 Try.underlying73 HIR.out.1 HIR.out.2.1 HIR.out.2.2.1 HIR.out.2.2.2 rfl (by omega) (by omega) _ _ _ (by rfl) HO2.out (wr.heap.size + 1) (by rfl) _ HBS.out rfl (by simp [Value.oneCell']) (by omega) HG2.out.size ?_; intro v' w' ho hg' hv'; have HO3 := As.mk ho; have HW3 := As.mk hg'; clear ho hg' hv')
                    have HG3 := As.mk (gr_then HG2.out HW3.out (.inr (.inr (own_lo HO2.out))))
                    have HB3 := As.mk (HB2.out.grown HW3.out (own_ne HB2.out HO2.out (by decide)))
                    clear e0 e1 e2 e3 e4
                    clear q0 q1 q2 q3 q4 q5 q6 q7
                    go_roundw
                    case measure => simp [intOf]; omega
                    case rel =>
                      refine ⟨k + 1, by omega, by go_num, ⟨?_, HB3.out, HG3.out⟩⟩
                      rw [HPZ.out]
                      exact RecRow.app HRM.out (fun q hq => HRN.out q hq) (⟨cellR (k : Int) x, none, 0, none, 0⟩ : QRe) HO3.out ⟨Arr.nil0, Arr.nil0⟩
                  · exact absurd (show isZ x = true by unfold isZ; rw [z0, z1, z2, z3, z4]; rfl) (by rw [hz]; decide)
        · have hxz := (isZ_iff x).1 hz
          have HPZ := As.mk (show plR s.places (k + 1) = plR s.places k by rw [HPK.out, if_pos hz, List.append_nil])
          subst hxz
          clear hz
          have f0 : wr.cell? ⟨b, off + k * 5, none⟩ = some (.int .i64 0) := e0
          have f1 : wr.cell? ⟨b, off + k * 5 + 1, none⟩ = some (.int .i64 0) := e1
          have f2 : wr.cell? ⟨b, off + k * 5 + 2, none⟩ = some (.int .i64 0) := e2
          have f3 : wr.cell? ⟨b, off + k * 5 + 3, none⟩ = some (.int .i64 0) := e3
          have f4 : wr.cell? ⟨b, off + k * 5 + 4, none⟩ = some (.int .i64 0) := e4
          clear e0 e1 e2 e3 e4
          go_wp2_with fail
          go_roundw
          case measure => simp [intOf]; omega
          case rel => exact ⟨k + 1, by omega, by go_num, ⟨by rw [HPZ.out]; exact HR.out.grown HWE.out, HB1.out, HG1.out⟩⟩
      · obtain rfl : k = s.places.length := by omega
        clear hlt hk
        go_wp2_with fail
        clear q0 q1 q2 q3 q4 q5 q6 q7
        replace HR := As.mk (show RecRow _ _ _ _ _ (headR s ++ plR s.places s.places.length ++ (s.decided.take 0).map pastR) by simpa using HR.out)
        go_wp2_with fail
        go_loopw [3, 6] (fun v i wr => ∃ k : Nat, k ≤ s.decided.length ∧ i = .int .i64 k ∧ As (RecRow (NN w) wr w.heap.size 76 v (headR s ++ plR s.places s.places.length ++ (s.decided.take k).map pastR) ∧ Blk wr w.heap.size 50 #[.int .i64 s.node, .int .i64 s.nodes, .int .i64 s.cells, .int .i64 s.epoch, .slice A1 s.places.length c1, .slice A2 qs.length c2, .slice A3 s.decided.length c3, .slice A4 cs.length c4] ∧ w.grownBy wr none)) (fun _ i _ => s.decided.length - (intOf i).toNat)
        case atStart => exact ⟨0, Nat.zero_le _, rfl, ⟨HR.out, HB.out, HG.out⟩⟩
        case round =>
          obtain ⟨k, hk, rfl, HX⟩ := hrel
          clear HR HB HG
          obtain ⟨HR, HB, HG⟩ := HX.out
          clear HX
          replace HR := As.mk HR
          replace HB := As.mk HB
          replace HG := As.mk HG
          have hq_ := HB.out
          obtain ⟨q0, q1, q2, q3, q4, q5, q6, q7⟩ := (hq_).c8
          clear hq_
          by_cases hlt : k < s.decided.length
          · have hltI : (k : Int) < (s.decided.length : Int) := by omega
            have hk0 : (0 : Int) ≤ (k : Int) := by omega
            obtain ⟨x, hx⟩ : ∃ x, s.decided[k]? = some x := ⟨_, List.getElem?_eq_getElem hlt⟩
            obtain ⟨b, off, ds, rfl, rfl, _, hcs⟩ := HQ.out.de.at_ k x hx
            have hle := HQ.out.de.cap
            have hle2 := HQ.out.de.le
            have HXK := As.mk hx
            have e0 := HG.out.cell (hcs 0 _ rfl) (by simp)
            have e1 := HG.out.cell (hcs 1 _ rfl) (by simp)
            have e2 := HG.out.cell (hcs 2 _ rfl) (by simp)
            have e3 := HG.out.cell (hcs 3 _ rfl) (by simp)
            simp only [Nat.add_zero] at e0
            have HCS := As.mk hcs
            clear hcs hx
            have hlb : (headR s ++ plR s.places s.places.length ++ (s.decided.take k).map pastR).length ≤ 100000 := by
              have h1 := headR_len s
              have h2 := plR_len s.places s.places.length
              have h3 := cmR_len (s.commits.take k)
              have h4 := HN.out
              have h5 := HQ2.out
              have h6 := HQ4.out
              simp only [List.length_append, List.length_map, List.length_take] at h3 ⊢
              omega
            have HPZ := As.mk (show (headR s ++ plR s.places s.places.length ++ (s.decided.take (k + 1)).map pastR) = (headR s ++ plR s.places s.places.length ++ (s.decided.take k).map pastR) ++ [pastR x] by rw [List.take_add_one, HXK.out, List.map_append, ← List.append_assoc]; rfl)
            obtain ⟨rs, ho, hm, hn⟩ := HR.out
            have HRM := As.mk hm
            have HRN := As.mk hn
            go_wp2_with fail
            clear e0 e1 e2 e3
            clear q0 q1 q2 q3 q4 q5 q6 q7
            have HO := As.mk ho
            clear ho hm hn
            refine wp_region_noPanic ?_
            refine wp_region_held_drew (S := fun w' => Blk w' w.heap.size 50 #[.int .i64 s.node, .int .i64 s.nodes, .int .i64 s.cells, .int .i64 s.epoch, .slice A1 s.places.length c1, .slice A2 qs.length c2, .slice (some ⟨b, off, none⟩) s.decided.length c3, .slice A4 cs.length c4] ∧ w.grownBy w' none) (by kernel_rfl) (⟨HB.out.drew, gr_drew HG.out⟩) (fun hS => ?_)
            refine wpAnyH_take (i := 0) (v := ?vde1) rfl (by kernel_rfl) (by kernel_rfl) (by kernel_rfl) (fun _ _ _ h => h) (Or.inl ⟨by rfl, ?yde1⟩) hS ?rde1
            case yde1 => (intro w0 _; go_simp; try with_reducible rfl)
            try simp only [yA, yB, yC, Act.put, yD, yE, yF]
            refine wpAnyH_take (i := 1) (v := ?vde2) rfl (by kernel_rfl) (by kernel_rfl) (by kernel_rfl) (fun _ _ _ h => h) (Or.inl ⟨by rfl, ?yde2⟩) hS ?rde2
            case yde2 => (intro w0 _; go_simp; try with_reducible rfl)
            try simp only [yA, yB, yC, Act.put, yD, yE, yF]
            refine wpAnyH_take (i := 2) (v := ?vde3) rfl (by kernel_rfl) (by kernel_rfl) (by kernel_rfl) (fun _ _ _ h => h) (Or.inl ⟨by rfl, ?yde3⟩) hS ?rde3
            case yde3 => (intro w0 hS0; (try simp only [] at hS0); obtain ⟨hS0_0, hS0_1⟩ := hS0; obtain ⟨q0_0, q0_1, q0_2, q0_3, q0_4, q0_5, q0_6, q0_7⟩ := hS0_0.c8; go_simp; try with_reducible rfl)
            try simp only [yA, yB, yC, Act.put, yD, yE, yF]
            refine wpAnyH_take (i := 3) (v := ?vde4) rfl (by kernel_rfl) (by kernel_rfl) (by kernel_rfl) (fun _ _ _ h => h) (Or.inl ⟨by rfl, ?yde4⟩) hS ?rde4
            case yde4 => (intro w0 _; go_simp; try with_reducible rfl)
            try simp only [yA, yB, yC, Act.put, yD, yE, yF]
            refine wpAnyH_take (i := 4) (v := ?vde5) rfl (by kernel_rfl) (by kernel_rfl) (by kernel_rfl) (fun _ _ _ h => h) (Or.inl ⟨by rfl, ?yde5⟩) hS ?rde5
            case yde5 => (intro w0 _; go_simp; try with_reducible rfl)
            try simp only [yA, yB, yC, Act.put, yD, yE, yF]
            refine wpAnyH_take (i := 5) (v := ?vde6) rfl (by kernel_rfl) (by kernel_rfl) (by kernel_rfl) (fun _ _ _ h => h) (Or.inl ⟨by rfl, ?yde6⟩) hS ?rde6
            case yde6 => (intro w0 _; go_simp; try with_reducible rfl)
            try simp only [yA, yB, yC, Act.put, yD, yE, yF]
            refine wpAnyH_take (i := 6) (v := ?vde7) rfl (by kernel_rfl) (by kernel_rfl) (by kernel_rfl) (fun _ _ _ h => h) (Or.inl ⟨by rfl, ?yde7⟩) hS ?rde7
            case yde7 => (intro w0 hS0; (try simp only [] at hS0); obtain ⟨hS0_0, hS0_1⟩ := hS0; have e0 := hS0_1.cell (HCS.out 0 _ rfl) (by simp); have e1 := hS0_1.cell (HCS.out 1 _ rfl) (by simp); have e2 := hS0_1.cell (HCS.out 2 _ rfl) (by simp); have e3 := hS0_1.cell (HCS.out 3 _ rfl) (by simp); simp only [Nat.add_zero] at e0; go_simp; try with_reducible rfl)
            try simp only [yA, yB, yC, Act.put, yD, yE, yF]
            refine wpAnyH_take (i := 7) (v := ?vde8) rfl (by kernel_rfl) (by kernel_rfl) (by kernel_rfl) (fun _ _ _ h => h) (Or.inl ⟨by rfl, ?yde8⟩) hS ?rde8
            case yde8 => (intro w0 _; go_simp; try with_reducible rfl)
            try simp only [yA, yB, yC, Act.put, yD, yE, yF]
            refine wpAnyH_take (i := 8) (v := ?vde9) rfl (by kernel_rfl) (by kernel_rfl) (by kernel_rfl) (fun _ _ _ h => h) (Or.inl ⟨by rfl, ?yde9⟩) hS ?rde9
            case yde9 => (intro w0 hS0; (try simp only [] at hS0); obtain ⟨hS0_0, hS0_1⟩ := hS0; obtain ⟨q0_0, q0_1, q0_2, q0_3, q0_4, q0_5, q0_6, q0_7⟩ := hS0_0.c8; go_simp; try with_reducible rfl)
            try simp only [yA, yB, yC, Act.put, yD, yE, yF]
            refine wpAnyH_take (i := 9) (v := ?vde10) rfl (by kernel_rfl) (by kernel_rfl) (by kernel_rfl) (fun _ _ _ h => h) (Or.inl ⟨by rfl, ?yde10⟩) hS ?rde10
            case yde10 => (intro w0 _; go_simp; try with_reducible rfl)
            try simp only [yA, yB, yC, Act.put, yD, yE, yF]
            refine wpAnyH_take (i := 10) (v := ?vde11) rfl (by kernel_rfl) (by kernel_rfl) (by kernel_rfl) (fun _ _ _ h => h) (Or.inl ⟨by rfl, ?yde11⟩) hS ?rde11
            case yde11 => (intro w0 _; go_simp; try with_reducible rfl)
            try simp only [yA, yB, yC, Act.put, yD, yE, yF]
            refine wpAnyH_take (i := 11) (v := ?vde12) rfl (by kernel_rfl) (by kernel_rfl) (by kernel_rfl) (fun _ _ _ h => h) (Or.inl ⟨by rfl, ?yde12⟩) hS ?rde12
            case yde12 => (intro w0 _; go_simp; try with_reducible rfl)
            try simp only [yA, yB, yC, Act.put, yD, yE, yF]
            refine wpAnyH_take (i := 12) (v := ?vde13) rfl (by kernel_rfl) (by kernel_rfl) (by kernel_rfl) (fun _ _ _ h => h) (Or.inl ⟨by rfl, ?yde13⟩) hS ?rde13
            case yde13 => (intro w0 hS0; (try simp only [] at hS0); obtain ⟨hS0_0, hS0_1⟩ := hS0; have e0 := hS0_1.cell (HCS.out 0 _ rfl) (by simp); have e1 := hS0_1.cell (HCS.out 1 _ rfl) (by simp); have e2 := hS0_1.cell (HCS.out 2 _ rfl) (by simp); have e3 := hS0_1.cell (HCS.out 3 _ rfl) (by simp); simp only [Nat.add_zero] at e0; go_simp; try with_reducible rfl)
            try simp only [yA, yB, yC, Act.put, yD, yE, yF]
            refine wpAnyH_take (i := 13) (v := ?vde14) rfl (by kernel_rfl) (by kernel_rfl) (by kernel_rfl) (fun _ _ _ h => h) (Or.inl ⟨by rfl, ?yde14⟩) hS ?rde14
            case yde14 => (intro w0 _; go_simp; try with_reducible rfl)
            try simp only [yA, yB, yC, Act.put, yD, yE, yF]
            refine wpAnyH_ready (rs := [14]) (by kernel_rfl) (by simp) (AllReadyH.cons (i := 14) rfl (fun K hK => ?_) AllReadyH.nil)
            go_simp
            have hga := gr_drew (gr_alloc (gr_refl wr none) (.cells #[.int .i64 11, .int .i64 x.tid.n, .int .i64 x.tid.e, .int .i64 x.tid.s, .slice none 0 0, .slice none 0 0, .int .i64 0, .int .i64 0, .int .i64 0, .int .i64 0, .int .i64 0, .int .i64 0, .int .i64 0, .int .i64 0, .bool x.yes] 76))
            have HG2 := As.mk (gr_then HG.out hga (.inl rfl))
            have HB2 := As.mk (HB.out.grown hga (by simp))
            have HO2 := As.mk (own_gr0 HO.out hga)
            have HBS := As.mk (Blk.drew (Blk.new wr 76 #[.int .i64 11, .int .i64 x.tid.n, .int .i64 x.tid.e, .int .i64 x.tid.s, .slice none 0 0, .slice none 0 0, .int .i64 0, .int .i64 0, .int .i64 0, .int .i64 0, .int .i64 0, .int .i64 0, .int .i64 0, .int .i64 0, .bool x.yes]))
            clear hga
            refine hK.out _ _ (⟨HB2.out, HG2.out⟩) (fun hS => ?_)
            clear hK K
            try simp only [yA, yB, yC, Act.put, yD, yE, yF]
            refine wpAnyH_ready (rs := [15]) (by kernel_rfl) (by simp) (AllReadyH.cons (i := 15) rfl (fun K hK => ?_) AllReadyH.nil)
            refine step_app1 rfl _ _ _ rfl w.heap.size 76 iR _ 15 152 Try.underlying73 HIR.out.1 HIR.out.2.1 HIR.out.2.2.1 HIR.out.2.2.2 rfl (by omega) (by omega) _ _ _ rfl HO2.out wr.heap.size rfl _ HBS.out rfl (by simp [Value.oneCell']) (by omega) HG2.out.size ?_
            intro v' w' ho hg' _
            have HO3 := As.mk ho
            have HG3 := As.mk (gr_then HG2.out hg' (.inr (.inr (own_lo HO2.out))))
            have HB3 := As.mk (HB2.out.grown hg' (own_ne HB2.out HO2.out (by decide)))
            clear ho hg'
            refine hK.out _ _ (⟨HB3.out, HG3.out⟩) (fun hS => ?_)
            clear hK K
            try simp only [yA, yB, yC, Act.put, yD, yE, yF]
            refine wpAnyH_take (i := 16) (v := ?vde17) rfl (by kernel_rfl) (by kernel_rfl) (by kernel_rfl) (fun _ _ _ h => h) (Or.inl ⟨by rfl, ?yde17⟩) hS ?rde17
            case yde17 => (intro w0 _; go_simp; try with_reducible rfl)
            try simp only [yA, yB, yC, Act.put, yD, yE, yF]
            refine wpAnyH_done (by kernel_rfl) ?_ _
            refine NoPanic.normal ?_
            try simp only [Exit.then]
            clear hS
            go_wp2_with fail
            go_roundw
            case measure => simp [intOf]; omega
            case rel =>
              refine ⟨k + 1, by omega, by go_num, ⟨?_, HB3.out, HG3.out⟩⟩
              rw [HPZ.out]
              exact RecRow.app HRM.out (fun q hq => HRN.out q hq) (⟨pastR x, none, 0, none, 0⟩ : QRe) HO3.out ⟨Arr.nil0, Arr.nil0⟩
          · obtain rfl : k = s.decided.length := by omega
            replace HR := As.mk (show RecRow _ _ _ _ _ (headR s ++ plR s.places s.places.length ++ s.decided.map pastR) by have := HR.out; rw [List.take_length] at this; exact this)
            clear hlt hk
            go_wp2_with fail
            clear q0 q1 q2 q3 q4 q5 q6 q7
            replace HR := As.mk (show RecRow _ _ _ _ _ (headR s ++ plR s.places s.places.length ++ s.decided.map pastR ++ (s.prepared.take 0).map prepR) by simpa using HR.out)
            go_wp2_with fail
            go_loopw [3, 7] (fun v i wr => ∃ k : Nat, k ≤ qs.length ∧ i = .int .i64 k ∧ As (RecRow (NN w) wr w.heap.size 76 v (headR s ++ plR s.places s.places.length ++ s.decided.map pastR ++ (s.prepared.take k).map prepR) ∧ Blk wr w.heap.size 50 #[.int .i64 s.node, .int .i64 s.nodes, .int .i64 s.cells, .int .i64 s.epoch, .slice A1 s.places.length c1, .slice A2 qs.length c2, .slice A3 s.decided.length c3, .slice A4 cs.length c4] ∧ w.grownBy wr none)) (fun _ i _ => qs.length - (intOf i).toNat)
            case atStart => exact ⟨0, Nat.zero_le _, rfl, ⟨HR.out, HB.out, HG.out⟩⟩
            case round =>
              obtain ⟨k, hk, rfl, HX⟩ := hrel
              clear HR HB HG
              obtain ⟨HR, HB, HG⟩ := HX.out
              clear HX
              replace HR := As.mk HR
              replace HB := As.mk HB
              replace HG := As.mk HG
              have hq_ := HB.out
              obtain ⟨q0, q1, q2, q3, q4, q5, q6, q7⟩ := (hq_).c8
              clear hq_
              by_cases hlt : k < qs.length
              · have hltI : (k : Int) < (qs.length : Int) := by omega
                have hk0 : (0 : Int) ≤ (k : Int) := by omega
                obtain ⟨x, hx⟩ : ∃ x, qs[k]? = some x := ⟨_, List.getElem?_eq_getElem hlt⟩
                obtain ⟨b, off, ds, rfl, rfl, _, hcs⟩ := HQ.out.pr.at_ k x hx
                have hle := HQ.out.pr.cap
                have hle2 := HQ.out.pr.le
                have HXK := As.mk hx
                have e0 := HG.out.cell (hcs 0 _ rfl) (by simp)
                have e1 := HG.out.cell (hcs 1 _ rfl) (by simp)
                have e2 := HG.out.cell (hcs 2 _ rfl) (by simp)
                have e3 := HG.out.cell (hcs 3 _ rfl) (by simp)
                have e4 := HG.out.cell (hcs 4 _ rfl) (by simp)
                simp only [Nat.add_zero] at e0
                have HCS := As.mk hcs
                clear hcs hx
                have hlb : (headR s ++ plR s.places s.places.length ++ s.decided.map pastR ++ (s.prepared.take k).map prepR).length ≤ 100000 := by
                  have h1 := headR_len s
                  have h2 := plR_len s.places s.places.length
                  have h3 := cmR_len (s.commits.take k)
                  have h4 := HN.out
                  have h5 := HQ2.out
                  have h6 := HQ4.out
                  simp only [List.length_append, List.length_map, List.length_take] at h3 ⊢
                  omega
                have HPZ := As.mk (show (headR s ++ plR s.places s.places.length ++ s.decided.map pastR ++ (s.prepared.take (k + 1)).map prepR) = (headR s ++ plR s.places s.places.length ++ s.decided.map pastR ++ (s.prepared.take k).map prepR) ++ [prepR x.p] by rw [qs_take HQ.out.qp HXK.out, List.map_append, ← List.append_assoc]; rfl)
                obtain ⟨rs, ho, hm, hn⟩ := HR.out
                have HRM := As.mk hm
                have HRN := As.mk hn
                have HNI := As.mk (HQ.out.qi x (List.mem_of_getElem? HXK.out))
                go_wp2_with fail
                clear e0 e1 e2 e3 e4
                clear q0 q1 q2 q3 q4 q5 q6 q7
                have HO := As.mk ho
                clear ho hm hn
                refine wp_region_noPanic ?_
                refine wp_region_held_drew (S := fun w' => Blk w' w.heap.size 50 #[.int .i64 s.node, .int .i64 s.nodes, .int .i64 s.cells, .int .i64 s.epoch, .slice A1 s.places.length c1, .slice (some ⟨b, off, none⟩) qs.length c2, .slice A3 s.decided.length c3, .slice A4 cs.length c4] ∧ w.grownBy w' none) (by kernel_rfl) (⟨HB.out.drew, gr_drew HG.out⟩) (fun hS => ?_)
                refine wpAnyH_take (i := 0) (v := ?vpr1) rfl (by kernel_rfl) (by kernel_rfl) (by kernel_rfl) (fun _ _ _ h => h) (Or.inl ⟨by rfl, ?ypr1⟩) hS ?rpr1
                case ypr1 => (intro w0 _; go_simp; try with_reducible rfl)
                try simp only [yA, yB, yC, Act.put, yD, yE, yF]
                refine wpAnyH_take (i := 1) (v := ?vpr2) rfl (by kernel_rfl) (by kernel_rfl) (by kernel_rfl) (fun _ _ _ h => h) (Or.inl ⟨by rfl, ?ypr2⟩) hS ?rpr2
                case ypr2 => (intro w0 _; go_simp; try with_reducible rfl)
                try simp only [yA, yB, yC, Act.put, yD, yE, yF]
                refine wpAnyH_take (i := 2) (v := ?vpr3) rfl (by kernel_rfl) (by kernel_rfl) (by kernel_rfl) (fun _ _ _ h => h) (Or.inl ⟨by rfl, ?ypr3⟩) hS ?rpr3
                case ypr3 => (intro w0 hS0; (try simp only [] at hS0); obtain ⟨hS0_0, hS0_1⟩ := hS0; obtain ⟨q0_0, q0_1, q0_2, q0_3, q0_4, q0_5, q0_6, q0_7⟩ := hS0_0.c8; go_simp; try with_reducible rfl)
                try simp only [yA, yB, yC, Act.put, yD, yE, yF]
                refine wpAnyH_take (i := 3) (v := ?vpr4) rfl (by kernel_rfl) (by kernel_rfl) (by kernel_rfl) (fun _ _ _ h => h) (Or.inl ⟨by rfl, ?ypr4⟩) hS ?rpr4
                case ypr4 => (intro w0 _; go_simp; try with_reducible rfl)
                try simp only [yA, yB, yC, Act.put, yD, yE, yF]
                refine wpAnyH_take (i := 4) (v := ?vpr5) rfl (by kernel_rfl) (by kernel_rfl) (by kernel_rfl) (fun _ _ _ h => h) (Or.inl ⟨by rfl, ?ypr5⟩) hS ?rpr5
                case ypr5 => (intro w0 _; go_simp; try with_reducible rfl)
                try simp only [yA, yB, yC, Act.put, yD, yE, yF]
                refine wpAnyH_take (i := 5) (v := ?vpr6) rfl (by kernel_rfl) (by kernel_rfl) (by kernel_rfl) (fun _ _ _ h => h) (Or.inl ⟨by rfl, ?ypr6⟩) hS ?rpr6
                case ypr6 => (intro w0 _; go_simp; try with_reducible rfl)
                try simp only [yA, yB, yC, Act.put, yD, yE, yF]
                refine wpAnyH_take (i := 6) (v := ?vpr7) rfl (by kernel_rfl) (by kernel_rfl) (by kernel_rfl) (fun _ _ _ h => h) (Or.inl ⟨by rfl, ?ypr7⟩) hS ?rpr7
                case ypr7 => (intro w0 hS0; (try simp only [] at hS0); obtain ⟨hS0_0, hS0_1⟩ := hS0; have e0 := hS0_1.cell (HCS.out 0 _ rfl) (by simp); have e1 := hS0_1.cell (HCS.out 1 _ rfl) (by simp); have e2 := hS0_1.cell (HCS.out 2 _ rfl) (by simp); have e3 := hS0_1.cell (HCS.out 3 _ rfl) (by simp); have e4 := hS0_1.cell (HCS.out 4 _ rfl) (by simp); simp only [Nat.add_zero] at e0; go_simp; try with_reducible rfl)
                try simp only [yA, yB, yC, Act.put, yD, yE, yF]
                refine wpAnyH_take (i := 7) (v := ?vpr8) rfl (by kernel_rfl) (by kernel_rfl) (by kernel_rfl) (fun _ _ _ h => h) (Or.inl ⟨by rfl, ?ypr8⟩) hS ?rpr8
                case ypr8 => (intro w0 _; go_simp; try with_reducible rfl)
                try simp only [yA, yB, yC, Act.put, yD, yE, yF]
                refine wpAnyH_take (i := 8) (v := ?vpr9) rfl (by kernel_rfl) (by kernel_rfl) (by kernel_rfl) (fun _ _ _ h => h) (Or.inl ⟨by rfl, ?ypr9⟩) hS ?rpr9
                case ypr9 => (intro w0 hS0; (try simp only [] at hS0); obtain ⟨hS0_0, hS0_1⟩ := hS0; obtain ⟨q0_0, q0_1, q0_2, q0_3, q0_4, q0_5, q0_6, q0_7⟩ := hS0_0.c8; go_simp; try with_reducible rfl)
                try simp only [yA, yB, yC, Act.put, yD, yE, yF]
                refine wpAnyH_take (i := 9) (v := ?vpr10) rfl (by kernel_rfl) (by kernel_rfl) (by kernel_rfl) (fun _ _ _ h => h) (Or.inl ⟨by rfl, ?ypr10⟩) hS ?rpr10
                case ypr10 => (intro w0 _; go_simp; try with_reducible rfl)
                try simp only [yA, yB, yC, Act.put, yD, yE, yF]
                refine wpAnyH_take (i := 10) (v := ?vpr11) rfl (by kernel_rfl) (by kernel_rfl) (by kernel_rfl) (fun _ _ _ h => h) (Or.inl ⟨by rfl, ?ypr11⟩) hS ?rpr11
                case ypr11 => (intro w0 _; go_simp; try with_reducible rfl)
                try simp only [yA, yB, yC, Act.put, yD, yE, yF]
                refine wpAnyH_take (i := 11) (v := ?vpr12) rfl (by kernel_rfl) (by kernel_rfl) (by kernel_rfl) (fun _ _ _ h => h) (Or.inl ⟨by rfl, ?ypr12⟩) hS ?rpr12
                case ypr12 => (intro w0 _; go_simp; try with_reducible rfl)
                try simp only [yA, yB, yC, Act.put, yD, yE, yF]
                refine wpAnyH_take (i := 12) (v := ?vpr13) rfl (by kernel_rfl) (by kernel_rfl) (by kernel_rfl) (fun _ _ _ h => h) (Or.inl ⟨by rfl, ?ypr13⟩) hS ?rpr13
                case ypr13 => (intro w0 hS0; (try simp only [] at hS0); obtain ⟨hS0_0, hS0_1⟩ := hS0; have e0 := hS0_1.cell (HCS.out 0 _ rfl) (by simp); have e1 := hS0_1.cell (HCS.out 1 _ rfl) (by simp); have e2 := hS0_1.cell (HCS.out 2 _ rfl) (by simp); have e3 := hS0_1.cell (HCS.out 3 _ rfl) (by simp); have e4 := hS0_1.cell (HCS.out 4 _ rfl) (by simp); simp only [Nat.add_zero] at e0; go_simp; try with_reducible rfl)
                try simp only [yA, yB, yC, Act.put, yD, yE, yF]
                refine wpAnyH_take (i := 13) (v := ?vpr14) rfl (by kernel_rfl) (by kernel_rfl) (by kernel_rfl) (fun _ _ _ h => h) (Or.inl ⟨by rfl, ?ypr14⟩) hS ?rpr14
                case ypr14 => (intro w0 _; go_simp; try with_reducible rfl)
                try simp only [yA, yB, yC, Act.put, yD, yE, yF]
                refine wpAnyH_take (i := 14) (v := ?vpr15) rfl (by kernel_rfl) (by kernel_rfl) (by kernel_rfl) (fun _ _ _ h => h) (Or.inl ⟨by rfl, ?ypr15⟩) hS ?rpr15
                case ypr15 => (intro w0 hS0; (try simp only [] at hS0); obtain ⟨hS0_0, hS0_1⟩ := hS0; obtain ⟨q0_0, q0_1, q0_2, q0_3, q0_4, q0_5, q0_6, q0_7⟩ := hS0_0.c8; go_simp; try with_reducible rfl)
                try simp only [yA, yB, yC, Act.put, yD, yE, yF]
                refine wpAnyH_take (i := 15) (v := ?vpr16) rfl (by kernel_rfl) (by kernel_rfl) (by kernel_rfl) (fun _ _ _ h => h) (Or.inl ⟨by rfl, ?ypr16⟩) hS ?rpr16
                case ypr16 => (intro w0 _; go_simp; try with_reducible rfl)
                try simp only [yA, yB, yC, Act.put, yD, yE, yF]
                refine wpAnyH_take (i := 16) (v := ?vpr17) rfl (by kernel_rfl) (by kernel_rfl) (by kernel_rfl) (fun _ _ _ h => h) (Or.inl ⟨by rfl, ?ypr17⟩) hS ?rpr17
                case ypr17 => (intro w0 _; go_simp; try with_reducible rfl)
                try simp only [yA, yB, yC, Act.put, yD, yE, yF]
                refine wpAnyH_take (i := 17) (v := ?vpr18) rfl (by kernel_rfl) (by kernel_rfl) (by kernel_rfl) (fun _ _ _ h => h) (Or.inl ⟨by rfl, ?ypr18⟩) hS ?rpr18
                case ypr18 => (intro w0 _; go_simp; try with_reducible rfl)
                try simp only [yA, yB, yC, Act.put, yD, yE, yF]
                refine wpAnyH_take (i := 18) (v := ?vpr19) rfl (by kernel_rfl) (by kernel_rfl) (by kernel_rfl) (fun _ _ _ h => h) (Or.inl ⟨by rfl, ?ypr19⟩) hS ?rpr19
                case ypr19 => (intro w0 hS0; (try simp only [] at hS0); obtain ⟨hS0_0, hS0_1⟩ := hS0; have e0 := hS0_1.cell (HCS.out 0 _ rfl) (by simp); have e1 := hS0_1.cell (HCS.out 1 _ rfl) (by simp); have e2 := hS0_1.cell (HCS.out 2 _ rfl) (by simp); have e3 := hS0_1.cell (HCS.out 3 _ rfl) (by simp); have e4 := hS0_1.cell (HCS.out 4 _ rfl) (by simp); simp only [Nat.add_zero] at e0; go_simp; try with_reducible rfl)
                try simp only [yA, yB, yC, Act.put, yD, yE, yF]
                refine wpAnyH_take (i := 19) (v := ?vpr20) rfl (by kernel_rfl) (by kernel_rfl) (by kernel_rfl) (fun _ _ _ h => h) (Or.inl ⟨by rfl, ?ypr20⟩) hS ?rpr20
                case ypr20 => (intro w0 _; go_simp; try with_reducible rfl)
                try simp only [yA, yB, yC, Act.put, yD, yE, yF]
                refine wpAnyH_ready (rs := [20]) (by kernel_rfl) (by simp) (AllReadyH.cons (i := 20) rfl (fun K hK => ?_) AllReadyH.nil)
                go_simp
                have hga := gr_drew (gr_alloc (gr_refl wr none) (.cells #[.int .i64 4, .int .i64 x.p.tid.n, .int .i64 x.p.tid.e, .int .i64 x.p.tid.s, .slice x.A1 x.p.items.length x.c1, .slice x.A2 x.p.nodes.length x.c2, .int .i64 0, .int .i64 0, .int .i64 0, .int .i64 0, .int .i64 0, .int .i64 0, .int .i64 0, .int .i64 0, .bool false] 76))
                have HG2 := As.mk (gr_then HG.out hga (.inl rfl))
                have HB2 := As.mk (HB.out.grown hga (by simp))
                have HO2 := As.mk (own_gr0 HO.out hga)
                have HBS := As.mk (Blk.drew (Blk.new wr 76 #[.int .i64 4, .int .i64 x.p.tid.n, .int .i64 x.p.tid.e, .int .i64 x.p.tid.s, .slice x.A1 x.p.items.length x.c1, .slice x.A2 x.p.nodes.length x.c2, .int .i64 0, .int .i64 0, .int .i64 0, .int .i64 0, .int .i64 0, .int .i64 0, .int .i64 0, .int .i64 0, .bool false]))
                clear hga
                refine hK.out _ _ (⟨HB2.out, HG2.out⟩) (fun hS => ?_)
                clear hK K
                try simp only [yA, yB, yC, Act.put, yD, yE, yF]
                refine wpAnyH_ready (rs := [21]) (by kernel_rfl) (by simp) (AllReadyH.cons (i := 21) rfl (fun K hK => ?_) AllReadyH.nil)
                refine step_app1 rfl _ _ _ rfl w.heap.size 76 iR _ 15 152 Try.underlying73 HIR.out.1 HIR.out.2.1 HIR.out.2.2.1 HIR.out.2.2.2 rfl (by omega) (by omega) _ _ _ rfl HO2.out wr.heap.size rfl _ HBS.out rfl (by simp [Value.oneCell']) (by omega) HG2.out.size ?_
                intro v' w' ho hg' _
                have HO3 := As.mk ho
                have HG3 := As.mk (gr_then HG2.out hg' (.inr (.inr (own_lo HO2.out))))
                have HB3 := As.mk (HB2.out.grown hg' (own_ne HB2.out HO2.out (by decide)))
                clear ho hg'
                refine hK.out _ _ (⟨HB3.out, HG3.out⟩) (fun hS => ?_)
                clear hK K
                try simp only [yA, yB, yC, Act.put, yD, yE, yF]
                refine wpAnyH_take (i := 22) (v := ?vpr23) rfl (by kernel_rfl) (by kernel_rfl) (by kernel_rfl) (fun _ _ _ h => h) (Or.inl ⟨by rfl, ?ypr23⟩) hS ?rpr23
                case ypr23 => (intro w0 _; go_simp; try with_reducible rfl)
                try simp only [yA, yB, yC, Act.put, yD, yE, yF]
                refine wpAnyH_done (by kernel_rfl) ?_ _
                refine NoPanic.normal ?_
                try simp only [Exit.then]
                clear hS
                go_wp2_with fail
                go_roundw
                case measure => simp [intOf]; omega
                case rel =>
                  refine ⟨k + 1, by omega, by go_num, ⟨?_, HB3.out, HG3.out⟩⟩
                  rw [HPZ.out]
                  exact RecRow.app HRM.out (fun q hq => HRN.out q hq) (⟨prepR x.p, x.A1, x.c1, x.A2, x.c2⟩ : QRe) HO3.out (show NN w (⟨prepR x.p, x.A1, x.c1, x.A2, x.c2⟩ : QRe) from HNI.out)
              · obtain rfl : k = qs.length := by omega
                replace HR := As.mk (show RecRow _ _ _ _ _ (headR s ++ plR s.places s.places.length ++ s.decided.map pastR ++ s.prepared.map prepR) by have := HR.out; rw [HQ2.out, List.take_length] at this; exact this)
                clear hlt hk
                go_wp2_with fail
                clear q0 q1 q2 q3 q4 q5 q6 q7
                replace HR := As.mk (show RecRow _ _ _ _ _ (headR s ++ plR s.places s.places.length ++ s.decided.map pastR ++ s.prepared.map prepR ++ (s.commits.take 0).flatMap cmR) by simpa using HR.out)
                go_wp2_with fail
                go_loopw [3, 8] (fun v i wr => ∃ k : Nat, k ≤ cs.length ∧ i = .int .i64 k ∧ As (RecRow (NN w) wr w.heap.size 76 v (headR s ++ plR s.places s.places.length ++ s.decided.map pastR ++ s.prepared.map prepR ++ (s.commits.take k).flatMap cmR) ∧ Blk wr w.heap.size 50 #[.int .i64 s.node, .int .i64 s.nodes, .int .i64 s.cells, .int .i64 s.epoch, .slice A1 s.places.length c1, .slice A2 qs.length c2, .slice A3 s.decided.length c3, .slice A4 cs.length c4] ∧ w.grownBy wr none)) (fun _ i _ => cs.length - (intOf i).toNat)
                case atStart => exact ⟨0, Nat.zero_le _, rfl, ⟨HR.out, HB.out, HG.out⟩⟩
                case round =>
                  obtain ⟨k, hk, rfl, HX⟩ := hrel
                  clear HR HB HG
                  obtain ⟨HR, HB, HG⟩ := HX.out
                  clear HX
                  replace HR := As.mk HR
                  replace HB := As.mk HB
                  replace HG := As.mk HG
                  have hq_ := HB.out
                  obtain ⟨q0, q1, q2, q3, q4, q5, q6, q7⟩ := (hq_).c8
                  clear hq_
                  by_cases hlt : k < cs.length
                  · have hltI : (k : Int) < (cs.length : Int) := by omega
                    have hk0 : (0 : Int) ≤ (k : Int) := by omega
                    obtain ⟨x, hx⟩ : ∃ x, cs[k]? = some x := ⟨_, List.getElem?_eq_getElem hlt⟩
                    obtain ⟨b, off, ds, rfl, rfl, _, hcs⟩ := HQ.out.cm.at_ k x hx
                    have hle := HQ.out.cm.cap
                    have hle2 := HQ.out.cm.le
                    have HXK := As.mk hx
                    have e0 := HG.out.cell (hcs 0 _ rfl) (by simp)
                    have e1 := HG.out.cell (hcs 1 _ rfl) (by simp)
                    have e2 := HG.out.cell (hcs 2 _ rfl) (by simp)
                    have e3 := HG.out.cell (hcs 3 _ rfl) (by simp)
                    have e4 := HG.out.cell (hcs 4 _ rfl) (by simp)
                    have e5 := HG.out.cell (hcs 5 _ rfl) (by simp)
                    simp only [Nat.add_zero] at e0
                    have HCS := As.mk hcs
                    clear hcs hx
                    have hlb : (headR s ++ plR s.places s.places.length ++ s.decided.map pastR ++ s.prepared.map prepR ++ (s.commits.take k).flatMap cmR).length ≤ 100000 := by
                      have h1 := headR_len s
                      have h2 := plR_len s.places s.places.length
                      have h3 := cmR_len (s.commits.take k)
                      have h4 := HN.out
                      have h5 := HQ2.out
                      have h6 := HQ4.out
                      simp only [List.length_append, List.length_map, List.length_take] at h3 ⊢
                      omega
                    have HPZ := As.mk (fun (h : x.p.over = false) => show (headR s ++ plR s.places s.places.length ++ s.decided.map pastR ++ s.prepared.map prepR ++ (s.commits.take (k + 1)).flatMap cmR) = (headR s ++ plR s.places s.places.length ++ s.decided.map pastR ++ s.prepared.map prepR ++ (s.commits.take k).flatMap cmR) ++ [comR x.p] by rw [cs_take HQ.out.cp HXK.out, List.flatMap_append, List.flatMap_cons, List.flatMap_nil, List.append_nil, show cmR x.p = [comR x.p] from by unfold cmR; rw [if_neg (by rw [h]; decide)]]; simp only [List.append_assoc])
                    have HPY := As.mk (fun (h : x.p.over = true) => show (headR s ++ plR s.places s.places.length ++ s.decided.map pastR ++ s.prepared.map prepR ++ (s.commits.take (k + 1)).flatMap cmR) = (headR s ++ plR s.places s.places.length ++ s.decided.map pastR ++ s.prepared.map prepR ++ (s.commits.take k).flatMap cmR) ++ [comR x.p] ++ [endR x.p] by rw [cs_take HQ.out.cp HXK.out, List.flatMap_append, List.flatMap_cons, List.flatMap_nil, List.append_nil, show cmR x.p = [comR x.p] ++ [endR x.p] from by unfold cmR; rw [if_pos h]; rfl]; simp only [List.append_assoc])
                    have HNI := As.mk (HQ.out.ci x (List.mem_of_getElem? HXK.out))
                    obtain ⟨rs, ho, hm, hn⟩ := HR.out
                    have HRM := As.mk hm
                    have HRN := As.mk hn
                    have HO := As.mk ho
                    clear ho hm hn
                    rcases bool_cases x.p.over with hov | hov
                    · rw [hov] at e5
                      have HOV := As.mk hov
                      clear hov
                      have hga := gr_alloc (gr_alloc (gr_refl wr none) (.cells #[.int .i64 x.p.tid.n, .int .i64 x.p.tid.e, .int .i64 x.p.tid.s, .slice x.A1 x.p.items.length x.c1, .slice x.A2 x.p.nodes.length x.c2, .bool false] 87)) (.cells #[.int .i64 5, .int .i64 x.p.tid.n, .int .i64 x.p.tid.e, .int .i64 x.p.tid.s, .slice x.A1 x.p.items.length x.c1, .slice x.A2 x.p.nodes.length x.c2, .int .i64 0, .int .i64 0, .int .i64 0, .int .i64 0, .int .i64 0, .int .i64 0, .int .i64 0, .int .i64 0, .bool false] 76)
                      have HG2 := As.mk (gr_then HG.out hga (.inl rfl))
                      have HB2 := As.mk (HB.out.grown hga (by simp))
                      have HO2 := As.mk (own_gr0 HO.out hga)
                      have HBS := As.mk (show Blk _ (wr.heap.size + 1) 76 #[.int .i64 5, .int .i64 x.p.tid.n, .int .i64 x.p.tid.e, .int .i64 x.p.tid.s, .slice x.A1 x.p.items.length x.c1, .slice x.A2 x.p.nodes.length x.c2, .int .i64 0, .int .i64 0, .int .i64 0, .int .i64 0, .int .i64 0, .int .i64 0, .int .i64 0, .int .i64 0, .bool false] from Blk.new2 wr (.cells #[.int .i64 x.p.tid.n, .int .i64 x.p.tid.e, .int .i64 x.p.tid.s, .slice x.A1 x.p.items.length x.c1, .slice x.A2 x.p.nodes.length x.c2, .bool false] 87) 76 #[.int .i64 5, .int .i64 x.p.tid.n, .int .i64 x.p.tid.e, .int .i64 x.p.tid.s, .slice x.A1 x.p.items.length x.c1, .slice x.A2 x.p.nodes.length x.c2, .int .i64 0, .int .i64 0, .int .i64 0, .int .i64 0, .int .i64 0, .int .i64 0, .int .i64 0, .int .i64 0, .bool false])
                      have HX2 := As.mk ((Blk.new wr 87 #[.int .i64 x.p.tid.n, .int .i64 x.p.tid.e, .int .i64 x.p.tid.s, .slice x.A1 x.p.items.length x.c1, .slice x.A2 x.p.nodes.length x.c2, .bool false]).alloc (.cells #[.int .i64 5, .int .i64 x.p.tid.n, .int .i64 x.p.tid.e, .int .i64 x.p.tid.s, .slice x.A1 x.p.items.length x.c1, .slice x.A2 x.p.nodes.length x.c2, .int .i64 0, .int .i64 0, .int .i64 0, .int .i64 0, .int .i64 0, .int .i64 0, .int .i64 0, .int .i64 0, .bool false] 76))
                      clear hga
                      go_wp2_with (at_builtin; refine wpList_app1 (by rfl) _ _ _ (by rfl) w.heap.size 76 iR _ 15 152 Try.underlying73 HIR.out.1 HIR.out.2.1 HIR.out.2.2.1 HIR.out.2.2.2 rfl (by omega) (by omega) _ _ _ (by rfl) HO2.out (wr.heap.size + 1) (by rfl) _ HBS.out rfl (by simp [Value.oneCell']) (by omega) HG2.out.size ?_; intro v' w' ho hg' hv'; have HO3 := As.mk ho; have HW3 := As.mk hg'; have HX3 := As.mk (HX2.out.grown hg' (own_ne HX2.out HO2.out (by decide))); have y0 := HX3.out.cell 0; have y1 := HX3.out.cell 1; have y2 := HX3.out.cell 2; have y5 := HX3.out.cell 5; simp only [List.getElem?_toArray, List.getElem?_cons_zero, List.getElem?_cons_succ] at y0 y1 y2 y5; clear ho hg' hv')
                      have HG3 := As.mk (gr_then HG2.out HW3.out (.inr (.inr (own_lo HO2.out))))
                      have HB3 := As.mk (HB2.out.grown HW3.out (own_ne HB2.out HO2.out (by decide)))
                      clear e0 e1 e2 e3 e4 e5
                      clear q0 q1 q2 q3 q4 q5 q6 q7
                      go_roundw
                      case measure => simp [intOf]; omega
                      case rel => exact ⟨k + 1, by omega, by go_num, ⟨by rw [HPZ.out HOV.out]; exact RecRow.app HRM.out (fun q hq => HRN.out q hq) (⟨comR x.p, x.A1, x.c1, x.A2, x.c2⟩ : QRe) HO3.out (show NN w (⟨comR x.p, x.A1, x.c1, x.A2, x.c2⟩ : QRe) from HNI.out), HB3.out, HG3.out⟩⟩
                    · rw [hov] at e5
                      have HOV := As.mk hov
                      clear hov
                      have hga := gr_alloc (gr_alloc (gr_refl wr none) (.cells #[.int .i64 x.p.tid.n, .int .i64 x.p.tid.e, .int .i64 x.p.tid.s, .slice x.A1 x.p.items.length x.c1, .slice x.A2 x.p.nodes.length x.c2, .bool true] 87)) (.cells #[.int .i64 5, .int .i64 x.p.tid.n, .int .i64 x.p.tid.e, .int .i64 x.p.tid.s, .slice x.A1 x.p.items.length x.c1, .slice x.A2 x.p.nodes.length x.c2, .int .i64 0, .int .i64 0, .int .i64 0, .int .i64 0, .int .i64 0, .int .i64 0, .int .i64 0, .int .i64 0, .bool false] 76)
                      have HG2 := As.mk (gr_then HG.out hga (.inl rfl))
                      have HB2 := As.mk (HB.out.grown hga (by simp))
                      have HO2 := As.mk (own_gr0 HO.out hga)
                      have HBS := As.mk (show Blk _ (wr.heap.size + 1) 76 #[.int .i64 5, .int .i64 x.p.tid.n, .int .i64 x.p.tid.e, .int .i64 x.p.tid.s, .slice x.A1 x.p.items.length x.c1, .slice x.A2 x.p.nodes.length x.c2, .int .i64 0, .int .i64 0, .int .i64 0, .int .i64 0, .int .i64 0, .int .i64 0, .int .i64 0, .int .i64 0, .bool false] from Blk.new2 wr (.cells #[.int .i64 x.p.tid.n, .int .i64 x.p.tid.e, .int .i64 x.p.tid.s, .slice x.A1 x.p.items.length x.c1, .slice x.A2 x.p.nodes.length x.c2, .bool true] 87) 76 #[.int .i64 5, .int .i64 x.p.tid.n, .int .i64 x.p.tid.e, .int .i64 x.p.tid.s, .slice x.A1 x.p.items.length x.c1, .slice x.A2 x.p.nodes.length x.c2, .int .i64 0, .int .i64 0, .int .i64 0, .int .i64 0, .int .i64 0, .int .i64 0, .int .i64 0, .int .i64 0, .bool false])
                      have HX2 := As.mk ((Blk.new wr 87 #[.int .i64 x.p.tid.n, .int .i64 x.p.tid.e, .int .i64 x.p.tid.s, .slice x.A1 x.p.items.length x.c1, .slice x.A2 x.p.nodes.length x.c2, .bool true]).alloc (.cells #[.int .i64 5, .int .i64 x.p.tid.n, .int .i64 x.p.tid.e, .int .i64 x.p.tid.s, .slice x.A1 x.p.items.length x.c1, .slice x.A2 x.p.nodes.length x.c2, .int .i64 0, .int .i64 0, .int .i64 0, .int .i64 0, .int .i64 0, .int .i64 0, .int .i64 0, .int .i64 0, .bool false] 76))
                      clear hga
                      go_upto_if 152 with (at_builtin; refine wpList_app1 (by rfl) _ _ _ (by rfl) w.heap.size 76 iR _ 15 152 Try.underlying73 HIR.out.1 HIR.out.2.1 HIR.out.2.2.1 HIR.out.2.2.2 rfl (by omega) (by omega) _ _ _ (by rfl) HO2.out (wr.heap.size + 1) (by rfl) _ HBS.out rfl (by simp [Value.oneCell']) (by omega) HG2.out.size ?_; intro v' w' ho hg' hv'; have HO3 := As.mk ho; have HW3 := As.mk hg'; have HX3 := As.mk (HX2.out.grown hg' (own_ne HX2.out HO2.out (by decide))); have y0 := HX3.out.cell 0; have y1 := HX3.out.cell 1; have y2 := HX3.out.cell 2; have y5 := HX3.out.cell 5; simp only [List.getElem?_toArray, List.getElem?_cons_zero, List.getElem?_cons_succ] at y0 y1 y2 y5; clear ho hg' hv')
                      have HG3 := As.mk (gr_then HG2.out HW3.out (.inr (.inr (own_lo HO2.out))))
                      have HB3 := As.mk (HB2.out.grown HW3.out (own_ne HB2.out HO2.out (by decide)))
                      clear e0 e1 e2 e3 e4 e5
                      clear q0 q1 q2 q3 q4 q5 q6 q7
                      have HR3 := As.mk (show RecRow (NN w) w' w.heap.size 76 v' (_ ++ [comR x.p]) from RecRow.app HRM.out (fun q hq => HRN.out q hq) (⟨comR x.p, x.A1, x.c1, x.A2, x.c2⟩ : QRe) HO3.out (show NN w (⟨comR x.p, x.A1, x.c1, x.A2, x.c2⟩ : QRe) from HNI.out))
                      clear HO2 HG2 HB2 HBS HRM HRN
                      obtain ⟨rs2, ho, hm, hn⟩ := HR3.out
                      have hga := gr_alloc (gr_refl w' none) (.cells #[.int .i64 7, .int .i64 x.p.tid.n, .int .i64 x.p.tid.e, .int .i64 x.p.tid.s, .slice none 0 0, .slice none 0 0, .int .i64 0, .int .i64 0, .int .i64 0, .int .i64 0, .int .i64 0, .int .i64 0, .int .i64 0, .int .i64 0, .bool false] 76)
                      have HG2 := As.mk (gr_then HG3.out hga (.inl rfl))
                      have HB2 := As.mk (HB3.out.grown hga (by simp))
                      have HO2 := As.mk (own_gr0 ho hga)
                      have HBS := As.mk (Blk.new w' 76 #[.int .i64 7, .int .i64 x.p.tid.n, .int .i64 x.p.tid.e, .int .i64 x.p.tid.s, .slice none 0 0, .slice none 0 0, .int .i64 0, .int .i64 0, .int .i64 0, .int .i64 0, .int .i64 0, .int .i64 0, .int .i64 0, .int .i64 0, .bool false])
                      have HRM := As.mk hm
                      have HRN := As.mk hn
                      have hlb2 : ((headR s ++ plR s.places s.places.length ++ s.decided.map pastR ++ s.prepared.map prepR ++ (s.commits.take k).flatMap cmR) ++ [comR x.p]).length ≤ 100001 := by rw [List.length_append]; simp only [List.length_singleton]; omega
                      clear hga ho hm hn HR3 HO3 HW3 HX2
                      obtain ⟨wp, rfl⟩ : ∃ wp : World, wp = w' := ⟨_, rfl⟩
                      clear HG3 HB3
                      go_wp2_with (at_builtin; refine wpList_app1 (by rfl) _ _ _ (by rfl) w.heap.size 76 iR _ 15 152 Try.underlying73 HIR.out.1 HIR.out.2.1 HIR.out.2.2.1 HIR.out.2.2.2 rfl (by omega) (by omega) _ _ _ (by rfl) HO2.out wp.heap.size (by rfl) _ HBS.out rfl (by simp [Value.oneCell']) (by omega) HG2.out.size ?_; intro v9 w' ho hg' hv'; have HO3 := As.mk ho; have HW3 := As.mk hg'; clear ho hg' hv')
                      have HG3 := As.mk (gr_then HG2.out HW3.out (.inr (.inr (own_lo HO2.out))))
                      have HB3 := As.mk (HB2.out.grown HW3.out (own_ne HB2.out HO2.out (by decide)))
                      go_roundw
                      case measure => simp [intOf]; omega
                      case rel =>
                        refine ⟨k + 1, by omega, by go_num, ⟨?_, HB3.out, HG3.out⟩⟩
                        rw [HPY.out HOV.out]
                        exact RecRow.app HRM.out (fun q hq => HRN.out q hq) (⟨endR x.p, none, 0, none, 0⟩ : QRe) HO3.out ⟨Arr.nil0, Arr.nil0⟩
                  · obtain rfl : k = cs.length := by omega
                    replace HR := As.mk (show RecRow _ _ _ _ _ (recsS s) by have := HR.out; rw [HQ4.out, List.take_length] at this; exact this)
                    clear hlt hk
                    go_wp2_with fail
                    clear q0 q1 q2 q3 q4 q5 q6 q7
                    go_ret
                    exact ⟨_, rfl, HG.out, (HR.out.mono fun q hq => hq.grown HG.out).read⟩
end Go.Proofs.Ytdmkijdbldcdiaa
