/- The walk of LedgerAgain. (Printed by wip/gen/gen_qe.py.) -/
import Derived.Test.YtdmkijdbldcdiaaOf
import Derived.Test.YtdmkijdbldcdiaaQd
namespace Go.Proofs.Ytdmkijdbldcdiaa
open Go.RowKit
set_option linter.unusedVariables false
set_option linter.unusedSimpArgs false
set_option maxRecDepth 100000

set_option maxHeartbeats 12800000 in
theorem again_walk (w : World) (a b n a2 b2 n2 : Int) (v1 : Value) (l : List PRec) (hl : Arr ReE 15 w v1 l) :
    Calls Try.prog 7 #[.agg #[.int .i64 a, .int .i64 b, .int .i64 n], .agg #[.int .i64 a2, .int .i64 b2, .int .i64 n2], v1] w fun e w' => e = .returned (.bool true) ∧ w.grownBy w' none := by
  obtain ⟨AL, cL, rfl⟩ := hl.len
  have HL := As.mk hl
  clear hl
  have HG := As.mk (gr_alloc (gr_alloc (gr_refl w none) (.cells #[.int .i64 a, .int .i64 b, .int .i64 n] 23)) (.cells #[.int .i64 a2, .int .i64 b2, .int .i64 n2] 23))
  have HB0 := As.mk ((Blk.new w 23 #[.int .i64 a, .int .i64 b, .int .i64 n]).alloc (.cells #[.int .i64 a2, .int .i64 b2, .int .i64 n2] 23))
  have HB2 := As.mk (Blk.new2 w (.cells #[.int .i64 a, .int .i64 b, .int .i64 n] 23) 23 #[.int .i64 a2, .int .i64 b2, .int .i64 n2])
  go_enter Try.func7, Try.ntmps7
  go_wp2_with fail
  generalize (w.alloc (.cells #[.int .i64 a, .int .i64 b, .int .i64 n] 23)).alloc (.cells #[.int .i64 a2, .int .i64 b2, .int .i64 n2] 23) = W at *
  refine (awake_c W).mono ?_
  rintro e w1 ⟨rfl, hg1⟩
  replace HG := As.mk (gr_then HG.out hg1 (.inl rfl))
  replace HB0 := As.mk (HB0.out.grown hg1 (by simp))
  replace HB2 := As.mk (HB2.out.grown hg1 (by simp))
  clear hg1
  go_wp2_with fail
  refine (great_c _ _ l (HL.out.below HG.out (fun _ _ h => h.grown HG.out)) 80 (by omega) _ rfl).mono ?_
  rintro e w1 ⟨rfl, hg1⟩
  replace HG := As.mk (gr_then HG.out hg1 (.inl rfl))
  replace HB0 := As.mk (HB0.out.grown hg1 (by simp))
  replace HB2 := As.mk (HB2.out.grown hg1 (by simp))
  clear hg1
  rcases bool_cases (greatB l 80) with hgr1 | hgr1
  rotate_left
  · rw [hgr1]
    go_wp2_with fail
    go_ret
    exact ⟨rfl, HG.out⟩
  rw [hgr1]
  have HGR1 := As.mk (greatB_len hgr1)
  clear hgr1
  obtain ⟨b0, b1, b2⟩ := (HB0.out).c3
  go_wp2_with fail
  clear b0 b1 b2
  refine (reached_c _ a b n _ l (HL.out.below HG.out (fun _ _ h => h.grown HG.out))).mono ?_
  rintro e w1 ⟨fP, fQ, fD, fC, qs0, cs0, rfl, hg1, hr1⟩
  have HR := As.mk (hr1.mono HG.out.size)
  replace HG := As.mk (gr_then HG.out hg1 (.inl rfl))
  replace HB2 := As.mk (HB2.out.grown hg1 (by simp))
  clear hg1 hr1 HB0
  obtain ⟨fP, fp, rfl⟩ := own_shape HR.out.pl
  obtain ⟨fQ, fq, rfl⟩ := own_shape HR.out.pr
  obtain ⟨fD, fd, rfl⟩ := own_shape HR.out.de
  obtain ⟨fC, fc, rfl⟩ := own_shape HR.out.cm
  have HIN := As.mk (fun h => reachedE_inv (a := a) (b := b) (n := n) (l := l) h)
  generalize reachedE a b n l = p at *
  obtain ⟨s, ok⟩ := p
  dsimp only at HR HIN ⊢
  unfold stCells
  have hga := gr_alloc (gr_refl w1 none) (.cells #[.int .i64 s.node, .int .i64 s.nodes, .int .i64 s.cells, .int .i64 s.epoch, .slice fP s.places.length fp, .slice fQ qs0.length fq, .slice fD s.decided.length fd, .slice fC cs0.length fc] 32)
  have HS := As.mk (Blk.new w1 32 #[.int .i64 s.node, .int .i64 s.nodes, .int .i64 s.cells, .int .i64 s.epoch, .slice fP s.places.length fp, .slice fQ qs0.length fq, .slice fD s.decided.length fd, .slice fC cs0.length fc])
  replace HR := As.mk (HR.out.grown hga)
  replace HG := As.mk (gr_then HG.out hga (.inl rfl))
  replace HB2 := As.mk (HB2.out.grown hga (by simp))
  clear hga
  obtain ⟨b0, b1, b2⟩ := (HB2.out).c3
  go_wp2_with fail
  clear b0 b1 b2
  generalize w1.alloc (.cells #[.int .i64 s.node, .int .i64 s.nodes, .int .i64 s.cells, .int .i64 s.epoch, .slice fP s.places.length fp, .slice fQ qs0.length fq, .slice fD s.decided.length fd, .slice fC cs0.length fc] 32) = W1 at *
  generalize w1.heap.size = sb at *
  refine (First_c W1 a2 b2 n2).mono ?_
  rintro e w2 ⟨dP, dQ, dD, dC, qs1, cs1, rfl, hg1, hr1⟩
  obtain ⟨dP, dp, rfl⟩ := own_shape hr1.pl
  obtain ⟨dQ, dq, rfl⟩ := own_shape hr1.pr
  obtain ⟨dD, dd, rfl⟩ := own_shape hr1.de
  obtain ⟨dC, dc, rfl⟩ := own_shape hr1.cm
  have HG2 := As.mk (gr_then HG.out hg1 (.inl rfl))
  have HS2 := As.mk (HS.out.grown hg1 (by simp))
  have HR2 := As.mk (HR.out.grown hg1)
  have HF2 := As.mk hr1
  clear hg1 hr1 HG HS HR HB2
  have HIF := As.mk (fun h => first_inv (a := a2) (b := b2) (n := n2) h)
  have HFE := As.mk (fun h => firstE_ok (a := a2) (b := b2) (n := n2) h)
  generalize firstE a2 b2 n2 = p at *
  obtain ⟨er, f0⟩ := p
  dsimp only at HF2 HFE ⊢
  unfold stCells
  have hga := gr_alloc (gr_refl w2 none) (.cells #[.int .i64 f0.node, .int .i64 f0.nodes, .int .i64 f0.cells, .int .i64 f0.epoch, .slice dP f0.places.length dp, .slice dQ qs1.length dq, .slice dD f0.decided.length dd, .slice dC cs1.length dc] 32)
  have HG3 := As.mk (gr_then HG2.out hga (.inl rfl))
  have HS3 := As.mk (HS2.out.grown hga (by simp))
  have HR3 := As.mk (HR2.out.grown hga)
  have HT3 := As.mk (Blk.new w2 32 #[.int .i64 f0.node, .int .i64 f0.nodes, .int .i64 f0.cells, .int .i64 f0.epoch, .slice dP f0.places.length dp, .slice dQ qs1.length dq, .slice dD f0.decided.length dd, .slice dC cs1.length dc])
  have HF3 := As.mk (HF2.out.grown hga)
  clear hga HG2 HS2 HR2 HF2
  cases ok
  · go_wp2_with fail
    go_ret
    exact ⟨rfl, HG3.out⟩
  by_cases h0 : er = 0
  rotate_left
  · have h1 : (er != 0) = true := by simpa using h0
    clear h0
    go_wp2_with fail
    go_ret
    exact ⟨rfl, HG3.out⟩
  subst h0
  have HI := As.mk (HIN.out rfl)
  have HI0 := As.mk (show SInv f0 by
    have h1 := HFE.out rfl
    have h2 := h1.2
    injection h2 with _ h2
    rw [h2]
    exact HIF.out h1.1)
  clear HIN HFE HIF
  obtain ⟨q0, q1, q2, q3, q4, q5, q6, q7⟩ := (HS3.out).c8
  go_wp2_with fail
  clear q0 q1 q2 q3 q4 q5 q6 q7
  generalize w2.alloc (.cells #[.int .i64 f0.node, .int .i64 f0.nodes, .int .i64 f0.cells, .int .i64 f0.epoch, .slice dP f0.places.length dp, .slice dQ qs1.length dq, .slice dD f0.decided.length dd, .slice dC cs1.length dc] 32) = W3 at *
  generalize w2.heap.size = tb at *
  refine (recsa_c W3 s _ _ _ _ HR3.out.read HI.out).mono ?_
  rintro e w4 ⟨vo, rfl, hg1, hvo⟩
  have HG4 := As.mk (gr_then HG3.out hg1 (.inl rfl))
  have HS4 := As.mk (HS3.out.grown hg1 (by simp))
  have HR4 := As.mk (HR3.out.grown hg1)
  have HT4 := As.mk (HT3.out.grown hg1 (by simp))
  have HF4 := As.mk (HF3.out.grown hg1)
  have HV4 := As.mk hvo
  clear hg1 hvo HG3 HS3 HR3 HT3 HF3
  obtain ⟨q0, q1, q2, q3, q4, q5, q6, q7⟩ := (HS4.out).c8
  go_wp2_with fail
  clear q0 q1 q2 q3 q4 q5 q6 q7
  refine (Plain_c w4 s _ _ _ _ HR4.out.read HI.out.b4).mono ?_
  rintro e w5 ⟨xP, xQ, xD, xC, rfl, hg1, hst⟩
  have HG5 := As.mk (gr_then HG4.out hg1 (.inl rfl))
  have HS5 := As.mk (HS4.out.grown hg1 (by simp))
  have HR5 := As.mk (HR4.out.grown hg1)
  have HT5 := As.mk (HT4.out.grown hg1 (by simp))
  have HF5 := As.mk (HF4.out.grown hg1)
  have HV5 := As.mk (HV4.out.below hg1 (fun _ _ h => h.grown hg1))
  have HX5 := As.mk hst
  clear hg1 hst HG4 HS4 HR4 HT4 HF4 HV4
  go_wp2_with fail
  refine (recsb_c w5 s _ _ _ _ HX5.out HI.out).mono ?_
  rintro e w6 ⟨vr, rfl, hg1, hvr⟩
  have HG6 := As.mk (gr_then HG5.out hg1 (.inl rfl))
  have HS6 := As.mk (HS5.out.grown hg1 (by simp))
  have HR6 := As.mk (HR5.out.grown hg1)
  have HT6 := As.mk (HT5.out.grown hg1 (by simp))
  have HF6 := As.mk (HF5.out.grown hg1)
  have HV6 := As.mk (HV5.out.below hg1 (fun _ _ h => h.grown hg1))
  have HY6 := As.mk hvr
  clear hg1 hvr HG5 HS5 HR5 HT5 HF5 HV5 HX5
  obtain ⟨AO, cO, rfl⟩ := HV6.out.len
  obtain ⟨AW, cW, rfl⟩ := HY6.out.len
  have hle1 := HV6.out.le
  have hcp1 := HV6.out.cap
  have hcp2 := HY6.out.cap
  have HAG := As.mk (again HI.out f0)
  generalize recsS s = rs at *
  go_wp2_with fail
  go_loopw [54] (fun i wr => ∃ k : Nat, k ≤ rs.length ∧ i = .int .i64 k ∧ As (w6.grownBy wr none)) (fun i _ => rs.length - (intOf i).toNat)
  case atStart => exact ⟨0, Nat.zero_le _, rfl, ⟨gr_refl _ _⟩⟩
  case round =>
    obtain ⟨k, hk, rfl, HW⟩ := hrel
    by_cases hlt : k < rs.length
    · have hltI : (k : Int) < (rs.length : Int) := by omega
      have hk0 : (0 : Int) ≤ (k : Int) := by omega
      obtain ⟨r, hr⟩ : ∃ r, rs[k]? = some r := ⟨_, List.getElem?_eq_getElem hlt⟩
      obtain ⟨p1, o1, d1, rfl, ⟨AI1, cI1, AN1, cN1, rfl, hI1, hN1⟩, _, hc1⟩ := HV6.out.at_ k r hr
      obtain ⟨p2, o2, d2, rfl, ⟨AI2, cI2, AN2, cN2, rfl, hI2, hN2⟩, _, hc2⟩ := HY6.out.at_ k r hr
      have HC1 := As.mk hc1
      have HC2 := As.mk hc2
      have HI1 := As.mk hI1
      have HI2 := As.mk hI2
      have HN1 := As.mk hN1
      have HN2 := As.mk hN2
      clear hc1 hc2 hI1 hI2 hN1 hN2 hr
      go_wp2_with fail
      refine wp_region_noPanic ?_
      refine wp_region_held_drew (S := fun w' => w6.grownBy w' none) (by kernel_rfl) ((gr_drew HW.out)) (fun hS => ?_)
      refine wpAnyH_take (i := 0) (v := ?va1) rfl (by kernel_rfl) (by kernel_rfl) (by kernel_rfl) (fun _ _ _ h => h) (Or.inl ⟨by rfl, ?ya1⟩) hS ?ra1
      case ya1 => (intro w0 _; go_simp; try with_reducible rfl)
      try simp only [yA, yB, yC, Act.put, yD, yE, yF]
      refine wpAnyH_take (i := 1) (v := ?va2) rfl (by kernel_rfl) (by kernel_rfl) (by kernel_rfl) (fun _ _ _ h => h) (Or.inl ⟨by rfl, ?ya2⟩) hS ?ra2
      case ya2 => (intro w0 _; go_simp; try with_reducible rfl)
      try simp only [yA, yB, yC, Act.put, yD, yE, yF]
      refine wpAnyH_take (i := 2) (v := ?va3) rfl (by kernel_rfl) (by kernel_rfl) (by kernel_rfl) (fun _ _ _ h => h) (Or.inl ⟨by rfl, ?ya3⟩) hS ?ra3
      case ya3 => (intro w0 _; go_simp; try with_reducible rfl)
      try simp only [yA, yB, yC, Act.put, yD, yE, yF]
      refine wpAnyH_take (i := 3) (v := ?va4) rfl (by kernel_rfl) (by kernel_rfl) (by kernel_rfl) (fun _ _ _ h => h) (Or.inl ⟨by rfl, ?ya4⟩) hS ?ra4
      case ya4 => (intro w0 hS0; (try simp only [] at hS0); have e0 := hS0.cell (HC1.out 0 _ rfl) (by simp); have e1 := hS0.cell (HC1.out 1 _ rfl) (by simp); have e2 := hS0.cell (HC1.out 2 _ rfl) (by simp); have e3 := hS0.cell (HC1.out 3 _ rfl) (by simp); have e4 := hS0.cell (HC1.out 4 _ rfl) (by simp); have e5 := hS0.cell (HC1.out 5 _ rfl) (by simp); have e6 := hS0.cell (HC1.out 6 _ rfl) (by simp); have e7 := hS0.cell (HC1.out 7 _ rfl) (by simp); have e8 := hS0.cell (HC1.out 8 _ rfl) (by simp); have e9 := hS0.cell (HC1.out 9 _ rfl) (by simp); have e10 := hS0.cell (HC1.out 10 _ rfl) (by simp); have e11 := hS0.cell (HC1.out 11 _ rfl) (by simp); have e12 := hS0.cell (HC1.out 12 _ rfl) (by simp); have e13 := hS0.cell (HC1.out 13 _ rfl) (by simp); have e14 := hS0.cell (HC1.out 14 _ rfl) (by simp); simp only [Nat.add_zero] at e0; go_simp; try with_reducible rfl)
      try simp only [yA, yB, yC, Act.put, yD, yE, yF]
      refine wpAnyH_take (i := 5) (v := ?va5) rfl (by kernel_rfl) (by kernel_rfl) (by kernel_rfl) (fun _ _ _ h => h) (Or.inl ⟨by rfl, ?ya5⟩) hS ?ra5
      case ya5 => (intro w0 _; go_simp; try with_reducible rfl)
      try simp only [yA, yB, yC, Act.put, yD, yE, yF]
      refine wpAnyH_take (i := 6) (v := ?va6) rfl (by kernel_rfl) (by kernel_rfl) (by kernel_rfl) (fun _ _ _ h => h) (Or.inl ⟨by rfl, ?ya6⟩) hS ?ra6
      case ya6 => (intro w0 _; go_simp; try with_reducible rfl)
      try simp only [yA, yB, yC, Act.put, yD, yE, yF]
      refine wpAnyH_take (i := 7) (v := ?va7) rfl (by kernel_rfl) (by kernel_rfl) (by kernel_rfl) (fun _ _ _ h => h) (Or.inl ⟨by rfl, ?ya7⟩) hS ?ra7
      case ya7 => (intro w0 _; go_simp; try with_reducible rfl)
      try simp only [yA, yB, yC, Act.put, yD, yE, yF]
      refine wpAnyH_take (i := 8) (v := ?va8) rfl (by kernel_rfl) (by kernel_rfl) (by kernel_rfl) (fun _ _ _ h => h) (Or.inl ⟨by rfl, ?ya8⟩) hS ?ra8
      case ya8 => (intro w0 hS0; (try simp only [] at hS0); have e0 := hS0.cell (HC2.out 0 _ rfl) (by simp); have e1 := hS0.cell (HC2.out 1 _ rfl) (by simp); have e2 := hS0.cell (HC2.out 2 _ rfl) (by simp); have e3 := hS0.cell (HC2.out 3 _ rfl) (by simp); have e4 := hS0.cell (HC2.out 4 _ rfl) (by simp); have e5 := hS0.cell (HC2.out 5 _ rfl) (by simp); have e6 := hS0.cell (HC2.out 6 _ rfl) (by simp); have e7 := hS0.cell (HC2.out 7 _ rfl) (by simp); have e8 := hS0.cell (HC2.out 8 _ rfl) (by simp); have e9 := hS0.cell (HC2.out 9 _ rfl) (by simp); have e10 := hS0.cell (HC2.out 10 _ rfl) (by simp); have e11 := hS0.cell (HC2.out 11 _ rfl) (by simp); have e12 := hS0.cell (HC2.out 12 _ rfl) (by simp); have e13 := hS0.cell (HC2.out 13 _ rfl) (by simp); have e14 := hS0.cell (HC2.out 14 _ rfl) (by simp); simp only [Nat.add_zero] at e0; go_simp; try with_reducible rfl)
      try simp only [yA, yB, yC, Act.put, yD, yE, yF]
      refine wpAnyH_ready (rs := [4]) (by kernel_rfl) (by simp) (AllReadyH.cons (i := 4) rfl (fun K hK => ?_) AllReadyH.nil)
      go_simp
      refine (Plain7_c _ r AI1 cI1 AN1 cN1).mono ?_
      rintro e0 w7 ⟨rfl, hg1⟩
      have HW2 := As.mk (gr_then (gr_drew HW.out) hg1 (.inl rfl))
      clear hg1
      go_simp
      refine hK.out _ _ (HW2.out) (fun hS => ?_)
      clear hK K
      try simp only [yA, yB, yC, Act.put, yD, yE, yF]
      refine wpAnyH_ready (rs := [9]) (by kernel_rfl) (by simp) (AllReadyH.cons (i := 9) rfl (fun K hK => ?_) AllReadyH.nil)
      go_simp
      refine (Same7_c _ r AI1 cI1 AN1 cN1 AI2 cI2 AN2 cN2 (HI1.out.itG HW2.out) (HN1.out.inG HW2.out) (HI2.out.itG HW2.out) (HN2.out.inG HW2.out)).mono ?_
      rintro e0 w8 ⟨rfl, hg1⟩
      have HW3 := As.mk (gr_then HW2.out hg1 (.inl rfl))
      clear hg1
      go_simp
      refine hK.out _ _ (HW3.out) (fun hS => ?_)
      clear hK K
      try simp only [yA, yB, yC, Act.put, yD, yE, yF]
      refine wpAnyH_take (i := 10) (v := ?va11) rfl (by kernel_rfl) (by kernel_rfl) (by kernel_rfl) (fun _ _ _ h => h) (Or.inl ⟨by rfl, ?ya11⟩) hS ?ra11
      case ya11 => (intro w0 _; go_simp; try with_reducible rfl)
      try simp only [yA, yB, yC, Act.put, yD, yE, yF]
      refine wpAnyH_done (by kernel_rfl) ?_ _
      refine NoPanic.normal ?_
      try simp only [Exit.then]
      clear hS
      go_wp2_with fail
      go_roundw
      case measure => simp [intOf]; omega
      case rel => exact ⟨k + 1, by omega, by go_num, HW3⟩
    · obtain rfl : k = rs.length := by omega
      clear hlt hk
      have HT7 := As.mk (HT6.out.grown HW.out (by simp))
      have HS7 := As.mk (HS6.out.grown HW.out (by simp))
      have HF7 := As.mk (HF6.out.grown HW.out)
      have HR7 := As.mk (HR6.out.grown HW.out)
      have HV7 := As.mk (HV6.out.below HW.out (fun _ _ h => h.grown HW.out))
      have HG7 := As.mk (gr_then HG6.out HW.out (.inl rfl))
      obtain ⟨q0, q1, q2, q3, q4, q5, q6, q7⟩ := (HT7.out).c8
      go_wp2_with fail
      clear q0 q1 q2 q3 q4 q5 q6 q7
      refine (Apply_c wr f0 _ _ _ _ HF7.out.read HI0.out _ rs HV7.out).mono ?_
      rw [HAG.out]
      rintro e w7 ⟨uP, uQ, uD, uC, qs2, cs2, rfl, hg1, hr1⟩
      obtain ⟨uP, up, rfl⟩ := own_shape hr1.pl
      obtain ⟨uQ, uq, rfl⟩ := own_shape hr1.pr
      obtain ⟨uD, ud, rfl⟩ := own_shape hr1.de
      obtain ⟨uC, uc, rfl⟩ := own_shape hr1.cm
      dsimp only at hr1 ⊢
      unfold stCells
      have hga := gr_alloc (gr_refl w7 none) (.cells #[.int .i64 s.node, .int .i64 s.nodes, .int .i64 s.cells, .int .i64 s.epoch, .slice uP s.places.length up, .slice uQ qs2.length uq, .slice uD s.decided.length ud, .slice uC cs2.length uc] 32)
      have HG8 := As.mk (gr_then (gr_then HG7.out hg1 (.inl rfl)) hga (.inl rfl))
      have HS8 := As.mk ((HS7.out.grown hg1 (by simp)).grown hga (by simp))
      have HR8 := As.mk ((HR7.out.grown hg1).grown hga)
      have HU8 := As.mk (Blk.new w7 32 #[.int .i64 s.node, .int .i64 s.nodes, .int .i64 s.cells, .int .i64 s.epoch, .slice uP s.places.length up, .slice uQ qs2.length uq, .slice uD s.decided.length ud, .slice uC cs2.length uc])
      have HX8 := As.mk (hr1.grown hga)
      have HNB := As.mk HI.out.b4
      clear hg1 hr1 hga HG7 HS7 HR7 HT7 HF7 HV7
      go_wp2_with fail
      generalize w7.alloc (.cells #[.int .i64 s.node, .int .i64 s.nodes, .int .i64 s.cells, .int .i64 s.epoch, .slice uP s.places.length up, .slice uQ qs2.length uq, .slice uD s.decided.length ud, .slice uC cs2.length uc] 32) = W8 at *
      generalize w7.heap.size = ub at *
      refine wp_region_noPanic ?_
      refine wp_region_held_drew (S := fun w' => Blk w' ub 32 #[.int .i64 s.node, .int .i64 s.nodes, .int .i64 s.cells, .int .i64 s.epoch, .slice uP s.places.length up, .slice uQ qs2.length uq, .slice uD s.decided.length ud, .slice uC cs2.length uc] ∧ Blk w' sb 32 #[.int .i64 s.node, .int .i64 s.nodes, .int .i64 s.cells, .int .i64 s.epoch, .slice fP s.places.length fp, .slice fQ qs0.length fq, .slice fD s.decided.length fd, .slice fC cs0.length fc]) (by kernel_rfl) (⟨HU8.out.drew, HS8.out.drew⟩) (fun hS => ?_)
      refine wpAnyH_take (i := 0) (v := ?vm1) rfl (by kernel_rfl) (by kernel_rfl) (by kernel_rfl) (fun _ _ _ h => h) (Or.inl ⟨by rfl, ?ym1⟩) hS ?rm1
      case ym1 => (intro w0 _; go_simp; try with_reducible rfl)
      try simp only [yA, yB, yC, Act.put, yD, yE, yF]
      refine wpAnyH_take (i := 1) (v := ?vm2) rfl (by kernel_rfl) (by kernel_rfl) (by kernel_rfl) (fun _ _ _ h => h) (Or.inl ⟨by rfl, ?ym2⟩) hS ?rm2
      case ym2 => (intro w0 _; go_simp; try with_reducible rfl)
      try simp only [yA, yB, yC, Act.put, yD, yE, yF]
      refine wpAnyH_take (i := 2) (v := ?vm3) rfl (by kernel_rfl) (by kernel_rfl) (by kernel_rfl) (fun _ _ _ h => h) (Or.inl ⟨by rfl, ?ym3⟩) hS ?rm3
      case ym3 => (intro w0 _; go_simp; try with_reducible rfl)
      try simp only [yA, yB, yC, Act.put, yD, yE, yF]
      refine wpAnyH_take (i := 3) (v := ?vm4) rfl (by kernel_rfl) (by kernel_rfl) (by kernel_rfl) (fun _ _ _ h => h) (Or.inl ⟨by rfl, ?ym4⟩) hS ?rm4
      case ym4 => (intro w0 hS0; (try simp only [] at hS0); obtain ⟨hS0_0, hS0_1⟩ := hS0; obtain ⟨q0_0, q0_1, q0_2, q0_3, q0_4, q0_5, q0_6, q0_7⟩ := hS0_0.c8; obtain ⟨q1_0, q1_1, q1_2, q1_3, q1_4, q1_5, q1_6, q1_7⟩ := hS0_1.c8; go_simp; try with_reducible rfl)
      try simp only [yA, yB, yC, Act.put, yD, yE, yF]
      refine wpAnyH_take (i := 5) (v := ?vm5) rfl (by kernel_rfl) (by kernel_rfl) (by kernel_rfl) (fun _ _ _ h => h) (Or.inl ⟨by rfl, ?ym5⟩) hS ?rm5
      case ym5 => (intro w0 hS0; (try simp only [] at hS0); obtain ⟨hS0_0, hS0_1⟩ := hS0; obtain ⟨q0_0, q0_1, q0_2, q0_3, q0_4, q0_5, q0_6, q0_7⟩ := hS0_0.c8; obtain ⟨q1_0, q1_1, q1_2, q1_3, q1_4, q1_5, q1_6, q1_7⟩ := hS0_1.c8; go_simp; try with_reducible rfl)
      try simp only [yA, yB, yC, Act.put, yD, yE, yF]
      refine wpAnyH_ready (rs := [4]) (by kernel_rfl) (by simp) (AllReadyH.cons (i := 4) rfl (fun K hK => ?_) AllReadyH.nil)
      go_simp
      refine (Plain_c _ s _ _ _ _ ((HX8.out.grown (gr_drew (gr_refl W8 none))).read) HNB.out).mono ?_
      rintro e0 w9 ⟨vP1, vQ1, vD1, vC1, rfl, hg1, hst⟩
      have HH1 := As.mk (gr_then (gr_drew (gr_refl W8 none)) hg1 (.inl rfl))
      have HSR := As.mk hst
      clear hg1 hst
      go_simp
      refine hK.out _ _ (⟨HU8.out.grown HH1.out (by simp), HS8.out.grown HH1.out (by simp)⟩) (fun hS => ?_)
      clear hK K
      try simp only [yA, yB, yC, Act.put, yD, yE, yF]
      refine wpAnyH_ready (rs := [6]) (by kernel_rfl) (by simp) (AllReadyH.cons (i := 6) rfl (fun K hK => ?_) AllReadyH.nil)
      go_simp
      refine (Plain_c _ s _ _ _ _ ((HR8.out.grown HH1.out).read) HNB.out).mono ?_
      rintro e0 w10 ⟨vP2, vQ2, vD2, vC2, rfl, hg1, hst⟩
      have HH2 := As.mk (gr_then HH1.out hg1 (.inl rfl))
      have HSR2 := As.mk hst
      have HSR1 := As.mk (HSR.out.grown hg1)
      clear hg1 hst
      go_simp
      refine hK.out _ _ (⟨HU8.out.grown HH2.out (by simp), HS8.out.grown HH2.out (by simp)⟩) (fun hS => ?_)
      clear hK K
      try simp only [yA, yB, yC, Act.put, yD, yE, yF]
      refine wpAnyH_ready (rs := [7]) (by kernel_rfl) (by simp) (AllReadyH.cons (i := 7) rfl (fun K hK => ?_) AllReadyH.nil)
      go_simp
      refine (Same_c _ s vP1 vQ1 vD1 vC1 vP2 vQ2 vD2 vC2 HSR1.out HSR2.out).mono ?_
      rintro e0 w11 ⟨rfl, hg1⟩
      have HH3 := As.mk (gr_then HH2.out hg1 (.inl rfl))
      clear hg1
      go_simp
      refine hK.out _ _ (⟨HU8.out.grown HH3.out (by simp), HS8.out.grown HH3.out (by simp)⟩) (fun hS => ?_)
      clear hK K
      try simp only [yA, yB, yC, Act.put, yD, yE, yF]
      refine wpAnyH_take (i := 8) (v := ?vm9) rfl (by kernel_rfl) (by kernel_rfl) (by kernel_rfl) (fun _ _ _ h => h) (Or.inl ⟨by rfl, ?ym9⟩) hS ?rm9
      case ym9 => (intro w0 _; go_simp; try with_reducible rfl)
      try simp only [yA, yB, yC, Act.put, yD, yE, yF]
      refine wpAnyH_take (i := 9) (v := ?vm10) rfl (by kernel_rfl) (by kernel_rfl) (by kernel_rfl) (fun _ _ _ h => h) (Or.inl ⟨by rfl, ?ym10⟩) hS ?rm10
      case ym10 => (intro w0 _; go_simp; try with_reducible rfl)
      try simp only [yA, yB, yC, Act.put, yD, yE, yF]
      refine wpAnyH_done (by kernel_rfl) ?_ _
      refine NoPanic.normal ?_
      try simp only [Exit.then]
      clear hS
      go_wp2_with fail
      go_ret
      exact ⟨rfl, gr_then HG8.out HH3.out (.inl rfl)⟩
end Go.Proofs.Ytdmkijdbldcdiaa
