/- The walk of LedgerStays. (Printed by wip/gen/gen_on.py.) -/
import Derived.Test.YtdmkijdbldcdiaaOo
namespace Go.Proofs.Ytdmkijdbldcdiaa
open Go.RowKit
set_option linter.unusedVariables false
set_option linter.unusedSimpArgs false
set_option maxRecDepth 100000

set_option maxHeartbeats 25600000 in
theorem stays_walk (w : World) (a b n : Int) (v1 : Value) (l : List PRec) (hl : Arr ReE 15 w v1 l) :
    Calls Try.prog 4 #[.agg #[.int .i64 a, .int .i64 b, .int .i64 n], v1] w fun e w' => e = .returned (.bool true) ∧ w.grownBy w' none := by
  obtain ⟨AL, cL, rfl⟩ := hl.len
  have HLL := As.mk (And.intro hl.le hl.cap)
  have HL := As.mk hl
  clear hl
  have HG := As.mk (gr_alloc (gr_refl w none) (.cells #[.int .i64 a, .int .i64 b, .int .i64 n] 23))
  have HB0 := As.mk (Blk.new w 23 #[.int .i64 a, .int .i64 b, .int .i64 n])
  go_enter Try.func4, Try.ntmps4
  go_wp2_with fail
  generalize w.alloc (.cells #[.int .i64 a, .int .i64 b, .int .i64 n] 23) = W at *
  refine (awake_c W).mono ?_
  rintro e w1 ⟨rfl, hg1⟩
  replace HG := As.mk (gr_then HG.out hg1 (.inl rfl))
  replace HB0 := As.mk (HB0.out.grown hg1 (by simp))
  clear hg1
  go_wp2_with fail
  refine (great_c _ _ l (HL.out.below HG.out (fun _ _ h => h.grown HG.out)) 80 (by omega) _ rfl).mono ?_
  rintro e w1 ⟨rfl, hg1⟩
  replace HG := As.mk (gr_then HG.out hg1 (.inl rfl))
  replace HB0 := As.mk (HB0.out.grown hg1 (by simp))
  clear hg1
  rcases bool_cases (greatB l 80) with hgr1 | hgr1
  rotate_left
  · rw [hgr1]
    go_wp2_with fail
    go_ret
    exact ⟨rfl, HG.out⟩
  rw [hgr1]
  have HGR1 := As.mk (greatB_len hgr1)
  clear hgr1
  obtain ⟨b0, b1, b2⟩ := (HB0.out).c3
  go_wp2_with fail
  clear b0 b1 b2
  refine (First_c _ a b n).mono ?_
  rintro e w1 ⟨fP, fQ, fD, fC, qs0, cs0, rfl, hg1, hr1⟩
  have HR := As.mk (hr1.mono HG.out.size)
  replace HG := As.mk (gr_then HG.out hg1 (.inl rfl))
  clear hg1 hr1 HB0
  obtain ⟨fP, fp, rfl⟩ := own_shape HR.out.pl
  obtain ⟨fQ, fq, rfl⟩ := own_shape HR.out.pr
  obtain ⟨fD, fd, rfl⟩ := own_shape HR.out.de
  obtain ⟨fC, fc, rfl⟩ := own_shape HR.out.cm
  have HIN := As.mk (fun h => first_inv (a := a) (b := b) (n := n) h)
  have HFE := As.mk (fun h => firstE_ok (a := a) (b := b) (n := n) h)
  generalize firstE a b n = p at *
  obtain ⟨er, s⟩ := p
  dsimp only at HR HFE ⊢
  unfold stCells
  have hga := gr_alloc (gr_refl w1 none) (.cells #[.int .i64 s.node, .int .i64 s.nodes, .int .i64 s.cells, .int .i64 s.epoch, .slice fP s.places.length fp, .slice fQ qs0.length fq, .slice fD s.decided.length fd, .slice fC cs0.length fc] 32)
  have HS := As.mk (show StO _ w.heap.size w1.heap.size s from ⟨_, _, _, _, _, _, (HR.out.grown hga).st (Blk.new w1 32 #[.int .i64 s.node, .int .i64 s.nodes, .int .i64 s.cells, .int .i64 s.epoch, .slice fP s.places.length fp, .slice fQ qs0.length fq, .slice fD s.decided.length fd, .slice fC cs0.length fc]) HG.out.size⟩)
  replace HG := As.mk (gr_then HG.out hga (.inl rfl))
  clear hga HR
  by_cases h0 : er = 0
  rotate_left
  · have h1 : (er != 0) = true := by simpa using h0
    clear h0
    go_wp2_with fail
    go_ret
    exact ⟨rfl, HG.out⟩
  subst h0
  have HI := As.mk (show SInv s by
    have h1 := HFE.out rfl
    have h2 := h1.2
    injection h2 with _ h2
    rw [h2]
    exact HIN.out h1.1)
  clear HIN HFE
  have hcl := HLL.out.1
  go_upto_region 8 with fail
  generalize w1.alloc (.cells #[.int .i64 s.node, .int .i64 s.nodes, .int .i64 s.cells, .int .i64 s.epoch, .slice fP s.places.length fp, .slice fQ qs0.length fq, .slice fD s.decided.length fd, .slice fC cs0.length fc] 32) = W1 at *
  generalize w1.heap.size = sb at *
  go_cut [37, 38, 39] from 21 to 39 (fun a b c wx => a = .slice AL l.length cL ∧ b = .int .i64 l.length ∧ c = .int .i64 0 ∧ W1 = wx)
  case first =>
    go_wp2_with fail
    go_meet
    case rel => exact ⟨rfl, rfl, rfl, rfl⟩
  case rest =>
    obtain ⟨rfl, rfl, rfl, rfl⟩ := hcut
    go_wp2_with fail
    go_loopw [39] (fun i wr => ∃ k : Nat, k ≤ l.length ∧ i = .int .i64 k ∧ ∃ s', As (w.grownBy wr none ∧ StO wr w.heap.size sb s' ∧ SInv s')) (fun i _ => l.length - (intOf i).toNat)
    case atStart => exact ⟨0, Nat.zero_le _, rfl, s, ⟨HG.out, HS.out, HI.out⟩⟩
    case round =>
      obtain ⟨k, hk, rfl, s', HX⟩ := hrel
      clear HG HS HI
      obtain ⟨HG, HS, HI⟩ := HX.out
      clear HX
      replace HG := As.mk HG
      replace HS := As.mk HS
      replace HI := As.mk HI
      obtain ⟨_, _, _, _, qs, cs, hO⟩ := HS.out
      obtain ⟨gP, gp, rfl⟩ := own_shape hO.pl
      obtain ⟨gQ, gq, rfl⟩ := own_shape hO.pr
      obtain ⟨gD, gd, rfl⟩ := own_shape hO.de
      obtain ⟨gC, gc, rfl⟩ := own_shape hO.cm
      have HO := As.mk hO
      clear hO HS
      by_cases hlt : k < l.length
      · have hltI : (k : Int) < (l.length : Int) := by omega
        have hk0 : (0 : Int) ≤ (k : Int) := by omega
        obtain ⟨r, hr⟩ : ∃ r, l[k]? = some r := ⟨_, List.getElem?_eq_getElem hlt⟩
        obtain ⟨b, off, cs0, rfl, ⟨AI, cI, AN, cN, rfl, hI, hN⟩, _, hcs⟩ := HL.out.at_ k r hr
        have HRI := As.mk hI
        have HRN := As.mk hN
        have hle := HLL.out.1
        have hle2 := HLL.out.2
        have e0 := HG.out.cell (hcs 0 _ rfl) (by simp)
        have e1 := HG.out.cell (hcs 1 _ rfl) (by simp)
        have e2 := HG.out.cell (hcs 2 _ rfl) (by simp)
        have e3 := HG.out.cell (hcs 3 _ rfl) (by simp)
        have e4 := HG.out.cell (hcs 4 _ rfl) (by simp)
        have e5 := HG.out.cell (hcs 5 _ rfl) (by simp)
        have e6 := HG.out.cell (hcs 6 _ rfl) (by simp)
        have e7 := HG.out.cell (hcs 7 _ rfl) (by simp)
        have e8 := HG.out.cell (hcs 8 _ rfl) (by simp)
        have e9 := HG.out.cell (hcs 9 _ rfl) (by simp)
        have e10 := HG.out.cell (hcs 10 _ rfl) (by simp)
        have e11 := HG.out.cell (hcs 11 _ rfl) (by simp)
        have e12 := HG.out.cell (hcs 12 _ rfl) (by simp)
        have e13 := HG.out.cell (hcs 13 _ rfl) (by simp)
        have e14 := HG.out.cell (hcs 14 _ rfl) (by simp)
        simp only [Nat.add_zero] at e0
        clear hI hN hcs
        have HRE := As.mk hr
        have hga := gr_alloc (gr_alloc (gr_refl wr none) (.cells #[.int .i64 r.kind, .int .i64 r.tid.n, .int .i64 r.tid.e, .int .i64 r.tid.s, .slice AI r.items.length cI, .slice AN r.nodes.length cN, .int .i64 r.node, .int .i64 r.count, .int .i64 r.num, .int .i64 r.cell, .int .i64 r.st, .int .i64 r.hop, .int .i64 r.ver, .int .i64 r.val, .bool r.yes] 43)) (.cells #[.int .i64 r.kind, .int .i64 r.tid.n, .int .i64 r.tid.e, .int .i64 r.tid.s, .slice AI r.items.length cI, .slice AN r.nodes.length cN, .int .i64 r.node, .int .i64 r.count, .int .i64 r.num, .int .i64 r.cell, .int .i64 r.st, .int .i64 r.hop, .int .i64 r.ver, .int .i64 r.val, .bool r.yes] 43)
        have HG2 := As.mk (gr_then HG.out hga (.inl rfl))
        have HO2 := As.mk (HO.out.grown hga)
        have HBS := As.mk (show Blk _ (wr.heap.size + 1) 43 (reCells r AI cI AN cN) from Blk.new2 wr (.cells #[.int .i64 r.kind, .int .i64 r.tid.n, .int .i64 r.tid.e, .int .i64 r.tid.s, .slice AI r.items.length cI, .slice AN r.nodes.length cN, .int .i64 r.node, .int .i64 r.count, .int .i64 r.num, .int .i64 r.cell, .int .i64 r.st, .int .i64 r.hop, .int .i64 r.ver, .int .i64 r.val, .bool r.yes] 43) 43 #[.int .i64 r.kind, .int .i64 r.tid.n, .int .i64 r.tid.e, .int .i64 r.tid.s, .slice AI r.items.length cI, .slice AN r.nodes.length cN, .int .i64 r.node, .int .i64 r.count, .int .i64 r.num, .int .i64 r.cell, .int .i64 r.st, .int .i64 r.hop, .int .i64 r.ver, .int .i64 r.val, .bool r.yes])
        have HRB2 := As.mk ((Blk.new wr 43 #[.int .i64 r.kind, .int .i64 r.tid.n, .int .i64 r.tid.e, .int .i64 r.tid.s, .slice AI r.items.length cI, .slice AN r.nodes.length cN, .int .i64 r.node, .int .i64 r.count, .int .i64 r.num, .int .i64 r.cell, .int .i64 r.st, .int .i64 r.hop, .int .i64 r.ver, .int .i64 r.val, .bool r.yes]).alloc (.cells #[.int .i64 r.kind, .int .i64 r.tid.n, .int .i64 r.tid.e, .int .i64 r.tid.s, .slice AI r.items.length cI, .slice AN r.nodes.length cN, .int .i64 r.node, .int .i64 r.count, .int .i64 r.num, .int .i64 r.cell, .int .i64 r.st, .int .i64 r.hop, .int .i64 r.ver, .int .i64 r.val, .bool r.yes] 43))
        clear hga hr
        have HB1 := As.mk (HO.out.blk.alloc (.cells #[.int .i64 r.kind, .int .i64 r.tid.n, .int .i64 r.tid.e, .int .i64 r.tid.s, .slice AI r.items.length cI, .slice AN r.nodes.length cN, .int .i64 r.node, .int .i64 r.count, .int .i64 r.num, .int .i64 r.cell, .int .i64 r.st, .int .i64 r.hop, .int .i64 r.ver, .int .i64 r.val, .bool r.yes] 43))
        unfold stCells at HB1
        obtain ⟨q0, q1, q2, q3, q4, q5, q6, q7⟩ := (HB1.out).c8
        go_wp2_with fail
        clear e0 e1 e2 e3 e4 e5 e6 e7 e8 e9 e10 e11 e12 e13 e14
        clear q0 q1 q2 q3 q4 q5 q6 q7
        generalize (wr.alloc (.cells #[.int .i64 r.kind, .int .i64 r.tid.n, .int .i64 r.tid.e, .int .i64 r.tid.s, .slice AI r.items.length cI, .slice AN r.nodes.length cN, .int .i64 r.node, .int .i64 r.count, .int .i64 r.num, .int .i64 r.cell, .int .i64 r.st, .int .i64 r.hop, .int .i64 r.ver, .int .i64 r.val, .bool r.yes] 43)).alloc (.cells #[.int .i64 r.kind, .int .i64 r.tid.n, .int .i64 r.tid.e, .int .i64 r.tid.s, .slice AI r.items.length cI, .slice AN r.nodes.length cN, .int .i64 r.node, .int .i64 r.count, .int .i64 r.num, .int .i64 r.cell, .int .i64 r.st, .int .i64 r.hop, .int .i64 r.ver, .int .i64 r.val, .bool r.yes] 43) = WX at *
        generalize wr.heap.size = rb at *
        refine (Apply_c WX s' _ _ _ _ HO2.out.read HI.out _ [r] (Arr.re1 HBS.out (HRI.out.itG HG2.out) (HRN.out.inG HG2.out))).mono ?_
        rintro e w2 ⟨aP, aQ, aD, aC, qs2, cs2, rfl, hg1, hr1⟩
        obtain ⟨aP, ap, rfl⟩ := own_shape hr1.pl
        obtain ⟨aQ, aq, rfl⟩ := own_shape hr1.pr
        obtain ⟨aD, ad, rfl⟩ := own_shape hr1.de
        obtain ⟨aC, ac, rfl⟩ := own_shape hr1.cm
        have HG3 := As.mk (gr_then HG2.out hg1 (.inl rfl))
        have HO3 := As.mk (HO2.out.grown hg1)
        have HRB3 := As.mk (HRB2.out.grown hg1 (by simp))
        have HR3 := As.mk (hr1.mono HG2.out.size)
        clear hg1 hr1 HG2 HO2 HRB2 HB1
        have HIN := As.mk (fun h => applyL_inv' (r := r) HI.out h)
        have HPP := As.mk (fun h h1 h2 => stays1 (r := r) HI.out h h1 h2)
        generalize applyL s' [r] = q at *
        obtain ⟨er, t⟩ := q
        dsimp only at HR3 HIN HPP ⊢
        unfold stCells
        have hga := gr_alloc (gr_refl w2 none) (.cells #[.int .i64 t.node, .int .i64 t.nodes, .int .i64 t.cells, .int .i64 t.epoch, .slice aP t.places.length ap, .slice aQ qs2.length aq, .slice aD t.decided.length ad, .slice aC cs2.length ac] 32)
        have HGT := As.mk (gr_then HG3.out hga (.inl rfl))
        have HST := As.mk (HO3.out.grown hga)
        have HRB := As.mk (HRB3.out.grown hga (by simp))
        have HTR := As.mk (HR3.out.grown hga)
        have HTB := As.mk (Blk.new w2 32 #[.int .i64 t.node, .int .i64 t.nodes, .int .i64 t.cells, .int .i64 t.epoch, .slice aP t.places.length ap, .slice aQ qs2.length aq, .slice aD t.decided.length ad, .slice aC cs2.length ac])
        clear hga HG3 HO3 HR3 HRB3
        by_cases h0 : er = 0
        · subst h0
          have HIT := As.mk (HIN.out rfl)
          obtain ⟨t0, t1, t2, t3, t4, t5, t6, t7, t8, t9, t10, t11, t12, t13, t14⟩ := (HRB.out).c15
          rcases bool_cases (r.kind == 1) with h1 | h1
          · rcases bool_cases (r.kind == 3) with h3 | h3
            · have HP := As.mk (HPP.out rfl (by simpa using h1) (by simpa using h3))
              go_upto_region 15 with fail
              clear t0 t1 t2 t3 t4 t5 t6 t7 t8 t9 t10 t11 t12 t13 t14
              generalize w2.alloc (.cells #[.int .i64 t.node, .int .i64 t.nodes, .int .i64 t.cells, .int .i64 t.epoch, .slice aP t.places.length ap, .slice aQ qs2.length aq, .slice aD t.decided.length ad, .slice aC cs2.length ac] 32) = WT at *
              generalize w2.heap.size = tb at *
              obtain ⟨wo, rfl⟩ : ∃ wo : World, wo = wr := ⟨_, rfl⟩
              go_cut [62, 63, 64] from 41 to 64 (fun a b c wx => a = .slice gD s'.decided.length gd ∧ b = .int .i64 s'.decided.length ∧ c = .int .i64 0 ∧ WT = wx)
              case first =>
                have HSX0 := HST.out.blk
                unfold stCells at HSX0
                obtain ⟨q0, q1, q2, q3, q4, q5, q6, q7⟩ := (HSX0).c8
                go_wp2_with fail
                go_meet
                case rel => exact ⟨rfl, rfl, rfl, rfl⟩
              case rest =>
                obtain ⟨rfl, rfl, rfl, rfl⟩ := hcut
                go_wp2_with fail
                have HV00 : As (WT.grownBy WT none) := ⟨gr_refl _ _⟩
                refine stays_l2 w WT sb tb rb s' t r gP gQ gD gC aP aQ aD aC gp gq gd gc ap aq ad ac qs qs2 cs cs2 AI AN cI cN HST HTB HTR HRB HP HIT _ HV00 ?_
                intro u4 u12 u13 u64 u65 u66 u67 u68 u69 u70 u71 u72 u73 u74 u75 u76 u77 u78 u79 u80 u81 u82 u83 wi HV
                have HSX := As.mk (HST.out.blk.grown HV.out (by simp))
                unfold stCells at HSX
                obtain ⟨q0, q1, q2, q3, q4, q5, q6, q7⟩ := (HSX.out).c8
                go_wp2_with fail
                clear q0 q1 q2 q3 q4 q5 q6 q7 HSX
                refine stays_l3 w WT sb tb rb s' t r gP gQ gD gC aP aQ aD aC gp gq gd gc ap aq ad ac qs qs2 cs cs2 AI AN cI cN HST HTB HTR HRB HP HIT _ HV ?_
                intro u4 u14 u15 u87 u88 u89 u90 u91 u92 u93 u94 u95 u96 u97 u98 u99 u100 u101 u102 u103 u104 u105 u106 u107 u108 u109 u110 u111 u112 u113 u114 u115 u116 u117 u118 u119 u120 u121 wi HV
                have HSX := As.mk (HST.out.blk.grown HV.out (by simp))
                unfold stCells at HSX
                obtain ⟨q0, q1, q2, q3, q4, q5, q6, q7⟩ := (HSX.out).c8
                go_wp2_with fail
                clear q0 q1 q2 q3 q4 q5 q6 q7 HSX
                refine stays_l4 w WT sb tb rb s' t r gP gQ gD gC aP aQ aD aC gp gq gd gc ap aq ad ac qs qs2 cs cs2 AI AN cI cN HST HTB HTR HRB HP HIT _ HV ?_
                intro u4 u17 u125 u126 u127 u128 u129 u130 u131 u132 u133 u134 u135 u136 u137 u138 u139 u140 u141 wi HV
                have HSX := As.mk (HST.out.blk.grown HV.out (by simp))
                unfold stCells at HSX
                obtain ⟨q0, q1, q2, q3, q4, q5, q6, q7⟩ := (HSX.out).c8
                go_wp2_with fail
                clear q0 q1 q2 q3 q4 q5 q6 q7 HSX
                refine stays_l5 w WT sb tb rb s' t r gP gQ gD gC aP aQ aD aC gp gq gd gc ap aq ad ac qs qs2 cs cs2 AI AN cI cN HST HTB HTR HRB HP HIT _ HV ?_
                intro u4 u18 u19 u20 u145 u146 u147 u148 u149 u150 u151 u152 u153 u154 u155 u156 u157 u158 u159 u160 u161 u162 u163 u164 u165 u166 u167 u168 u169 u170 u171 u172 u173 u174 u175 u176 u177 u178 u179 u180 u181 u182 u183 u184 u185 u186 u187 u188 u189 u190 u191 u192 u193 u194 u195 wi HV
                have HSX := As.mk (HST.out.grown HV.out)
                have HTX := As.mk (HTB.out.grown HV.out (by simp))
                have HRX := As.mk (HTR.out.grown HV.out)
                have hep := HP.out.ep
                have HS5 := As.mk ((show StO _ w.heap.size sb s' from ⟨_, _, _, _, _, _, HSX.out⟩).assign HRX.out)
                have HG5 := As.mk (gr_put8 (gr_then HGT.out HV.out (.inl rfl)) (sb := sb) (.inr HSX.out.lo) (.int .i64 t.node) (.int .i64 t.nodes) (.int .i64 t.cells) (.int .i64 t.epoch) (.slice aP t.places.length ap) (.slice aQ qs2.length aq) (.slice aD t.decided.length ad) (.slice aC cs2.length ac))
                unfold Go.Proofs.Ytdmkijdbldcdiaa.put8 at HS5 HG5
                have HSY := As.mk HSX.out.blk
                unfold stCells at HSY
                obtain ⟨q0, q1, q2, q3, q4, q5, q6, q7⟩ := (HSY.out).c8
                have fz0 := HSY.out.free 0
                have fz1 := HSY.out.free 1
                have fz2 := HSY.out.free 2
                have fz3 := HSY.out.free 3
                have fz4 := HSY.out.free 4
                have fz5 := HSY.out.free 5
                have fz6 := HSY.out.free 6
                have fz7 := HSY.out.free 7
                obtain ⟨u0, u1, u2, u3, u4, u5, u6, u7⟩ := (HTX.out).c8
                go_wp2_with fail
                go_roundw
                case measure => simp [intOf]; omega
                case rel => exact ⟨k + 1, by omega, by go_num, t, ⟨HG5.out, HS5.out, HIT.out⟩⟩

            · have HS5 := As.mk ((show StO _ w.heap.size sb s' from ⟨_, _, _, _, _, _, HST.out⟩).assign HTR.out)
              have HG5 := As.mk (gr_put8 HGT.out (sb := sb) (.inr HST.out.lo) (.int .i64 t.node) (.int .i64 t.nodes) (.int .i64 t.cells) (.int .i64 t.epoch) (.slice aP t.places.length ap) (.slice aQ qs2.length aq) (.slice aD t.decided.length ad) (.slice aC cs2.length ac))
              unfold Go.Proofs.Ytdmkijdbldcdiaa.put8 at HS5 HG5
              have HSY := As.mk HST.out.blk
              unfold stCells at HSY
              obtain ⟨q0, q1, q2, q3, q4, q5, q6, q7⟩ := (HSY.out).c8
              have fz0 := HSY.out.free 0
              have fz1 := HSY.out.free 1
              have fz2 := HSY.out.free 2
              have fz3 := HSY.out.free 3
              have fz4 := HSY.out.free 4
              have fz5 := HSY.out.free 5
              have fz6 := HSY.out.free 6
              have fz7 := HSY.out.free 7
              go_wp2_with fail
              go_roundw
              case measure => simp [intOf]; omega
              case rel => exact ⟨k + 1, by omega, by go_num, t, ⟨HG5.out, HS5.out, HIT.out⟩⟩
          · have HS5 := As.mk ((show StO _ w.heap.size sb s' from ⟨_, _, _, _, _, _, HST.out⟩).assign HTR.out)
            have HG5 := As.mk (gr_put8 HGT.out (sb := sb) (.inr HST.out.lo) (.int .i64 t.node) (.int .i64 t.nodes) (.int .i64 t.cells) (.int .i64 t.epoch) (.slice aP t.places.length ap) (.slice aQ qs2.length aq) (.slice aD t.decided.length ad) (.slice aC cs2.length ac))
            unfold Go.Proofs.Ytdmkijdbldcdiaa.put8 at HS5 HG5
            have HSY := As.mk HST.out.blk
            unfold stCells at HSY
            obtain ⟨q0, q1, q2, q3, q4, q5, q6, q7⟩ := (HSY.out).c8
            have fz0 := HSY.out.free 0
            have fz1 := HSY.out.free 1
            have fz2 := HSY.out.free 2
            have fz3 := HSY.out.free 3
            have fz4 := HSY.out.free 4
            have fz5 := HSY.out.free 5
            have fz6 := HSY.out.free 6
            have fz7 := HSY.out.free 7
            go_wp2_with fail
            go_roundw
            case measure => simp [intOf]; omega
            case rel => exact ⟨k + 1, by omega, by go_num, t, ⟨HG5.out, HS5.out, HIT.out⟩⟩
        · have h1 : (er != 0) = true := by simpa using h0
          clear h0
          go_wp2_with fail
          go_roundw
          case measure => simp [intOf]; omega
          case rel => exact ⟨k + 1, by omega, by go_num, s', ⟨HGT.out, ⟨_, _, _, _, _, _, HST.out⟩, HI.out⟩⟩
      · obtain rfl : k = l.length := by omega
        go_wp2_with fail
        go_ret
        exact ⟨rfl, HG.out⟩
end Go.Proofs.Ytdmkijdbldcdiaa
