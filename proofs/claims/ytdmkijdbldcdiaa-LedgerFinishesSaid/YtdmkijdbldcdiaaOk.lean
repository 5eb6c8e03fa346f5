/- The walk of LedgerFinishes. (Printed by wip/gen/gen_ok.py.) -/
import Derived.Test.YtdmkijdbldcdiaaOf
import Derived.Test.YtdmkijdbldcdiaaOi
namespace Go.Proofs.Ytdmkijdbldcdiaa
open Go.RowKit
set_option linter.unusedVariables false
set_option linter.unusedSimpArgs false
set_option maxRecDepth 100000

theorem bool_cases' (b : Bool) : b = false ∨ b = true := by cases b <;> simp
set_option maxHeartbeats 12800000 in
theorem fin_walk (w : World) (a b n : Int) (v1 : Value) (l : List PRec) (hl : Arr ReE 15 w v1 l) (yes : Bool) :
    Calls Try.prog 5 #[.agg #[.int .i64 a, .int .i64 b, .int .i64 n], v1, .bool yes] w fun e w' => e = .returned (.bool true) ∧ w.grownBy w' none := by
  obtain ⟨AL, cL, rfl⟩ := hl.len
  have HL := As.mk hl
  clear hl
  have HG := As.mk (gr_alloc (gr_refl w none) (.cells #[.int .i64 a, .int .i64 b, .int .i64 n] 23))
  have HB0 := As.mk (Blk.new w 23 #[.int .i64 a, .int .i64 b, .int .i64 n])
  go_enter Try.func5, Try.ntmps5
  go_wp2_with fail
  generalize w.alloc (.cells #[.int .i64 a, .int .i64 b, .int .i64 n] 23) = W at *
  refine (awake_c W).mono ?_
  rintro e w1 ⟨rfl, hg1⟩
  replace HG := As.mk (gr_then HG.out hg1 (.inl rfl))
  replace HB0 := As.mk (HB0.out.grown hg1 (by simp))
  clear hg1
  go_wp2_with fail
  refine (great_c _ _ l (HL.out.below HG.out (fun _ _ h => h.grown HG.out)) 80 (by omega) _ rfl).mono ?_
  rintro e w1 ⟨rfl, hg1⟩
  replace HG := As.mk (gr_then HG.out hg1 (.inl rfl))
  replace HB0 := As.mk (HB0.out.grown hg1 (by simp))
  clear hg1
  rcases bool_cases (greatB l 80) with hgr1 | hgr1
  rotate_left
  · rw [hgr1]
    go_wp2_with fail
    go_ret
    exact ⟨rfl, HG.out⟩
  rw [hgr1]
  have HGR1 := As.mk (greatB_len hgr1)
  clear hgr1
  have b0 := (HB0.out).cell 0
  have b1 := (HB0.out).cell 1
  have b2 := (HB0.out).cell 2
  simp only [stCells, reCells, List.getElem?_toArray, List.getElem?_cons_zero, List.getElem?_cons_succ] at b0 b1 b2
  go_wp2_with fail
  clear b0 b1 b2
  refine (reached_c _ a b n _ l (HL.out.below HG.out (fun _ _ h => h.grown HG.out))).mono ?_
  rintro e w1 ⟨fP, fQ, fD, fC, qs0, cs0, rfl, hg1, hr1⟩
  have HR := As.mk (hr1.mono HG.out.size)
  replace HG := As.mk (gr_then HG.out hg1 (.inl rfl))
  clear hg1 hr1 HB0
  obtain ⟨fP, fp, rfl⟩ := own_shape HR.out.pl
  obtain ⟨fQ, fq, rfl⟩ := own_shape HR.out.pr
  obtain ⟨fD, fd, rfl⟩ := own_shape HR.out.de
  obtain ⟨fC, fc, rfl⟩ := own_shape HR.out.cm
  have HIN := As.mk (fun h => reachedE_inv (a := a) (b := b) (n := n) (l := l) h)
  generalize reachedE a b n l = p at *
  obtain ⟨s, ok⟩ := p
  dsimp only at HR HIN ⊢
  unfold stCells
  have hga := gr_alloc (gr_refl w1 none) (.cells #[.int .i64 s.node, .int .i64 s.nodes, .int .i64 s.cells, .int .i64 s.epoch, .slice fP s.places.length fp, .slice fQ qs0.length fq, .slice fD s.decided.length fd, .slice fC cs0.length fc] 32)
  have HS := As.mk (Blk.new w1 32 #[.int .i64 s.node, .int .i64 s.nodes, .int .i64 s.cells, .int .i64 s.epoch, .slice fP s.places.length fp, .slice fQ qs0.length fq, .slice fD s.decided.length fd, .slice fC cs0.length fc])
  replace HR := As.mk (HR.out.grown hga)
  replace HG := As.mk (gr_then HG.out hga (.inl rfl))
  clear hga
  cases ok
  · go_wp2_with fail
    go_ret
    exact ⟨rfl, HG.out⟩
  have HI := As.mk (HIN.out rfl)
  clear HIN
  have q0 := (HS.out).cell 0
  have q1 := (HS.out).cell 1
  have q2 := (HS.out).cell 2
  have q3 := (HS.out).cell 3
  have q4 := (HS.out).cell 4
  have q5 := (HS.out).cell 5
  have q6 := (HS.out).cell 6
  have q7 := (HS.out).cell 7
  simp only [stCells, reCells, List.getElem?_toArray, List.getElem?_cons_zero, List.getElem?_cons_succ] at q0 q1 q2 q3 q4 q5 q6 q7
  go_wp2_with fail
  clear q0 q1 q2 q3 q4 q5 q6 q7
  generalize w1.alloc (.cells #[.int .i64 s.node, .int .i64 s.nodes, .int .i64 s.cells, .int .i64 s.epoch, .slice fP s.places.length fp, .slice fQ qs0.length fq, .slice fD s.decided.length fd, .slice fC cs0.length fc] 32) = W1 at *
  generalize w1.heap.size = sb at *
  have HQL := As.mk (show qs0.length = s.prepared.length by rw [← HR.out.qp, List.length_map])
  go_loopw [33] (fun i wr => ∃ k : Nat, k ≤ qs0.length ∧ i = .int .i64 k ∧ As (W1.grownBy wr none)) (fun i _ => qs0.length - (intOf i).toNat)
  case atStart => exact ⟨0, Nat.zero_le _, rfl, ⟨gr_refl _ _⟩⟩
  case round =>
    obtain ⟨k, hk, rfl, HW⟩ := hrel
    have HRW := As.mk (HR.out.grown HW.out)
    by_cases hlt : k < qs0.length
    · have hltI : (k : Int) < (qs0.length : Int) := by omega
      have hk0 : (0 : Int) ≤ (k : Int) := by omega
      obtain ⟨q, hq⟩ : ∃ q, qs0[k]? = some q := ⟨_, List.getElem?_eq_getElem hlt⟩
      have HPK := As.mk (show s.prepared[k]? = some q.p by rw [← HR.out.qp, List.getElem?_map, hq]; rfl)
      have HQI := As.mk (HR.out.qi q (List.mem_of_getElem? hq)).1.1
      obtain ⟨gQ, kQ, eQ⟩ := own_some HRW.out.pr (by omega)
      injection eQ with eQ1 _ eQ3
      subst eQ1 eQ3
      have hle : qs0.length ≤ fq ∧ fq ≤ 9223372036854775807 := by
        obtain ⟨_, _, _, _, h1, h2⟩ := own_whole HRW.out.pr
        exact ⟨h1, by simp only [maxLen] at h2; omega⟩
      have c0 : wr.cell? ⟨gQ, k * 5, none⟩ = _ := own_cellAt HRW.out.pr (k * 5 + 0) _ (flat_at qpC 5 (fun _ => rfl) qs0 k _ hq 0 _ rfl)
      have c1 := own_cellAt HRW.out.pr (k * 5 + 1) _ (flat_at qpC 5 (fun _ => rfl) qs0 k _ hq 1 _ rfl)
      have c2 := own_cellAt HRW.out.pr (k * 5 + 2) _ (flat_at qpC 5 (fun _ => rfl) qs0 k _ hq 2 _ rfl)
      have c3 := own_cellAt HRW.out.pr (k * 5 + 3) _ (flat_at qpC 5 (fun _ => rfl) qs0 k _ hq 3 _ rfl)
      have c4 := own_cellAt HRW.out.pr (k * 5 + 4) _ (flat_at qpC 5 (fun _ => rfl) qs0 k _ hq 4 _ rfl)
      have HSA := As.mk ((HS.out.grown HW.out (by simp)).alloc (.cells #[.int .i64 q.p.tid.n, .int .i64 q.p.tid.e, .int .i64 q.p.tid.s, .slice q.A1 q.p.items.length q.c1, .slice q.A2 q.p.nodes.length q.c2] 60))
      have hga := gr_alloc (gr_alloc (gr_refl wr none) (.cells #[.int .i64 q.p.tid.n, .int .i64 q.p.tid.e, .int .i64 q.p.tid.s, .slice q.A1 q.p.items.length q.c1, .slice q.A2 q.p.nodes.length q.c2] 60)) (.cells #[.int .i64 6, .int .i64 q.p.tid.n, .int .i64 q.p.tid.e, .int .i64 q.p.tid.s, .slice none 0 0, .slice none 0 0, .int .i64 0, .int .i64 0, .int .i64 0, .int .i64 0, .int .i64 0, .int .i64 0, .int .i64 0, .int .i64 0, .bool yes] 43)
      have HW2 := As.mk (gr_then HW.out hga (.inl rfl))
      have HP2 := As.mk ((Blk.new wr 60 #[.int .i64 q.p.tid.n, .int .i64 q.p.tid.e, .int .i64 q.p.tid.s, .slice q.A1 q.p.items.length q.c1, .slice q.A2 q.p.nodes.length q.c2]).alloc (.cells #[.int .i64 6, .int .i64 q.p.tid.n, .int .i64 q.p.tid.e, .int .i64 q.p.tid.s, .slice none 0 0, .slice none 0 0, .int .i64 0, .int .i64 0, .int .i64 0, .int .i64 0, .int .i64 0, .int .i64 0, .int .i64 0, .int .i64 0, .bool yes] 43))
      have HBR := As.mk (show Blk _ (wr.heap.size + 1) 43 (reCells (doneR q.p.tid yes) none 0 none 0) from Blk.new2 wr (.cells #[.int .i64 q.p.tid.n, .int .i64 q.p.tid.e, .int .i64 q.p.tid.s, .slice q.A1 q.p.items.length q.c1, .slice q.A2 q.p.nodes.length q.c2] 60) 43 #[.int .i64 6, .int .i64 q.p.tid.n, .int .i64 q.p.tid.e, .int .i64 q.p.tid.s, .slice none 0 0, .slice none 0 0, .int .i64 0, .int .i64 0, .int .i64 0, .int .i64 0, .int .i64 0, .int .i64 0, .int .i64 0, .int .i64 0, .bool yes])
      have HR2 := As.mk (HR.out.grown HW2.out)
      clear hga hq
      have q0 := (HSA.out).cell 0
      have q1 := (HSA.out).cell 1
      have q2 := (HSA.out).cell 2
      have q3 := (HSA.out).cell 3
      have q4 := (HSA.out).cell 4
      have q5 := (HSA.out).cell 5
      have q6 := (HSA.out).cell 6
      have q7 := (HSA.out).cell 7
      simp only [stCells, reCells, List.getElem?_toArray, List.getElem?_cons_zero, List.getElem?_cons_succ] at q0 q1 q2 q3 q4 q5 q6 q7
      go_wp2_with fail
      clear q0 q1 q2 q3 q4 q5 q6 q7 c0 c1 c2 c3 c4 HSA
      generalize (wr.alloc (.cells #[.int .i64 q.p.tid.n, .int .i64 q.p.tid.e, .int .i64 q.p.tid.s, .slice q.A1 q.p.items.length q.c1, .slice q.A2 q.p.nodes.length q.c2] 60)).alloc (.cells #[.int .i64 6, .int .i64 q.p.tid.n, .int .i64 q.p.tid.e, .int .i64 q.p.tid.s, .slice none 0 0, .slice none 0 0, .int .i64 0, .int .i64 0, .int .i64 0, .int .i64 0, .int .i64 0, .int .i64 0, .int .i64 0, .int .i64 0, .bool yes] 43) = WX at *
      generalize wr.heap.size = pb at *
      refine (Apply_c WX s _ _ _ _ HR2.out.read HI.out _ [doneR q.p.tid yes] (Arr.re1 HBR.out Arr.nil0 Arr.nil0)).mono ?_
      rw [fin_apply HI.out HPK.out yes]
      rintro e w2 ⟨aP, aQ, aD, aC, qs2, cs2, rfl, hg1, hr1⟩
      obtain ⟨aP, ap, rfl⟩ := own_shape hr1.pl
      obtain ⟨aQ, aq, rfl⟩ := own_shape hr1.pr
      obtain ⟨aD, ad, rfl⟩ := own_shape hr1.de
      obtain ⟨aC, ac, rfl⟩ := own_shape hr1.cm
      have HF1 := As.mk (fun x (hx : x ∈ q.p.items) => fin_unlocked HI.out HPK.out yes hx)
      have HF2 := As.mk (fun x (hx : x ∈ q.p.items) => fin_place HI.out HPK.out yes hx)
      have HF3 := As.mk (fin_dec HI.out HPK.out yes)
      have HF4 := As.mk (fin_prep HI.out HPK.out yes)
      have HF5 := As.mk (fun x (hx : x ∈ q.p.items) => (HI.out.pr q.p (List.mem_of_getElem? HPK.out)).cellOk hx)
      have HF6 := As.mk (fin_len (s := s) (k := k) (p := q.p) (y := yes))
      generalize finS s k q.p yes = t at *
      dsimp only at hr1 ⊢
      unfold stCells
      have hga := gr_alloc (gr_refl w2 none) (.cells #[.int .i64 t.node, .int .i64 t.nodes, .int .i64 t.cells, .int .i64 t.epoch, .slice aP t.places.length ap, .slice aQ qs2.length aq, .slice aD t.decided.length ad, .slice aC cs2.length ac] 32)
      have HW3 := As.mk (gr_then (gr_then HW2.out hg1 (.inl rfl)) hga (.inl rfl))
      have HP3 := As.mk ((HP2.out.grown hg1 (by simp)).grown hga (by simp))
      have HT3 := As.mk (Blk.new w2 32 #[.int .i64 t.node, .int .i64 t.nodes, .int .i64 t.cells, .int .i64 t.epoch, .slice aP t.places.length ap, .slice aQ qs2.length aq, .slice aD t.decided.length ad, .slice aC cs2.length ac])
      have HRT := As.mk ((hr1.mono (Nat.le_trans HG.out.size HW2.out.size)).grown hga)
      have HS3 := As.mk (HS.out.grown HW3.out (by simp))
      have HRS := As.mk (HR.out.grown HW3.out)
      have HQ3 := As.mk (HQI.out.itG HW3.out)
      clear hg1 hr1 hga HW2 HP2 HBR HR2 HRW
      have p0 := (HP3.out).cell 0
      have p1 := (HP3.out).cell 1
      have p2 := (HP3.out).cell 2
      have p3 := (HP3.out).cell 3
      have p4 := (HP3.out).cell 4
      simp only [stCells, reCells, List.getElem?_toArray, List.getElem?_cons_zero, List.getElem?_cons_succ] at p0 p1 p2 p3 p4
      go_wp2_with fail
      clear p0 p1 p2 p3 p4
      generalize w2.alloc (.cells #[.int .i64 t.node, .int .i64 t.nodes, .int .i64 t.cells, .int .i64 t.epoch, .slice aP t.places.length ap, .slice aQ qs2.length aq, .slice aD t.decided.length ad, .slice aC cs2.length ac] 32) = WT at *
      generalize w2.heap.size = tb at *
      obtain ⟨wo, rfl⟩ : ∃ wo : World, wo = wr := ⟨_, rfl⟩
      go_loopw [52] (fun i wi => ∃ j : Nat, j ≤ q.p.items.length ∧ i = .int .i64 j ∧ As (WT.grownBy wi none)) (fun i _ => q.p.items.length - (intOf i).toNat)
      case atStart => exact ⟨0, Nat.zero_le _, rfl, ⟨gr_refl _ _⟩⟩
      case round =>
        obtain ⟨j, hj, rfl, HV⟩ := hrel
        rename World => wi
        by_cases hjt : j < q.p.items.length
        · have hjI : (j : Int) < (q.p.items.length : Int) := by omega
          have hj0 : (0 : Int) ≤ (j : Int) := by omega
          obtain ⟨x, hx⟩ : ∃ x, q.p.items[j]? = some x := ⟨_, List.getElem?_eq_getElem hjt⟩
          have hxm := List.mem_of_getElem? hx
          obtain ⟨b2, o2, cs3, eA, hE2, _, hcell2⟩ := HQ3.out.at_ j x hx
          obtain rfl := hE2
          have hlq := HQ3.out.cap
          have hlq2 := HQ3.out.le
          have HX1 := As.mk (HF1.out x hxm)
          have HX5 := As.mk (HF5.out x hxm)
          obtain ⟨was, hwas, hnow⟩ := HF2.out x hxm
          obtain ⟨m, hm⟩ : ∃ m : Nat, x.c = (m : Int) := ⟨x.c.toNat, by have := HX5.out; omega⟩
          have hms : m < s.places.length := by have := HX5.out; omega
          have hmt : m < t.places.length := by rw [HF6.out]; exact hms
          rw [hm, Int.toNat_natCast] at hwas hnow
          rw [hm] at HX1
          obtain ⟨xc, xv, xa, xw, xn⟩ := x
          dsimp only at hm
          subst hm
          dsimp only at hnow hwas HX1
          obtain ⟨nw, hnw⟩ : ∃ nw : PPl, nw = (if yes = true ∧ xw = true then ⟨was.st, was.hop, was.to_, IntKind.i64.wrap (was.ver + 1), xn⟩ else was) := ⟨_, rfl⟩
          rw [← hnw] at hnow
          have HWAS := As.mk hwas
          have HNOW := As.mk hnow
          have HNW := As.mk hnw
          obtain ⟨gS, kS, eS⟩ := own_some HRS.out.pl (by omega)
          obtain ⟨gT, kT, eT⟩ := own_some HRT.out.pl (by omega)
          injection eS with eS1 _ eS3
          injection eT with eT1 _ eT3
          subst eS1 eS3 eT1 eT3
          have hcS : s.places.length ≤ fp ∧ fp ≤ 9223372036854775807 := by
            obtain ⟨_, _, _, _, h1, h2⟩ := own_whole HRS.out.pl
            exact ⟨h1, by simp only [maxLen] at h2; omega⟩
          have hcT : t.places.length ≤ ap ∧ ap ≤ 9223372036854775807 := by
            obtain ⟨_, _, _, _, h1, h2⟩ := own_whole HRT.out.pl
            exact ⟨h1, by simp only [maxLen] at h2; omega⟩
          have hmI : (m : Int) < (s.places.length : Int) := by omega
          have hmJ : (m : Int) < (t.places.length : Int) := by omega
          have hm0 : (0 : Int) ≤ (m : Int) := by omega
          have d0 : wi.cell? ⟨b2, o2 + j * 5, none⟩ = _ := HV.out.cell (hcell2 0 _ rfl) (by simp)
          have d1 := HV.out.cell (hcell2 1 _ rfl) (by simp)
          have d2 := HV.out.cell (hcell2 2 _ rfl) (by simp)
          have d3 := HV.out.cell (hcell2 3 _ rfl) (by simp)
          have d4 := HV.out.cell (hcell2 4 _ rfl) (by simp)
          have HA2 := As.mk eA
          clear hcell2 hx hxm hwas hnow hnw
          rw [eA]
          have HXB := As.mk (Blk.new wi 66 #[.int .i64 (m : Int), .int .i64 xv, .int .i64 xa, .bool xw, .int .i64 xn])
          have HV2 := As.mk (gr_alloc HV.out (.cells #[.int .i64 (m : Int), .int .i64 xv, .int .i64 xa, .bool xw, .int .i64 xn] 66))
          go_wp2_with fail
          clear d0 d1 d2 d3 d4
          generalize wi.alloc (.cells #[.int .i64 (m : Int), .int .i64 xv, .int .i64 xa, .bool xw, .int .i64 xn] 66) = WI at *
          generalize wi.heap.size = xb at *
          have HSI := As.mk (HS3.out.grown HV2.out (by simp))
          have HTI := As.mk (HT3.out.grown HV2.out (by simp))
          have HRSI := As.mk (HRS.out.grown HV2.out)
          have HRTI := As.mk (HRT.out.grown HV2.out)
          go_cut [15, 16] (fun va vb wx => ∃ g1 g2 : Nat, va = .pointer (some ⟨g1, 0, none⟩) ∧ vb = .pointer (some ⟨g2, 0, none⟩) ∧ As (WI.grownBy wx none ∧ Blk wx g1 62 #[.int .i64 was.st, .int .i64 was.hop, .int .i64 was.to_, .int .i64 was.ver, .int .i64 was.val] ∧ Blk wx g2 62 #[.int .i64 nw.st, .int .i64 nw.hop, .int .i64 nw.to_, .int .i64 nw.ver, .int .i64 nw.val]))
          case first =>
            have s4 := HSI.out.cell 4
            have t4 := HTI.out.cell 4
            have x0 := HXB.out.cell 0
            simp only [List.getElem?_toArray, List.getElem?_cons_zero, List.getElem?_cons_succ] at s4 t4 x0
            have u0 := own_cellAt HRSI.out.pl (m * 5 + 0) _ (flat_at plCells 5 (fun _ => rfl) s.places m _ HWAS.out 0 _ rfl)
            have y0 := own_cellAt HRTI.out.pl (m * 5 + 0) _ (flat_at plCells 5 (fun _ => rfl) t.places m _ HNOW.out 0 _ rfl)
            have u1 := own_cellAt HRSI.out.pl (m * 5 + 1) _ (flat_at plCells 5 (fun _ => rfl) s.places m _ HWAS.out 1 _ rfl)
            have y1 := own_cellAt HRTI.out.pl (m * 5 + 1) _ (flat_at plCells 5 (fun _ => rfl) t.places m _ HNOW.out 1 _ rfl)
            have u2 := own_cellAt HRSI.out.pl (m * 5 + 2) _ (flat_at plCells 5 (fun _ => rfl) s.places m _ HWAS.out 2 _ rfl)
            have y2 := own_cellAt HRTI.out.pl (m * 5 + 2) _ (flat_at plCells 5 (fun _ => rfl) t.places m _ HNOW.out 2 _ rfl)
            have u3 := own_cellAt HRSI.out.pl (m * 5 + 3) _ (flat_at plCells 5 (fun _ => rfl) s.places m _ HWAS.out 3 _ rfl)
            have y3 := own_cellAt HRTI.out.pl (m * 5 + 3) _ (flat_at plCells 5 (fun _ => rfl) t.places m _ HNOW.out 3 _ rfl)
            have u4 := own_cellAt HRSI.out.pl (m * 5 + 4) _ (flat_at plCells 5 (fun _ => rfl) s.places m _ HWAS.out 4 _ rfl)
            have y4 := own_cellAt HRTI.out.pl (m * 5 + 4) _ (flat_at plCells 5 (fun _ => rfl) t.places m _ HNOW.out 4 _ rfl)
            simp only [Nat.add_zero] at u0 y0
            have n1 := World.new_ne WI _ s4
            have n2 := World.new_ne WI _ t4
            have n3 := World.new_ne WI _ x0
            have n4 := World.new_ne WI _ u0
            have n5 := World.new_ne WI _ y0
            dsimp only at n1 n2 n3 n4 n5
            go_region_held3 (fun w' => w'.cell? ⟨sb, 4, none⟩ = some (.slice (some ⟨gS, 0, none⟩) s.places.length fp) ∧ w'.cell? ⟨xb, 0, none⟩ = some (.int .i64 (m : Int)) ∧ w'.cell? ⟨tb, 4, none⟩ = some (.slice (some ⟨gT, 0, none⟩) t.places.length ap) ∧ w'.cell? ⟨gS, m * 5, none⟩ = some (.int .i64 was.st) ∧ w'.cell? ⟨gS, m * 5 + 1, none⟩ = some (.int .i64 was.hop) ∧ w'.cell? ⟨gS, m * 5 + 2, none⟩ = some (.int .i64 was.to_) ∧ w'.cell? ⟨gS, m * 5 + 3, none⟩ = some (.int .i64 was.ver) ∧ w'.cell? ⟨gS, m * 5 + 4, none⟩ = some (.int .i64 was.val) ∧ w'.cell? ⟨gT, m * 5, none⟩ = some (.int .i64 nw.st) ∧ w'.cell? ⟨gT, m * 5 + 1, none⟩ = some (.int .i64 nw.hop) ∧ w'.cell? ⟨gT, m * 5 + 2, none⟩ = some (.int .i64 nw.to_) ∧ w'.cell? ⟨gT, m * 5 + 3, none⟩ = some (.int .i64 nw.ver) ∧ w'.cell? ⟨gT, m * 5 + 4, none⟩ = some (.int .i64 nw.val)) (go_keep) (fail)
            all_goals
              (try simp only [Exit.then])
              go_wp2_with fail
              go_meet
              case rel =>
                refine ⟨_, _, rfl, rfl, ⟨?_, ?_, ?_⟩⟩
                · repeat (first | exact gr_refl _ _ | refine gr_drew ?_ | refine gr_drewN ?_ _ | refine gr_alloc ?_ _)
                · first | exact Blk.drew (Blk.alloc (Blk.new _ _ _) _) | exact Blk.drew (Blk.new2 _ _ _ _) | exact Blk.alloc (Blk.new _ _ _) _ | exact Blk.new2 _ _ _ _
                · first | exact Blk.drew (Blk.alloc (Blk.new _ _ _) _) | exact Blk.drew (Blk.new2 _ _ _ _) | exact Blk.alloc (Blk.new _ _ _) _ | exact Blk.new2 _ _ _ _
          case rest =>
            obtain ⟨g1, g2, rfl, rfl, HC⟩ := hcut
            have HTC := As.mk (HTI.out.grown HC.out.1 (by simp))
            have HXC := As.mk (HXB.out.grown HC.out.1 (by simp))
            have HRC := As.mk (HRTI.out.grown HC.out.1)
            have u0 := (HTC.out).cell 0
            have u1 := (HTC.out).cell 1
            have u2 := (HTC.out).cell 2
            have u3 := (HTC.out).cell 3
            have u4 := (HTC.out).cell 4
            have u5 := (HTC.out).cell 5
            have u6 := (HTC.out).cell 6
            have u7 := (HTC.out).cell 7
            simp only [stCells, reCells, List.getElem?_toArray, List.getElem?_cons_zero, List.getElem?_cons_succ] at u0 u1 u2 u3 u4 u5 u6 u7
            have x0 := (HXC.out).cell 0
            have x1 := (HXC.out).cell 1
            have x2 := (HXC.out).cell 2
            have x3 := (HXC.out).cell 3
            have x4 := (HXC.out).cell 4
            simp only [stCells, reCells, List.getElem?_toArray, List.getElem?_cons_zero, List.getElem?_cons_succ] at x0 x1 x2 x3 x4
            go_wp2_with fail
            clear u0 u1 u2 u3 u4 u5 u6 u7 x0 x1 x2 x3 x4
            refine (locked_c wc t _ _ _ _ HRC.out.read (m : Int) false HX1.out).mono ?_
            rintro e w5 ⟨rfl, hg1⟩
            have HX5 := As.mk (HXC.out.grown hg1 (by simp))
            have HG1 := As.mk (HC.out.2.1.grown hg1 (by simp))
            have HG2 := As.mk (HC.out.2.2.grown hg1 (by simp))
            have HV5 := As.mk (gr_then (gr_then HV2.out HC.out.1 (.inl rfl)) hg1 (.inl rfl))
            clear hg1
            rcases bool_cases' yes with hy | hy
            · subst hy
              have hnw2 : nw = was := by rw [HNW.out]; rfl
              subst hnw2
              have x0 := (HX5.out).cell 0
              have x1 := (HX5.out).cell 1
              have x2 := (HX5.out).cell 2
              have x3 := (HX5.out).cell 3
              have x4 := (HX5.out).cell 4
              simp only [stCells, reCells, List.getElem?_toArray, List.getElem?_cons_zero, List.getElem?_cons_succ] at x0 x1 x2 x3 x4
              have u0 := (HG1.out).cell 0
              have u1 := (HG1.out).cell 1
              have u2 := (HG1.out).cell 2
              have u3 := (HG1.out).cell 3
              have u4 := (HG1.out).cell 4
              simp only [stCells, reCells, List.getElem?_toArray, List.getElem?_cons_zero, List.getElem?_cons_succ] at u0 u1 u2 u3 u4
              have y0 := (HG2.out).cell 0
              have y1 := (HG2.out).cell 1
              have y2 := (HG2.out).cell 2
              have y3 := (HG2.out).cell 3
              have y4 := (HG2.out).cell 4
              simp only [stCells, reCells, List.getElem?_toArray, List.getElem?_cons_zero, List.getElem?_cons_succ] at y0 y1 y2 y3 y4
              go_wp2_with fail
              go_roundw
              case measure => simp [intOf]; omega
              case rel => exact ⟨j + 1, by omega, by go_num, HV5⟩
            · subst hy
              rcases bool_cases' xw with hw | hw
              · subst hw
                have hnw2 : nw = was := by rw [HNW.out]; rfl
                subst hnw2
                have x0 := (HX5.out).cell 0
                have x1 := (HX5.out).cell 1
                have x2 := (HX5.out).cell 2
                have x3 := (HX5.out).cell 3
                have x4 := (HX5.out).cell 4
                simp only [stCells, reCells, List.getElem?_toArray, List.getElem?_cons_zero, List.getElem?_cons_succ] at x0 x1 x2 x3 x4
                have u0 := (HG1.out).cell 0
                have u1 := (HG1.out).cell 1
                have u2 := (HG1.out).cell 2
                have u3 := (HG1.out).cell 3
                have u4 := (HG1.out).cell 4
                simp only [stCells, reCells, List.getElem?_toArray, List.getElem?_cons_zero, List.getElem?_cons_succ] at u0 u1 u2 u3 u4
                have y0 := (HG2.out).cell 0
                have y1 := (HG2.out).cell 1
                have y2 := (HG2.out).cell 2
                have y3 := (HG2.out).cell 3
                have y4 := (HG2.out).cell 4
                simp only [stCells, reCells, List.getElem?_toArray, List.getElem?_cons_zero, List.getElem?_cons_succ] at y0 y1 y2 y3 y4
                go_wp2_with fail
                go_roundw
                case measure => simp [intOf]; omega
                case rel => exact ⟨j + 1, by omega, by go_num, HV5⟩
              · subst hw
                obtain ⟨vv, hvv⟩ : ∃ vv, IntKind.i64.wrap (was.ver + 1) = vv := ⟨_, rfl⟩
                have hnw2 : nw = ⟨was.st, was.hop, was.to_, vv, xn⟩ := by rw [HNW.out, hvv]; rfl
                subst hnw2
                dsimp only at HG2
                have x0 := (HX5.out).cell 0
                have x1 := (HX5.out).cell 1
                have x2 := (HX5.out).cell 2
                have x3 := (HX5.out).cell 3
                have x4 := (HX5.out).cell 4
                simp only [stCells, reCells, List.getElem?_toArray, List.getElem?_cons_zero, List.getElem?_cons_succ] at x0 x1 x2 x3 x4
                have u0 := (HG1.out).cell 0
                have u1 := (HG1.out).cell 1
                have u2 := (HG1.out).cell 2
                have u3 := (HG1.out).cell 3
                have u4 := (HG1.out).cell 4
                simp only [stCells, reCells, List.getElem?_toArray, List.getElem?_cons_zero, List.getElem?_cons_succ] at u0 u1 u2 u3 u4
                have y0 := (HG2.out).cell 0
                have y1 := (HG2.out).cell 1
                have y2 := (HG2.out).cell 2
                have y3 := (HG2.out).cell 3
                have y4 := (HG2.out).cell 4
                simp only [stCells, reCells, List.getElem?_toArray, List.getElem?_cons_zero, List.getElem?_cons_succ] at y0 y1 y2 y3 y4
                go_wp2_with fail
                go_roundw
                case measure => simp [intOf]; omega
                case rel => exact ⟨j + 1, by omega, by go_num, HV5⟩
        · obtain rfl : j = q.p.items.length := by omega
          have HTC := As.mk (HT3.out.grown HV.out (by simp))
          have HPC := As.mk (HP3.out.grown HV.out (by simp))
          have HRC := As.mk (HRT.out.grown HV.out)
          have u0 := (HTC.out).cell 0
          have u1 := (HTC.out).cell 1
          have u2 := (HTC.out).cell 2
          have u3 := (HTC.out).cell 3
          have u4 := (HTC.out).cell 4
          have u5 := (HTC.out).cell 5
          have u6 := (HTC.out).cell 6
          have u7 := (HTC.out).cell 7
          simp only [stCells, reCells, List.getElem?_toArray, List.getElem?_cons_zero, List.getElem?_cons_succ] at u0 u1 u2 u3 u4 u5 u6 u7
          have x0 := (HPC.out).cell 0
          have x1 := (HPC.out).cell 1
          have x2 := (HPC.out).cell 2
          have x3 := (HPC.out).cell 3
          have x4 := (HPC.out).cell 4
          simp only [stCells, reCells, List.getElem?_toArray, List.getElem?_cons_zero, List.getElem?_cons_succ] at x0 x1 x2 x3 x4
          go_wp2_with fail
          clear u0 u1 u2 u3 u4 u5 u6 u7 x0 x1 x2 x3 x4
          refine (findDe_c wi t _ _ _ _ HRC.out.read q.p.tid).mono ?_
          rintro e w5 ⟨rfl, hg1⟩
          obtain ⟨i, hi1, hi2⟩ := HF3.out
          rw [hi1]
          have hil : i < t.decided.length := (List.getElem?_eq_some_iff.1 hi2).1
          have HT5 := As.mk (HTC.out.grown hg1 (by simp))
          have HP5 := As.mk (HPC.out.grown hg1 (by simp))
          have HR5 := As.mk (HRC.out.grown hg1)
          have HV5 := As.mk (gr_then HV.out hg1 (.inl rfl))
          obtain ⟨gD, kD, eD⟩ := own_some HR5.out.de (by omega)
          injection eD with eD1 _ eD3
          subst eD1 eD3
          have hcD : t.decided.length ≤ ad ∧ ad ≤ 9223372036854775807 := by
            obtain ⟨_, _, _, _, h1, h2⟩ := own_whole HR5.out.de
            exact ⟨h1, by simp only [maxLen] at h2; omega⟩
          have y3 := own_cellAt HR5.out.de (i * 4 + 3) _ (flat_at deC 4 (fun _ => rfl) t.decided i _ hi2 3 _ rfl)
          have hi0 : (0 : Int) ≤ (i : Int) := by omega
          have hiI : (i : Int) < (t.decided.length : Int) := by omega
          clear hg1 hi1 hi2
          have u0 := (HT5.out).cell 0
          have u1 := (HT5.out).cell 1
          have u2 := (HT5.out).cell 2
          have u3 := (HT5.out).cell 3
          have u4 := (HT5.out).cell 4
          have u5 := (HT5.out).cell 5
          have u6 := (HT5.out).cell 6
          have u7 := (HT5.out).cell 7
          simp only [stCells, reCells, List.getElem?_toArray, List.getElem?_cons_zero, List.getElem?_cons_succ] at u0 u1 u2 u3 u4 u5 u6 u7
          have x0 := (HP5.out).cell 0
          have x1 := (HP5.out).cell 1
          have x2 := (HP5.out).cell 2
          have x3 := (HP5.out).cell 3
          have x4 := (HP5.out).cell 4
          simp only [stCells, reCells, List.getElem?_toArray, List.getElem?_cons_zero, List.getElem?_cons_succ] at x0 x1 x2 x3 x4
          go_wp2_with fail
          clear u0 u1 u2 u3 u4 u5 u6 u7 x0 x1 x2 x3 x4 y3
          refine (findPr_c w5 t _ _ _ _ HR5.out.read q.p.tid).mono ?_
          rintro e w6 ⟨rfl, hg1⟩
          rw [HF4.out]
          have HV6 := As.mk (gr_then HV5.out hg1 (.inl rfl))
          clear hg1
          go_wp2_with fail
          go_roundw
          case measure => simp [intOf]; omega
          case rel => exact ⟨k + 1, by omega, by go_num, ⟨gr_then HW3.out HV6.out (.inl rfl)⟩⟩
    · obtain rfl : k = qs0.length := by omega
      go_wp2_with fail
      go_ret
      exact ⟨rfl, gr_then HG.out HW.out (.inl rfl)⟩
end Go.Proofs.Ytdmkijdbldcdiaa
