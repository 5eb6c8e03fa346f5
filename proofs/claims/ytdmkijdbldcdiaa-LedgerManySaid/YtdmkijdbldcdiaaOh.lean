/- The walk of LedgerMany. (Printed by wip/gen/gen_oh.py.) -/
import Derived.Test.YtdmkijdbldcdiaaOf
namespace Go.Proofs.Ytdmkijdbldcdiaa
open Go.RowKit
set_option linter.unusedVariables false
set_option linter.unusedSimpArgs false
set_option maxRecDepth 100000

theorem applyL_cons {s : PSt} {r : PRec} {l : List PRec} : applyL s (r :: l) = if rightR r = true then (if (applyE s r).1 = 0 then applyL (applyE s r).2 l else ((applyE s r).1, zS)) else (1, zS) := rfl
theorem applyL_one {s : PSt} {r : PRec} : applyL s [r] = if rightR r = true then (if (applyE s r).1 = 0 then (0, (applyE s r).2) else ((applyE s r).1, zS)) else (1, zS) := rfl
theorem applyL_cons0 {s : PSt} {r : PRec} {l : List PRec} (h : (applyL s [r]).1 = 0) : applyL s (r :: l) = applyL (applyL s [r]).2 l := by
  rw [applyL_cons]
  rw [applyL_one] at h ⊢
  cases hr : rightR r
  · rw [hr] at h; cases h
  · rw [hr] at h
    simp only [if_true] at h ⊢
    by_cases h0 : (applyE s r).1 = 0
    · rw [if_pos h0, if_pos h0]
    · rw [if_neg h0] at h; exact absurd h h0
theorem applyL_cons1 {s : PSt} {r : PRec} {l : List PRec} (h : (applyL s [r]).1 ≠ 0) : applyL s (r :: l) = ((applyL s [r]).1, zS) := by
  rw [applyL_cons]
  rw [applyL_one] at h ⊢
  cases hr : rightR r
  · rfl
  · rw [hr] at h
    simp only [if_true] at h ⊢
    by_cases h0 : (applyE s r).1 = 0
    · rw [if_pos h0] at h; exact absurd rfl h
    · rw [if_neg h0, if_neg h0]
theorem applyL_inv {s : PSt} {r : PRec} (h : SInv s) (h0 : (applyL s [r]).1 = 0) : SInv (applyL s [r]).2 := by
  have := stepS_inv h r
  unfold stepS at this
  rw [if_pos h0] at this
  exact this
theorem drop_at {α : Type} {l : List α} {k : Nat} {r : α} (h : l[k]? = some r) : l.drop k = r :: l.drop (k + 1) := by
  obtain ⟨hk, rfl⟩ := List.getElem?_eq_some_iff.1 h
  exact List.drop_eq_getElem_cons hk
theorem SInv.b4 {s : PSt} (h : SInv s) : s.places.length ≤ 100000 ∧ s.prepared.length ≤ 100000 ∧ s.decided.length ≤ 100000 ∧ s.commits.length ≤ 100000 := by
  have h1 := h.cells.2.2
  have h2 := h.tb
  have h3 := h.cm
  omega
theorem zS_b4 : zS.places.length ≤ 100000 ∧ zS.prepared.length ≤ 100000 ∧ zS.decided.length ≤ 100000 ∧ zS.commits.length ≤ 100000 := by decide
set_option maxHeartbeats 6400000 in
theorem many_walk (w : World) (a b n : Int) (v1 v2 : Value) (l more : List PRec) (hl : Arr ReE 15 w v1 l) (hm : Arr ReE 15 w v2 more) :
    Calls Try.prog 3 #[.agg #[.int .i64 a, .int .i64 b, .int .i64 n], v1, v2] w fun e w' => e = .returned (.bool true) ∧ w.grownBy w' none := by
  obtain ⟨AL, cL, rfl⟩ := hl.len
  obtain ⟨AM, cM, rfl⟩ := hm.len
  have HLM := As.mk (And.intro hm.le hm.cap)
  have HL := As.mk hl
  have HM := As.mk hm
  clear hl hm
  have HG := As.mk (gr_alloc (gr_refl w none) (.cells #[.int .i64 a, .int .i64 b, .int .i64 n] 23))
  have HB0 := As.mk (Blk.new w 23 #[.int .i64 a, .int .i64 b, .int .i64 n])
  go_enter Try.func3, Try.ntmps3
  go_wp2_with fail
  generalize w.alloc (.cells #[.int .i64 a, .int .i64 b, .int .i64 n] 23) = W at *
  refine (awake_c W).mono ?_
  rintro e w1 ⟨rfl, hg1⟩
  replace HG := As.mk (gr_then HG.out hg1 (.inl rfl))
  replace HB0 := As.mk (HB0.out.grown hg1 (by simp))
  clear hg1
  go_wp2_with fail
  refine (great_c _ _ l (HL.out.below HG.out (fun _ _ h => h.grown HG.out)) 80 (by omega) _ rfl).mono ?_
  rintro e w1 ⟨rfl, hg1⟩
  replace HG := As.mk (gr_then HG.out hg1 (.inl rfl))
  replace HB0 := As.mk (HB0.out.grown hg1 (by simp))
  clear hg1
  rcases bool_cases (greatB l 80) with hgr1 | hgr1
  rotate_left
  · rw [hgr1]
    go_wp2_with fail
    go_ret
    exact ⟨rfl, HG.out⟩
  rw [hgr1]
  have HGR1 := As.mk (greatB_len hgr1)
  clear hgr1
  go_wp2_with fail
  refine (great_c _ _ more (HM.out.below HG.out (fun _ _ h => h.grown HG.out)) 20 (by omega) _ rfl).mono ?_
  rintro e w1 ⟨rfl, hg1⟩
  replace HG := As.mk (gr_then HG.out hg1 (.inl rfl))
  replace HB0 := As.mk (HB0.out.grown hg1 (by simp))
  clear hg1
  rcases bool_cases (greatB more 20) with hgr2 | hgr2
  rotate_left
  · rw [hgr2]
    go_wp2_with fail
    go_ret
    exact ⟨rfl, HG.out⟩
  rw [hgr2]
  have HGR2 := As.mk (greatB_len hgr2)
  clear hgr2
  have b0 := (HB0.out).cell 0
  have b1 := (HB0.out).cell 1
  have b2 := (HB0.out).cell 2
  simp only [stCells, reCells, List.getElem?_toArray, List.getElem?_cons_zero, List.getElem?_cons_succ] at b0 b1 b2
  go_wp2_with fail
  clear b0 b1 b2
  refine (reached_c _ a b n _ l (HL.out.below HG.out (fun _ _ h => h.grown HG.out))).mono ?_
  rintro e w1 ⟨fP, fQ, fD, fC, qs0, cs0, rfl, hg1, hr1⟩
  have HR := As.mk (hr1.mono HG.out.size)
  replace HG := As.mk (gr_then HG.out hg1 (.inl rfl))
  clear hg1 hr1 HB0
  obtain ⟨fP, fp, rfl⟩ := own_shape HR.out.pl
  obtain ⟨fQ, fq, rfl⟩ := own_shape HR.out.pr
  obtain ⟨fD, fd, rfl⟩ := own_shape HR.out.de
  obtain ⟨fC, fc, rfl⟩ := own_shape HR.out.cm
  have HIN := As.mk (fun h => reachedE_inv (a := a) (b := b) (n := n) (l := l) h)
  generalize reachedE a b n l = p at *
  obtain ⟨s, ok⟩ := p
  dsimp only at HR HIN ⊢
  unfold stCells
  have hga := gr_alloc (gr_refl w1 none) (.cells #[.int .i64 s.node, .int .i64 s.nodes, .int .i64 s.cells, .int .i64 s.epoch, .slice fP s.places.length fp, .slice fQ qs0.length fq, .slice fD s.decided.length fd, .slice fC cs0.length fc] 32)
  have HS := As.mk (Blk.new w1 32 #[.int .i64 s.node, .int .i64 s.nodes, .int .i64 s.cells, .int .i64 s.epoch, .slice fP s.places.length fp, .slice fQ qs0.length fq, .slice fD s.decided.length fd, .slice fC cs0.length fc])
  replace HR := As.mk (HR.out.grown hga)
  replace HG := As.mk (gr_then HG.out hga (.inl rfl))
  clear hga
  cases ok
  · go_wp2_with fail
    go_ret
    exact ⟨rfl, HG.out⟩
  have HI := As.mk (HIN.out rfl)
  clear HIN
  go_wp2_with fail
  generalize w1.alloc (.cells #[.int .i64 s.node, .int .i64 s.nodes, .int .i64 s.cells, .int .i64 s.epoch, .slice fP s.places.length fp, .slice fQ qs0.length fq, .slice fD s.decided.length fd, .slice fC cs0.length fc] 32) = W1 at *
  generalize w1.heap.size = sb at *
  refine (Apply_c W1 s _ _ _ _ HR.out.read HI.out _ more (HM.out.below HG.out (fun _ _ h => h.grown HG.out))).mono ?_
  rintro e w2 ⟨aP, aQ, aD, aC, qs1, cs1, rfl, hg1, hr1⟩
  obtain ⟨aP, ap, rfl⟩ := own_shape hr1.pl
  obtain ⟨aQ, aq, rfl⟩ := own_shape hr1.pr
  obtain ⟨aD, ad, rfl⟩ := own_shape hr1.de
  obtain ⟨aC, ac, rfl⟩ := own_shape hr1.cm
  have HGA := As.mk (gr_then HG.out hg1 (.inl rfl))
  have HSA := As.mk (HS.out.grown hg1 (by simp))
  have HRA := As.mk (HR.out.grown hg1)
  have HAA := As.mk (hr1.mono HG.out.size)
  clear hg1 hr1 HG HS HR
  generalize hqA : applyL s more = qA at *
  obtain ⟨eA, sA⟩ := qA
  have HEQ := As.mk hqA
  clear hqA
  dsimp only at HAA ⊢
  unfold stCells
  have hga := gr_alloc (gr_alloc (gr_refl w2 none) (.cells #[.int .i64 sA.node, .int .i64 sA.nodes, .int .i64 sA.cells, .int .i64 sA.epoch, .slice aP sA.places.length ap, .slice aQ qs1.length aq, .slice aD sA.decided.length ad, .slice aC cs1.length ac] 32)) (.cells #[.int .i64 s.node, .int .i64 s.nodes, .int .i64 s.cells, .int .i64 s.epoch, .slice fP s.places.length fp, .slice fQ qs0.length fq, .slice fD s.decided.length fd, .slice fC cs0.length fc] 32)
  have HG := As.mk (gr_then HGA.out hga (.inl rfl))
  have HR := As.mk (HRA.out.grown hga)
  have HA := As.mk (show StO _ w.heap.size w2.heap.size sA from ⟨_, _, _, _, _, _, (HAA.out.grown hga).st ((Blk.new w2 32 #[.int .i64 sA.node, .int .i64 sA.nodes, .int .i64 sA.cells, .int .i64 sA.epoch, .slice aP sA.places.length ap, .slice aQ qs1.length aq, .slice aD sA.decided.length ad, .slice aC cs1.length ac]).alloc (.cells #[.int .i64 s.node, .int .i64 s.nodes, .int .i64 s.cells, .int .i64 s.epoch, .slice fP s.places.length fp, .slice fQ qs0.length fq, .slice fD s.decided.length fd, .slice fC cs0.length fc] 32)) HGA.out.size⟩)
  have HT := As.mk (show StO _ w.heap.size (w2.heap.size + 1) s from ⟨_, _, _, _, _, _, HR.out.st (Blk.new2 w2 (.cells #[.int .i64 sA.node, .int .i64 sA.nodes, .int .i64 sA.cells, .int .i64 sA.epoch, .slice aP sA.places.length ap, .slice aQ qs1.length aq, .slice aD sA.decided.length ad, .slice aC cs1.length ac] 32) 32 #[.int .i64 s.node, .int .i64 s.nodes, .int .i64 s.cells, .int .i64 s.epoch, .slice fP s.places.length fp, .slice fQ qs0.length fq, .slice fD s.decided.length fd, .slice fC cs0.length fc]) (Nat.le_succ_of_le HGA.out.size)⟩)
  have HAB := As.mk (show w.heap.size ≤ w2.heap.size from HGA.out.size)
  have hb0 := HSA.out.alloc (.cells #[.int .i64 sA.node, .int .i64 sA.nodes, .int .i64 sA.cells, .int .i64 sA.epoch, .slice aP sA.places.length ap, .slice aQ qs1.length aq, .slice aD sA.decided.length ad, .slice aC cs1.length ac] 32)
  have q0 := (hb0).cell 0
  have q1 := (hb0).cell 1
  have q2 := (hb0).cell 2
  have q3 := (hb0).cell 3
  have q4 := (hb0).cell 4
  have q5 := (hb0).cell 5
  have q6 := (hb0).cell 6
  have q7 := (hb0).cell 7
  simp only [stCells, reCells, List.getElem?_toArray, List.getElem?_cons_zero, List.getElem?_cons_succ] at q0 q1 q2 q3 q4 q5 q6 q7
  clear hb0 hga
  go_wp2_with fail
  clear q0 q1 q2 q3 q4 q5 q6 q7 HGA HSA HRA HAA
  generalize (w2.alloc (.cells #[.int .i64 sA.node, .int .i64 sA.nodes, .int .i64 sA.cells, .int .i64 sA.epoch, .slice aP sA.places.length ap, .slice aQ qs1.length aq, .slice aD sA.decided.length ad, .slice aC cs1.length ac] 32)).alloc (.cells #[.int .i64 s.node, .int .i64 s.nodes, .int .i64 s.cells, .int .i64 s.epoch, .slice fP s.places.length fp, .slice fQ qs0.length fq, .slice fD s.decided.length fd, .slice fC cs0.length fc] 32) = W2 at *
  generalize w2.heap.size = ab at *
  go_loopw [41] (fun i wr => ∃ k : Nat, k ≤ more.length ∧ i = .int .i64 k ∧ ∃ s', As (w.grownBy wr none ∧ StO wr w.heap.size ab sA ∧ StO wr w.heap.size (ab + 1) s' ∧ applyL s more = applyL s' (more.drop k) ∧ SInv s')) (fun i _ => more.length - (intOf i).toNat)
  case atStart => exact ⟨0, Nat.zero_le _, rfl, s, ⟨HG.out, HA.out, HT.out, rfl, HI.out⟩⟩
  case round =>
    obtain ⟨k, hk, rfl, s', HX⟩ := hrel
    clear HG HA HT HI HR
    obtain ⟨HG, HA, HT, HF, HI⟩ := HX.out
    clear HX
    replace HG := As.mk HG
    replace HA := As.mk HA
    replace HT := As.mk HT
    replace HF := As.mk HF
    replace HI := As.mk HI
    obtain ⟨_, _, _, _, qs, cs, hO⟩ := HT.out
    obtain ⟨gP, gp, rfl⟩ := own_shape hO.pl
    obtain ⟨gQ, gq, rfl⟩ := own_shape hO.pr
    obtain ⟨gD, gd, rfl⟩ := own_shape hO.de
    obtain ⟨gC, gc, rfl⟩ := own_shape hO.cm
    have HO := As.mk hO
    obtain ⟨_, _, _, _, qsA, csA, hA⟩ := HA.out
    obtain ⟨hP, hp, rfl⟩ := own_shape hA.pl
    obtain ⟨hQ, hq, rfl⟩ := own_shape hA.pr
    obtain ⟨hD, hd, rfl⟩ := own_shape hA.de
    obtain ⟨hC, hc, rfl⟩ := own_shape hA.cm
    have HOA := As.mk hA
    clear hO hA
    by_cases hlt : k < more.length
    · have hltI : (k : Int) < (more.length : Int) := by omega
      have hk0 : (0 : Int) ≤ (k : Int) := by omega
      obtain ⟨r, hr⟩ : ∃ r, more[k]? = some r := ⟨_, List.getElem?_eq_getElem hlt⟩
      obtain ⟨b, off, cs0, rfl, ⟨AI, cI, AN, cN, rfl, hI, hN⟩, _, hcs⟩ := HM.out.at_ k r hr
      have HRI := As.mk hI
      have HRN := As.mk hN
      have hle := HLM.out.1
      have hle2 := HLM.out.2
      have e0 := HG.out.cell (hcs 0 _ rfl) (by simp)
      have e1 := HG.out.cell (hcs 1 _ rfl) (by simp)
      have e2 := HG.out.cell (hcs 2 _ rfl) (by simp)
      have e3 := HG.out.cell (hcs 3 _ rfl) (by simp)
      have e4 := HG.out.cell (hcs 4 _ rfl) (by simp)
      have e5 := HG.out.cell (hcs 5 _ rfl) (by simp)
      have e6 := HG.out.cell (hcs 6 _ rfl) (by simp)
      have e7 := HG.out.cell (hcs 7 _ rfl) (by simp)
      have e8 := HG.out.cell (hcs 8 _ rfl) (by simp)
      have e9 := HG.out.cell (hcs 9 _ rfl) (by simp)
      have e10 := HG.out.cell (hcs 10 _ rfl) (by simp)
      have e11 := HG.out.cell (hcs 11 _ rfl) (by simp)
      have e12 := HG.out.cell (hcs 12 _ rfl) (by simp)
      have e13 := HG.out.cell (hcs 13 _ rfl) (by simp)
      have e14 := HG.out.cell (hcs 14 _ rfl) (by simp)
      simp only [Nat.add_zero] at e0
      clear hI hN hcs
      have HRE := As.mk hr
      have hga := gr_alloc (gr_alloc (gr_refl wr none) (.cells #[.int .i64 r.kind, .int .i64 r.tid.n, .int .i64 r.tid.e, .int .i64 r.tid.s, .slice AI r.items.length cI, .slice AN r.nodes.length cN, .int .i64 r.node, .int .i64 r.count, .int .i64 r.num, .int .i64 r.cell, .int .i64 r.st, .int .i64 r.hop, .int .i64 r.ver, .int .i64 r.val, .bool r.yes] 43)) (.cells #[.int .i64 r.kind, .int .i64 r.tid.n, .int .i64 r.tid.e, .int .i64 r.tid.s, .slice AI r.items.length cI, .slice AN r.nodes.length cN, .int .i64 r.node, .int .i64 r.count, .int .i64 r.num, .int .i64 r.cell, .int .i64 r.st, .int .i64 r.hop, .int .i64 r.ver, .int .i64 r.val, .bool r.yes] 43)
      have HG2 := As.mk (gr_then HG.out hga (.inl rfl))
      have HT2 := As.mk (HT.out.grown hga)
      have HOA2 := As.mk (HOA.out.grown hga)
      have HO2 := As.mk (HO.out.grown hga)
      have HBS := As.mk (show Blk _ (wr.heap.size + 1) 43 (reCells r AI cI AN cN) from Blk.new2 wr (.cells #[.int .i64 r.kind, .int .i64 r.tid.n, .int .i64 r.tid.e, .int .i64 r.tid.s, .slice AI r.items.length cI, .slice AN r.nodes.length cN, .int .i64 r.node, .int .i64 r.count, .int .i64 r.num, .int .i64 r.cell, .int .i64 r.st, .int .i64 r.hop, .int .i64 r.ver, .int .i64 r.val, .bool r.yes] 43) 43 #[.int .i64 r.kind, .int .i64 r.tid.n, .int .i64 r.tid.e, .int .i64 r.tid.s, .slice AI r.items.length cI, .slice AN r.nodes.length cN, .int .i64 r.node, .int .i64 r.count, .int .i64 r.num, .int .i64 r.cell, .int .i64 r.st, .int .i64 r.hop, .int .i64 r.ver, .int .i64 r.val, .bool r.yes])
      clear hga hr
      have HB1 := As.mk (HO.out.blk.alloc (.cells #[.int .i64 r.kind, .int .i64 r.tid.n, .int .i64 r.tid.e, .int .i64 r.tid.s, .slice AI r.items.length cI, .slice AN r.nodes.length cN, .int .i64 r.node, .int .i64 r.count, .int .i64 r.num, .int .i64 r.cell, .int .i64 r.st, .int .i64 r.hop, .int .i64 r.ver, .int .i64 r.val, .bool r.yes] 43))
      unfold stCells at HB1
      have q0 := (HB1.out).cell 0
      have q1 := (HB1.out).cell 1
      have q2 := (HB1.out).cell 2
      have q3 := (HB1.out).cell 3
      have q4 := (HB1.out).cell 4
      have q5 := (HB1.out).cell 5
      have q6 := (HB1.out).cell 6
      have q7 := (HB1.out).cell 7
      simp only [stCells, reCells, List.getElem?_toArray, List.getElem?_cons_zero, List.getElem?_cons_succ] at q0 q1 q2 q3 q4 q5 q6 q7
      go_wp2_with fail
      clear e0 e1 e2 e3 e4 e5 e6 e7 e8 e9 e10 e11 e12 e13 e14
      clear q0 q1 q2 q3 q4 q5 q6 q7
      generalize (wr.alloc (.cells #[.int .i64 r.kind, .int .i64 r.tid.n, .int .i64 r.tid.e, .int .i64 r.tid.s, .slice AI r.items.length cI, .slice AN r.nodes.length cN, .int .i64 r.node, .int .i64 r.count, .int .i64 r.num, .int .i64 r.cell, .int .i64 r.st, .int .i64 r.hop, .int .i64 r.ver, .int .i64 r.val, .bool r.yes] 43)).alloc (.cells #[.int .i64 r.kind, .int .i64 r.tid.n, .int .i64 r.tid.e, .int .i64 r.tid.s, .slice AI r.items.length cI, .slice AN r.nodes.length cN, .int .i64 r.node, .int .i64 r.count, .int .i64 r.num, .int .i64 r.cell, .int .i64 r.st, .int .i64 r.hop, .int .i64 r.ver, .int .i64 r.val, .bool r.yes] 43) = WX at *
      generalize wr.heap.size + 1 = gx at *
      refine (Apply_c WX s' _ _ _ _ HO2.out.read HI.out _ [r] (Arr.re1 HBS.out (HRI.out.itG HG2.out) (HRN.out.inG HG2.out))).mono ?_
      rintro e w3 ⟨aP, aQ, aD, aC, qs2, cs2, rfl, hg1, hr1⟩
      obtain ⟨aP, ap, rfl⟩ := own_shape hr1.pl
      obtain ⟨aQ, aq, rfl⟩ := own_shape hr1.pr
      obtain ⟨aD, ad, rfl⟩ := own_shape hr1.de
      obtain ⟨aC, ac, rfl⟩ := own_shape hr1.cm
      have HG3 := As.mk (gr_then HG2.out hg1 (.inl rfl))
      have HT3 := As.mk (HT2.out.grown hg1)
      have HOA3 := As.mk (HOA2.out.grown hg1)
      have HO3 := As.mk (HO2.out.grown hg1)
      have HR3 := As.mk (hr1.mono HG2.out.size)
      clear hg1 hr1 HG2 HT2 HOA2 HO2
      have HD := As.mk (show applyL s more = applyL s' (r :: more.drop (k + 1)) by rw [HF.out, drop_at HRE.out])
      have H0 := As.mk (fun h => applyL_cons0 (s := s') (r := r) (l := more.drop (k + 1)) h)
      have H1 := As.mk (fun h => applyL_cons1 (s := s') (r := r) (l := more.drop (k + 1)) h)
      have HIN := As.mk (fun h => applyL_inv (r := r) HI.out h)
      generalize applyL s' [r] = q at *
      obtain ⟨er, s2⟩ := q
      dsimp only at HR3 H0 H1 HIN ⊢
      unfold stCells
      have hga := gr_alloc (gr_refl w3 none) (.cells #[.int .i64 s2.node, .int .i64 s2.nodes, .int .i64 s2.cells, .int .i64 s2.epoch, .slice aP s2.places.length ap, .slice aQ qs2.length aq, .slice aD s2.decided.length ad, .slice aC cs2.length ac] 32)
      have HG4 := As.mk (gr_then HG3.out hga (.inl rfl))
      have HT4 := As.mk (HT3.out.grown hga)
      have HOA4 := As.mk (HOA3.out.grown hga)
      have HO4 := As.mk (HO3.out.grown hga)
      have HR4 := As.mk (HR3.out.grown hga)
      clear hga HG3 HT3 HOA3 HO3 HR3
      have HB4 := As.mk HO4.out.blk
      unfold stCells at HB4
      by_cases h0 : er = 0
      · subst h0
        have HS5 := As.mk (HT4.out.assign HR4.out)
        have HA5 := As.mk (show StO _ w.heap.size ab sA from ⟨_, _, _, _, _, _, (HOA4.out.rows.put8 HB4.out (.int .i64 s2.node) (.int .i64 s2.nodes) (.int .i64 s2.cells) (.int .i64 s2.epoch) (.slice aP s2.places.length ap) (.slice aQ qs2.length aq) (.slice aD s2.decided.length ad) (.slice aC cs2.length ac)).st (HOA4.out.blk.grown (gr_put8 (gr_refl _ (some (ab + 1))) (.inl rfl) (.int .i64 s2.node) (.int .i64 s2.nodes) (.int .i64 s2.cells) (.int .i64 s2.epoch) (.slice aP s2.places.length ap) (.slice aQ qs2.length aq) (.slice aD s2.decided.length ad) (.slice aC cs2.length ac)) (by simp)) HOA4.out.lo⟩)
        have HG5 := As.mk (gr_put8 HG4.out (sb := ab + 1) (.inr HO4.out.lo) (.int .i64 s2.node) (.int .i64 s2.nodes) (.int .i64 s2.cells) (.int .i64 s2.epoch) (.slice aP s2.places.length ap) (.slice aQ qs2.length aq) (.slice aD s2.decided.length ad) (.slice aC cs2.length ac))
        unfold Go.Proofs.Ytdmkijdbldcdiaa.put8 at HS5 HA5 HG5
        have q0 := (HB4.out).cell 0
        have q1 := (HB4.out).cell 1
        have q2 := (HB4.out).cell 2
        have q3 := (HB4.out).cell 3
        have q4 := (HB4.out).cell 4
        have q5 := (HB4.out).cell 5
        have q6 := (HB4.out).cell 6
        have q7 := (HB4.out).cell 7
        simp only [stCells, reCells, List.getElem?_toArray, List.getElem?_cons_zero, List.getElem?_cons_succ] at q0 q1 q2 q3 q4 q5 q6 q7
        have fz0 := HB4.out.free 0
        have fz1 := HB4.out.free 1
        have fz2 := HB4.out.free 2
        have fz3 := HB4.out.free 3
        have fz4 := HB4.out.free 4
        have fz5 := HB4.out.free 5
        have fz6 := HB4.out.free 6
        have fz7 := HB4.out.free 7
        go_wp2_with fail
        go_roundw
        case measure => simp [intOf]; omega
        case rel => exact ⟨k + 1, by omega, by go_num, s2, ⟨HG5.out, HA5.out, HS5.out, by rw [HD.out, H0.out rfl], HIN.out rfl⟩⟩
      · have HBAD := As.mk (show eA = er ∧ sA = zS by
          have h2 := HD.out.symm.trans HEQ.out
          rw [H1.out h0] at h2
          injection h2 with h2 h3
          exact ⟨h2.symm, h3.symm⟩)
        obtain ⟨rfl, rfl⟩ := HBAD.out
        have h1 : (eA != 0) = true := by simpa using h0
        clear h0
        have HBA := As.mk HOA4.out.blk
        unfold stCells at HBA
        have q0 := (HBA.out).cell 0
        have q1 := (HBA.out).cell 1
        have q2 := (HBA.out).cell 2
        have q3 := (HBA.out).cell 3
        have q4 := (HBA.out).cell 4
        have q5 := (HBA.out).cell 5
        have q6 := (HBA.out).cell 6
        have q7 := (HBA.out).cell 7
        simp only [stCells, reCells, List.getElem?_toArray, List.getElem?_cons_zero, List.getElem?_cons_succ] at q0 q1 q2 q3 q4 q5 q6 q7
        go_wp2_with fail
        clear q0 q1 q2 q3 q4 q5 q6 q7
        generalize w3.alloc (.cells #[.int .i64 s2.node, .int .i64 s2.nodes, .int .i64 s2.cells, .int .i64 s2.epoch, .slice aP s2.places.length ap, .slice aQ qs2.length aq, .slice aD s2.decided.length ad, .slice aC cs2.length ac] 32) = W4 at *
        refine (Plain_c W4 zS _ _ _ _ HOA4.out.rows.read zS_b4).mono ?_
        rintro e w4 ⟨vP, vQ, vD, vC, rfl, hg1, hst⟩
        have HG5 := As.mk (gr_then HG4.out hg1 (.inl rfl))
        have HSR := As.mk hst
        clear hg1 hst
        go_wp2_with fail
        refine (Same_c w4 zS vP vQ vD vC (.slice none 0 0) (.slice none 0 0) (.slice none 0 0) (.slice none 0 0) HSR.out ⟨Arr.nil0, Arr.nil0, Arr.nil0, Arr.nil0⟩).mono ?_
        rintro e w5 ⟨rfl, hg1⟩
        have HG6 := As.mk (gr_then HG5.out hg1 (.inl rfl))
        clear hg1
        go_wp2_with fail
        go_ret
        exact ⟨rfl, HG6.out⟩
    · obtain rfl : k = more.length := by omega
      have HBAD := As.mk (show eA = 0 ∧ sA = s' by
        have h2 := HF.out.symm.trans HEQ.out
        rw [List.drop_length] at h2
        injection h2 with h2 h3
        exact ⟨h2.symm, h3.symm⟩)
      obtain ⟨rfl, rfl⟩ := HBAD.out
      clear hlt hk
      have HBA := As.mk HOA.out.blk
      have HBT := As.mk HO.out.blk
      unfold stCells at HBA HBT
      have HNB := As.mk HI.out.b4
      go_wp2_with fail
      refine wp_region_noPanic ?_
      refine wp_region_held_drew (S := fun w' => Blk w' ab 32 #[.int .i64 sA.node, .int .i64 sA.nodes, .int .i64 sA.cells, .int .i64 sA.epoch, .slice hP sA.places.length hp, .slice hQ qsA.length hq, .slice hD sA.decided.length hd, .slice hC csA.length hc] ∧ Blk w' (ab + 1) 32 #[.int .i64 sA.node, .int .i64 sA.nodes, .int .i64 sA.cells, .int .i64 sA.epoch, .slice gP sA.places.length gp, .slice gQ qs.length gq, .slice gD sA.decided.length gd, .slice gC cs.length gc]) (by kernel_rfl) (⟨HBA.out.drew, HBT.out.drew⟩) (fun hS => ?_)
      refine wpAnyH_take (i := 0) (v := ?vm1) rfl (by kernel_rfl) (by kernel_rfl) (by kernel_rfl) (fun _ _ _ h => h) (Or.inl ⟨by rfl, ?ym1⟩) hS ?rm1
      case ym1 => (intro w0 _; go_simp; try with_reducible rfl)
      try simp only [List.getElem_toArray, List.getElem_cons_zero, List.getElem_cons_succ, Act.put, List.setIfInBounds_toArray, List.set_cons_zero, List.set_cons_succ]
      refine wpAnyH_take (i := 1) (v := ?vm2) rfl (by kernel_rfl) (by kernel_rfl) (by kernel_rfl) (fun _ _ _ h => h) (Or.inl ⟨by rfl, ?ym2⟩) hS ?rm2
      case ym2 => (intro w0 _; go_simp; try with_reducible rfl)
      try simp only [List.getElem_toArray, List.getElem_cons_zero, List.getElem_cons_succ, Act.put, List.setIfInBounds_toArray, List.set_cons_zero, List.set_cons_succ]
      refine wpAnyH_take (i := 2) (v := ?vm3) rfl (by kernel_rfl) (by kernel_rfl) (by kernel_rfl) (fun _ _ _ h => h) (Or.inl ⟨by rfl, ?ym3⟩) hS ?rm3
      case ym3 => (intro w0 _; go_simp; try with_reducible rfl)
      try simp only [List.getElem_toArray, List.getElem_cons_zero, List.getElem_cons_succ, Act.put, List.setIfInBounds_toArray, List.set_cons_zero, List.set_cons_succ]
      refine wpAnyH_take (i := 3) (v := ?vm4) rfl (by kernel_rfl) (by kernel_rfl) (by kernel_rfl) (fun _ _ _ h => h) (Or.inl ⟨by rfl, ?ym4⟩) hS ?rm4
      case ym4 => (intro w0 hS0; (try simp only [] at hS0); obtain ⟨hS0_0, hS0_1⟩ := hS0; have q0_0 := hS0_0.cell 0; have q0_1 := hS0_0.cell 1; have q0_2 := hS0_0.cell 2; have q0_3 := hS0_0.cell 3; have q0_4 := hS0_0.cell 4; have q0_5 := hS0_0.cell 5; have q0_6 := hS0_0.cell 6; have q0_7 := hS0_0.cell 7; simp only [stCells, reCells, List.getElem?_toArray, List.getElem?_cons_zero, List.getElem?_cons_succ] at q0_0 q0_1 q0_2 q0_3 q0_4 q0_5 q0_6 q0_7; have q1_0 := hS0_1.cell 0; have q1_1 := hS0_1.cell 1; have q1_2 := hS0_1.cell 2; have q1_3 := hS0_1.cell 3; have q1_4 := hS0_1.cell 4; have q1_5 := hS0_1.cell 5; have q1_6 := hS0_1.cell 6; have q1_7 := hS0_1.cell 7; simp only [stCells, reCells, List.getElem?_toArray, List.getElem?_cons_zero, List.getElem?_cons_succ] at q1_0 q1_1 q1_2 q1_3 q1_4 q1_5 q1_6 q1_7; go_simp; try with_reducible rfl)
      try simp only [List.getElem_toArray, List.getElem_cons_zero, List.getElem_cons_succ, Act.put, List.setIfInBounds_toArray, List.set_cons_zero, List.set_cons_succ]
      refine wpAnyH_take (i := 5) (v := ?vm5) rfl (by kernel_rfl) (by kernel_rfl) (by kernel_rfl) (fun _ _ _ h => h) (Or.inl ⟨by rfl, ?ym5⟩) hS ?rm5
      case ym5 => (intro w0 hS0; (try simp only [] at hS0); obtain ⟨hS0_0, hS0_1⟩ := hS0; have q0_0 := hS0_0.cell 0; have q0_1 := hS0_0.cell 1; have q0_2 := hS0_0.cell 2; have q0_3 := hS0_0.cell 3; have q0_4 := hS0_0.cell 4; have q0_5 := hS0_0.cell 5; have q0_6 := hS0_0.cell 6; have q0_7 := hS0_0.cell 7; simp only [stCells, reCells, List.getElem?_toArray, List.getElem?_cons_zero, List.getElem?_cons_succ] at q0_0 q0_1 q0_2 q0_3 q0_4 q0_5 q0_6 q0_7; have q1_0 := hS0_1.cell 0; have q1_1 := hS0_1.cell 1; have q1_2 := hS0_1.cell 2; have q1_3 := hS0_1.cell 3; have q1_4 := hS0_1.cell 4; have q1_5 := hS0_1.cell 5; have q1_6 := hS0_1.cell 6; have q1_7 := hS0_1.cell 7; simp only [stCells, reCells, List.getElem?_toArray, List.getElem?_cons_zero, List.getElem?_cons_succ] at q1_0 q1_1 q1_2 q1_3 q1_4 q1_5 q1_6 q1_7; go_simp; try with_reducible rfl)
      try simp only [List.getElem_toArray, List.getElem_cons_zero, List.getElem_cons_succ, Act.put, List.setIfInBounds_toArray, List.set_cons_zero, List.set_cons_succ]
      refine wpAnyH_ready (rs := [4]) (by kernel_rfl) (by simp) (AllReadyH.cons (i := 4) rfl (fun K hK => ?_) AllReadyH.nil)
      go_simp
      refine (Plain_c _ sA _ _ _ _ (HOA.out.drew.rows.read) HNB.out).mono ?_
      rintro e0 w3 ⟨vP1, vQ1, vD1, vC1, rfl, hg1, hst⟩
      have HG5 := As.mk (gr_then (gr_drew HG.out) hg1 (.inl rfl))
      have HSR := As.mk hst
      have HA5 := As.mk (HOA.out.drew.grown hg1)
      have HT5 := As.mk (HO.out.drew.grown hg1)
      clear hg1 hst
      go_simp
      refine hK.out _ _ (⟨HA5.out.blk, HT5.out.blk⟩) (fun hS => ?_)
      clear hK K
      try simp only [List.getElem_toArray, List.getElem_cons_zero, List.getElem_cons_succ, Act.put, List.setIfInBounds_toArray, List.set_cons_zero, List.set_cons_succ]
      refine wpAnyH_ready (rs := [6]) (by kernel_rfl) (by simp) (AllReadyH.cons (i := 6) rfl (fun K hK => ?_) AllReadyH.nil)
      go_simp
      refine (Plain_c _ sA _ _ _ _ (HT5.out.rows.read) HNB.out).mono ?_
      rintro e0 w4 ⟨vP2, vQ2, vD2, vC2, rfl, hg1, hst⟩
      have HG6 := As.mk (gr_then HG5.out hg1 (.inl rfl))
      have HSR2 := As.mk hst
      have HSR1 := As.mk (HSR.out.grown hg1)
      have HA6 := As.mk (HA5.out.grown hg1)
      have HT6 := As.mk (HT5.out.grown hg1)
      clear hg1 hst
      go_simp
      refine hK.out _ _ (⟨HA6.out.blk, HT6.out.blk⟩) (fun hS => ?_)
      clear hK K
      try simp only [List.getElem_toArray, List.getElem_cons_zero, List.getElem_cons_succ, Act.put, List.setIfInBounds_toArray, List.set_cons_zero, List.set_cons_succ]
      refine wpAnyH_ready (rs := [7]) (by kernel_rfl) (by simp) (AllReadyH.cons (i := 7) rfl (fun K hK => ?_) AllReadyH.nil)
      go_simp
      refine (Same_c _ sA vP1 vQ1 vD1 vC1 vP2 vQ2 vD2 vC2 HSR1.out HSR2.out).mono ?_
      rintro e0 w5 ⟨rfl, hg1⟩
      have HG7 := As.mk (gr_then HG6.out hg1 (.inl rfl))
      have HA7 := As.mk (HA6.out.grown hg1)
      have HT7 := As.mk (HT6.out.grown hg1)
      clear hg1
      go_simp
      refine hK.out _ _ (⟨HA7.out.blk, HT7.out.blk⟩) (fun hS => ?_)
      clear hK K
      try simp only [List.getElem_toArray, List.getElem_cons_zero, List.getElem_cons_succ, Act.put, List.setIfInBounds_toArray, List.set_cons_zero, List.set_cons_succ]
      refine wpAnyH_take (i := 8) (v := ?vm9) rfl (by kernel_rfl) (by kernel_rfl) (by kernel_rfl) (fun _ _ _ h => h) (Or.inl ⟨by rfl, ?ym9⟩) hS ?rm9
      case ym9 => (intro w0 _; go_simp; try with_reducible rfl)
      try simp only [List.getElem_toArray, List.getElem_cons_zero, List.getElem_cons_succ, Act.put, List.setIfInBounds_toArray, List.set_cons_zero, List.set_cons_succ]
      refine wpAnyH_take (i := 9) (v := ?vm10) rfl (by kernel_rfl) (by kernel_rfl) (by kernel_rfl) (fun _ _ _ h => h) (Or.inl ⟨by rfl, ?ym10⟩) hS ?rm10
      case ym10 => (intro w0 _; go_simp; try with_reducible rfl)
      try simp only [List.getElem_toArray, List.getElem_cons_zero, List.getElem_cons_succ, Act.put, List.setIfInBounds_toArray, List.set_cons_zero, List.set_cons_succ]
      refine wpAnyH_done (by kernel_rfl) ?_ _
      refine NoPanic.normal ?_
      try simp only [Exit.then]
      clear hS
      go_wp2_with fail
      go_ret
      exact ⟨rfl, HG7.out⟩
end Go.Proofs.Ytdmkijdbldcdiaa
