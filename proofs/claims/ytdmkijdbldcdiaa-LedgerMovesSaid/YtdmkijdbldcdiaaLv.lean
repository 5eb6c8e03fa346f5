/- The walk of done. (Printed by wip/gen/gen_lv.py.) -/
import Derived.Test.YtdmkijdbldcdiaaLu
namespace Go.Proofs.Ytdmkijdbldcdiaa
open Go.RowKit
set_option linter.unusedVariables false
set_option linter.unusedSimpArgs false
set_option maxRecDepth 100000

def itemsAt (s : PSt) (i : Nat) : List PIt := match s.prepared[i]? with | some p => p.items | none => []
def doneE (s : PSt) (r : PRec) : Int × PSt := match s.prepared.findIdx? (fun x => eqT x.tid r.tid) with
  | some i => (0, decS { (if r.yes = true then { s with places := (itemsAt s i).foldl updP s.places } else s) with prepared := s.prepared.eraseIdx i } r.tid r.yes)
  | none => if knownB s r.tid = true then (9, s) else if r.yes = true then (10, s) else if freshE s r.tid = 0 then (0, decS s r.tid false) else (freshE s r.tid, s)
theorem map_erase {α β : Type} (f : α → β) (l : List α) (i : Nat) : (l.eraseIdx i).map f = (l.map f).eraseIdx i := by
  rw [List.eraseIdx_eq_take_drop_succ, List.eraseIdx_eq_take_drop_succ, List.map_append, List.map_take, List.map_drop]
theorem qpC_one (x : QPr) : ∀ u ∈ qpC x, u.oneCell' = true := fun u hu => by
  simp only [qpC, List.mem_cons, List.not_mem_nil, or_false] at hu
  rcases hu with rfl | rfl | rfl | rfl | rfl <;> rfl
set_option maxHeartbeats 6400000 in
theorem done_c (w0 w : World) (sb : Nat) (s : PSt) (hg : w0.grownBy w none) (hs : StO w w0.heap.size sb s) (hn : s.prepared.length + s.decided.length ≤ 1000) (hC : ∀ p ∈ s.prepared, ∀ x ∈ p.items, 0 ≤ x.c ∧ x.c < s.places.length) (r : PRec) (AI : Option Addr) (cI : Nat) (AN : Option Addr) (cN : Nat) :
    Calls Try.prog 55 #[.pointer (some ⟨sb, 0, none⟩), .agg (reCells r AI cI AN cN)] w (MutPost w0 w sb (.int .i64 (doneE s r).1) (doneE s r).2) := by
  have HGA := gr_alloc (gr_refl w none) (.cells (reCells r AI cI AN cN) 43)
  have HG := As.mk (gr_then hg HGA (.inl rfl))
  have HO := As.mk (hs.grown HGA)
  have HK := As.mk (Keeps.none (sb := sb) HGA)
  have HT := As.mk (Blk.new w 43 (reCells r AI cI AN cN))
  have HN := As.mk hn
  have HC := As.mk hC
  have hd := hs.grown HGA
  clear hs hg HGA hn hC
  unfold reCells at *
  go_enter Try.func55, Try.ntmps55
  go_wp2_with fail
  generalize w.alloc (.cells #[.int .i64 r.kind, .int .i64 r.tid.n, .int .i64 r.tid.e, .int .i64 r.tid.s, .slice AI r.items.length cI, .slice AN r.nodes.length cN, .int .i64 r.node, .int .i64 r.count, .int .i64 r.num, .int .i64 r.cell, .int .i64 r.st, .int .i64 r.hop, .int .i64 r.ver, .int .i64 r.val, .bool r.yes] 43) = W at *
  generalize w.heap.size = gt at *
  obtain ⟨vP, vQ, vD, vC, hB, h⟩ := hd.toP
  obtain ⟨A1, c1, rfl⟩ := h.pl.len
  obtain ⟨A2, c2, rfl⟩ := h.pr.len
  obtain ⟨A3, c3, rfl⟩ := h.de.len
  obtain ⟨A4, c4, rfl⟩ := h.cm.len
  have HB := As.mk hB
  have HR := As.mk h
  unfold stCells at HB
  clear hd hB h
  refine wp_region_noPanic ?_
  refine wp_region_held_drew (S := fun w' => Blk w' sb 32 #[.int .i64 s.node, .int .i64 s.nodes, .int .i64 s.cells, .int .i64 s.epoch, .slice A1 s.places.length c1, .slice A2 s.prepared.length c2, .slice A3 s.decided.length c3, .slice A4 s.commits.length c4] ∧ w'.cell? ⟨gt, 1, none⟩ = some (.int .i64 r.tid.n) ∧ w'.cell? ⟨gt, 2, none⟩ = some (.int .i64 r.tid.e) ∧ w'.cell? ⟨gt, 3, none⟩ = some (.int .i64 r.tid.s)) (by kernel_rfl) (⟨HB.out.drew, HT.out.cell 1, HT.out.cell 2, HT.out.cell 3⟩) (fun hS => ?_)
  refine wpAnyH_take (i := 0) (v := ?va1) rfl (by kernel_rfl) (by kernel_rfl) (by kernel_rfl) (fun _ _ _ h => h) (Or.inl ⟨by rfl, ?ya1⟩) hS ?ra1
  case ya1 => (intro w0 _; go_simp; try with_reducible rfl)
  try simp only [yA, yB, yC, Act.put, yD, yE, yF]
  refine wpAnyH_take (i := 1) (v := ?va2) rfl (by kernel_rfl) (by kernel_rfl) (by kernel_rfl) (fun _ _ _ h => h) (Or.inl ⟨by rfl, ?ya2⟩) hS ?ra2
  case ya2 => (intro w0 _; go_simp; try with_reducible rfl)
  try simp only [yA, yB, yC, Act.put, yD, yE, yF]
  refine wpAnyH_take (i := 2) (v := ?va3) rfl (by kernel_rfl) (by kernel_rfl) (by kernel_rfl) (fun _ _ _ h => h) (Or.inl ⟨by rfl, ?ya3⟩) hS ?ra3
  case ya3 => (intro w0 hS0; (try simp only [] at hS0); obtain ⟨hS0_0, hS0_1, hS0_2, hS0_3⟩ := hS0; have d0 := hS0_0.cell 0; have d1 := hS0_0.cell 1; have d2 := hS0_0.cell 2; have d3 := hS0_0.cell 3; have d4 := hS0_0.cell 4; have d5 := hS0_0.cell 5; have d6 := hS0_0.cell 6; have d7 := hS0_0.cell 7; simp only [List.getElem?_toArray, List.getElem?_cons_zero, List.getElem?_cons_succ] at d0 d1 d2 d3 d4 d5 d6 d7; go_simp; try with_reducible rfl)
  try simp only [yA, yB, yC, Act.put, yD, yE, yF]
  refine wpAnyH_take (i := 3) (v := ?va4) rfl (by kernel_rfl) (by kernel_rfl) (by kernel_rfl) (fun _ _ _ h => h) (Or.inl ⟨by rfl, ?ya4⟩) hS ?ra4
  case ya4 => (intro w0 _; go_simp; try with_reducible rfl)
  try simp only [yA, yB, yC, Act.put, yD, yE, yF]
  refine wpAnyH_take (i := 4) (v := ?va5) rfl (by kernel_rfl) (by kernel_rfl) (by kernel_rfl) (fun _ _ _ h => h) (Or.inl ⟨by rfl, ?ya5⟩) hS ?ra5
  case ya5 => (intro w0 hS0; (try simp only [] at hS0); obtain ⟨hS0_0, hS0_1, hS0_2, hS0_3⟩ := hS0; go_simp; try with_reducible rfl)
  try simp only [yA, yB, yC, Act.put, yD, yE, yF]
  refine wpAnyH_ready (rs := [5]) (by kernel_rfl) (by simp) (AllReadyH.cons (i := 5) rfl (fun K hK => ?_) AllReadyH.nil)
  go_simp
  refine (findPr_c _ s _ _ _ _ (HR.out.grown (gr_drew (gr_refl _ none))) r.tid).mono ?_
  rintro e0 w1 ⟨rfl, hg1⟩
  replace HB := As.mk (HB.out.drew.grown hg1 (by simp))
  replace HT := As.mk (HT.out.drew.grown hg1 (by simp))
  replace HO := As.mk (HO.out.drew.grown hg1)
  replace HR := As.mk ((HR.out.grown (gr_drew (gr_refl _ none))).grown hg1)
  replace HG := As.mk (gr_then (gr_drew HG.out) hg1 (.inl rfl))
  replace HK := As.mk (HK.out.trans (.none (gr_then (gr_drew (gr_refl _ none)) hg1 (.inl rfl))))
  clear hg1
  go_simp
  refine hK.out _ _ (⟨HB.out, HT.out.cell 1, HT.out.cell 2, HT.out.cell 3⟩) (fun hS => ?_)
  clear hK K
  try simp only [yA, yB, yC, Act.put, yD, yE, yF]
  refine wpAnyH_take (i := 6) (v := ?va7) rfl (by kernel_rfl) (by kernel_rfl) (by kernel_rfl) (fun _ _ _ h => h) (Or.inl ⟨by rfl, ?ya7⟩) hS ?ra7
  case ya7 => (intro w0 _; go_simp; try with_reducible rfl)
  try simp only [yA, yB, yC, Act.put, yD, yE, yF]
  refine wpAnyH_done (by kernel_rfl) ?_ _
  refine NoPanic.normal ?_
  try simp only [Exit.then]
  clear hS
  cases hf : s.prepared.findIdx? (fun x => eqT x.tid r.tid) with
  | some i =>
    have hi : i < s.prepared.length := (List.findIdx?_eq_some_iff_findIdx_eq.1 hf).1
    have hfi : findI (fun x : PPr => eqT x.tid r.tid) s.prepared = (i : Int) := by unfold findI; rw [hf]
    rw [hfi]
    have hi0 : (0 : Int) ≤ (i : Int) := by omega
    have hn := HN.out
    have HII := As.mk hi
    clear hfi HB HR
    cases hy : r.yes
    · have HE := As.mk (show doneE s r = (0, decS { s with prepared := s.prepared.eraseIdx i } r.tid false) by unfold doneE; rw [hf]; simp only [hy]; rfl)
      clear hf
      have hd := HO.out
      obtain ⟨vP1, vQ1, vD1, vC1, qs1, cs1, hO1⟩ := hd
      have HO1 := As.mk hO1
      clear hO1 HO HC
      obtain ⟨t0, t1, t2, t3, t4, t5, t6, t7, t8, t9, t10, t11, t12, t13, t14⟩ := (HT.out).c15
      rw [hy] at t14
      have b5 := HO1.out.blk.cell 5
      have hql : qs1.length = s.prepared.length := by rw [show s.prepared = qs1.map QPr.p from HO1.out.qp.symm, List.length_map]
      obtain ⟨gq, cap, rfl⟩ := own_some HO1.out.pr (by omega)
      obtain ⟨m, hm⟩ : ∃ m, qs1.length = m + 1 := ⟨qs1.length - 1, by omega⟩
      simp only [stCells, List.getElem?_toArray, List.getElem?_cons_zero, List.getElem?_cons_succ] at b5
      rw [hm] at b5
      have hwi : IntKind.i64.wrap ((i : Int) + 1) = (i : Int) + 1 := IntWalk.i64_in _ (by omega)
      go_wp2_with fail
      clear t0 t1 t2 t3 t4 t5 t6 t7 t8 t9 t10 t11 t12 t13 t14
      have him : i ≤ m := by omega
      have hm1 : m ≤ 1000 := by have := HN.out; omega
      have hpr := HO1.out.pr
      rw [hm] at hpr
      have HPR := As.mk hpr
      clear hpr
      refine (delPr_c _ w0.heap.size gq cap m i (qs1.flatMap qpC) HPR.out (fun u hu => by obtain ⟨y, _, hy⟩ := List.mem_flatMap.1 hu; exact qpC_one y u hy) him hm1).mono ?_
      rintro e0 w3 ⟨rfl, h1, h2⟩
      have hsq : some sb ≠ some gq := own_ne HO1.out.blk HO1.out.pr (by decide)
      have hse : m = (qs1.eraseIdx i).length := by rw [List.length_eraseIdx_of_lt (by omega)]; omega
      have hfe : (qs1.flatMap qpC).take (i * 5) ++ (qs1.flatMap qpC).drop ((i + 1) * 5) = (qs1.eraseIdx i).flatMap qpC := by rw [flat_take qpC 5 (fun _ => rfl), flat_drop qpC 5 (fun _ => rfl), List.eraseIdx_eq_take_drop_succ, List.flatMap_append]
      rw [hfe] at h1
      have HO2 := As.mk (HO1.out.setQ (w' := w3) h2 (qs' := qs1.eraseIdx i) (by rw [← hse]; exact h1) (fun q hq => nest_step (HO1.out.qi q (List.mem_of_mem_eraseIdx hq)) h2 (fun g e cs => by injection e with e; subst e; exact ⟨own_typed HO1.out.pr (by decide) _ rfl cs, own_typed HO1.out.pr (by decide) _ rfl cs⟩)))
      have HB3 := As.mk (HO1.out.blk.grown h2 hsq)
      have hlo : w0.heap.size ≤ sb := HO1.out.lo
      have HG2 := As.mk (gr_set (gr_then HG.out h2 (.inr (.inr (fun k e => by injection e with e; subst e; exact own_lo HO1.out.pr _ rfl)))) (a := ⟨sb, 5, none⟩) (.inr hlo) (.slice (some ⟨gq, 0, none⟩) m cap))
      have hst : ¬ sb = gt := Blk.ne HO1.out.blk HT.out (by decide)
      have hst2 : ¬ gt = sb := fun e => hst e.symm
      have HT2 := As.mk (HT.out.grown h2 (own_ne HT.out HO1.out.pr (by decide)))
      have hEQ : { (s : PSt) with prepared := (qs1.eraseIdx i).map QPr.p } = { (s : PSt) with prepared := s.prepared.eraseIdx i } := by rw [show s.prepared = qs1.map QPr.p from HO1.out.qp.symm, map_erase]
      have HEQ := As.mk hEQ
      have HK2 := As.mk ((HK.out.trans (.own HO1.out.pr (by decide) h2)).trans (.set HB3.out (by decide) 5 (.slice (some ⟨gq, 0, none⟩) m cap)))
      clear h1 h2 hse hfe b5 hEQ hwi
      have q5 := HB3.out.cell 5
      have f5 := HB3.out.free 5
      simp only [stCells, List.getElem?_toArray, List.getElem?_cons_zero, List.getElem?_cons_succ] at q5
      obtain ⟨t0, t1, t2, t3, t4, t5, t6, t7, t8, t9, t10, t11, t12, t13, t14⟩ := (HT2.out).c15
      rw [hy] at t14
      have HOW := As.mk (show StO _ w0.heap.size sb _ from ⟨_, _, _, _, _, _, HO2.out⟩)
      have HL2 := As.mk (show ({ (s : PSt) with prepared := (qs1.eraseIdx i).map QPr.p } : PSt).decided.length ≤ 1000 by have := HN.out; dsimp only; omega)
      clear HO2 HO1 HB3 HPR hm hql hsq hlo him hm1 hi hi0 hn
      go_wp2_with fail
      clear q5 f5 t0 t1 t2 t3 t4 t5 t6 t7 t8 t9 t10 t11 t12 t13 t14
      refine (decide_c w0 _ sb _ HG2.out HOW.out HL2.out r.tid false).mono ?_
      rintro e0 w5 ⟨rfl, h2, hk, h3⟩
      have H3 := As.mk (And.intro h2 (And.intro (HK2.out.trans hk) h3))
      clear h2 hk h3
      go_wp2_with fail
      go_ret
      exact MutPost.of (HE.out.trans (by rw [← HEQ.out])) H3.out.1 H3.out.2.1 H3.out.2.2
    · have HE := As.mk (show doneE s r = (0, decS { { s with places := (itemsAt s i).foldl updP s.places } with prepared := s.prepared.eraseIdx i } r.tid true) by unfold doneE; rw [hf]; simp only [hy]; rfl)
      clear hf
      have hd := HO.out
      obtain ⟨vP1, vQ1, vD1, vC1, qs0, cs1, hO1⟩ := hd
      have hql : qs0.length = s.prepared.length := by rw [show s.prepared = qs0.map QPr.p from hO1.qp.symm, List.length_map]
      obtain ⟨gq, cap, rfl⟩ := own_some hO1.pr (by omega)
      have hq0 : i < qs0.length := by omega
      have HI := As.mk (show itemsAt s i = (qs0[i]'hq0).p.items by unfold itemsAt; rw [show s.prepared = qs0.map QPr.p from hO1.qp.symm, List.getElem?_map, List.getElem?_eq_getElem hq0]; rfl)
      have hle : qs0.length ≤ cap ∧ cap ≤ 9223372036854775807 := by
        obtain ⟨_, _, _, _, h1, h2⟩ := own_whole hO1.pr
        exact ⟨h1, by simp only [maxLen] at h2; omega⟩
      have b5 := hO1.blk.cell 5
      simp only [stCells, List.getElem?_toArray, List.getElem?_cons_zero, List.getElem?_cons_succ] at b5
      have p3 := own_cellAt hO1.pr (i * 5 + 3) _ (flat_at qpC 5 (fun _ => rfl) qs0 i _ (List.getElem?_eq_getElem hq0) 3 _ rfl)
      have HQI := As.mk (hO1.qi _ (List.getElem_mem hq0)).1
      have HCI := As.mk (HC.out (qs0[i]'hq0).p (by rw [show s.prepared = qs0.map QPr.p from hO1.qp.symm]; exact List.mem_map.2 ⟨_, List.getElem_mem hq0, rfl⟩))
      have HO0 := As.mk hO1
      have hqI : (i : Int) < (qs0.length : Int) := by omega
      clear hO1 HO HC
      generalize qs0[i]'hq0 = qi at *
      obtain ⟨t0, t1, t2, t3, t4, t5, t6, t7, t8, t9, t10, t11, t12, t13, t14⟩ := (HT.out).c15
      rw [hy] at t14
      clear hn hi hql hq0
      go_wp2_with fail
      clear t0 t1 t2 t3 t4 t5 t6 t7 t8 t9 t10 t11 t12 t13 t14
      clear b5 p3 hle hqI
      refine (write_c w0 _ sb s HG.out ⟨_, _, _, _, _, _, HO0.out⟩ _ qi.p.items HQI.out HCI.out).mono ?_
      rintro e0 w2 ⟨rfl, h2, hk, h3⟩
      rw [← HI.out] at h3
      replace HK := As.mk (HK.out.trans hk)
      replace HT := As.mk (hk _ _ _ HT.out rfl (fun e => Blk.ne HO0.out.blk HT.out (by decide) e.symm))
      replace HG := As.mk h2
      obtain ⟨vP2, vQ2, vD2, vC2, qs1, cs2, hO1⟩ := h3
      have HO1 := As.mk hO1
      clear hO1 h2 hk HO0 HQI HCI HI
      have hn := HN.out
      have hi : i < s.prepared.length := HII.out
      have b5 := HO1.out.blk.cell 5
      have hql : qs1.length = s.prepared.length := by rw [show s.prepared = qs1.map QPr.p from HO1.out.qp.symm, List.length_map]
      obtain ⟨gq, cap, rfl⟩ := own_some HO1.out.pr (by omega)
      obtain ⟨m, hm⟩ : ∃ m, qs1.length = m + 1 := ⟨qs1.length - 1, by omega⟩
      simp only [stCells, List.getElem?_toArray, List.getElem?_cons_zero, List.getElem?_cons_succ] at b5
      rw [hm] at b5
      have hwi : IntKind.i64.wrap ((i : Int) + 1) = (i : Int) + 1 := IntWalk.i64_in _ (by omega)
      go_wp2_with fail
      have him : i ≤ m := by omega
      have hm1 : m ≤ 1000 := by have := HN.out; omega
      have hpr := HO1.out.pr
      rw [hm] at hpr
      have HPR := As.mk hpr
      clear hpr
      refine (delPr_c _ w0.heap.size gq cap m i (qs1.flatMap qpC) HPR.out (fun u hu => by obtain ⟨y, _, hy⟩ := List.mem_flatMap.1 hu; exact qpC_one y u hy) him hm1).mono ?_
      rintro e0 w3 ⟨rfl, h1, h2⟩
      have hsq : some sb ≠ some gq := own_ne HO1.out.blk HO1.out.pr (by decide)
      have hse : m = (qs1.eraseIdx i).length := by rw [List.length_eraseIdx_of_lt (by omega)]; omega
      have hfe : (qs1.flatMap qpC).take (i * 5) ++ (qs1.flatMap qpC).drop ((i + 1) * 5) = (qs1.eraseIdx i).flatMap qpC := by rw [flat_take qpC 5 (fun _ => rfl), flat_drop qpC 5 (fun _ => rfl), List.eraseIdx_eq_take_drop_succ, List.flatMap_append]
      rw [hfe] at h1
      have HO2 := As.mk (HO1.out.setQ (w' := w3) h2 (qs' := qs1.eraseIdx i) (by rw [← hse]; exact h1) (fun q hq => nest_step (HO1.out.qi q (List.mem_of_mem_eraseIdx hq)) h2 (fun g e cs => by injection e with e; subst e; exact ⟨own_typed HO1.out.pr (by decide) _ rfl cs, own_typed HO1.out.pr (by decide) _ rfl cs⟩)))
      have HB3 := As.mk (HO1.out.blk.grown h2 hsq)
      have hlo : w0.heap.size ≤ sb := HO1.out.lo
      have HG2 := As.mk (gr_set (gr_then HG.out h2 (.inr (.inr (fun k e => by injection e with e; subst e; exact own_lo HO1.out.pr _ rfl)))) (a := ⟨sb, 5, none⟩) (.inr hlo) (.slice (some ⟨gq, 0, none⟩) m cap))
      have hst : ¬ sb = gt := Blk.ne HO1.out.blk HT.out (by decide)
      have hst2 : ¬ gt = sb := fun e => hst e.symm
      have HT2 := As.mk (HT.out.grown h2 (own_ne HT.out HO1.out.pr (by decide)))
      have hEQ : { ({ s with places := (itemsAt s i).foldl updP s.places } : PSt) with prepared := (qs1.eraseIdx i).map QPr.p } = { ({ s with places := (itemsAt s i).foldl updP s.places } : PSt) with prepared := s.prepared.eraseIdx i } := by rw [show s.prepared = qs1.map QPr.p from HO1.out.qp.symm, map_erase]
      have HEQ := As.mk hEQ
      have HK2 := As.mk ((HK.out.trans (.own HO1.out.pr (by decide) h2)).trans (.set HB3.out (by decide) 5 (.slice (some ⟨gq, 0, none⟩) m cap)))
      clear h1 h2 hse hfe b5 hEQ hwi
      have q5 := HB3.out.cell 5
      have f5 := HB3.out.free 5
      simp only [stCells, List.getElem?_toArray, List.getElem?_cons_zero, List.getElem?_cons_succ] at q5
      obtain ⟨t0, t1, t2, t3, t4, t5, t6, t7, t8, t9, t10, t11, t12, t13, t14⟩ := (HT2.out).c15
      rw [hy] at t14
      have HOW := As.mk (show StO _ w0.heap.size sb _ from ⟨_, _, _, _, _, _, HO2.out⟩)
      have HL2 := As.mk (show ({ ({ s with places := (itemsAt s i).foldl updP s.places } : PSt) with prepared := (qs1.eraseIdx i).map QPr.p } : PSt).decided.length ≤ 1000 by have := HN.out; dsimp only; omega)
      clear HO2 HO1 HB3 HPR hm hql hsq hlo him hm1 hi hi0 hn
      go_wp2_with fail
      clear q5 f5 t0 t1 t2 t3 t4 t5 t6 t7 t8 t9 t10 t11 t12 t13 t14
      refine (decide_c w0 _ sb _ HG2.out HOW.out HL2.out r.tid true).mono ?_
      rintro e0 w5 ⟨rfl, h2, hk, h3⟩
      have H3 := As.mk (And.intro h2 (And.intro (HK2.out.trans hk) h3))
      clear h2 hk h3
      go_wp2_with fail
      go_ret
      exact MutPost.of (HE.out.trans (by rw [← HEQ.out])) H3.out.1 H3.out.2.1 H3.out.2.2
  | none =>
    have hfi : findI (fun x : PPr => eqT x.tid r.tid) s.prepared = -1 := by unfold findI; rw [hf]
    have HE0 := As.mk (show doneE s r = if knownB s r.tid = true then (9, s) else if r.yes = true then (10, s) else if freshE s r.tid = 0 then (0, decS s r.tid false) else (freshE s r.tid, s) by unfold doneE; rw [hf])
    rw [hfi]
    clear hfi hf
    go_wp2_with fail
    refine wp_region_noPanic ?_
    refine wp_region_held_drew (S := fun w' => Blk w' sb 32 #[.int .i64 s.node, .int .i64 s.nodes, .int .i64 s.cells, .int .i64 s.epoch, .slice A1 s.places.length c1, .slice A2 s.prepared.length c2, .slice A3 s.decided.length c3, .slice A4 s.commits.length c4] ∧ w'.cell? ⟨gt, 1, none⟩ = some (.int .i64 r.tid.n) ∧ w'.cell? ⟨gt, 2, none⟩ = some (.int .i64 r.tid.e) ∧ w'.cell? ⟨gt, 3, none⟩ = some (.int .i64 r.tid.s)) (by kernel_rfl) (⟨HB.out.drew, HT.out.cell 1, HT.out.cell 2, HT.out.cell 3⟩) (fun hS => ?_)
    refine wpAnyH_take (i := 0) (v := ?vb1) rfl (by kernel_rfl) (by kernel_rfl) (by kernel_rfl) (fun _ _ _ h => h) (Or.inl ⟨by rfl, ?yb1⟩) hS ?rb1
    case yb1 => (intro w0 _; go_simp; try with_reducible rfl)
    try simp only [yA, yB, yC, Act.put, yD, yE, yF]
    refine wpAnyH_take (i := 1) (v := ?vb2) rfl (by kernel_rfl) (by kernel_rfl) (by kernel_rfl) (fun _ _ _ h => h) (Or.inl ⟨by rfl, ?yb2⟩) hS ?rb2
    case yb2 => (intro w0 _; go_simp; try with_reducible rfl)
    try simp only [yA, yB, yC, Act.put, yD, yE, yF]
    refine wpAnyH_take (i := 2) (v := ?vb3) rfl (by kernel_rfl) (by kernel_rfl) (by kernel_rfl) (fun _ _ _ h => h) (Or.inl ⟨by rfl, ?yb3⟩) hS ?rb3
    case yb3 => (intro w0 hS0; (try simp only [] at hS0); obtain ⟨hS0_0, hS0_1, hS0_2, hS0_3⟩ := hS0; have d0 := hS0_0.cell 0; have d1 := hS0_0.cell 1; have d2 := hS0_0.cell 2; have d3 := hS0_0.cell 3; have d4 := hS0_0.cell 4; have d5 := hS0_0.cell 5; have d6 := hS0_0.cell 6; have d7 := hS0_0.cell 7; simp only [List.getElem?_toArray, List.getElem?_cons_zero, List.getElem?_cons_succ] at d0 d1 d2 d3 d4 d5 d6 d7; go_simp; try with_reducible rfl)
    try simp only [yA, yB, yC, Act.put, yD, yE, yF]
    refine wpAnyH_take (i := 3) (v := ?vb4) rfl (by kernel_rfl) (by kernel_rfl) (by kernel_rfl) (fun _ _ _ h => h) (Or.inl ⟨by rfl, ?yb4⟩) hS ?rb4
    case yb4 => (intro w0 _; go_simp; try with_reducible rfl)
    try simp only [yA, yB, yC, Act.put, yD, yE, yF]
    refine wpAnyH_take (i := 4) (v := ?vb5) rfl (by kernel_rfl) (by kernel_rfl) (by kernel_rfl) (fun _ _ _ h => h) (Or.inl ⟨by rfl, ?yb5⟩) hS ?rb5
    case yb5 => (intro w0 hS0; (try simp only [] at hS0); obtain ⟨hS0_0, hS0_1, hS0_2, hS0_3⟩ := hS0; go_simp; try with_reducible rfl)
    try simp only [yA, yB, yC, Act.put, yD, yE, yF]
    refine wpAnyH_ready (rs := [5]) (by kernel_rfl) (by simp) (AllReadyH.cons (i := 5) rfl (fun K hK => ?_) AllReadyH.nil)
    go_simp
    refine (known_c _ s _ _ _ _ (HR.out.grown (gr_drew (gr_refl _ none))) r.tid _ rfl).mono ?_
    rintro e0 w1 ⟨rfl, hg1⟩
    replace HB := As.mk (HB.out.drew.grown hg1 (by simp))
    replace HT := As.mk (HT.out.drew.grown hg1 (by simp))
    replace HO := As.mk (HO.out.drew.grown hg1)
    replace HR := As.mk ((HR.out.grown (gr_drew (gr_refl _ none))).grown hg1)
    replace HG := As.mk (gr_then (gr_drew HG.out) hg1 (.inl rfl))
    replace HK := As.mk (HK.out.trans (.none (gr_then (gr_drew (gr_refl _ none)) hg1 (.inl rfl))))
    clear hg1
    go_simp
    refine hK.out _ _ (⟨HB.out, HT.out.cell 1, HT.out.cell 2, HT.out.cell 3⟩) (fun hS => ?_)
    clear hK K
    try simp only [yA, yB, yC, Act.put, yD, yE, yF]
    refine wpAnyH_take (i := 6) (v := ?vb7) rfl (by kernel_rfl) (by kernel_rfl) (by kernel_rfl) (fun _ _ _ h => h) (Or.inl ⟨by rfl, ?yb7⟩) hS ?rb7
    case yb7 => (intro w0 _; go_simp; try with_reducible rfl)
    try simp only [yA, yB, yC, Act.put, yD, yE, yF]
    refine wpAnyH_done (by kernel_rfl) ?_ _
    refine NoPanic.normal ?_
    try simp only [Exit.then]
    clear hS
    clear HB HR
    cases hk : knownB s r.tid
    · rw [hk] at HE0
      cases hy : r.yes
      · have HE1 := As.mk (show doneE s r = if freshE s r.tid = 0 then (0, decS s r.tid false) else (freshE s r.tid, s) by rw [HE0.out, hy]; rfl)
        obtain ⟨t0, t1, t2, t3, t4, t5, t6, t7, t8, t9, t10, t11, t12, t13, t14⟩ := (HT.out).c15
        rw [hy] at t14
        clear HE0 hk
        go_wp2_with fail
        clear t0 t1 t2 t3 t4 t5 t6 t7 t8 t9 t10 t11 t12 t13 t14
        refine (fresh_c _ sb s HO.out.toP (by have := HN.out; omega) r.tid _ rfl).mono ?_
        rintro e0 w2 ⟨rfl, hg1⟩
        replace HT := As.mk (HT.out.grown hg1 (by simp))
        replace HO := As.mk (HO.out.grown hg1)
        replace HG := As.mk (gr_then HG.out hg1 (.inl rfl))
        replace HK := As.mk (HK.out.trans (.none hg1))
        clear hg1
        by_cases hf : freshE s r.tid = 0
        · have HE := As.mk (HE1.out.trans (if_pos hf))
          rw [hf]
          clear hf HE1
          obtain ⟨t0, t1, t2, t3, t4, t5, t6, t7, t8, t9, t10, t11, t12, t13, t14⟩ := (HT.out).c15
          go_wp2_with fail
          clear t0 t1 t2 t3 t4 t5 t6 t7 t8 t9 t10 t11 t12 t13 t14
          refine (decide_c w0 _ sb s HG.out HO.out (by have := HN.out; omega) r.tid false).mono ?_
          rintro e0 w3 ⟨rfl, h2, hk, h3⟩
          have H3 := As.mk (And.intro h2 (And.intro (HK.out.trans hk) h3))
          clear h2 hk h3
          go_wp2_with fail
          go_ret
          exact MutPost.of HE.out H3.out.1 H3.out.2.1 H3.out.2.2
        · have HE := As.mk (HE1.out.trans (if_neg hf))
          clear HE1
          go_wp2_with fail
          go_ret
          exact MutPost.of HE.out HG.out HK.out HO.out
      · have HE := As.mk (show doneE s r = (10, s) by rw [HE0.out, hy]; rfl)
        obtain ⟨t0, t1, t2, t3, t4, t5, t6, t7, t8, t9, t10, t11, t12, t13, t14⟩ := (HT.out).c15
        rw [hy] at t14
        clear HE0 hk
        go_wp2_with fail
        go_ret
        exact MutPost.of HE.out HG.out HK.out HO.out
    · have HE := As.mk (show doneE s r = (9, s) by rw [HE0.out, if_pos hk])
      clear hk HE0
      go_wp2_with fail
      go_ret
      exact MutPost.of HE.out HG.out HK.out HO.out
end Go.Proofs.Ytdmkijdbldcdiaa
