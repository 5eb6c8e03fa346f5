/- The walk of ledger.Apply. (Printed by wip/gen/gen_mi.py.) -/
import Derived.Test.YtdmkijdbldcdiaaMh
import Derived.Test.YtdmkijdbldcdiaaMg
import Derived.Test.YtdmkijdbldcdiaaOa
import Derived.Laws.ResultCell
namespace Go.Proofs.Ytdmkijdbldcdiaa
open Go.RowKit
set_option linter.unusedVariables false
set_option linter.unusedSimpArgs false
set_option maxRecDepth 100000

theorem results_row_tmp {P : Program} {fn : Func} {p u : Tmp} {ty : TypeId} (h : fn.results = #[.cell p ty, .tmp u]) (tmps : Array Value) (w : World) (g : Nat) (t : TypeId) (cs : Array Value) (fr : Nat × Nat) (d : TypeDesc)
    (hp : tmps.getD p undef = .pointer (some ⟨g, 0, none⟩)) (v : Value) (hv : tmps.getD u undef = v) (hg : w.heap[g]? = some (.cells cs t fr))
    (hu : P.underlying ty = some d) (hd : (match d with | .struct _ | .array _ _ => true | _ => false) = true) (hi : (P.info? ty).map (·.size) = some cs.size) :
    (results fn tmps).run P w = .ok (.tuple #[.agg cs, v]) w := by
  rw [results_cell_tmp h, hp, hv]
  have HL := run_loadVar_row (P := P) w g t ty cs fr d hg hu hd hi
  simp [asAddr, Result.andThen] at HL ⊢
  rw [HL]
/-- A record as it lies in a row. -/
def ReE (w : World) (r : PRec) (cs : List Value) : Prop := ∃ AI cI AN cN, cs = (reCells r AI cI AN cN).toList ∧ Arr ItE 5 w (.slice AI r.items.length cI) r.items ∧ Arr IE 1 w (.slice AN r.nodes.length cN) r.nodes
theorem ReE.grown {w w' : World} (hg : w.grownBy w' none) (x : PRec) (cs : List Value) (h : ReE w x cs) : ReE w' x cs := by
  obtain ⟨AI, cI, AN, cN, h1, h2, h3⟩ := h
  exact ⟨AI, cI, AN, cN, h1, h2.below hg (fun _ _ h => h), h3.below hg (fun _ _ h => h)⟩
theorem Rows.zero (w : World) (B : Nat) : Rows w B zS (.slice none 0 0) (.slice none 0 0) (.slice none 0 0) (.slice none 0 0) [] [] :=
  ⟨own_nilRow _ _ _ _, own_nilRow _ _ _ _, own_nilRow _ _ _ _, own_nilRow _ _ _ _, rfl, rfl, fun q hq => (by cases hq), fun q hq => (by cases hq)⟩
/-- What answers with a state, all of the call's own, and an error. -/
def StPost (w : World) (s : PSt) (er : Int) (e : Ending) (w' : World) : Prop := ∃ vP vQ vD vC qs cs, e = .returned (.tuple #[.agg (stCells s vP vQ vD vC), .int .i64 er]) ∧ w.grownBy w' none ∧ Rows w' w.heap.size s vP vQ vD vC qs cs
theorem Rows.read {w : World} {B : Nat} {s : PSt} {vP vQ vD vC : Value} {qs : List QPr} {cs : List QCm} (h : Rows w B s vP vQ vD vC qs cs) : StR w s vP vQ vD vC := by
  have hb := Blk.new w 32 (stCells s vP vQ vD vC)
  have hg := gr_alloc (gr_refl w none) (.cells (stCells s vP vQ vD vC) 32)
  refine ⟨(TArr.own h.pl (fun _ => rfl)).1, ?_, (TArr.own h.de (fun _ => rfl)).1, ?_⟩
  · obtain ⟨A, c, e, hm, hh⟩ := (TArr.own h.pr (fun _ => rfl)).1
    have hl : qs.length = s.prepared.length := by rw [← h.qp, List.length_map]
    refine ⟨A, c, by rw [e, hl], by rw [← hl]; exact hm, fun h0 => ?_⟩
    obtain ⟨ad, h1, h2, h3⟩ := hh (by omega)
    refine ⟨ad, h1, h2, fun j x hx => ?_⟩
    rw [← h.qp, List.getElem?_map, Option.map_eq_some_iff] at hx
    obtain ⟨q, hq, rfl⟩ := hx
    obtain ⟨cs', g1, g2, g3⟩ := h3 j q hq
    have hm := h.qi q (List.mem_of_getElem? hq)
    exact ⟨cs', ⟨q.A1, q.c1, q.A2, q.c2, g1, hm.1.1, hm.2.1⟩, g2, g3⟩
  · obtain ⟨A, c, e, hm, hh⟩ := (TArr.own h.cm (fun _ => rfl)).1
    have hl : cs.length = s.commits.length := by rw [← h.cp, List.length_map]
    refine ⟨A, c, by rw [e, hl], by rw [← hl]; exact hm, fun h0 => ?_⟩
    obtain ⟨ad, h1, h2, h3⟩ := hh (by omega)
    refine ⟨ad, h1, h2, fun j x hx => ?_⟩
    rw [← h.cp, List.getElem?_map, Option.map_eq_some_iff] at hx
    obtain ⟨q, hq, rfl⟩ := hx
    obtain ⟨cs', g1, g2, g3⟩ := h3 j q hq
    have hm := h.ci q (List.mem_of_getElem? hq)
    exact ⟨cs', ⟨q.A1, q.c1, q.A2, q.c2, g1, hm.1.1, hm.2.1⟩, g2, g3⟩
theorem applyL_end {s s' : PSt} {l : List PRec} (h : applyL s l = applyL s' (l.drop l.length)) : applyL s l = (0, s') := by
  rw [h, List.drop_length]; rfl
theorem applyL_at {s s' : PSt} {l : List PRec} {k : Nat} {r : PRec} (h : applyL s l = applyL s' (l.drop k)) (hr : l[k]? = some r) : applyL s l = if rightR r = true then (if (applyE s' r).1 = 0 then applyL (applyE s' r).2 (l.drop (k + 1)) else ((applyE s' r).1, zS)) else (1, zS) := by
  obtain ⟨hk, rfl⟩ := List.getElem?_eq_some_iff.1 hr
  rw [h, List.drop_eq_getElem_cons hk]; rfl
set_option maxHeartbeats 6400000 in
theorem Apply_c (w : World) (s : PSt) (vP vQ vD vC : Value) (h : StR w s vP vQ vD vC) (hi : SInv s) (vl : Value) (l : List PRec) (hl : Arr ReE 15 w vl l) :
    Calls Try.prog 11 #[.agg (stCells s vP vQ vD vC), vl] w (StPost w (applyL s l).2 (applyL s l).1) := by
  obtain ⟨AL, cL, rfl⟩ := hl.len
  have HLL := As.mk (And.intro hl.le hl.cap)
  have hga := gr_alloc (gr_alloc (gr_refl w none) (.cells (stCells s vP vQ vD vC) 32)) (.cells #[.int .i64 0, .int .i64 0, .int .i64 0, .int .i64 0, .slice none 0 0, .slice none 0 0, .slice none 0 0, .slice none 0 0] 32)
  have HG := As.mk hga
  have HB := As.mk ((Blk.new w 32 (stCells s vP vQ vD vC)).alloc (.cells #[.int .i64 0, .int .i64 0, .int .i64 0, .int .i64 0, .slice none 0 0, .slice none 0 0, .slice none 0 0, .slice none 0 0] 32))
  have HZ := As.mk (Blk.new2 w (.cells (stCells s vP vQ vD vC) 32) 32 #[.int .i64 0, .int .i64 0, .int .i64 0, .int .i64 0, .slice none 0 0, .slice none 0 0, .slice none 0 0, .slice none 0 0])
  have HR := As.mk h
  have HI := As.mk hi
  have HL := As.mk hl
  clear h hi hl hga
  have HC := As.mk HR.out
  unfold stCells at HG HB HZ ⊢
  go_enter Try.func11, Try.ntmps11
  go_wp2_with fail
  generalize (w.alloc (.cells #[.int .i64 s.node, .int .i64 s.nodes, .int .i64 s.cells, .int .i64 s.epoch, vP, vQ, vD, vC] 32)).alloc (.cells #[.int .i64 0, .int .i64 0, .int .i64 0, .int .i64 0, .slice none 0 0, .slice none 0 0, .slice none 0 0, .slice none 0 0] 32) = W at *
  refine (clone_c _ s vP vQ vD vC (HR.out.grown HG.out) HI.out.bounds).mono ?_
  rintro e w1 ⟨vP1, vQ1, vD1, vC1, qs1, cs1, rfl, hg1, hr1⟩
  obtain ⟨AP1, cP1, rfl⟩ := own_shape hr1.pl
  obtain ⟨AQ1, cQ1, rfl⟩ := own_shape hr1.pr
  obtain ⟨AD1, cD1, rfl⟩ := own_shape hr1.de
  obtain ⟨AC1, cC1, rfl⟩ := own_shape hr1.cm
  have HB1 := As.mk (HB.out.grown hg1 (by simp))
  have HZ1 := As.mk (HZ.out.grown hg1 (by simp))
  have HR1 := As.mk ((hr1.mono HG.out.size).put8 HB1.out (.int .i64 s.node) (.int .i64 s.nodes) (.int .i64 s.cells) (.int .i64 s.epoch) (.slice AP1 s.places.length cP1) (.slice AQ1 qs1.length cQ1) (.slice AD1 s.decided.length cD1) (.slice AC1 cs1.length cC1))
  have HB2 := As.mk (HB1.out.put8 (.int .i64 s.node) (.int .i64 s.nodes) (.int .i64 s.cells) (.int .i64 s.epoch) (.slice AP1 s.places.length cP1) (.slice AQ1 qs1.length cQ1) (.slice AD1 s.decided.length cD1) (.slice AC1 cs1.length cC1))
  have HS := As.mk (show StO _ w.heap.size w.heap.size s from ⟨_, _, _, _, _, _, HR1.out.st (show Blk _ _ _ (stCells s (.slice AP1 s.places.length cP1) (.slice AQ1 qs1.length cQ1) (.slice AD1 s.decided.length cD1) (.slice AC1 cs1.length cC1)) from HB2.out) (Nat.le_refl _)⟩)
  have HZ2 := As.mk (HZ1.out.grown (gr_put8 (gr_refl _ (some w.heap.size)) (.inl rfl) (.int .i64 s.node) (.int .i64 s.nodes) (.int .i64 s.cells) (.int .i64 s.epoch) (.slice AP1 s.places.length cP1) (.slice AQ1 qs1.length cQ1) (.slice AD1 s.decided.length cD1) (.slice AC1 cs1.length cC1)) (by simp))
  have HG1 := As.mk (gr_put8 (gr_then HG.out hg1 (.inl rfl)) (sb := w.heap.size) (.inr (Nat.le_refl _)) (.int .i64 s.node) (.int .i64 s.nodes) (.int .i64 s.cells) (.int .i64 s.epoch) (.slice AP1 s.places.length cP1) (.slice AQ1 qs1.length cQ1) (.slice AD1 s.decided.length cD1) (.slice AC1 cs1.length cC1))
  unfold Go.Proofs.Ytdmkijdbldcdiaa.put8 at HS HZ2 HG1
  clear hg1 hr1 HB HZ HZ1 HR1 HB2 HG HC
  have f0 := HB1.out.free 0
  have f1 := HB1.out.free 1
  have f2 := HB1.out.free 2
  have f3 := HB1.out.free 3
  have f4 := HB1.out.free 4
  have f5 := HB1.out.free 5
  have f6 := HB1.out.free 6
  have f7 := HB1.out.free 7
  obtain ⟨q0, q1, q2, q3, q4, q5, q6, q7⟩ := (HB1.out).c8
  unfold stCells
  go_wp2_with fail
  clear f0 f1 f2 f3 f4 f5 f6 f7 q0 q1 q2 q3 q4 q5 q6 q7 HB1
  generalize ((((((((w1.setCell ⟨w.heap.size, 0, none⟩ (.int .i64 s.node)).setCell ⟨w.heap.size, 1, none⟩ (.int .i64 s.nodes)).setCell ⟨w.heap.size, 2, none⟩ (.int .i64 s.cells)).setCell ⟨w.heap.size, 3, none⟩ (.int .i64 s.epoch)).setCell ⟨w.heap.size, 4, none⟩ (.slice AP1 s.places.length cP1)).setCell ⟨w.heap.size, 5, none⟩ (.slice AQ1 qs1.length cQ1)).setCell ⟨w.heap.size, 6, none⟩ (.slice AD1 s.decided.length cD1)).setCell ⟨w.heap.size, 7, none⟩ (.slice AC1 cs1.length cC1)) = W1 at *
  go_loopw [13] (fun i wr => ∃ k : Nat, k ≤ l.length ∧ i = .int .i64 k ∧ ∃ s', As (w.grownBy wr none ∧ StO wr w.heap.size w.heap.size s' ∧ Blk wr (w.heap.size + 1) 32 #[.int .i64 0, .int .i64 0, .int .i64 0, .int .i64 0, .slice none 0 0, .slice none 0 0, .slice none 0 0, .slice none 0 0] ∧ applyL s l = applyL s' (l.drop k) ∧ SInv s')) (fun i _ => l.length - (intOf i).toNat)
  case atStart => exact ⟨0, Nat.zero_le _, rfl, s, ⟨HG1.out, HS.out, HZ2.out, rfl, HI.out⟩⟩
  case round =>
    obtain ⟨k, hk, rfl, s', HX⟩ := hrel
    clear HG1 HS HZ2
    obtain ⟨hx1, hx2, hx3, hx4, hx5⟩ := HX.out
    have HG := As.mk hx1
    have HS := As.mk hx2
    have HZ := As.mk hx3
    have HE0 := As.mk hx4
    have HI2 := As.mk hx5
    clear HX hx1 hx2 hx3 hx4 hx5
    have hle : l.length ≤ cL ∧ l.length ≤ 9223372036854775807 := ⟨HLL.out.2, HLL.out.1⟩
    by_cases hlt : k < l.length
    · have hltI : (k : Int) < (l.length : Int) := by omega
      have hk0 : (0 : Int) ≤ (k : Int) := by omega
      obtain ⟨r, hr⟩ : ∃ r, l[k]? = some r := ⟨_, List.getElem?_eq_getElem hlt⟩
      obtain ⟨b, off, cs, rfl, ⟨AI, cI, AN, cN, rfl, hI, hN⟩, _, hcs⟩ := HL.out.at_ k r hr
      have HRI := As.mk hI
      have HRN := As.mk hN
      have HCS := As.mk hcs
      clear hI hN hcs
      have e0 := HG.out.cell (HCS.out 0 _ rfl) (by simp)
      have e1 := HG.out.cell (HCS.out 1 _ rfl) (by simp)
      have e2 := HG.out.cell (HCS.out 2 _ rfl) (by simp)
      have e3 := HG.out.cell (HCS.out 3 _ rfl) (by simp)
      have e4 := HG.out.cell (HCS.out 4 _ rfl) (by simp)
      have e5 := HG.out.cell (HCS.out 5 _ rfl) (by simp)
      have e6 := HG.out.cell (HCS.out 6 _ rfl) (by simp)
      have e7 := HG.out.cell (HCS.out 7 _ rfl) (by simp)
      have e8 := HG.out.cell (HCS.out 8 _ rfl) (by simp)
      have e9 := HG.out.cell (HCS.out 9 _ rfl) (by simp)
      have e10 := HG.out.cell (HCS.out 10 _ rfl) (by simp)
      have e11 := HG.out.cell (HCS.out 11 _ rfl) (by simp)
      have e12 := HG.out.cell (HCS.out 12 _ rfl) (by simp)
      have e13 := HG.out.cell (HCS.out 13 _ rfl) (by simp)
      have e14 := HG.out.cell (HCS.out 14 _ rfl) (by simp)
      simp only [Nat.add_zero] at e0
      go_wp2_with fail
      clear e0 e1 e2 e3 e4 e5 e6 e7 e8 e9 e10 e11 e12 e13 e14
      have hga := gr_alloc (gr_refl wr none) (.cells #[.int .i64 r.kind, .int .i64 r.tid.n, .int .i64 r.tid.e, .int .i64 r.tid.s, .slice AI r.items.length cI, .slice AN r.nodes.length cN, .int .i64 r.node, .int .i64 r.count, .int .i64 r.num, .int .i64 r.cell, .int .i64 r.st, .int .i64 r.hop, .int .i64 r.ver, .int .i64 r.val, .bool r.yes] 43)
      have HT := As.mk (Blk.new wr 43 #[.int .i64 r.kind, .int .i64 r.tid.n, .int .i64 r.tid.e, .int .i64 r.tid.s, .slice AI r.items.length cI, .slice AN r.nodes.length cN, .int .i64 r.node, .int .i64 r.count, .int .i64 r.num, .int .i64 r.cell, .int .i64 r.st, .int .i64 r.hop, .int .i64 r.ver, .int .i64 r.val, .bool r.yes])
      replace HG := As.mk (gr_then HG.out hga (.inl rfl))
      replace HS := As.mk (HS.out.grown hga)
      replace HZ := As.mk (HZ.out.grown hga (by simp))
      clear hga
      generalize wr.alloc (.cells #[.int .i64 r.kind, .int .i64 r.tid.n, .int .i64 r.tid.e, .int .i64 r.tid.s, .slice AI r.items.length cI, .slice AN r.nodes.length cN, .int .i64 r.node, .int .i64 r.count, .int .i64 r.num, .int .i64 r.cell, .int .i64 r.st, .int .i64 r.hop, .int .i64 r.ver, .int .i64 r.val, .bool r.yes] 43) = WR at *
      generalize wr.heap.size = gt at *
      refine (recRight_c _ r AI cI AN cN (HRI.out.below HG.out (fun _ _ h => h)) (HRN.out.below HG.out (fun _ _ h => h)) _ rfl).mono ?_
      rintro e w2 ⟨rfl, hg1⟩
      replace HT := As.mk (HT.out.grown hg1 (by simp))
      replace HG := As.mk (gr_then HG.out hg1 (.inl rfl))
      replace HS := As.mk (HS.out.grown hg1)
      replace HZ := As.mk (HZ.out.grown hg1 (by simp))
      clear hg1
      have HE1 := As.mk (applyL_at HE0.out hr)
      cases hright : rightR r
      · have HE := As.mk (show applyL s l = (1, zS) by rw [HE1.out, hright]; rfl)
        obtain ⟨z0, z1, z2, z3, z4, z5, z6, z7⟩ := (HZ.out).c8
        have fz0 := HZ.out.free 0
        have fz1 := HZ.out.free 1
        have fz2 := HZ.out.free 2
        have fz3 := HZ.out.free 3
        have fz4 := HZ.out.free 4
        have fz5 := HZ.out.free 5
        have fz6 := HZ.out.free 6
        have fz7 := HZ.out.free 7
        have HZ5 := As.mk (HZ.out.put8 (.int .i64 0) (.int .i64 0) (.int .i64 0) (.int .i64 0) (.slice none 0 0) (.slice none 0 0) (.slice none 0 0) (.slice none 0 0))
        have HG5 := As.mk (gr_put8 HG.out (sb := w.heap.size + 1) (.inr (Nat.le_succ _)) (.int .i64 0) (.int .i64 0) (.int .i64 0) (.int .i64 0) (.slice none 0 0) (.slice none 0 0) (.slice none 0 0) (.slice none 0 0))
        unfold Go.Proofs.Ytdmkijdbldcdiaa.put8 at HZ5 HG5
        go_wp2_with fail
        refine bodyPost_ret (results_row_tmp (P := Try.prog) rfl _ _ (w.heap.size + 1) 32 _ (0, 0) _ rfl (.int .i64 1) rfl HZ5.out Try.underlying32 rfl (by kernel_rfl)) rfl ?_
        rw [HE.out]
        exact ⟨_, _, _, _, _, _, rfl, HG5.out, Rows.zero _ _⟩
      · have HI3 := HI2.out
        obtain ⟨t0, t1, t2, t3, t4, t5, t6, t7, t8, t9, t10, t11, t12, t13, t14⟩ := (HT.out).c15
        go_wp2_with fail
        clear t0 t1 t2 t3 t4 t5 t6 t7 t8 t9 t10 t11 t12 t13 t14
        refine (applyS_c w _ w.heap.size s' HG.out HS.out HI3.sum HI3.cms HI3.cellsP r AI cI AN cN (rightR_base hright) HRI.out HRN.out (rightR_len hright).1 (rightR_len hright).2).mono ?_
        rintro e w3 ⟨rfl, hg1, hkeep, hs3⟩
        replace HZ := As.mk (hkeep _ _ _ HZ.out (by decide) (by omega))
        have HG3 := As.mk hg1
        have HS3 := As.mk hs3
        clear HG HS hg1 hkeep hs3 HI3 HT
        have HE2 := As.mk (show applyL s l = if (applyE s' r).1 = 0 then applyL (applyE s' r).2 (l.drop (k + 1)) else ((applyE s' r).1, zS) by rw [HE1.out, hright]; rfl)
        have HST := As.mk (fun h0 => HI2.out.step hright h0)
        clear HE1 HE0
        generalize hq : applyE s' r = q at *
        obtain ⟨er, s2⟩ := q
        have HQ := As.mk hq
        clear hq
        dsimp only at HE2 HST HS3 ⊢
        by_cases h0 : er = 0
        · subst h0
          have HI4 := As.mk (HST.out rfl)
          have HE := As.mk (show applyL s l = applyL s2 (l.drop (k + 1)) by rw [HE2.out, if_pos rfl])
          go_wp2_with fail
          go_roundw
          case measure => simp [intOf]; omega
          case rel => exact ⟨k + 1, by omega, by go_num, s2, ⟨HG3.out, HS3.out, HZ.out, HE.out, HI4.out⟩⟩
        · have HE := As.mk (show applyL s l = (er, zS) by rw [HE2.out, if_neg h0])
          have h1 : (er != 0) = true := by simpa using h0
          obtain ⟨z0, z1, z2, z3, z4, z5, z6, z7⟩ := (HZ.out).c8
          have fz0 := HZ.out.free 0
          have fz1 := HZ.out.free 1
          have fz2 := HZ.out.free 2
          have fz3 := HZ.out.free 3
          have fz4 := HZ.out.free 4
          have fz5 := HZ.out.free 5
          have fz6 := HZ.out.free 6
          have fz7 := HZ.out.free 7
          have HZ5 := As.mk (HZ.out.put8 (.int .i64 0) (.int .i64 0) (.int .i64 0) (.int .i64 0) (.slice none 0 0) (.slice none 0 0) (.slice none 0 0) (.slice none 0 0))
          have HG5 := As.mk (gr_put8 HG3.out (sb := w.heap.size + 1) (.inr (Nat.le_succ _)) (.int .i64 0) (.int .i64 0) (.int .i64 0) (.int .i64 0) (.slice none 0 0) (.slice none 0 0) (.slice none 0 0) (.slice none 0 0))
          unfold Go.Proofs.Ytdmkijdbldcdiaa.put8 at HZ5 HG5
          clear h0
          go_wp2_with fail
          refine bodyPost_ret (results_row_tmp (P := Try.prog) rfl _ _ (w.heap.size + 1) 32 _ (0, 0) _ rfl (.int .i64 er) rfl HZ5.out Try.underlying32 rfl (by kernel_rfl)) rfl ?_
          rw [HE.out]
          exact ⟨_, _, _, _, _, _, rfl, HG5.out, Rows.zero _ _⟩
    · obtain rfl : k = l.length := by omega
      have HE := As.mk (applyL_end HE0.out)
      obtain ⟨vP2, vQ2, vD2, vC2, qs2, cs2, hO⟩ := HS.out
      obtain ⟨AP2, cP2, rfl⟩ := own_shape hO.pl
      obtain ⟨AQ2, cQ2, rfl⟩ := own_shape hO.pr
      obtain ⟨AD2, cD2, rfl⟩ := own_shape hO.de
      obtain ⟨AC2, cC2, rfl⟩ := own_shape hO.cm
      have HB := As.mk hO.blk
      have HRW := As.mk (hO.rows.put8 HZ.out (.int .i64 s'.node) (.int .i64 s'.nodes) (.int .i64 s'.cells) (.int .i64 s'.epoch) (.slice AP2 s'.places.length cP2) (.slice AQ2 qs2.length cQ2) (.slice AD2 s'.decided.length cD2) (.slice AC2 cs2.length cC2))
      have HZ5 := As.mk (HZ.out.put8 (.int .i64 s'.node) (.int .i64 s'.nodes) (.int .i64 s'.cells) (.int .i64 s'.epoch) (.slice AP2 s'.places.length cP2) (.slice AQ2 qs2.length cQ2) (.slice AD2 s'.decided.length cD2) (.slice AC2 cs2.length cC2))
      have HG5 := As.mk (gr_put8 HG.out (sb := w.heap.size + 1) (.inr (Nat.le_succ _)) (.int .i64 s'.node) (.int .i64 s'.nodes) (.int .i64 s'.cells) (.int .i64 s'.epoch) (.slice AP2 s'.places.length cP2) (.slice AQ2 qs2.length cQ2) (.slice AD2 s'.decided.length cD2) (.slice AC2 cs2.length cC2))
      unfold Go.Proofs.Ytdmkijdbldcdiaa.put8 at HRW HZ5 HG5
      clear hO HE0 hlt hk
      obtain ⟨q0, q1, q2, q3, q4, q5, q6, q7⟩ := (HB.out).c8
      obtain ⟨z0, z1, z2, z3, z4, z5, z6, z7⟩ := (HZ.out).c8
      have fz0 := HZ.out.free 0
      have fz1 := HZ.out.free 1
      have fz2 := HZ.out.free 2
      have fz3 := HZ.out.free 3
      have fz4 := HZ.out.free 4
      have fz5 := HZ.out.free 5
      have fz6 := HZ.out.free 6
      have fz7 := HZ.out.free 7
      go_wp2_with fail
      refine bodyPost_ret (results_row_tmp (P := Try.prog) rfl _ _ (w.heap.size + 1) 32 _ (0, 0) _ rfl (.int .i64 0) rfl HZ5.out Try.underlying32 rfl (by kernel_rfl)) rfl ?_
      rw [HE.out]
      exact ⟨_, _, _, _, _, _, rfl, HG5.out, HRW.out⟩
end Go.Proofs.Ytdmkijdbldcdiaa
