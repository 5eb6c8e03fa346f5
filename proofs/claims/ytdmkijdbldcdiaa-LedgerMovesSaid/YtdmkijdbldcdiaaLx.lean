/- The walks of end and out. (Printed by wip/gen/gen_lx.py.) -/
import Derived.Test.YtdmkijdbldcdiaaLw
namespace Go.Proofs.Ytdmkijdbldcdiaa
open Go.RowKit
set_option linter.unusedVariables false
set_option linter.unusedSimpArgs false
set_option maxRecDepth 100000

theorem OwnSt.overC {w : World} {B sb : Nat} {s : PSt} {vP vQ vD : Value} {qs : List QPr} {cs : List QCm} {g n cap : Nat} (h : OwnSt w B sb s vP vQ vD (.slice (some ⟨g, 0, none⟩) n cap) qs cs) (i : Nat) (hi : i < cs.length) :
    OwnSt (w.setCell ⟨g, i * 6 + 5, none⟩ (.bool true)) B sb { s with commits := (cs.set i { (cs[i]'hi) with p := { (cs[i]'hi).p with over := true } }).map QCm.p } vP vQ vD (.slice (some ⟨g, 0, none⟩) n cap) qs (cs.set i { (cs[i]'hi) with p := { (cs[i]'hi).p with over := true } }) := by
  obtain ⟨A1, c1, e⟩ := own_shape h.cm
  injection e with e1 e2 e3
  subst e1 e2 e3
  have hg : w.grownBy (w.setCell ⟨g, i * 6 + 5, none⟩ (.bool true)) (some g) := gr_set (gr_refl w _) (a := ⟨g, i * 6 + 5, none⟩) (.inl rfl) _
  have h1 := own_set h.cm (i * 6 + 5) (by omega) (.bool true)
  rw [flat_set qcC 6 (fun _ => rfl) cs i hi 5 (by omega) (.bool true) { (cs[i]'hi) with p := { (cs[i]'hi).p with over := true } } rfl] at h1
  have hsb : some sb ≠ some g := own_ne h.blk h.cm (by decide)
  have hty : ∀ k, some g = some k → ∀ cs, ¬ Blk w k 66 cs ∧ ¬ Blk w k 3 cs := fun k e cs => ⟨own_typed h.cm (by decide) k e cs, own_typed h.cm (by decide) k e cs⟩
  refine ⟨h.blk.grown hg hsb, h.lo, own_grown h.pl hg (own_types h.pl h.cm (by decide)), own_grown h.pr hg (own_types h.pr h.cm (by decide)), own_grown h.de hg (own_types h.de h.cm (by decide)), by rw [List.length_set]; exact h1, h.qp, rfl, fun q hq => nest_step (h.qi q hq) hg hty, fun q hq => ?_⟩
  rcases List.mem_or_eq_of_mem_set hq with hq | rfl
  · exact nest_step (h.ci q hq) hg hty
  · exact nest_step (h.ci (cs[i]'hi) (List.getElem_mem hi)) hg hty
def overAt (s : PSt) (i : Nat) : Bool := match s.commits[i]? with | some c => c.over | none => false
def overSet (l : List PCm) (i : Nat) : List PCm := match l[i]? with | some c => l.set i { c with over := true } | none => l
def endE (s : PSt) (r : PRec) : Int × PSt := match s.commits.findIdx? (fun x => eqT x.tid r.tid) with
  | some i => if overAt s i = true then (9, s) else (0, { s with commits := overSet s.commits i })
  | none => (8, s)
theorem map_over (cs : List QCm) (i : Nat) (hi : i < cs.length) : (cs.set i { (cs[i]'hi) with p := { (cs[i]'hi).p with over := true } }).map QCm.p = overSet (cs.map QCm.p) i := by
  unfold overSet
  rw [List.map_set, List.getElem?_map, List.getElem?_eq_getElem hi]
  rfl
set_option maxHeartbeats 6400000 in
theorem endS_c (w0 w : World) (sb : Nat) (s : PSt) (hg : w0.grownBy w none) (hs : StO w w0.heap.size sb s) (r : PRec) (AI : Option Addr) (cI : Nat) (AN : Option Addr) (cN : Nat) :
    Calls Try.prog 56 #[.pointer (some ⟨sb, 0, none⟩), .agg (reCells r AI cI AN cN)] w (MutPost w0 w sb (.int .i64 (endE s r).1) (endE s r).2) := by
  have HGA := gr_alloc (gr_refl w none) (.cells (reCells r AI cI AN cN) 43)
  have HG := As.mk (gr_then hg HGA (.inl rfl))
  have HO := As.mk (hs.grown HGA)
  have HK := As.mk (Keeps.none (sb := sb) HGA)
  have HT := As.mk (Blk.new w 43 (reCells r AI cI AN cN))
  have hd := hs.grown HGA
  clear hs hg HGA
  unfold reCells at *
  go_enter Try.func56, Try.ntmps56
  go_wp2_with fail
  generalize w.alloc (.cells #[.int .i64 r.kind, .int .i64 r.tid.n, .int .i64 r.tid.e, .int .i64 r.tid.s, .slice AI r.items.length cI, .slice AN r.nodes.length cN, .int .i64 r.node, .int .i64 r.count, .int .i64 r.num, .int .i64 r.cell, .int .i64 r.st, .int .i64 r.hop, .int .i64 r.ver, .int .i64 r.val, .bool r.yes] 43) = W at *
  generalize w.heap.size = gt at *
  obtain ⟨vP, vQ, vD, vC, hB, h⟩ := hd.toP
  obtain ⟨A1, c1, rfl⟩ := h.pl.len
  obtain ⟨A2, c2, rfl⟩ := h.pr.len
  obtain ⟨A3, c3, rfl⟩ := h.de.len
  obtain ⟨A4, c4, rfl⟩ := h.cm.len
  have HB := As.mk hB
  have HR := As.mk h
  unfold stCells at HB
  clear hd hB h
  refine wp_region_noPanic ?_
  refine wp_region_held_drew (S := fun w' => Blk w' sb 32 #[.int .i64 s.node, .int .i64 s.nodes, .int .i64 s.cells, .int .i64 s.epoch, .slice A1 s.places.length c1, .slice A2 s.prepared.length c2, .slice A3 s.decided.length c3, .slice A4 s.commits.length c4] ∧ Blk w' gt 43 #[.int .i64 r.kind, .int .i64 r.tid.n, .int .i64 r.tid.e, .int .i64 r.tid.s, .slice AI r.items.length cI, .slice AN r.nodes.length cN, .int .i64 r.node, .int .i64 r.count, .int .i64 r.num, .int .i64 r.cell, .int .i64 r.st, .int .i64 r.hop, .int .i64 r.ver, .int .i64 r.val, .bool r.yes]) (by kernel_rfl) (⟨HB.out.drew, HT.out.drew⟩) (fun hS => ?_)
  refine wpAnyH_take (i := 0) (v := ?va1) rfl (by kernel_rfl) (by kernel_rfl) (by kernel_rfl) (fun _ _ _ h => h) (Or.inl ⟨by rfl, ?ya1⟩) hS ?ra1
  case ya1 => (intro w0 _; go_simp; try with_reducible rfl)
  try simp only [yA, yB, yC, Act.put, yD, yE, yF]
  refine wpAnyH_take (i := 1) (v := ?va2) rfl (by kernel_rfl) (by kernel_rfl) (by kernel_rfl) (fun _ _ _ h => h) (Or.inl ⟨by rfl, ?ya2⟩) hS ?ra2
  case ya2 => (intro w0 _; go_simp; try with_reducible rfl)
  try simp only [yA, yB, yC, Act.put, yD, yE, yF]
  refine wpAnyH_take (i := 2) (v := ?va3) rfl (by kernel_rfl) (by kernel_rfl) (by kernel_rfl) (fun _ _ _ h => h) (Or.inl ⟨by rfl, ?ya3⟩) hS ?ra3
  case ya3 => (intro w0 hS0; (try simp only [] at hS0); obtain ⟨hS0_0, hS0_1⟩ := hS0; obtain ⟨q0_0, q0_1, q0_2, q0_3, q0_4, q0_5, q0_6, q0_7⟩ := hS0_0.c8; obtain ⟨q1_0, q1_1, q1_2, q1_3, q1_4, q1_5, q1_6, q1_7, q1_8, q1_9, q1_10, q1_11, q1_12, q1_13, q1_14⟩ := hS0_1.c15; go_simp; try with_reducible rfl)
  try simp only [yA, yB, yC, Act.put, yD, yE, yF]
  refine wpAnyH_take (i := 3) (v := ?va4) rfl (by kernel_rfl) (by kernel_rfl) (by kernel_rfl) (fun _ _ _ h => h) (Or.inl ⟨by rfl, ?ya4⟩) hS ?ra4
  case ya4 => (intro w0 _; go_simp; try with_reducible rfl)
  try simp only [yA, yB, yC, Act.put, yD, yE, yF]
  refine wpAnyH_take (i := 4) (v := ?va5) rfl (by kernel_rfl) (by kernel_rfl) (by kernel_rfl) (fun _ _ _ h => h) (Or.inl ⟨by rfl, ?ya5⟩) hS ?ra5
  case ya5 => (intro w0 hS0; (try simp only [] at hS0); obtain ⟨hS0_0, hS0_1⟩ := hS0; obtain ⟨q0_0, q0_1, q0_2, q0_3, q0_4, q0_5, q0_6, q0_7⟩ := hS0_0.c8; obtain ⟨q1_0, q1_1, q1_2, q1_3, q1_4, q1_5, q1_6, q1_7, q1_8, q1_9, q1_10, q1_11, q1_12, q1_13, q1_14⟩ := hS0_1.c15; go_simp; try with_reducible rfl)
  try simp only [yA, yB, yC, Act.put, yD, yE, yF]
  refine wpAnyH_ready (rs := [5]) (by kernel_rfl) (by simp) (AllReadyH.cons (i := 5) rfl (fun K hK => ?_) AllReadyH.nil)
  go_simp
  refine (findCm_c _ s _ _ _ _ (HR.out.grown (gr_drew (gr_refl _ none))) r.tid).mono ?_
  rintro e0 w1 ⟨rfl, hg1⟩
  replace HB := As.mk (HB.out.drew.grown hg1 (by simp))
  replace HT := As.mk (HT.out.drew.grown hg1 (by simp))
  replace HO := As.mk (HO.out.drew.grown hg1)
  replace HR := As.mk ((HR.out.grown (gr_drew (gr_refl _ none))).grown hg1)
  replace HG := As.mk (gr_then (gr_drew HG.out) hg1 (.inl rfl))
  replace HK := As.mk (HK.out.trans (.none (gr_then (gr_drew (gr_refl _ none)) hg1 (.inl rfl))))
  clear hg1
  go_simp
  refine hK.out _ _ (⟨HB.out, HT.out⟩) (fun hS => ?_)
  clear hK K
  try simp only [yA, yB, yC, Act.put, yD, yE, yF]
  refine wpAnyH_take (i := 6) (v := ?va7) rfl (by kernel_rfl) (by kernel_rfl) (by kernel_rfl) (fun _ _ _ h => h) (Or.inl ⟨by rfl, ?ya7⟩) hS ?ra7
  case ya7 => (intro w0 _; go_simp; try with_reducible rfl)
  try simp only [yA, yB, yC, Act.put, yD, yE, yF]
  refine wpAnyH_done (by kernel_rfl) ?_ _
  refine NoPanic.normal ?_
  try simp only [Exit.then]
  clear hS
  cases hf : s.commits.findIdx? (fun x => eqT x.tid r.tid) with
  | none =>
    have hfi : findI (fun x : PCm => eqT x.tid r.tid) s.commits = -1 := by unfold findI; rw [hf]
    have HE := As.mk (show endE s r = (8, s) by unfold endE; rw [hf])
    rw [hfi]
    clear hfi hf
    go_wp2_with fail
    go_ret
    exact MutPost.of HE.out HG.out HK.out HO.out
  | some i =>
    have hi : i < s.commits.length := (List.findIdx?_eq_some_iff_findIdx_eq.1 hf).1
    have hfi : findI (fun x : PCm => eqT x.tid r.tid) s.commits = (i : Int) := by unfold findI; rw [hf]
    have HE0 := As.mk (show endE s r = if overAt s i = true then (9, s) else (0, { s with commits := overSet s.commits i }) by unfold endE; rw [hf])
    rw [hfi]
    clear hfi HB HR hf
    have hd := HO.out
    obtain ⟨vP, vQ, vD, vC, qs, cs, hO⟩ := hd
    have hql : cs.length = s.commits.length := by rw [show s.commits = cs.map QCm.p from hO.cp.symm, List.length_map]
    obtain ⟨gc, cap, rfl⟩ := own_some hO.cm (by omega)
    have hq0 : i < cs.length := by omega
    have hle : cs.length ≤ cap ∧ cap ≤ 9223372036854775807 := by
      obtain ⟨_, _, _, _, h1, h2⟩ := own_whole hO.cm
      exact ⟨h1, by simp only [maxLen] at h2; omega⟩
    have b7 := hO.blk.cell 7
    simp only [stCells, List.getElem?_toArray, List.getElem?_cons_zero, List.getElem?_cons_succ] at b7
    have p5 := own_cellAt hO.cm (i * 6 + 5) _ (flat_at qcC 6 (fun _ => rfl) cs i _ (List.getElem?_eq_getElem hq0) 5 _ rfl)
    have f5 := own_freeAt hO.cm (i * 6 + 5)
    have hqI : (i : Int) < (cs.length : Int) := by omega
    have hi0 : (0 : Int) ≤ (i : Int) := by omega
    have HQ := As.mk (show overAt s i = (cs[i]'hq0).p.over by unfold overAt; rw [show s.commits = cs.map QCm.p from hO.cp.symm, List.getElem?_map, List.getElem?_eq_getElem hq0]; rfl)
    have hO5 := hO.overC i hq0
    rw [map_over, hO.cp] at hO5
    have HO5 := As.mk hO5
    have hlo : w0.heap.size ≤ gc := own_lo hO.cm gc rfl
    have HG5 := As.mk (gr_set HG.out (a := ⟨gc, i * 6 + 5, none⟩) (.inr hlo) (.bool true))
    have HK5 := As.mk (HK.out.trans (.own hO.cm (by decide) (gr_set (gr_refl _ (some gc)) (a := ⟨gc, i * 6 + 5, none⟩) (.inl rfl) (.bool true))))
    clear hO hO5
    generalize cs[i]'hq0 = qi at *
    cases hv : qi.p.over
    · have HE := As.mk (HE0.out.trans (if_neg (by rw [HQ.out, hv]; simp)))
      rw [hv] at p5
      go_wp2_with fail
      go_ret
      exact MutPost.of HE.out HG5.out HK5.out ⟨_, _, _, _, _, _, HO5.out⟩
    · have HE := As.mk (HE0.out.trans (if_pos (by rw [HQ.out, hv])))
      rw [hv] at p5
      go_wp2_with fail
      go_ret
      exact MutPost.of HE.out HG.out HK.out HO.out
theorem OwnSt.three {w : World} {B sb : Nat} {s : PSt} {vQ vD vC : Value} {qs : List QPr} {cs : List QCm} {g n cap : Nat} (h : OwnSt w B sb s (.slice (some ⟨g, 0, none⟩) n cap) vQ vD vC qs cs) (j : Nat) (p : PPl) (hp : s.places[j]? = some p) (a b c : Int) :
    OwnSt (((w.setCell ⟨g, j * 5, none⟩ (.int .i64 a)).setCell ⟨g, j * 5 + 1, none⟩ (.int .i64 b)).setCell ⟨g, j * 5 + 2, none⟩ (.int .i64 c)) B sb (setAt s (j : Int) (((p.setF 0 a).setF 1 b).setF 2 c)) (.slice (some ⟨g, 0, none⟩) n cap) vQ vD vC qs cs := by
  obtain ⟨hj, hp⟩ := List.getElem?_eq_some_iff.1 hp
  have h0 := h.cellP j hj 0 (by omega) a
  have h1 := h0.cellP j (by simpa using hj) 1 (by omega) b
  have h2 := h1.cellP j (by simpa using hj) 2 (by omega) c
  simpa [PPl.setF, setAt, hp] using h2
def outE (s : PSt) (r : PRec) : Int × PSt := if cellB s r.cell = false then (1, s) else if s.nodes < r.node then (1, s) else if (r.node == s.node) = true then (1, s) else if ownsB s r.cell = false then (8, s) else if lockedB s r.cell = true then (12, s)
  else if (r.hop == IntKind.i64.wrap ((placeAt s r.cell).hop + 1)) = false then (10, s) else (0, setAt s r.cell (((placeAt s r.cell).setF 0 2 |>.setF 1 r.hop) |>.setF 2 r.node))
set_option maxHeartbeats 6400000 in
theorem outS_c (w0 w : World) (sb : Nat) (s : PSt) (hg : w0.grownBy w none) (hs : StO w w0.heap.size sb s) (r : PRec) (AI : Option Addr) (cI : Nat) (AN : Option Addr) (cN : Nat) :
    Calls Try.prog 57 #[.pointer (some ⟨sb, 0, none⟩), .agg (reCells r AI cI AN cN)] w (MutPost w0 w sb (.int .i64 (outE s r).1) (outE s r).2) := by
  have HGA := gr_alloc (gr_refl w none) (.cells (reCells r AI cI AN cN) 43)
  have HG := As.mk (gr_then hg HGA (.inl rfl))
  have HO := As.mk (hs.grown HGA)
  have HK := As.mk (Keeps.none (sb := sb) HGA)
  have HT := As.mk (Blk.new w 43 (reCells r AI cI AN cN))
  have hd := hs.grown HGA
  clear hs hg HGA
  unfold reCells at *
  go_enter Try.func57, Try.ntmps57
  go_wp2_with fail
  generalize w.alloc (.cells #[.int .i64 r.kind, .int .i64 r.tid.n, .int .i64 r.tid.e, .int .i64 r.tid.s, .slice AI r.items.length cI, .slice AN r.nodes.length cN, .int .i64 r.node, .int .i64 r.count, .int .i64 r.num, .int .i64 r.cell, .int .i64 r.st, .int .i64 r.hop, .int .i64 r.ver, .int .i64 r.val, .bool r.yes] 43) = W at *
  generalize w.heap.size = gt at *
  obtain ⟨vP, vQ, vD, vC, hB, h⟩ := hd.toP
  obtain ⟨A1, c1, rfl⟩ := h.pl.len
  obtain ⟨A2, c2, rfl⟩ := h.pr.len
  obtain ⟨A3, c3, rfl⟩ := h.de.len
  obtain ⟨A4, c4, rfl⟩ := h.cm.len
  have HB := As.mk hB
  have HR := As.mk h
  unfold stCells at HB
  clear hd hB h
  cases hk : cellB s r.cell
  · have HE := As.mk (show outE s r = (1, s) by unfold outE; rw [if_pos hk])
    refine wp_region_noPanic ?_
    refine wp_region_held_drew (S := fun w' => Blk w' sb 32 #[.int .i64 s.node, .int .i64 s.nodes, .int .i64 s.cells, .int .i64 s.epoch, .slice A1 s.places.length c1, .slice A2 s.prepared.length c2, .slice A3 s.decided.length c3, .slice A4 s.commits.length c4] ∧ Blk w' gt 43 #[.int .i64 r.kind, .int .i64 r.tid.n, .int .i64 r.tid.e, .int .i64 r.tid.s, .slice AI r.items.length cI, .slice AN r.nodes.length cN, .int .i64 r.node, .int .i64 r.count, .int .i64 r.num, .int .i64 r.cell, .int .i64 r.st, .int .i64 r.hop, .int .i64 r.ver, .int .i64 r.val, .bool r.yes]) (by kernel_rfl) (⟨HB.out.drew, HT.out.drew⟩) (fun hS => ?_)
    refine wpAnyH_take (i := 0) (v := ?va1) rfl (by kernel_rfl) (by kernel_rfl) (by kernel_rfl) (fun _ _ _ h => h) (Or.inl ⟨by rfl, ?ya1⟩) hS ?ra1
    case ya1 => (intro w0 _; go_simp; try with_reducible rfl)
    try simp only [yA, yB, yC, Act.put, yD, yE, yF]
    refine wpAnyH_take (i := 1) (v := ?va2) rfl (by kernel_rfl) (by kernel_rfl) (by kernel_rfl) (fun _ _ _ h => h) (Or.inl ⟨by rfl, ?ya2⟩) hS ?ra2
    case ya2 => (intro w0 _; go_simp; try with_reducible rfl)
    try simp only [yA, yB, yC, Act.put, yD, yE, yF]
    refine wpAnyH_take (i := 2) (v := ?va3) rfl (by kernel_rfl) (by kernel_rfl) (by kernel_rfl) (fun _ _ _ h => h) (Or.inl ⟨by rfl, ?ya3⟩) hS ?ra3
    case ya3 => (intro w0 hS0; (try simp only [] at hS0); obtain ⟨hS0_0, hS0_1⟩ := hS0; obtain ⟨q0_0, q0_1, q0_2, q0_3, q0_4, q0_5, q0_6, q0_7⟩ := hS0_0.c8; obtain ⟨q1_0, q1_1, q1_2, q1_3, q1_4, q1_5, q1_6, q1_7, q1_8, q1_9, q1_10, q1_11, q1_12, q1_13, q1_14⟩ := hS0_1.c15; go_simp; try with_reducible rfl)
    try simp only [yA, yB, yC, Act.put, yD, yE, yF]
    refine wpAnyH_take (i := 3) (v := ?va4) rfl (by kernel_rfl) (by kernel_rfl) (by kernel_rfl) (fun _ _ _ h => h) (Or.inl ⟨by rfl, ?ya4⟩) hS ?ra4
    case ya4 => (intro w0 _; go_simp; try with_reducible rfl)
    try simp only [yA, yB, yC, Act.put, yD, yE, yF]
    refine wpAnyH_take (i := 4) (v := ?va5) rfl (by kernel_rfl) (by kernel_rfl) (by kernel_rfl) (fun _ _ _ h => h) (Or.inl ⟨by rfl, ?ya5⟩) hS ?ra5
    case ya5 => (intro w0 hS0; (try simp only [] at hS0); obtain ⟨hS0_0, hS0_1⟩ := hS0; obtain ⟨q0_0, q0_1, q0_2, q0_3, q0_4, q0_5, q0_6, q0_7⟩ := hS0_0.c8; obtain ⟨q1_0, q1_1, q1_2, q1_3, q1_4, q1_5, q1_6, q1_7, q1_8, q1_9, q1_10, q1_11, q1_12, q1_13, q1_14⟩ := hS0_1.c15; go_simp; try with_reducible rfl)
    try simp only [yA, yB, yC, Act.put, yD, yE, yF]
    refine wpAnyH_ready (rs := [5]) (by kernel_rfl) (by simp) (AllReadyH.cons (i := 5) rfl (fun K hK => ?_) AllReadyH.nil)
    go_simp
    refine (cell_c _ s _ _ _ _ (HR.out.grown (gr_drew (gr_refl _ none))) r.cell false hk).mono ?_
    rintro e0 w1 ⟨rfl, hg1⟩
    replace HB := As.mk (HB.out.drew.grown hg1 (by simp))
    replace HT := As.mk (HT.out.drew.grown hg1 (by simp))
    replace HO := As.mk (HO.out.drew.grown hg1)
    replace HR := As.mk ((HR.out.grown (gr_drew (gr_refl _ none))).grown hg1)
    replace HG := As.mk (gr_then (gr_drew HG.out) hg1 (.inl rfl))
    replace HK := As.mk (HK.out.trans (.none (gr_then (gr_drew (gr_refl _ none)) hg1 (.inl rfl))))
    clear hg1
    go_simp
    refine hK.out _ _ (⟨HB.out, HT.out⟩) (fun hS => ?_)
    clear hK K
    try simp only [yA, yB, yC, Act.put, yD, yE, yF]
    refine wpAnyH_take (i := 6) (v := ?va7) rfl (by kernel_rfl) (by kernel_rfl) (by kernel_rfl) (fun _ _ _ h => h) (Or.inl ⟨by rfl, ?ya7⟩) hS ?ra7
    case ya7 => (intro w0 _; go_simp; try with_reducible rfl)
    try simp only [yA, yB, yC, Act.put, yD, yE, yF]
    refine wpAnyH_take (i := 7) (v := ?va8) rfl (by kernel_rfl) (by kernel_rfl) (by kernel_rfl) (fun _ _ _ h => h) (Or.inl ⟨by rfl, ?ya8⟩) hS ?ra8
    case ya8 => (intro w0 _; go_simp; try with_reducible rfl)
    try simp only [yA, yB, yC, Act.put, yD, yE, yF]
    refine wpAnyH_take (i := 8) (v := undef) rfl (by kernel_rfl) (by kernel_rfl) (by kernel_rfl) (fun _ _ _ h => h) (Or.inr ⟨by kernel_rfl, rfl⟩) hS ?_
    try simp only [yA, yB, yC, Act.put, yD, yE, yF]
    refine wpAnyH_take (i := 9) (v := undef) rfl (by kernel_rfl) (by kernel_rfl) (by kernel_rfl) (fun _ _ _ h => h) (Or.inr ⟨by kernel_rfl, rfl⟩) hS ?_
    try simp only [yA, yB, yC, Act.put, yD, yE, yF]
    refine wpAnyH_take (i := 10) (v := undef) rfl (by kernel_rfl) (by kernel_rfl) (by kernel_rfl) (fun _ _ _ h => h) (Or.inr ⟨by kernel_rfl, rfl⟩) hS ?_
    try simp only [yA, yB, yC, Act.put, yD, yE, yF]
    refine wpAnyH_take (i := 11) (v := undef) rfl (by kernel_rfl) (by kernel_rfl) (by kernel_rfl) (fun _ _ _ h => h) (Or.inr ⟨by kernel_rfl, rfl⟩) hS ?_
    try simp only [yA, yB, yC, Act.put, yD, yE, yF]
    refine wpAnyH_take (i := 12) (v := undef) rfl (by kernel_rfl) (by kernel_rfl) (by kernel_rfl) (fun _ _ _ h => h) (Or.inr ⟨by kernel_rfl, rfl⟩) hS ?_
    try simp only [yA, yB, yC, Act.put, yD, yE, yF]
    refine wpAnyH_take (i := 13) (v := undef) rfl (by kernel_rfl) (by kernel_rfl) (by kernel_rfl) (fun _ _ _ h => h) (Or.inr ⟨by kernel_rfl, rfl⟩) hS ?_
    try simp only [yA, yB, yC, Act.put, yD, yE, yF]
    refine wpAnyH_take (i := 14) (v := undef) rfl (by kernel_rfl) (by kernel_rfl) (by kernel_rfl) (fun _ _ _ h => h) (Or.inr ⟨by kernel_rfl, rfl⟩) hS ?_
    try simp only [yA, yB, yC, Act.put, yD, yE, yF]
    refine wpAnyH_take (i := 15) (v := ?va16) rfl (by kernel_rfl) (by kernel_rfl) (by kernel_rfl) (fun _ _ _ h => h) (Or.inl ⟨by rfl, ?ya16⟩) hS ?ra16
    case ya16 => (intro w0 _; go_simp; try with_reducible rfl)
    try simp only [yA, yB, yC, Act.put, yD, yE, yF]
    refine wpAnyH_take (i := 16) (v := ?va17) rfl (by kernel_rfl) (by kernel_rfl) (by kernel_rfl) (fun _ _ _ h => h) (Or.inl ⟨by rfl, ?ya17⟩) hS ?ra17
    case ya17 => (intro w0 _; go_simp; try with_reducible rfl)
    try simp only [yA, yB, yC, Act.put, yD, yE, yF]
    refine wpAnyH_take (i := 17) (v := undef) rfl (by kernel_rfl) (by kernel_rfl) (by kernel_rfl) (fun _ _ _ h => h) (Or.inr ⟨by kernel_rfl, rfl⟩) hS ?_
    try simp only [yA, yB, yC, Act.put, yD, yE, yF]
    refine wpAnyH_take (i := 18) (v := undef) rfl (by kernel_rfl) (by kernel_rfl) (by kernel_rfl) (fun _ _ _ h => h) (Or.inr ⟨by kernel_rfl, rfl⟩) hS ?_
    try simp only [yA, yB, yC, Act.put, yD, yE, yF]
    refine wpAnyH_take (i := 19) (v := undef) rfl (by kernel_rfl) (by kernel_rfl) (by kernel_rfl) (fun _ _ _ h => h) (Or.inr ⟨by kernel_rfl, rfl⟩) hS ?_
    try simp only [yA, yB, yC, Act.put, yD, yE, yF]
    refine wpAnyH_take (i := 20) (v := undef) rfl (by kernel_rfl) (by kernel_rfl) (by kernel_rfl) (fun _ _ _ h => h) (Or.inr ⟨by kernel_rfl, rfl⟩) hS ?_
    try simp only [yA, yB, yC, Act.put, yD, yE, yF]
    refine wpAnyH_take (i := 21) (v := undef) rfl (by kernel_rfl) (by kernel_rfl) (by kernel_rfl) (fun _ _ _ h => h) (Or.inr ⟨by kernel_rfl, rfl⟩) hS ?_
    try simp only [yA, yB, yC, Act.put, yD, yE, yF]
    refine wpAnyH_take (i := 22) (v := undef) rfl (by kernel_rfl) (by kernel_rfl) (by kernel_rfl) (fun _ _ _ h => h) (Or.inr ⟨by kernel_rfl, rfl⟩) hS ?_
    try simp only [yA, yB, yC, Act.put, yD, yE, yF]
    refine wpAnyH_take (i := 23) (v := undef) rfl (by kernel_rfl) (by kernel_rfl) (by kernel_rfl) (fun _ _ _ h => h) (Or.inr ⟨by kernel_rfl, rfl⟩) hS ?_
    try simp only [yA, yB, yC, Act.put, yD, yE, yF]
    refine wpAnyH_take (i := 24) (v := ?va25) rfl (by kernel_rfl) (by kernel_rfl) (by kernel_rfl) (fun _ _ _ h => h) (Or.inl ⟨by rfl, ?ya25⟩) hS ?ra25
    case ya25 => (intro w0 _; go_simp; try with_reducible rfl)
    try simp only [yA, yB, yC, Act.put, yD, yE, yF]
    refine wpAnyH_take (i := 25) (v := ?va26) rfl (by kernel_rfl) (by kernel_rfl) (by kernel_rfl) (fun _ _ _ h => h) (Or.inl ⟨by rfl, ?ya26⟩) hS ?ra26
    case ya26 => (intro w0 _; go_simp; try with_reducible rfl)
    try simp only [yA, yB, yC, Act.put, yD, yE, yF]
    refine wpAnyH_done (by kernel_rfl) ?_ _
    refine NoPanic.normal ?_
    try simp only [Exit.then]
    clear hS
    go_wp2_with fail
    go_ret
    exact MutPost.of HE.out HG.out HK.out HO.out
  · by_cases hn : s.nodes < r.node
    · have HE := As.mk (show outE s r = (1, s) by unfold outE; rw [if_neg (by rw [hk]; simp), if_pos hn])
      refine wp_region_noPanic ?_
      refine wp_region_held_drew (S := fun w' => Blk w' sb 32 #[.int .i64 s.node, .int .i64 s.nodes, .int .i64 s.cells, .int .i64 s.epoch, .slice A1 s.places.length c1, .slice A2 s.prepared.length c2, .slice A3 s.decided.length c3, .slice A4 s.commits.length c4] ∧ Blk w' gt 43 #[.int .i64 r.kind, .int .i64 r.tid.n, .int .i64 r.tid.e, .int .i64 r.tid.s, .slice AI r.items.length cI, .slice AN r.nodes.length cN, .int .i64 r.node, .int .i64 r.count, .int .i64 r.num, .int .i64 r.cell, .int .i64 r.st, .int .i64 r.hop, .int .i64 r.ver, .int .i64 r.val, .bool r.yes]) (by kernel_rfl) (⟨HB.out.drew, HT.out.drew⟩) (fun hS => ?_)
      refine wpAnyH_take (i := 0) (v := ?vb1) rfl (by kernel_rfl) (by kernel_rfl) (by kernel_rfl) (fun _ _ _ h => h) (Or.inl ⟨by rfl, ?yb1⟩) hS ?rb1
      case yb1 => (intro w0 _; go_simp; try with_reducible rfl)
      try simp only [yA, yB, yC, Act.put, yD, yE, yF]
      refine wpAnyH_take (i := 1) (v := ?vb2) rfl (by kernel_rfl) (by kernel_rfl) (by kernel_rfl) (fun _ _ _ h => h) (Or.inl ⟨by rfl, ?yb2⟩) hS ?rb2
      case yb2 => (intro w0 _; go_simp; try with_reducible rfl)
      try simp only [yA, yB, yC, Act.put, yD, yE, yF]
      refine wpAnyH_take (i := 2) (v := ?vb3) rfl (by kernel_rfl) (by kernel_rfl) (by kernel_rfl) (fun _ _ _ h => h) (Or.inl ⟨by rfl, ?yb3⟩) hS ?rb3
      case yb3 => (intro w0 hS0; (try simp only [] at hS0); obtain ⟨hS0_0, hS0_1⟩ := hS0; obtain ⟨q0_0, q0_1, q0_2, q0_3, q0_4, q0_5, q0_6, q0_7⟩ := hS0_0.c8; obtain ⟨q1_0, q1_1, q1_2, q1_3, q1_4, q1_5, q1_6, q1_7, q1_8, q1_9, q1_10, q1_11, q1_12, q1_13, q1_14⟩ := hS0_1.c15; go_simp; try with_reducible rfl)
      try simp only [yA, yB, yC, Act.put, yD, yE, yF]
      refine wpAnyH_take (i := 3) (v := ?vb4) rfl (by kernel_rfl) (by kernel_rfl) (by kernel_rfl) (fun _ _ _ h => h) (Or.inl ⟨by rfl, ?yb4⟩) hS ?rb4
      case yb4 => (intro w0 _; go_simp; try with_reducible rfl)
      try simp only [yA, yB, yC, Act.put, yD, yE, yF]
      refine wpAnyH_take (i := 4) (v := ?vb5) rfl (by kernel_rfl) (by kernel_rfl) (by kernel_rfl) (fun _ _ _ h => h) (Or.inl ⟨by rfl, ?yb5⟩) hS ?rb5
      case yb5 => (intro w0 hS0; (try simp only [] at hS0); obtain ⟨hS0_0, hS0_1⟩ := hS0; obtain ⟨q0_0, q0_1, q0_2, q0_3, q0_4, q0_5, q0_6, q0_7⟩ := hS0_0.c8; obtain ⟨q1_0, q1_1, q1_2, q1_3, q1_4, q1_5, q1_6, q1_7, q1_8, q1_9, q1_10, q1_11, q1_12, q1_13, q1_14⟩ := hS0_1.c15; go_simp; try with_reducible rfl)
      try simp only [yA, yB, yC, Act.put, yD, yE, yF]
      refine wpAnyH_ready (rs := [5]) (by kernel_rfl) (by simp) (AllReadyH.cons (i := 5) rfl (fun K hK => ?_) AllReadyH.nil)
      go_simp
      refine (cell_c _ s _ _ _ _ (HR.out.grown (gr_drew (gr_refl _ none))) r.cell true hk).mono ?_
      rintro e0 w1 ⟨rfl, hg1⟩
      replace HB := As.mk (HB.out.drew.grown hg1 (by simp))
      replace HT := As.mk (HT.out.drew.grown hg1 (by simp))
      replace HO := As.mk (HO.out.drew.grown hg1)
      replace HR := As.mk ((HR.out.grown (gr_drew (gr_refl _ none))).grown hg1)
      replace HG := As.mk (gr_then (gr_drew HG.out) hg1 (.inl rfl))
      replace HK := As.mk (HK.out.trans (.none (gr_then (gr_drew (gr_refl _ none)) hg1 (.inl rfl))))
      clear hg1
      go_simp
      refine hK.out _ _ (⟨HB.out, HT.out⟩) (fun hS => ?_)
      clear hK K
      try simp only [yA, yB, yC, Act.put, yD, yE, yF]
      refine wpAnyH_take (i := 6) (v := ?vb7) rfl (by kernel_rfl) (by kernel_rfl) (by kernel_rfl) (fun _ _ _ h => h) (Or.inl ⟨by rfl, ?yb7⟩) hS ?rb7
      case yb7 => (intro w0 _; go_simp; try with_reducible rfl)
      try simp only [yA, yB, yC, Act.put, yD, yE, yF]
      refine wpAnyH_take (i := 7) (v := ?vb8) rfl (by kernel_rfl) (by kernel_rfl) (by kernel_rfl) (fun _ _ _ h => h) (Or.inl ⟨by rfl, ?yb8⟩) hS ?rb8
      case yb8 => (intro w0 _; go_simp; try with_reducible rfl)
      try simp only [yA, yB, yC, Act.put, yD, yE, yF]
      refine wpAnyH_take (i := 8) (v := ?vb9) rfl (by kernel_rfl) (by kernel_rfl) (by kernel_rfl) (fun _ _ _ h => h) (Or.inl ⟨by rfl, ?yb9⟩) hS ?rb9
      case yb9 => (intro w0 _; go_simp; try with_reducible rfl)
      try simp only [yA, yB, yC, Act.put, yD, yE, yF]
      refine wpAnyH_take (i := 9) (v := ?vb10) rfl (by kernel_rfl) (by kernel_rfl) (by kernel_rfl) (fun _ _ _ h => h) (Or.inl ⟨by rfl, ?yb10⟩) hS ?rb10
      case yb10 => (intro w0 hS0; (try simp only [] at hS0); obtain ⟨hS0_0, hS0_1⟩ := hS0; obtain ⟨q0_0, q0_1, q0_2, q0_3, q0_4, q0_5, q0_6, q0_7⟩ := hS0_0.c8; obtain ⟨q1_0, q1_1, q1_2, q1_3, q1_4, q1_5, q1_6, q1_7, q1_8, q1_9, q1_10, q1_11, q1_12, q1_13, q1_14⟩ := hS0_1.c15; go_simp; try with_reducible rfl)
      try simp only [yA, yB, yC, Act.put, yD, yE, yF]
      refine wpAnyH_take (i := 10) (v := ?vb11) rfl (by kernel_rfl) (by kernel_rfl) (by kernel_rfl) (fun _ _ _ h => h) (Or.inl ⟨by rfl, ?yb11⟩) hS ?rb11
      case yb11 => (intro w0 _; go_simp; try with_reducible rfl)
      try simp only [yA, yB, yC, Act.put, yD, yE, yF]
      refine wpAnyH_take (i := 11) (v := ?vb12) rfl (by kernel_rfl) (by kernel_rfl) (by kernel_rfl) (fun _ _ _ h => h) (Or.inl ⟨by rfl, ?yb12⟩) hS ?rb12
      case yb12 => (intro w0 _; go_simp; try with_reducible rfl)
      try simp only [yA, yB, yC, Act.put, yD, yE, yF]
      refine wpAnyH_take (i := 12) (v := ?vb13) rfl (by kernel_rfl) (by kernel_rfl) (by kernel_rfl) (fun _ _ _ h => h) (Or.inl ⟨by rfl, ?yb13⟩) hS ?rb13
      case yb13 => (intro w0 _; go_simp; try with_reducible rfl)
      try simp only [yA, yB, yC, Act.put, yD, yE, yF]
      refine wpAnyH_take (i := 13) (v := ?vb14) rfl (by kernel_rfl) (by kernel_rfl) (by kernel_rfl) (fun _ _ _ h => h) (Or.inl ⟨by rfl, ?yb14⟩) hS ?rb14
      case yb14 => (intro w0 hS0; (try simp only [] at hS0); obtain ⟨hS0_0, hS0_1⟩ := hS0; obtain ⟨q0_0, q0_1, q0_2, q0_3, q0_4, q0_5, q0_6, q0_7⟩ := hS0_0.c8; obtain ⟨q1_0, q1_1, q1_2, q1_3, q1_4, q1_5, q1_6, q1_7, q1_8, q1_9, q1_10, q1_11, q1_12, q1_13, q1_14⟩ := hS0_1.c15; go_simp; try with_reducible rfl)
      try simp only [yA, yB, yC, Act.put, yD, yE, yF]
      refine wpAnyH_take (i := 14) (v := ?vb15) rfl (by kernel_rfl) (by kernel_rfl) (by kernel_rfl) (fun _ _ _ h => h) (Or.inl ⟨by rfl, ?yb15⟩) hS ?rb15
      case yb15 => (intro w0 _; go_simp; try with_reducible rfl)
      try simp only [yA, yB, yC, Act.put, yD, yE, yF]
      refine wpAnyH_take (i := 15) (v := ?vb16) rfl (by kernel_rfl) (by kernel_rfl) (by kernel_rfl) (fun _ _ _ h => h) (Or.inl ⟨by rfl, ?yb16⟩) hS ?rb16
      case yb16 => (intro w0 _; go_simp; try with_reducible rfl)
      try simp only [yA, yB, yC, Act.put, yD, yE, yF]
      refine wpAnyH_take (i := 16) (v := ?vb17) rfl (by kernel_rfl) (by kernel_rfl) (by kernel_rfl) (fun _ _ _ h => h) (Or.inl ⟨by rfl, ?yb17⟩) hS ?rb17
      case yb17 => (intro w0 _; go_simp; try with_reducible rfl)
      try simp only [yA, yB, yC, Act.put, yD, yE, yF]
      refine wpAnyH_take (i := 17) (v := undef) rfl (by kernel_rfl) (by kernel_rfl) (by kernel_rfl) (fun _ _ _ h => h) (Or.inr ⟨by kernel_rfl, rfl⟩) hS ?_
      try simp only [yA, yB, yC, Act.put, yD, yE, yF]
      refine wpAnyH_take (i := 18) (v := undef) rfl (by kernel_rfl) (by kernel_rfl) (by kernel_rfl) (fun _ _ _ h => h) (Or.inr ⟨by kernel_rfl, rfl⟩) hS ?_
      try simp only [yA, yB, yC, Act.put, yD, yE, yF]
      refine wpAnyH_take (i := 19) (v := undef) rfl (by kernel_rfl) (by kernel_rfl) (by kernel_rfl) (fun _ _ _ h => h) (Or.inr ⟨by kernel_rfl, rfl⟩) hS ?_
      try simp only [yA, yB, yC, Act.put, yD, yE, yF]
      refine wpAnyH_take (i := 20) (v := undef) rfl (by kernel_rfl) (by kernel_rfl) (by kernel_rfl) (fun _ _ _ h => h) (Or.inr ⟨by kernel_rfl, rfl⟩) hS ?_
      try simp only [yA, yB, yC, Act.put, yD, yE, yF]
      refine wpAnyH_take (i := 21) (v := undef) rfl (by kernel_rfl) (by kernel_rfl) (by kernel_rfl) (fun _ _ _ h => h) (Or.inr ⟨by kernel_rfl, rfl⟩) hS ?_
      try simp only [yA, yB, yC, Act.put, yD, yE, yF]
      refine wpAnyH_take (i := 22) (v := undef) rfl (by kernel_rfl) (by kernel_rfl) (by kernel_rfl) (fun _ _ _ h => h) (Or.inr ⟨by kernel_rfl, rfl⟩) hS ?_
      try simp only [yA, yB, yC, Act.put, yD, yE, yF]
      refine wpAnyH_take (i := 23) (v := undef) rfl (by kernel_rfl) (by kernel_rfl) (by kernel_rfl) (fun _ _ _ h => h) (Or.inr ⟨by kernel_rfl, rfl⟩) hS ?_
      try simp only [yA, yB, yC, Act.put, yD, yE, yF]
      refine wpAnyH_take (i := 24) (v := ?vb25) rfl (by kernel_rfl) (by kernel_rfl) (by kernel_rfl) (fun _ _ _ h => h) (Or.inl ⟨by rfl, ?yb25⟩) hS ?rb25
      case yb25 => (intro w0 _; go_simp; try with_reducible rfl)
      try simp only [yA, yB, yC, Act.put, yD, yE, yF]
      refine wpAnyH_take (i := 25) (v := ?vb26) rfl (by kernel_rfl) (by kernel_rfl) (by kernel_rfl) (fun _ _ _ h => h) (Or.inl ⟨by rfl, ?yb26⟩) hS ?rb26
      case yb26 => (intro w0 _; go_simp; try with_reducible rfl)
      try simp only [yA, yB, yC, Act.put, yD, yE, yF]
      refine wpAnyH_done (by kernel_rfl) ?_ _
      refine NoPanic.normal ?_
      try simp only [Exit.then]
      clear hS
      go_wp2_with fail
      go_ret
      exact MutPost.of HE.out HG.out HK.out HO.out
    · cases hm : (r.node == s.node)
      · have HE1 := As.mk (show outE s r = if ownsB s r.cell = false then (8, s) else if lockedB s r.cell = true then (12, s)
          else if (r.hop == IntKind.i64.wrap ((placeAt s r.cell).hop + 1)) = false then (10, s) else (0, setAt s r.cell (((placeAt s r.cell).setF 0 2 |>.setF 1 r.hop) |>.setF 2 r.node)) by unfold outE; rw [if_neg (by rw [hk]; simp), if_neg hn, if_neg (by rw [hm]; simp)])
        refine wp_region_noPanic ?_
        refine wp_region_held_drew (S := fun w' => Blk w' sb 32 #[.int .i64 s.node, .int .i64 s.nodes, .int .i64 s.cells, .int .i64 s.epoch, .slice A1 s.places.length c1, .slice A2 s.prepared.length c2, .slice A3 s.decided.length c3, .slice A4 s.commits.length c4] ∧ Blk w' gt 43 #[.int .i64 r.kind, .int .i64 r.tid.n, .int .i64 r.tid.e, .int .i64 r.tid.s, .slice AI r.items.length cI, .slice AN r.nodes.length cN, .int .i64 r.node, .int .i64 r.count, .int .i64 r.num, .int .i64 r.cell, .int .i64 r.st, .int .i64 r.hop, .int .i64 r.ver, .int .i64 r.val, .bool r.yes]) (by kernel_rfl) (⟨HB.out.drew, HT.out.drew⟩) (fun hS => ?_)
        refine wpAnyH_take (i := 0) (v := ?vc1) rfl (by kernel_rfl) (by kernel_rfl) (by kernel_rfl) (fun _ _ _ h => h) (Or.inl ⟨by rfl, ?yc1⟩) hS ?rc1
        case yc1 => (intro w0 _; go_simp; try with_reducible rfl)
        try simp only [yA, yB, yC, Act.put, yD, yE, yF]
        refine wpAnyH_take (i := 1) (v := ?vc2) rfl (by kernel_rfl) (by kernel_rfl) (by kernel_rfl) (fun _ _ _ h => h) (Or.inl ⟨by rfl, ?yc2⟩) hS ?rc2
        case yc2 => (intro w0 _; go_simp; try with_reducible rfl)
        try simp only [yA, yB, yC, Act.put, yD, yE, yF]
        refine wpAnyH_take (i := 2) (v := ?vc3) rfl (by kernel_rfl) (by kernel_rfl) (by kernel_rfl) (fun _ _ _ h => h) (Or.inl ⟨by rfl, ?yc3⟩) hS ?rc3
        case yc3 => (intro w0 hS0; (try simp only [] at hS0); obtain ⟨hS0_0, hS0_1⟩ := hS0; obtain ⟨q0_0, q0_1, q0_2, q0_3, q0_4, q0_5, q0_6, q0_7⟩ := hS0_0.c8; obtain ⟨q1_0, q1_1, q1_2, q1_3, q1_4, q1_5, q1_6, q1_7, q1_8, q1_9, q1_10, q1_11, q1_12, q1_13, q1_14⟩ := hS0_1.c15; go_simp; try with_reducible rfl)
        try simp only [yA, yB, yC, Act.put, yD, yE, yF]
        refine wpAnyH_take (i := 3) (v := ?vc4) rfl (by kernel_rfl) (by kernel_rfl) (by kernel_rfl) (fun _ _ _ h => h) (Or.inl ⟨by rfl, ?yc4⟩) hS ?rc4
        case yc4 => (intro w0 _; go_simp; try with_reducible rfl)
        try simp only [yA, yB, yC, Act.put, yD, yE, yF]
        refine wpAnyH_take (i := 4) (v := ?vc5) rfl (by kernel_rfl) (by kernel_rfl) (by kernel_rfl) (fun _ _ _ h => h) (Or.inl ⟨by rfl, ?yc5⟩) hS ?rc5
        case yc5 => (intro w0 hS0; (try simp only [] at hS0); obtain ⟨hS0_0, hS0_1⟩ := hS0; obtain ⟨q0_0, q0_1, q0_2, q0_3, q0_4, q0_5, q0_6, q0_7⟩ := hS0_0.c8; obtain ⟨q1_0, q1_1, q1_2, q1_3, q1_4, q1_5, q1_6, q1_7, q1_8, q1_9, q1_10, q1_11, q1_12, q1_13, q1_14⟩ := hS0_1.c15; go_simp; try with_reducible rfl)
        try simp only [yA, yB, yC, Act.put, yD, yE, yF]
        refine wpAnyH_ready (rs := [5]) (by kernel_rfl) (by simp) (AllReadyH.cons (i := 5) rfl (fun K hK => ?_) AllReadyH.nil)
        go_simp
        refine (cell_c _ s _ _ _ _ (HR.out.grown (gr_drew (gr_refl _ none))) r.cell true hk).mono ?_
        rintro e0 w1 ⟨rfl, hg1⟩
        replace HB := As.mk (HB.out.drew.grown hg1 (by simp))
        replace HT := As.mk (HT.out.drew.grown hg1 (by simp))
        replace HO := As.mk (HO.out.drew.grown hg1)
        replace HR := As.mk ((HR.out.grown (gr_drew (gr_refl _ none))).grown hg1)
        replace HG := As.mk (gr_then (gr_drew HG.out) hg1 (.inl rfl))
        replace HK := As.mk (HK.out.trans (.none (gr_then (gr_drew (gr_refl _ none)) hg1 (.inl rfl))))
        clear hg1
        go_simp
        refine hK.out _ _ (⟨HB.out, HT.out⟩) (fun hS => ?_)
        clear hK K
        try simp only [yA, yB, yC, Act.put, yD, yE, yF]
        refine wpAnyH_take (i := 6) (v := ?vc7) rfl (by kernel_rfl) (by kernel_rfl) (by kernel_rfl) (fun _ _ _ h => h) (Or.inl ⟨by rfl, ?yc7⟩) hS ?rc7
        case yc7 => (intro w0 _; go_simp; try with_reducible rfl)
        try simp only [yA, yB, yC, Act.put, yD, yE, yF]
        refine wpAnyH_take (i := 7) (v := ?vc8) rfl (by kernel_rfl) (by kernel_rfl) (by kernel_rfl) (fun _ _ _ h => h) (Or.inl ⟨by rfl, ?yc8⟩) hS ?rc8
        case yc8 => (intro w0 _; go_simp; try with_reducible rfl)
        try simp only [yA, yB, yC, Act.put, yD, yE, yF]
        refine wpAnyH_take (i := 8) (v := ?vc9) rfl (by kernel_rfl) (by kernel_rfl) (by kernel_rfl) (fun _ _ _ h => h) (Or.inl ⟨by rfl, ?yc9⟩) hS ?rc9
        case yc9 => (intro w0 _; go_simp; try with_reducible rfl)
        try simp only [yA, yB, yC, Act.put, yD, yE, yF]
        refine wpAnyH_take (i := 9) (v := ?vc10) rfl (by kernel_rfl) (by kernel_rfl) (by kernel_rfl) (fun _ _ _ h => h) (Or.inl ⟨by rfl, ?yc10⟩) hS ?rc10
        case yc10 => (intro w0 hS0; (try simp only [] at hS0); obtain ⟨hS0_0, hS0_1⟩ := hS0; obtain ⟨q0_0, q0_1, q0_2, q0_3, q0_4, q0_5, q0_6, q0_7⟩ := hS0_0.c8; obtain ⟨q1_0, q1_1, q1_2, q1_3, q1_4, q1_5, q1_6, q1_7, q1_8, q1_9, q1_10, q1_11, q1_12, q1_13, q1_14⟩ := hS0_1.c15; go_simp; try with_reducible rfl)
        try simp only [yA, yB, yC, Act.put, yD, yE, yF]
        refine wpAnyH_take (i := 10) (v := ?vc11) rfl (by kernel_rfl) (by kernel_rfl) (by kernel_rfl) (fun _ _ _ h => h) (Or.inl ⟨by rfl, ?yc11⟩) hS ?rc11
        case yc11 => (intro w0 _; go_simp; try with_reducible rfl)
        try simp only [yA, yB, yC, Act.put, yD, yE, yF]
        refine wpAnyH_take (i := 11) (v := ?vc12) rfl (by kernel_rfl) (by kernel_rfl) (by kernel_rfl) (fun _ _ _ h => h) (Or.inl ⟨by rfl, ?yc12⟩) hS ?rc12
        case yc12 => (intro w0 _; go_simp; try with_reducible rfl)
        try simp only [yA, yB, yC, Act.put, yD, yE, yF]
        refine wpAnyH_take (i := 12) (v := ?vc13) rfl (by kernel_rfl) (by kernel_rfl) (by kernel_rfl) (fun _ _ _ h => h) (Or.inl ⟨by rfl, ?yc13⟩) hS ?rc13
        case yc13 => (intro w0 _; go_simp; try with_reducible rfl)
        try simp only [yA, yB, yC, Act.put, yD, yE, yF]
        refine wpAnyH_take (i := 13) (v := ?vc14) rfl (by kernel_rfl) (by kernel_rfl) (by kernel_rfl) (fun _ _ _ h => h) (Or.inl ⟨by rfl, ?yc14⟩) hS ?rc14
        case yc14 => (intro w0 hS0; (try simp only [] at hS0); obtain ⟨hS0_0, hS0_1⟩ := hS0; obtain ⟨q0_0, q0_1, q0_2, q0_3, q0_4, q0_5, q0_6, q0_7⟩ := hS0_0.c8; obtain ⟨q1_0, q1_1, q1_2, q1_3, q1_4, q1_5, q1_6, q1_7, q1_8, q1_9, q1_10, q1_11, q1_12, q1_13, q1_14⟩ := hS0_1.c15; go_simp; try with_reducible rfl)
        try simp only [yA, yB, yC, Act.put, yD, yE, yF]
        refine wpAnyH_take (i := 14) (v := ?vc15) rfl (by kernel_rfl) (by kernel_rfl) (by kernel_rfl) (fun _ _ _ h => h) (Or.inl ⟨by rfl, ?yc15⟩) hS ?rc15
        case yc15 => (intro w0 _; go_simp; try with_reducible rfl)
        try simp only [yA, yB, yC, Act.put, yD, yE, yF]
        refine wpAnyH_take (i := 15) (v := ?vc16) rfl (by kernel_rfl) (by kernel_rfl) (by kernel_rfl) (fun _ _ _ h => h) (Or.inl ⟨by rfl, ?yc16⟩) hS ?rc16
        case yc16 => (intro w0 _; go_simp; try with_reducible rfl)
        try simp only [yA, yB, yC, Act.put, yD, yE, yF]
        refine wpAnyH_take (i := 16) (v := ?vc17) rfl (by kernel_rfl) (by kernel_rfl) (by kernel_rfl) (fun _ _ _ h => h) (Or.inl ⟨by rfl, ?yc17⟩) hS ?rc17
        case yc17 => (intro w0 _; go_simp; try with_reducible rfl)
        try simp only [yA, yB, yC, Act.put, yD, yE, yF]
        refine wpAnyH_take (i := 17) (v := ?vc18) rfl (by kernel_rfl) (by kernel_rfl) (by kernel_rfl) (fun _ _ _ h => h) (Or.inl ⟨by rfl, ?yc18⟩) hS ?rc18
        case yc18 => (intro w0 _; go_simp; try with_reducible rfl)
        try simp only [yA, yB, yC, Act.put, yD, yE, yF]
        refine wpAnyH_take (i := 18) (v := ?vc19) rfl (by kernel_rfl) (by kernel_rfl) (by kernel_rfl) (fun _ _ _ h => h) (Or.inl ⟨by rfl, ?yc19⟩) hS ?rc19
        case yc19 => (intro w0 hS0; (try simp only [] at hS0); obtain ⟨hS0_0, hS0_1⟩ := hS0; obtain ⟨q0_0, q0_1, q0_2, q0_3, q0_4, q0_5, q0_6, q0_7⟩ := hS0_0.c8; obtain ⟨q1_0, q1_1, q1_2, q1_3, q1_4, q1_5, q1_6, q1_7, q1_8, q1_9, q1_10, q1_11, q1_12, q1_13, q1_14⟩ := hS0_1.c15; go_simp; try with_reducible rfl)
        try simp only [yA, yB, yC, Act.put, yD, yE, yF]
        refine wpAnyH_take (i := 19) (v := ?vc20) rfl (by kernel_rfl) (by kernel_rfl) (by kernel_rfl) (fun _ _ _ h => h) (Or.inl ⟨by rfl, ?yc20⟩) hS ?rc20
        case yc20 => (intro w0 _; go_simp; try with_reducible rfl)
        try simp only [yA, yB, yC, Act.put, yD, yE, yF]
        refine wpAnyH_take (i := 20) (v := ?vc21) rfl (by kernel_rfl) (by kernel_rfl) (by kernel_rfl) (fun _ _ _ h => h) (Or.inl ⟨by rfl, ?yc21⟩) hS ?rc21
        case yc21 => (intro w0 _; go_simp; try with_reducible rfl)
        try simp only [yA, yB, yC, Act.put, yD, yE, yF]
        refine wpAnyH_take (i := 21) (v := ?vc22) rfl (by kernel_rfl) (by kernel_rfl) (by kernel_rfl) (fun _ _ _ h => h) (Or.inl ⟨by rfl, ?yc22⟩) hS ?rc22
        case yc22 => (intro w0 _; go_simp; try with_reducible rfl)
        try simp only [yA, yB, yC, Act.put, yD, yE, yF]
        refine wpAnyH_take (i := 22) (v := ?vc23) rfl (by kernel_rfl) (by kernel_rfl) (by kernel_rfl) (fun _ _ _ h => h) (Or.inl ⟨by rfl, ?yc23⟩) hS ?rc23
        case yc23 => (intro w0 hS0; (try simp only [] at hS0); obtain ⟨hS0_0, hS0_1⟩ := hS0; obtain ⟨q0_0, q0_1, q0_2, q0_3, q0_4, q0_5, q0_6, q0_7⟩ := hS0_0.c8; obtain ⟨q1_0, q1_1, q1_2, q1_3, q1_4, q1_5, q1_6, q1_7, q1_8, q1_9, q1_10, q1_11, q1_12, q1_13, q1_14⟩ := hS0_1.c15; go_simp; try with_reducible rfl)
        try simp only [yA, yB, yC, Act.put, yD, yE, yF]
        refine wpAnyH_take (i := 23) (v := ?vc24) rfl (by kernel_rfl) (by kernel_rfl) (by kernel_rfl) (fun _ _ _ h => h) (Or.inl ⟨by rfl, ?yc24⟩) hS ?rc24
        case yc24 => (intro w0 _; go_simp; try with_reducible rfl)
        try simp only [yA, yB, yC, Act.put, yD, yE, yF]
        refine wpAnyH_take (i := 24) (v := ?vc25) rfl (by kernel_rfl) (by kernel_rfl) (by kernel_rfl) (fun _ _ _ h => h) (Or.inl ⟨by rfl, ?yc25⟩) hS ?rc25
        case yc25 => (intro w0 _; go_simp; try with_reducible rfl)
        try simp only [yA, yB, yC, Act.put, yD, yE, yF]
        refine wpAnyH_take (i := 25) (v := ?vc26) rfl (by kernel_rfl) (by kernel_rfl) (by kernel_rfl) (fun _ _ _ h => h) (Or.inl ⟨by rfl, ?yc26⟩) hS ?rc26
        case yc26 => (intro w0 _; go_simp; try with_reducible rfl)
        try simp only [yA, yB, yC, Act.put, yD, yE, yF]
        refine wpAnyH_done (by kernel_rfl) ?_ _
        refine NoPanic.normal ?_
        try simp only [Exit.then]
        clear hS
        go_wp2_with fail
        refine wp_region_noPanic ?_
        refine wp_region_held_drew (S := fun w' => Blk w' sb 32 #[.int .i64 s.node, .int .i64 s.nodes, .int .i64 s.cells, .int .i64 s.epoch, .slice A1 s.places.length c1, .slice A2 s.prepared.length c2, .slice A3 s.decided.length c3, .slice A4 s.commits.length c4] ∧ Blk w' gt 43 #[.int .i64 r.kind, .int .i64 r.tid.n, .int .i64 r.tid.e, .int .i64 r.tid.s, .slice AI r.items.length cI, .slice AN r.nodes.length cN, .int .i64 r.node, .int .i64 r.count, .int .i64 r.num, .int .i64 r.cell, .int .i64 r.st, .int .i64 r.hop, .int .i64 r.ver, .int .i64 r.val, .bool r.yes]) (by kernel_rfl) (⟨HB.out.drew, HT.out.drew⟩) (fun hS => ?_)
        refine wpAnyH_take (i := 0) (v := ?ve1) rfl (by kernel_rfl) (by kernel_rfl) (by kernel_rfl) (fun _ _ _ h => h) (Or.inl ⟨by rfl, ?ye1⟩) hS ?re1
        case ye1 => (intro w0 _; go_simp; try with_reducible rfl)
        try simp only [yA, yB, yC, Act.put, yD, yE, yF]
        refine wpAnyH_take (i := 1) (v := ?ve2) rfl (by kernel_rfl) (by kernel_rfl) (by kernel_rfl) (fun _ _ _ h => h) (Or.inl ⟨by rfl, ?ye2⟩) hS ?re2
        case ye2 => (intro w0 _; go_simp; try with_reducible rfl)
        try simp only [yA, yB, yC, Act.put, yD, yE, yF]
        refine wpAnyH_take (i := 2) (v := ?ve3) rfl (by kernel_rfl) (by kernel_rfl) (by kernel_rfl) (fun _ _ _ h => h) (Or.inl ⟨by rfl, ?ye3⟩) hS ?re3
        case ye3 => (intro w0 hS0; (try simp only [] at hS0); obtain ⟨hS0_0, hS0_1⟩ := hS0; obtain ⟨q0_0, q0_1, q0_2, q0_3, q0_4, q0_5, q0_6, q0_7⟩ := hS0_0.c8; obtain ⟨q1_0, q1_1, q1_2, q1_3, q1_4, q1_5, q1_6, q1_7, q1_8, q1_9, q1_10, q1_11, q1_12, q1_13, q1_14⟩ := hS0_1.c15; go_simp; try with_reducible rfl)
        try simp only [yA, yB, yC, Act.put, yD, yE, yF]
        refine wpAnyH_take (i := 3) (v := ?ve4) rfl (by kernel_rfl) (by kernel_rfl) (by kernel_rfl) (fun _ _ _ h => h) (Or.inl ⟨by rfl, ?ye4⟩) hS ?re4
        case ye4 => (intro w0 _; go_simp; try with_reducible rfl)
        try simp only [yA, yB, yC, Act.put, yD, yE, yF]
        refine wpAnyH_take (i := 4) (v := ?ve5) rfl (by kernel_rfl) (by kernel_rfl) (by kernel_rfl) (fun _ _ _ h => h) (Or.inl ⟨by rfl, ?ye5⟩) hS ?re5
        case ye5 => (intro w0 hS0; (try simp only [] at hS0); obtain ⟨hS0_0, hS0_1⟩ := hS0; obtain ⟨q0_0, q0_1, q0_2, q0_3, q0_4, q0_5, q0_6, q0_7⟩ := hS0_0.c8; obtain ⟨q1_0, q1_1, q1_2, q1_3, q1_4, q1_5, q1_6, q1_7, q1_8, q1_9, q1_10, q1_11, q1_12, q1_13, q1_14⟩ := hS0_1.c15; go_simp; try with_reducible rfl)
        try simp only [yA, yB, yC, Act.put, yD, yE, yF]
        refine wpAnyH_ready (rs := [5]) (by kernel_rfl) (by simp) (AllReadyH.cons (i := 5) rfl (fun K hK => ?_) AllReadyH.nil)
        go_simp
        refine (owns_c _ s _ _ _ _ (HR.out.grown (gr_drew (gr_refl _ none))) r.cell _ rfl).mono ?_
        rintro e0 w1 ⟨rfl, hg1⟩
        replace HB := As.mk (HB.out.drew.grown hg1 (by simp))
        replace HT := As.mk (HT.out.drew.grown hg1 (by simp))
        replace HO := As.mk (HO.out.drew.grown hg1)
        replace HR := As.mk ((HR.out.grown (gr_drew (gr_refl _ none))).grown hg1)
        replace HG := As.mk (gr_then (gr_drew HG.out) hg1 (.inl rfl))
        replace HK := As.mk (HK.out.trans (.none (gr_then (gr_drew (gr_refl _ none)) hg1 (.inl rfl))))
        clear hg1
        go_simp
        refine hK.out _ _ (⟨HB.out, HT.out⟩) (fun hS => ?_)
        clear hK K
        try simp only [yA, yB, yC, Act.put, yD, yE, yF]
        refine wpAnyH_take (i := 6) (v := ?ve7) rfl (by kernel_rfl) (by kernel_rfl) (by kernel_rfl) (fun _ _ _ h => h) (Or.inl ⟨by rfl, ?ye7⟩) hS ?re7
        case ye7 => (intro w0 _; go_simp; try with_reducible rfl)
        try simp only [yA, yB, yC, Act.put, yD, yE, yF]
        refine wpAnyH_take (i := 7) (v := ?ve8) rfl (by kernel_rfl) (by kernel_rfl) (by kernel_rfl) (fun _ _ _ h => h) (Or.inl ⟨by rfl, ?ye8⟩) hS ?re8
        case ye8 => (intro w0 _; go_simp; try with_reducible rfl)
        try simp only [yA, yB, yC, Act.put, yD, yE, yF]
        refine wpAnyH_done (by kernel_rfl) ?_ _
        refine NoPanic.normal ?_
        try simp only [Exit.then]
        clear hS
        cases hy : ownsB s r.cell
        · have HE := As.mk (HE1.out.trans (if_pos hy))
          go_wp2_with fail
          go_ret
          exact MutPost.of HE.out HG.out HK.out HO.out
        · rw [if_neg (by rw [hy]; simp)] at HE1
          go_wp2_with fail
          refine wp_region_noPanic ?_
          refine wp_region_held_drew (S := fun w' => Blk w' sb 32 #[.int .i64 s.node, .int .i64 s.nodes, .int .i64 s.cells, .int .i64 s.epoch, .slice A1 s.places.length c1, .slice A2 s.prepared.length c2, .slice A3 s.decided.length c3, .slice A4 s.commits.length c4] ∧ Blk w' gt 43 #[.int .i64 r.kind, .int .i64 r.tid.n, .int .i64 r.tid.e, .int .i64 r.tid.s, .slice AI r.items.length cI, .slice AN r.nodes.length cN, .int .i64 r.node, .int .i64 r.count, .int .i64 r.num, .int .i64 r.cell, .int .i64 r.st, .int .i64 r.hop, .int .i64 r.ver, .int .i64 r.val, .bool r.yes]) (by kernel_rfl) (⟨HB.out.drew, HT.out.drew⟩) (fun hS => ?_)
          refine wpAnyH_take (i := 0) (v := ?vf1) rfl (by kernel_rfl) (by kernel_rfl) (by kernel_rfl) (fun _ _ _ h => h) (Or.inl ⟨by rfl, ?yf1⟩) hS ?rf1
          case yf1 => (intro w0 _; go_simp; try with_reducible rfl)
          try simp only [yA, yB, yC, Act.put, yD, yE, yF]
          refine wpAnyH_take (i := 1) (v := ?vf2) rfl (by kernel_rfl) (by kernel_rfl) (by kernel_rfl) (fun _ _ _ h => h) (Or.inl ⟨by rfl, ?yf2⟩) hS ?rf2
          case yf2 => (intro w0 _; go_simp; try with_reducible rfl)
          try simp only [yA, yB, yC, Act.put, yD, yE, yF]
          refine wpAnyH_take (i := 2) (v := ?vf3) rfl (by kernel_rfl) (by kernel_rfl) (by kernel_rfl) (fun _ _ _ h => h) (Or.inl ⟨by rfl, ?yf3⟩) hS ?rf3
          case yf3 => (intro w0 hS0; (try simp only [] at hS0); obtain ⟨hS0_0, hS0_1⟩ := hS0; obtain ⟨q0_0, q0_1, q0_2, q0_3, q0_4, q0_5, q0_6, q0_7⟩ := hS0_0.c8; obtain ⟨q1_0, q1_1, q1_2, q1_3, q1_4, q1_5, q1_6, q1_7, q1_8, q1_9, q1_10, q1_11, q1_12, q1_13, q1_14⟩ := hS0_1.c15; go_simp; try with_reducible rfl)
          try simp only [yA, yB, yC, Act.put, yD, yE, yF]
          refine wpAnyH_take (i := 3) (v := ?vf4) rfl (by kernel_rfl) (by kernel_rfl) (by kernel_rfl) (fun _ _ _ h => h) (Or.inl ⟨by rfl, ?yf4⟩) hS ?rf4
          case yf4 => (intro w0 _; go_simp; try with_reducible rfl)
          try simp only [yA, yB, yC, Act.put, yD, yE, yF]
          refine wpAnyH_take (i := 4) (v := ?vf5) rfl (by kernel_rfl) (by kernel_rfl) (by kernel_rfl) (fun _ _ _ h => h) (Or.inl ⟨by rfl, ?yf5⟩) hS ?rf5
          case yf5 => (intro w0 hS0; (try simp only [] at hS0); obtain ⟨hS0_0, hS0_1⟩ := hS0; obtain ⟨q0_0, q0_1, q0_2, q0_3, q0_4, q0_5, q0_6, q0_7⟩ := hS0_0.c8; obtain ⟨q1_0, q1_1, q1_2, q1_3, q1_4, q1_5, q1_6, q1_7, q1_8, q1_9, q1_10, q1_11, q1_12, q1_13, q1_14⟩ := hS0_1.c15; go_simp; try with_reducible rfl)
          try simp only [yA, yB, yC, Act.put, yD, yE, yF]
          refine wpAnyH_ready (rs := [5]) (by kernel_rfl) (by simp) (AllReadyH.cons (i := 5) rfl (fun K hK => ?_) AllReadyH.nil)
          go_simp
          refine (locked_c _ s _ _ _ _ (HR.out.grown (gr_drew (gr_refl _ none))) r.cell _ rfl).mono ?_
          rintro e0 w1 ⟨rfl, hg1⟩
          replace HB := As.mk (HB.out.drew.grown hg1 (by simp))
          replace HT := As.mk (HT.out.drew.grown hg1 (by simp))
          replace HO := As.mk (HO.out.drew.grown hg1)
          replace HR := As.mk ((HR.out.grown (gr_drew (gr_refl _ none))).grown hg1)
          replace HG := As.mk (gr_then (gr_drew HG.out) hg1 (.inl rfl))
          replace HK := As.mk (HK.out.trans (.none (gr_then (gr_drew (gr_refl _ none)) hg1 (.inl rfl))))
          clear hg1
          go_simp
          refine hK.out _ _ (⟨HB.out, HT.out⟩) (fun hS => ?_)
          clear hK K
          try simp only [yA, yB, yC, Act.put, yD, yE, yF]
          refine wpAnyH_take (i := 6) (v := ?vf7) rfl (by kernel_rfl) (by kernel_rfl) (by kernel_rfl) (fun _ _ _ h => h) (Or.inl ⟨by rfl, ?yf7⟩) hS ?rf7
          case yf7 => (intro w0 _; go_simp; try with_reducible rfl)
          try simp only [yA, yB, yC, Act.put, yD, yE, yF]
          refine wpAnyH_done (by kernel_rfl) ?_ _
          refine NoPanic.normal ?_
          try simp only [Exit.then]
          clear hS
          cases hlk : lockedB s r.cell
          · rw [if_neg (by rw [hlk]; simp)] at HE1
            go_wp2_with fail
            obtain ⟨j, hjc⟩ : ∃ j : Nat, r.cell = (j : Int) := ⟨r.cell.toNat, by unfold cellB at hk; simp only [Bool.and_eq_true, decide_eq_true_eq] at hk; omega⟩
            have hj : j < s.places.length := by unfold cellB at hk; simp only [Bool.and_eq_true, decide_eq_true_eq] at hk; omega
            have HPA := As.mk (show placeAt s r.cell = s.places[j]'hj by unfold placeAt; rw [hjc, Int.toNat_natCast, List.getElem?_eq_getElem hj])
            have hj0 : (0 : Int) ≤ (j : Int) := by omega
            have hjI : (j : Int) < (s.places.length : Int) := by omega
            have hd := HO.out
            obtain ⟨vP, vQ, vD, vC, qs, cs, hO⟩ := hd
            obtain ⟨g, cap, rfl⟩ := own_some hO.pl (by omega)
            have hle : s.places.length ≤ cap ∧ cap ≤ 9223372036854775807 := by
              obtain ⟨_, _, _, _, h1, h2⟩ := own_whole hO.pl
              exact ⟨h1, by simp only [maxLen] at h2; omega⟩
            obtain ⟨A2, c2, rfl⟩ := own_shape hO.pr
            obtain ⟨A3, c3, rfl⟩ := own_shape hO.de
            obtain ⟨A4, c4, rfl⟩ := own_shape hO.cm
            have HOO := As.mk hO
            rw [hjc] at HT
            have pc0 := (hO.atP j _ (List.getElem?_eq_getElem hj) 0 _ rfl).1
            have pc1 := (hO.atP j _ (List.getElem?_eq_getElem hj) 1 _ rfl).1
            have pc2 := (hO.atP j _ (List.getElem?_eq_getElem hj) 2 _ rfl).1
            have pc3 := (hO.atP j _ (List.getElem?_eq_getElem hj) 3 _ rfl).1
            have pc4 := (hO.atP j _ (List.getElem?_eq_getElem hj) 4 _ rfl).1
            have pf0 := (hO.atP j _ (List.getElem?_eq_getElem hj) 0 _ rfl).2
            have pf1 := (hO.atP j _ (List.getElem?_eq_getElem hj) 1 _ rfl).2
            have pf2 := (hO.atP j _ (List.getElem?_eq_getElem hj) 2 _ rfl).2
            have pf3 := (hO.atP j _ (List.getElem?_eq_getElem hj) 3 _ rfl).2
            have pf4 := (hO.atP j _ (List.getElem?_eq_getElem hj) 4 _ rfl).2
            simp only [Nat.add_zero] at pc0 pf0
            have HPC := As.mk (And.intro pc0 (And.intro pc1 (And.intro pc2 (And.intro pc3 pc4))))
            have HPF := As.mk (And.intro pf0 (And.intro pf1 (And.intro pf2 (And.intro pf3 pf4))))
            have HJ := As.mk hj
            have HPJ := As.mk (List.getElem?_eq_getElem hj)
            have HOO0 := As.mk hO
            have HG0 := As.mk HG.out
            have HT0 := As.mk HT.out
            have HK0 := As.mk HK.out
            clear hO pc0 pc1 pc2 pc3 pc4 pf0 pf1 pf2 pf3 pf4 HB HR HO
            generalize s.places[j]'hj = p at *
            rw [HPA.out] at HE1
            refine wp_region_noPanic ?_
            refine wp_region_held_drew (S := fun w' => Blk w' sb 32 #[.int .i64 s.node, .int .i64 s.nodes, .int .i64 s.cells, .int .i64 s.epoch, .slice (some ⟨g, 0, none⟩) s.places.length cap, .slice A2 qs.length c2, .slice A3 s.decided.length c3, .slice A4 cs.length c4] ∧ Blk w' gt 43 #[.int .i64 r.kind, .int .i64 r.tid.n, .int .i64 r.tid.e, .int .i64 r.tid.s, .slice AI r.items.length cI, .slice AN r.nodes.length cN, .int .i64 r.node, .int .i64 r.count, .int .i64 r.num, .int .i64 (j : Int), .int .i64 r.st, .int .i64 r.hop, .int .i64 r.ver, .int .i64 r.val, .bool r.yes] ∧ w'.cell? ⟨g, j * 5 + 1, none⟩ = some (.int .i64 p.hop)) (by kernel_rfl) (⟨HOO.out.blk.drew, HT.out.drew, HPC.out.2.1⟩) (fun hS => ?_)
            refine wpAnyH_take (i := 0) (v := ?vg1) rfl (by kernel_rfl) (by kernel_rfl) (by kernel_rfl) (fun _ _ _ h => h) (Or.inl ⟨by rfl, ?yg1⟩) hS ?rg1
            case yg1 => (intro w0 _; go_simp; try with_reducible rfl)
            try simp only [yA, yB, yC, Act.put, yD, yE, yF]
            refine wpAnyH_take (i := 1) (v := ?vg2) rfl (by kernel_rfl) (by kernel_rfl) (by kernel_rfl) (fun _ _ _ h => h) (Or.inl ⟨by rfl, ?yg2⟩) hS ?rg2
            case yg2 => (intro w0 hS0; (try simp only [] at hS0); obtain ⟨hS0_0, hS0_1, hS0_2⟩ := hS0; obtain ⟨q0_0, q0_1, q0_2, q0_3, q0_4, q0_5, q0_6, q0_7⟩ := hS0_0.c8; obtain ⟨q1_0, q1_1, q1_2, q1_3, q1_4, q1_5, q1_6, q1_7, q1_8, q1_9, q1_10, q1_11, q1_12, q1_13, q1_14⟩ := hS0_1.c15; go_simp; try with_reducible rfl)
            try simp only [yA, yB, yC, Act.put, yD, yE, yF]
            refine wpAnyH_take (i := 2) (v := ?vg3) rfl (by kernel_rfl) (by kernel_rfl) (by kernel_rfl) (fun _ _ _ h => h) (Or.inl ⟨by rfl, ?yg3⟩) hS ?rg3
            case yg3 => (intro w0 _; go_simp; try with_reducible rfl)
            try simp only [yA, yB, yC, Act.put, yD, yE, yF]
            refine wpAnyH_take (i := 3) (v := ?vg4) rfl (by kernel_rfl) (by kernel_rfl) (by kernel_rfl) (fun _ _ _ h => h) (Or.inl ⟨by rfl, ?yg4⟩) hS ?rg4
            case yg4 => (intro w0 _; go_simp; try with_reducible rfl)
            try simp only [yA, yB, yC, Act.put, yD, yE, yF]
            refine wpAnyH_take (i := 4) (v := ?vg5) rfl (by kernel_rfl) (by kernel_rfl) (by kernel_rfl) (fun _ _ _ h => h) (Or.inl ⟨by rfl, ?yg5⟩) hS ?rg5
            case yg5 => (intro w0 _; go_simp; try with_reducible rfl)
            try simp only [yA, yB, yC, Act.put, yD, yE, yF]
            refine wpAnyH_take (i := 5) (v := ?vg6) rfl (by kernel_rfl) (by kernel_rfl) (by kernel_rfl) (fun _ _ _ h => h) (Or.inl ⟨by rfl, ?yg6⟩) hS ?rg6
            case yg6 => (intro w0 hS0; (try simp only [] at hS0); obtain ⟨hS0_0, hS0_1, hS0_2⟩ := hS0; obtain ⟨q0_0, q0_1, q0_2, q0_3, q0_4, q0_5, q0_6, q0_7⟩ := hS0_0.c8; obtain ⟨q1_0, q1_1, q1_2, q1_3, q1_4, q1_5, q1_6, q1_7, q1_8, q1_9, q1_10, q1_11, q1_12, q1_13, q1_14⟩ := hS0_1.c15; go_simp; try with_reducible rfl)
            try simp only [yA, yB, yC, Act.put, yD, yE, yF]
            refine wpAnyH_take (i := 6) (v := ?vg7) rfl (by kernel_rfl) (by kernel_rfl) (by kernel_rfl) (fun _ _ _ h => h) (Or.inl ⟨by rfl, ?yg7⟩) hS ?rg7
            case yg7 => (intro w0 _; go_simp; try with_reducible rfl)
            try simp only [yA, yB, yC, Act.put, yD, yE, yF]
            refine wpAnyH_take (i := 7) (v := ?vg8) rfl (by kernel_rfl) (by kernel_rfl) (by kernel_rfl) (fun _ _ _ h => h) (Or.inl ⟨by rfl, ?yg8⟩) hS ?rg8
            case yg8 => (intro w0 hS0; (try simp only [] at hS0); obtain ⟨hS0_0, hS0_1, hS0_2⟩ := hS0; obtain ⟨q0_0, q0_1, q0_2, q0_3, q0_4, q0_5, q0_6, q0_7⟩ := hS0_0.c8; obtain ⟨q1_0, q1_1, q1_2, q1_3, q1_4, q1_5, q1_6, q1_7, q1_8, q1_9, q1_10, q1_11, q1_12, q1_13, q1_14⟩ := hS0_1.c15; go_simp; try with_reducible rfl)
            try simp only [yA, yB, yC, Act.put, yD, yE, yF]
            refine wpAnyH_take (i := 8) (v := ?vg9) rfl (by kernel_rfl) (by kernel_rfl) (by kernel_rfl) (fun _ _ _ h => h) (Or.inl ⟨by rfl, ?yg9⟩) hS ?rg9
            case yg9 => (intro w0 _; go_simp; try with_reducible rfl)
            try simp only [yA, yB, yC, Act.put, yD, yE, yF]
            refine wpAnyH_take (i := 9) (v := ?vg10) rfl (by kernel_rfl) (by kernel_rfl) (by kernel_rfl) (fun _ _ _ h => h) (Or.inl ⟨by rfl, ?yg10⟩) hS ?rg10
            case yg10 => (intro w0 _; go_simp; try with_reducible rfl)
            try simp only [yA, yB, yC, Act.put, yD, yE, yF]
            refine wpAnyH_take (i := 10) (v := ?vg11) rfl (by kernel_rfl) (by kernel_rfl) (by kernel_rfl) (fun _ _ _ h => h) (Or.inl ⟨by rfl, ?yg11⟩) hS ?rg11
            case yg11 => (intro w0 hS0; (try simp only [] at hS0); obtain ⟨hS0_0, hS0_1, hS0_2⟩ := hS0; obtain ⟨q0_0, q0_1, q0_2, q0_3, q0_4, q0_5, q0_6, q0_7⟩ := hS0_0.c8; obtain ⟨q1_0, q1_1, q1_2, q1_3, q1_4, q1_5, q1_6, q1_7, q1_8, q1_9, q1_10, q1_11, q1_12, q1_13, q1_14⟩ := hS0_1.c15; go_simp; try with_reducible rfl)
            try simp only [yA, yB, yC, Act.put, yD, yE, yF]
            refine wpAnyH_take (i := 11) (v := ?vg12) rfl (by kernel_rfl) (by kernel_rfl) (by kernel_rfl) (fun _ _ _ h => h) (Or.inl ⟨by rfl, ?yg12⟩) hS ?rg12
            case yg12 => (intro w0 _; go_simp; try with_reducible rfl)
            try simp only [yA, yB, yC, Act.put, yD, yE, yF]
            refine wpAnyH_take (i := 12) (v := ?vg13) rfl (by kernel_rfl) (by kernel_rfl) (by kernel_rfl) (fun _ _ _ h => h) (Or.inl ⟨by rfl, ?yg13⟩) hS ?rg13
            case yg13 => (intro w0 _; go_simp; try with_reducible rfl)
            try simp only [yA, yB, yC, Act.put, yD, yE, yF]
            refine wpAnyH_take (i := 13) (v := ?vg14) rfl (by kernel_rfl) (by kernel_rfl) (by kernel_rfl) (fun _ _ _ h => h) (Or.inl ⟨by rfl, ?yg14⟩) hS ?rg14
            case yg14 => (intro w0 _; go_simp; try with_reducible rfl)
            try simp only [yA, yB, yC, Act.put, yD, yE, yF]
            refine wpAnyH_done (by kernel_rfl) ?_ _
            refine NoPanic.normal ?_
            try simp only [Exit.then]
            clear hS
            replace HT := As.mk HT.out.drew
            replace HOO := As.mk HOO.out.drew
            replace HG := As.mk (gr_drew HG.out)
            replace HK := As.mk (HK.out.trans (.none (gr_drew (gr_refl _ none))))
            cases hh : (r.hop == IntKind.i64.wrap (p.hop + 1))
            · have HE := As.mk (HE1.out.trans (if_pos hh))
              go_wp2_with fail
              go_ret
              exact MutPost.of HE.out HG.out HK.out ⟨_, _, _, _, _, _, HOO.out⟩
            · have HE := As.mk (HE1.out.trans (if_neg (by rw [hh]; simp)))
              go_wp2_with fail
              refine wp_region_noPanic ?_
              refine wp_region_held_drew (S := fun w' => Blk w' sb 32 #[.int .i64 s.node, .int .i64 s.nodes, .int .i64 s.cells, .int .i64 s.epoch, .slice (some ⟨g, 0, none⟩) s.places.length cap, .slice A2 qs.length c2, .slice A3 s.decided.length c3, .slice A4 cs.length c4] ∧ Blk w' gt 43 #[.int .i64 r.kind, .int .i64 r.tid.n, .int .i64 r.tid.e, .int .i64 r.tid.s, .slice AI r.items.length cI, .slice AN r.nodes.length cN, .int .i64 r.node, .int .i64 r.count, .int .i64 r.num, .int .i64 (j : Int), .int .i64 r.st, .int .i64 r.hop, .int .i64 r.ver, .int .i64 r.val, .bool r.yes] ∧ w'.cell? ⟨g, j * 5, none⟩ = some (.int .i64 p.st)) (by kernel_rfl) (⟨HOO.out.blk.drew, HT.out.drew, HPC.out.1⟩) (fun hS => ?_)
              refine wpAnyH_take (i := 0) (v := ?vh1) rfl (by kernel_rfl) (by kernel_rfl) (by kernel_rfl) (fun _ _ _ h => h) (Or.inl ⟨by rfl, ?yh1⟩) hS ?rh1
              case yh1 => (intro w0 _; go_simp; try with_reducible rfl)
              try simp only [yA, yB, yC, Act.put, yD, yE, yF]
              refine wpAnyH_take (i := 1) (v := ?vh2) rfl (by kernel_rfl) (by kernel_rfl) (by kernel_rfl) (fun _ _ _ h => h) (Or.inl ⟨by rfl, ?yh2⟩) hS ?rh2
              case yh2 => (intro w0 _; go_simp; try with_reducible rfl)
              try simp only [yA, yB, yC, Act.put, yD, yE, yF]
              refine wpAnyH_take (i := 2) (v := ?vh3) rfl (by kernel_rfl) (by kernel_rfl) (by kernel_rfl) (fun _ _ _ h => h) (Or.inl ⟨by rfl, ?yh3⟩) hS ?rh3
              case yh3 => (intro w0 _; go_simp; try with_reducible rfl)
              try simp only [yA, yB, yC, Act.put, yD, yE, yF]
              refine wpAnyH_take (i := 3) (v := ?vh4) rfl (by kernel_rfl) (by kernel_rfl) (by kernel_rfl) (fun _ _ _ h => h) (Or.inl ⟨by rfl, ?yh4⟩) hS ?rh4
              case yh4 => (intro w0 hS0; (try simp only [] at hS0); obtain ⟨hS0_0, hS0_1, hS0_2⟩ := hS0; obtain ⟨q0_0, q0_1, q0_2, q0_3, q0_4, q0_5, q0_6, q0_7⟩ := hS0_0.c8; obtain ⟨q1_0, q1_1, q1_2, q1_3, q1_4, q1_5, q1_6, q1_7, q1_8, q1_9, q1_10, q1_11, q1_12, q1_13, q1_14⟩ := hS0_1.c15; go_simp; try with_reducible rfl)
              try simp only [yA, yB, yC, Act.put, yD, yE, yF]
              refine wpAnyH_take (i := 4) (v := ?vh5) rfl (by kernel_rfl) (by kernel_rfl) (by kernel_rfl) (fun _ _ _ h => h) (Or.inl ⟨by rfl, ?yh5⟩) hS ?rh5
              case yh5 => (intro w0 _; go_simp; try with_reducible rfl)
              try simp only [yA, yB, yC, Act.put, yD, yE, yF]
              refine wpAnyH_take (i := 5) (v := ?vh6) rfl (by kernel_rfl) (by kernel_rfl) (by kernel_rfl) (fun _ _ _ h => h) (Or.inl ⟨by rfl, ?yh6⟩) hS ?rh6
              case yh6 => (intro w0 hS0; (try simp only [] at hS0); obtain ⟨hS0_0, hS0_1, hS0_2⟩ := hS0; obtain ⟨q0_0, q0_1, q0_2, q0_3, q0_4, q0_5, q0_6, q0_7⟩ := hS0_0.c8; obtain ⟨q1_0, q1_1, q1_2, q1_3, q1_4, q1_5, q1_6, q1_7, q1_8, q1_9, q1_10, q1_11, q1_12, q1_13, q1_14⟩ := hS0_1.c15; go_simp; try with_reducible rfl)
              try simp only [yA, yB, yC, Act.put, yD, yE, yF]
              refine wpAnyH_take (i := 6) (v := ?vh7) rfl (by kernel_rfl) (by kernel_rfl) (by kernel_rfl) (fun _ _ _ h => h) (Or.inl ⟨by rfl, ?yh7⟩) hS ?rh7
              case yh7 => (intro w0 _; go_simp; try with_reducible rfl)
              try simp only [yA, yB, yC, Act.put, yD, yE, yF]
              refine wpAnyH_take (i := 7) (v := ?vh8) rfl (by kernel_rfl) (by kernel_rfl) (by kernel_rfl) (fun _ _ _ h => h) (Or.inl ⟨by rfl, ?yh8⟩) hS ?rh8
              case yh8 => (intro w0 _; go_simp; try with_reducible rfl)
              try simp only [yA, yB, yC, Act.put, yD, yE, yF]
              refine wpAnyH_done (by kernel_rfl) ?_ _
              refine NoPanic.normal ?_
              try simp only [Exit.then]
              clear hS
              replace HT := As.mk HT.out.drew
              replace HOO := As.mk HOO.out.drew
              replace HG := As.mk (gr_drew HG.out)
              replace HK := As.mk (HK.out.trans (.none (gr_drew (gr_refl _ none))))
              go_wp2_with fail
              have hlo : w0.heap.size ≤ g := own_lo HOO0.out.pl g rfl
              have hsg : sb ≠ g := fun e => (own_ne HOO0.out.blk HOO0.out.pl (by decide)) (by rw [e]; rfl)
              have htg : gt ≠ g := fun e => (own_ne HT.out HOO.out.pl (by decide)) (by rw [e]; rfl)
              have HO5 := As.mk ((HOO0.out.three j p HPJ.out 2 r.hop r.node).drew.drew.drew)
              have HG5 := As.mk (gr_drew (gr_drew (gr_drew (gr_set (gr_set (gr_set HG0.out (a := ⟨g, j * 5, none⟩) (.inr hlo) (.int .i64 2)) (a := ⟨g, j * 5 + 1, none⟩) (.inr hlo) (.int .i64 r.hop)) (a := ⟨g, j * 5 + 2, none⟩) (.inr hlo) (.int .i64 r.node)))))
              have HK5 := As.mk (HK0.out.trans (.own HOO0.out.pl (by decide) (gr_drew (gr_drew (gr_drew (gr_set (gr_set (gr_set (gr_refl _ (some g)) (a := ⟨g, j * 5, none⟩) (.inl rfl) (.int .i64 2)) (a := ⟨g, j * 5 + 1, none⟩) (.inl rfl) (.int .i64 r.hop)) (a := ⟨g, j * 5 + 2, none⟩) (.inl rfl) (.int .i64 r.node)))))))
              have HB1 := As.mk (HOO0.out.blk.far (a := ⟨g, j * 5, none⟩) hsg (.int .i64 2)).drew.drew.drew
              have HB2 := As.mk ((HOO0.out.blk.far (a := ⟨g, j * 5, none⟩) hsg (.int .i64 2)).far (a := ⟨g, j * 5 + 1, none⟩) hsg (.int .i64 r.hop)).drew.drew.drew
              have HT1 := As.mk (HT0.out.far (a := ⟨g, j * 5, none⟩) htg (.int .i64 2)).drew.drew.drew
              have HT2 := As.mk ((HT0.out.far (a := ⟨g, j * 5, none⟩) htg (.int .i64 2)).far (a := ⟨g, j * 5 + 1, none⟩) htg (.int .i64 r.hop)).drew.drew.drew
              clear hsg htg
              refine wp_region_noPanic ?_
              refine wp_region_D (S := fun w' => Blk w' sb 32 #[.int .i64 s.node, .int .i64 s.nodes, .int .i64 s.cells, .int .i64 s.epoch, .slice (some ⟨g, 0, none⟩) s.places.length cap, .slice A2 qs.length c2, .slice A3 s.decided.length c3, .slice A4 cs.length c4] ∧ Blk w' gt 43 #[.int .i64 r.kind, .int .i64 r.tid.n, .int .i64 r.tid.e, .int .i64 r.tid.s, .slice AI r.items.length cI, .slice AN r.nodes.length cN, .int .i64 r.node, .int .i64 r.count, .int .i64 r.num, .int .i64 (j : Int), .int .i64 r.st, .int .i64 r.hop, .int .i64 r.ver, .int .i64 r.val, .bool r.yes]) 15 (by kernel_rfl) (⟨HOO.out.blk.drew, HT.out.drew⟩) (fun hS => ?_)
              refine wpAnyD_take (i := 0) (v := ?vi1) rfl rfl (by kernel_rfl) (by kernel_rfl) (by kernel_rfl) (by kernel_rfl) (fun _ _ _ h => h) (Or.inl ⟨by rfl, ?yi1⟩) hS ?ri1
              case yi1 => (intro w0 _; go_simp; try with_reducible rfl)
              try simp only [yA, yB, yC, Act.put, yD, yE, yF]
              refine wpAnyD_take (i := 1) (v := ?vi2) rfl rfl (by kernel_rfl) (by kernel_rfl) (by kernel_rfl) (by kernel_rfl) (fun _ _ _ h => h) (Or.inl ⟨by rfl, ?yi2⟩) hS ?ri2
              case yi2 => (intro w0 _; go_simp; try with_reducible rfl)
              try simp only [yA, yB, yC, Act.put, yD, yE, yF]
              refine wpAnyD_take (i := 2) (v := ?vi3) rfl rfl (by kernel_rfl) (by kernel_rfl) (by kernel_rfl) (by kernel_rfl) (fun _ _ _ h => h) (Or.inl ⟨by rfl, ?yi3⟩) hS ?ri3
              case yi3 => (intro w0 _; go_simp; try with_reducible rfl)
              try simp only [yA, yB, yC, Act.put, yD, yE, yF]
              refine wpAnyD_take (i := 3) (v := ?vi4) rfl rfl (by kernel_rfl) (by kernel_rfl) (by kernel_rfl) (by kernel_rfl) (fun _ _ _ h => h) (Or.inl ⟨by rfl, ?yi4⟩) hS ?ri4
              case yi4 => (intro w0 _; go_simp; try with_reducible rfl)
              try simp only [yA, yB, yC, Act.put, yD, yE, yF]
              refine wpAnyD_take (i := 4) (v := ?vi5) rfl rfl (by kernel_rfl) (by kernel_rfl) (by kernel_rfl) (by kernel_rfl) (fun _ _ _ h => h) (Or.inl ⟨by rfl, ?yi5⟩) hS ?ri5
              case yi5 => (intro w0 hS0; (try simp only [] at hS0); obtain ⟨hS0_0, hS0_1⟩ := hS0; obtain ⟨q0_0, q0_1, q0_2, q0_3, q0_4, q0_5, q0_6, q0_7⟩ := hS0_0.c8; obtain ⟨q1_0, q1_1, q1_2, q1_3, q1_4, q1_5, q1_6, q1_7, q1_8, q1_9, q1_10, q1_11, q1_12, q1_13, q1_14⟩ := hS0_1.c15; go_simp; try with_reducible rfl)
              try simp only [yA, yB, yC, Act.put, yD, yE, yF]
              refine wpAnyD_take (i := 5) (v := ?vi6) rfl rfl (by kernel_rfl) (by kernel_rfl) (by kernel_rfl) (by kernel_rfl) (fun _ _ _ h => h) (Or.inl ⟨by rfl, ?yi6⟩) hS ?ri6
              case yi6 => (intro w0 _; go_simp; try with_reducible rfl)
              try simp only [yA, yB, yC, Act.put, yD, yE, yF]
              refine wpAnyD_take (i := 6) (v := ?vi7) rfl rfl (by kernel_rfl) (by kernel_rfl) (by kernel_rfl) (by kernel_rfl) (fun _ _ _ h => h) (Or.inl ⟨by rfl, ?yi7⟩) hS ?ri7
              case yi7 => (intro w0 hS0; (try simp only [] at hS0); obtain ⟨hS0_0, hS0_1⟩ := hS0; obtain ⟨q0_0, q0_1, q0_2, q0_3, q0_4, q0_5, q0_6, q0_7⟩ := hS0_0.c8; obtain ⟨q1_0, q1_1, q1_2, q1_3, q1_4, q1_5, q1_6, q1_7, q1_8, q1_9, q1_10, q1_11, q1_12, q1_13, q1_14⟩ := hS0_1.c15; go_simp; try with_reducible rfl)
              try simp only [yA, yB, yC, Act.put, yD, yE, yF]
              refine wpAnyD_take (i := 7) (v := ?vi8) rfl rfl (by kernel_rfl) (by kernel_rfl) (by kernel_rfl) (by kernel_rfl) (fun _ _ _ h => h) (Or.inl ⟨by rfl, ?yi8⟩) hS ?ri8
              case yi8 => (intro w0 _; go_simp; try with_reducible rfl)
              try simp only [yA, yB, yC, Act.put, yD, yE, yF]
              refine wpAnyD_take (i := 8) (v := ?vi9) rfl rfl (by kernel_rfl) (by kernel_rfl) (by kernel_rfl) (by kernel_rfl) (fun _ _ _ h => h) (Or.inl ⟨by rfl, ?yi9⟩) hS ?ri9
              case yi9 => (intro w0 _; go_simp; try with_reducible rfl)
              try simp only [yA, yB, yC, Act.put, yD, yE, yF]
              refine wpAnyD_ready (rs := [9]) (by kernel_rfl) (by simp) (AllReadyD.cons (i := 9) rfl (fun K hK => ?_) AllReadyD.nil)
              obtain ⟨pc0, pc1, pc2, pc3, pc4⟩ := HPC.out
              obtain ⟨pf0, pf1, pf2, pf3, pf4⟩ := HPF.out
              go_simp
              refine hK.out _ _ (fun _ => ⟨HB1.out, HT1.out⟩) (fun hS' => ?_)
              replace hS := hS' (by decide)
              clear hS'
              clear hK K
              try simp only [yA, yB, yC, Act.put, yD, yE, yF]
              clear pc0 pc1 pc2 pc3 pc4 pf0 pf1 pf2 pf3 pf4
              refine wpAnyD_take (i := 10) (v := ?vi11) rfl rfl (by kernel_rfl) (by kernel_rfl) (by kernel_rfl) (by kernel_rfl) (fun _ _ _ h => h) (Or.inl ⟨by rfl, ?yi11⟩) hS ?ri11
              case yi11 => (intro w0 _; go_simp; try with_reducible rfl)
              try simp only [yA, yB, yC, Act.put, yD, yE, yF]
              refine wpAnyD_take (i := 11) (v := ?vi12) rfl rfl (by kernel_rfl) (by kernel_rfl) (by kernel_rfl) (by kernel_rfl) (fun _ _ _ h => h) (Or.inl ⟨by rfl, ?yi12⟩) hS ?ri12
              case yi12 => (intro w0 _; go_simp; try with_reducible rfl)
              try simp only [yA, yB, yC, Act.put, yD, yE, yF]
              refine wpAnyD_ready (rs := [12]) (by kernel_rfl) (by simp) (AllReadyD.cons (i := 12) rfl (fun K hK => ?_) AllReadyD.nil)
              obtain ⟨pc0, pc1, pc2, pc3, pc4⟩ := HPC.out
              obtain ⟨pf0, pf1, pf2, pf3, pf4⟩ := HPF.out
              go_simp
              refine hK.out _ _ (fun _ => ⟨HB2.out, HT2.out⟩) (fun hS' => ?_)
              replace hS := hS' (by decide)
              clear hS'
              clear hK K
              try simp only [yA, yB, yC, Act.put, yD, yE, yF]
              clear pc0 pc1 pc2 pc3 pc4 pf0 pf1 pf2 pf3 pf4
              refine wpAnyD_ready (rs := [13]) (by kernel_rfl) (by simp) (AllReadyD.cons (i := 13) rfl (fun K hK => ?_) AllReadyD.nil)
              go_simp
              refine hK.out _ _ (fun _ => hS) (fun hS' => ?_)
              replace hS := hS' (by decide)
              clear hS'
              clear hK K
              try simp only [yA, yB, yC, Act.put, yD, yE, yF]
              refine wpAnyD_take (i := 14) (v := ?vi15) rfl rfl (by kernel_rfl) (by kernel_rfl) (by kernel_rfl) (by kernel_rfl) (fun _ _ _ h => h) (Or.inl ⟨by rfl, ?yi15⟩) hS ?ri15
              case yi15 => (intro w0 _; go_simp; try with_reducible rfl)
              try simp only [yA, yB, yC, Act.put, yD, yE, yF]
              refine wpAnyD_ready (rs := [15]) (by kernel_rfl) (by simp) (AllReadyD.cons (i := 15) rfl (fun K hK => ?_) AllReadyD.nil)
              obtain ⟨pc0, pc1, pc2, pc3, pc4⟩ := HPC.out
              obtain ⟨pf0, pf1, pf2, pf3, pf4⟩ := HPF.out
              go_simp
              refine hK.out _ _ (fun h => absurd rfl h) (fun _ => ?_)
              clear hK K
              try simp only [yA, yB, yC, Act.put, yD, yE, yF]
              refine wpAnyD_done (by kernel_rfl) ?_ _
              refine NoPanic.normal ?_
              try simp only [Exit.then]
              go_wp2_with fail
              go_ret
              exact MutPost.of (HE.out.trans (by rw [hjc])) HG5.out HK5.out ⟨_, _, _, _, _, _, HO5.out⟩
          · have HE := As.mk (HE1.out.trans (if_pos hlk))
            go_wp2_with fail
            go_ret
            exact MutPost.of HE.out HG.out HK.out HO.out
      · have HE := As.mk (show outE s r = (1, s) by unfold outE; rw [if_neg (by rw [hk]; simp), if_neg hn, if_pos hm])
        refine wp_region_noPanic ?_
        refine wp_region_held_drew (S := fun w' => Blk w' sb 32 #[.int .i64 s.node, .int .i64 s.nodes, .int .i64 s.cells, .int .i64 s.epoch, .slice A1 s.places.length c1, .slice A2 s.prepared.length c2, .slice A3 s.decided.length c3, .slice A4 s.commits.length c4] ∧ Blk w' gt 43 #[.int .i64 r.kind, .int .i64 r.tid.n, .int .i64 r.tid.e, .int .i64 r.tid.s, .slice AI r.items.length cI, .slice AN r.nodes.length cN, .int .i64 r.node, .int .i64 r.count, .int .i64 r.num, .int .i64 r.cell, .int .i64 r.st, .int .i64 r.hop, .int .i64 r.ver, .int .i64 r.val, .bool r.yes]) (by kernel_rfl) (⟨HB.out.drew, HT.out.drew⟩) (fun hS => ?_)
        refine wpAnyH_take (i := 0) (v := ?vd1) rfl (by kernel_rfl) (by kernel_rfl) (by kernel_rfl) (fun _ _ _ h => h) (Or.inl ⟨by rfl, ?yd1⟩) hS ?rd1
        case yd1 => (intro w0 _; go_simp; try with_reducible rfl)
        try simp only [yA, yB, yC, Act.put, yD, yE, yF]
        refine wpAnyH_take (i := 1) (v := ?vd2) rfl (by kernel_rfl) (by kernel_rfl) (by kernel_rfl) (fun _ _ _ h => h) (Or.inl ⟨by rfl, ?yd2⟩) hS ?rd2
        case yd2 => (intro w0 _; go_simp; try with_reducible rfl)
        try simp only [yA, yB, yC, Act.put, yD, yE, yF]
        refine wpAnyH_take (i := 2) (v := ?vd3) rfl (by kernel_rfl) (by kernel_rfl) (by kernel_rfl) (fun _ _ _ h => h) (Or.inl ⟨by rfl, ?yd3⟩) hS ?rd3
        case yd3 => (intro w0 hS0; (try simp only [] at hS0); obtain ⟨hS0_0, hS0_1⟩ := hS0; obtain ⟨q0_0, q0_1, q0_2, q0_3, q0_4, q0_5, q0_6, q0_7⟩ := hS0_0.c8; obtain ⟨q1_0, q1_1, q1_2, q1_3, q1_4, q1_5, q1_6, q1_7, q1_8, q1_9, q1_10, q1_11, q1_12, q1_13, q1_14⟩ := hS0_1.c15; go_simp; try with_reducible rfl)
        try simp only [yA, yB, yC, Act.put, yD, yE, yF]
        refine wpAnyH_take (i := 3) (v := ?vd4) rfl (by kernel_rfl) (by kernel_rfl) (by kernel_rfl) (fun _ _ _ h => h) (Or.inl ⟨by rfl, ?yd4⟩) hS ?rd4
        case yd4 => (intro w0 _; go_simp; try with_reducible rfl)
        try simp only [yA, yB, yC, Act.put, yD, yE, yF]
        refine wpAnyH_take (i := 4) (v := ?vd5) rfl (by kernel_rfl) (by kernel_rfl) (by kernel_rfl) (fun _ _ _ h => h) (Or.inl ⟨by rfl, ?yd5⟩) hS ?rd5
        case yd5 => (intro w0 hS0; (try simp only [] at hS0); obtain ⟨hS0_0, hS0_1⟩ := hS0; obtain ⟨q0_0, q0_1, q0_2, q0_3, q0_4, q0_5, q0_6, q0_7⟩ := hS0_0.c8; obtain ⟨q1_0, q1_1, q1_2, q1_3, q1_4, q1_5, q1_6, q1_7, q1_8, q1_9, q1_10, q1_11, q1_12, q1_13, q1_14⟩ := hS0_1.c15; go_simp; try with_reducible rfl)
        try simp only [yA, yB, yC, Act.put, yD, yE, yF]
        refine wpAnyH_ready (rs := [5]) (by kernel_rfl) (by simp) (AllReadyH.cons (i := 5) rfl (fun K hK => ?_) AllReadyH.nil)
        go_simp
        refine (cell_c _ s _ _ _ _ (HR.out.grown (gr_drew (gr_refl _ none))) r.cell true hk).mono ?_
        rintro e0 w1 ⟨rfl, hg1⟩
        replace HB := As.mk (HB.out.drew.grown hg1 (by simp))
        replace HT := As.mk (HT.out.drew.grown hg1 (by simp))
        replace HO := As.mk (HO.out.drew.grown hg1)
        replace HR := As.mk ((HR.out.grown (gr_drew (gr_refl _ none))).grown hg1)
        replace HG := As.mk (gr_then (gr_drew HG.out) hg1 (.inl rfl))
        replace HK := As.mk (HK.out.trans (.none (gr_then (gr_drew (gr_refl _ none)) hg1 (.inl rfl))))
        clear hg1
        go_simp
        refine hK.out _ _ (⟨HB.out, HT.out⟩) (fun hS => ?_)
        clear hK K
        try simp only [yA, yB, yC, Act.put, yD, yE, yF]
        refine wpAnyH_take (i := 6) (v := ?vd7) rfl (by kernel_rfl) (by kernel_rfl) (by kernel_rfl) (fun _ _ _ h => h) (Or.inl ⟨by rfl, ?yd7⟩) hS ?rd7
        case yd7 => (intro w0 _; go_simp; try with_reducible rfl)
        try simp only [yA, yB, yC, Act.put, yD, yE, yF]
        refine wpAnyH_take (i := 7) (v := ?vd8) rfl (by kernel_rfl) (by kernel_rfl) (by kernel_rfl) (fun _ _ _ h => h) (Or.inl ⟨by rfl, ?yd8⟩) hS ?rd8
        case yd8 => (intro w0 _; go_simp; try with_reducible rfl)
        try simp only [yA, yB, yC, Act.put, yD, yE, yF]
        refine wpAnyH_take (i := 8) (v := ?vd9) rfl (by kernel_rfl) (by kernel_rfl) (by kernel_rfl) (fun _ _ _ h => h) (Or.inl ⟨by rfl, ?yd9⟩) hS ?rd9
        case yd9 => (intro w0 _; go_simp; try with_reducible rfl)
        try simp only [yA, yB, yC, Act.put, yD, yE, yF]
        refine wpAnyH_take (i := 9) (v := ?vd10) rfl (by kernel_rfl) (by kernel_rfl) (by kernel_rfl) (fun _ _ _ h => h) (Or.inl ⟨by rfl, ?yd10⟩) hS ?rd10
        case yd10 => (intro w0 hS0; (try simp only [] at hS0); obtain ⟨hS0_0, hS0_1⟩ := hS0; obtain ⟨q0_0, q0_1, q0_2, q0_3, q0_4, q0_5, q0_6, q0_7⟩ := hS0_0.c8; obtain ⟨q1_0, q1_1, q1_2, q1_3, q1_4, q1_5, q1_6, q1_7, q1_8, q1_9, q1_10, q1_11, q1_12, q1_13, q1_14⟩ := hS0_1.c15; go_simp; try with_reducible rfl)
        try simp only [yA, yB, yC, Act.put, yD, yE, yF]
        refine wpAnyH_take (i := 10) (v := ?vd11) rfl (by kernel_rfl) (by kernel_rfl) (by kernel_rfl) (fun _ _ _ h => h) (Or.inl ⟨by rfl, ?yd11⟩) hS ?rd11
        case yd11 => (intro w0 _; go_simp; try with_reducible rfl)
        try simp only [yA, yB, yC, Act.put, yD, yE, yF]
        refine wpAnyH_take (i := 11) (v := ?vd12) rfl (by kernel_rfl) (by kernel_rfl) (by kernel_rfl) (fun _ _ _ h => h) (Or.inl ⟨by rfl, ?yd12⟩) hS ?rd12
        case yd12 => (intro w0 _; go_simp; try with_reducible rfl)
        try simp only [yA, yB, yC, Act.put, yD, yE, yF]
        refine wpAnyH_take (i := 12) (v := ?vd13) rfl (by kernel_rfl) (by kernel_rfl) (by kernel_rfl) (fun _ _ _ h => h) (Or.inl ⟨by rfl, ?yd13⟩) hS ?rd13
        case yd13 => (intro w0 _; go_simp; try with_reducible rfl)
        try simp only [yA, yB, yC, Act.put, yD, yE, yF]
        refine wpAnyH_take (i := 13) (v := ?vd14) rfl (by kernel_rfl) (by kernel_rfl) (by kernel_rfl) (fun _ _ _ h => h) (Or.inl ⟨by rfl, ?yd14⟩) hS ?rd14
        case yd14 => (intro w0 hS0; (try simp only [] at hS0); obtain ⟨hS0_0, hS0_1⟩ := hS0; obtain ⟨q0_0, q0_1, q0_2, q0_3, q0_4, q0_5, q0_6, q0_7⟩ := hS0_0.c8; obtain ⟨q1_0, q1_1, q1_2, q1_3, q1_4, q1_5, q1_6, q1_7, q1_8, q1_9, q1_10, q1_11, q1_12, q1_13, q1_14⟩ := hS0_1.c15; go_simp; try with_reducible rfl)
        try simp only [yA, yB, yC, Act.put, yD, yE, yF]
        refine wpAnyH_take (i := 14) (v := ?vd15) rfl (by kernel_rfl) (by kernel_rfl) (by kernel_rfl) (fun _ _ _ h => h) (Or.inl ⟨by rfl, ?yd15⟩) hS ?rd15
        case yd15 => (intro w0 _; go_simp; try with_reducible rfl)
        try simp only [yA, yB, yC, Act.put, yD, yE, yF]
        refine wpAnyH_take (i := 15) (v := ?vd16) rfl (by kernel_rfl) (by kernel_rfl) (by kernel_rfl) (fun _ _ _ h => h) (Or.inl ⟨by rfl, ?yd16⟩) hS ?rd16
        case yd16 => (intro w0 _; go_simp; try with_reducible rfl)
        try simp only [yA, yB, yC, Act.put, yD, yE, yF]
        refine wpAnyH_take (i := 16) (v := ?vd17) rfl (by kernel_rfl) (by kernel_rfl) (by kernel_rfl) (fun _ _ _ h => h) (Or.inl ⟨by rfl, ?yd17⟩) hS ?rd17
        case yd17 => (intro w0 _; go_simp; try with_reducible rfl)
        try simp only [yA, yB, yC, Act.put, yD, yE, yF]
        refine wpAnyH_take (i := 17) (v := ?vd18) rfl (by kernel_rfl) (by kernel_rfl) (by kernel_rfl) (fun _ _ _ h => h) (Or.inl ⟨by rfl, ?yd18⟩) hS ?rd18
        case yd18 => (intro w0 _; go_simp; try with_reducible rfl)
        try simp only [yA, yB, yC, Act.put, yD, yE, yF]
        refine wpAnyH_take (i := 18) (v := ?vd19) rfl (by kernel_rfl) (by kernel_rfl) (by kernel_rfl) (fun _ _ _ h => h) (Or.inl ⟨by rfl, ?yd19⟩) hS ?rd19
        case yd19 => (intro w0 hS0; (try simp only [] at hS0); obtain ⟨hS0_0, hS0_1⟩ := hS0; obtain ⟨q0_0, q0_1, q0_2, q0_3, q0_4, q0_5, q0_6, q0_7⟩ := hS0_0.c8; obtain ⟨q1_0, q1_1, q1_2, q1_3, q1_4, q1_5, q1_6, q1_7, q1_8, q1_9, q1_10, q1_11, q1_12, q1_13, q1_14⟩ := hS0_1.c15; go_simp; try with_reducible rfl)
        try simp only [yA, yB, yC, Act.put, yD, yE, yF]
        refine wpAnyH_take (i := 19) (v := ?vd20) rfl (by kernel_rfl) (by kernel_rfl) (by kernel_rfl) (fun _ _ _ h => h) (Or.inl ⟨by rfl, ?yd20⟩) hS ?rd20
        case yd20 => (intro w0 _; go_simp; try with_reducible rfl)
        try simp only [yA, yB, yC, Act.put, yD, yE, yF]
        refine wpAnyH_take (i := 20) (v := ?vd21) rfl (by kernel_rfl) (by kernel_rfl) (by kernel_rfl) (fun _ _ _ h => h) (Or.inl ⟨by rfl, ?yd21⟩) hS ?rd21
        case yd21 => (intro w0 _; go_simp; try with_reducible rfl)
        try simp only [yA, yB, yC, Act.put, yD, yE, yF]
        refine wpAnyH_take (i := 21) (v := ?vd22) rfl (by kernel_rfl) (by kernel_rfl) (by kernel_rfl) (fun _ _ _ h => h) (Or.inl ⟨by rfl, ?yd22⟩) hS ?rd22
        case yd22 => (intro w0 _; go_simp; try with_reducible rfl)
        try simp only [yA, yB, yC, Act.put, yD, yE, yF]
        refine wpAnyH_take (i := 22) (v := ?vd23) rfl (by kernel_rfl) (by kernel_rfl) (by kernel_rfl) (fun _ _ _ h => h) (Or.inl ⟨by rfl, ?yd23⟩) hS ?rd23
        case yd23 => (intro w0 hS0; (try simp only [] at hS0); obtain ⟨hS0_0, hS0_1⟩ := hS0; obtain ⟨q0_0, q0_1, q0_2, q0_3, q0_4, q0_5, q0_6, q0_7⟩ := hS0_0.c8; obtain ⟨q1_0, q1_1, q1_2, q1_3, q1_4, q1_5, q1_6, q1_7, q1_8, q1_9, q1_10, q1_11, q1_12, q1_13, q1_14⟩ := hS0_1.c15; go_simp; try with_reducible rfl)
        try simp only [yA, yB, yC, Act.put, yD, yE, yF]
        refine wpAnyH_take (i := 23) (v := ?vd24) rfl (by kernel_rfl) (by kernel_rfl) (by kernel_rfl) (fun _ _ _ h => h) (Or.inl ⟨by rfl, ?yd24⟩) hS ?rd24
        case yd24 => (intro w0 _; go_simp; try with_reducible rfl)
        try simp only [yA, yB, yC, Act.put, yD, yE, yF]
        refine wpAnyH_take (i := 24) (v := ?vd25) rfl (by kernel_rfl) (by kernel_rfl) (by kernel_rfl) (fun _ _ _ h => h) (Or.inl ⟨by rfl, ?yd25⟩) hS ?rd25
        case yd25 => (intro w0 _; go_simp; try with_reducible rfl)
        try simp only [yA, yB, yC, Act.put, yD, yE, yF]
        refine wpAnyH_take (i := 25) (v := ?vd26) rfl (by kernel_rfl) (by kernel_rfl) (by kernel_rfl) (fun _ _ _ h => h) (Or.inl ⟨by rfl, ?yd26⟩) hS ?rd26
        case yd26 => (intro w0 _; go_simp; try with_reducible rfl)
        try simp only [yA, yB, yC, Act.put, yD, yE, yF]
        refine wpAnyH_done (by kernel_rfl) ?_ _
        refine NoPanic.normal ?_
        try simp only [Exit.then]
        clear hS
        go_wp2_with fail
        go_ret
        exact MutPost.of HE.out HG.out HK.out HO.out
end Go.Proofs.Ytdmkijdbldcdiaa
