/- The walks of in and gone. (Printed by wip/gen/gen_lw.py.) -/
import Derived.Test.YtdmkijdbldcdiaaLv
namespace Go.Proofs.Ytdmkijdbldcdiaa
open Go.RowKit
set_option linter.unusedVariables false
set_option linter.unusedSimpArgs false
set_option maxRecDepth 100000

def placeAt (s : PSt) (c : Int) : PPl := match s.places[c.toNat]? with | some p => p | none => ⟨0, 0, 0, 0, 0⟩
def setAt (s : PSt) (c : Int) (p : PPl) : PSt := { s with places := s.places.set c.toNat p }
theorem OwnSt.five {w : World} {B sb : Nat} {s : PSt} {vQ vD vC : Value} {qs : List QPr} {cs : List QCm} {g n cap : Nat} (h : OwnSt w B sb s (.slice (some ⟨g, 0, none⟩) n cap) vQ vD vC qs cs) (j : Nat) (hj : j < s.places.length) (p : PPl) :
    OwnSt (((((w.setCell ⟨g, j * 5, none⟩ (.int .i64 p.st)).setCell ⟨g, j * 5 + 1, none⟩ (.int .i64 p.hop)).setCell ⟨g, j * 5 + 2, none⟩ (.int .i64 p.to_)).setCell ⟨g, j * 5 + 3, none⟩ (.int .i64 p.ver)).setCell ⟨g, j * 5 + 4, none⟩ (.int .i64 p.val)) B sb (setAt s (j : Int) p) (.slice (some ⟨g, 0, none⟩) n cap) vQ vD vC qs cs := by
  have h0 := h.cellP j hj 0 (by omega) p.st
  have h1 := h0.cellP j (by simpa using hj) 1 (by omega) p.hop
  have h2 := h1.cellP j (by simpa using hj) 2 (by omega) p.to_
  have h3 := h2.cellP j (by simpa using hj) 3 (by omega) p.ver
  have h4 := h3.cellP j (by simpa using hj) 4 (by omega) p.val
  simpa [PPl.setF, setAt] using h4
def inE (s : PSt) (r : PRec) : Int × PSt := if cellB s r.cell = false then (1, s) else if ownsB s r.cell = true then (9, s) else if r.hop ≤ (placeAt s r.cell).hop then (10, s) else (0, setAt s r.cell ⟨1, r.hop, 0, r.ver, r.val⟩)
def goneE (s : PSt) (r : PRec) : Int × PSt := if cellB s r.cell = false then (1, s) else if ((placeAt s r.cell).st == 2) = false then (8, s) else if (r.hop == (placeAt s r.cell).hop) = false then (10, s) else (0, setAt s r.cell ⟨0, r.hop, 0, 0, 0⟩)
set_option maxHeartbeats 6400000 in
theorem inS_c (w0 w : World) (sb : Nat) (s : PSt) (hg : w0.grownBy w none) (hs : StO w w0.heap.size sb s) (r : PRec) (AI : Option Addr) (cI : Nat) (AN : Option Addr) (cN : Nat) :
    Calls Try.prog 58 #[.pointer (some ⟨sb, 0, none⟩), .agg (reCells r AI cI AN cN)] w (MutPost w0 w sb (.int .i64 (inE s r).1) (inE s r).2) := by
  have HGA := gr_alloc (gr_refl w none) (.cells (reCells r AI cI AN cN) 43)
  have HG := As.mk (gr_then hg HGA (.inl rfl))
  have HO := As.mk (hs.grown HGA)
  have HK := As.mk (Keeps.none (sb := sb) HGA)
  have HT := As.mk (Blk.new w 43 (reCells r AI cI AN cN))
  have hd := hs.grown HGA
  clear hs hg HGA
  unfold reCells at *
  go_enter Try.func58, Try.ntmps58
  go_wp2_with fail
  generalize w.alloc (.cells #[.int .i64 r.kind, .int .i64 r.tid.n, .int .i64 r.tid.e, .int .i64 r.tid.s, .slice AI r.items.length cI, .slice AN r.nodes.length cN, .int .i64 r.node, .int .i64 r.count, .int .i64 r.num, .int .i64 r.cell, .int .i64 r.st, .int .i64 r.hop, .int .i64 r.ver, .int .i64 r.val, .bool r.yes] 43) = W at *
  generalize w.heap.size = gt at *
  obtain ⟨vP, vQ, vD, vC, hB, h⟩ := hd.toP
  obtain ⟨A1, c1, rfl⟩ := h.pl.len
  obtain ⟨A2, c2, rfl⟩ := h.pr.len
  obtain ⟨A3, c3, rfl⟩ := h.de.len
  obtain ⟨A4, c4, rfl⟩ := h.cm.len
  have HB := As.mk hB
  have HR := As.mk h
  unfold stCells at HB
  clear hd hB h
  refine wp_region_noPanic ?_
  refine wp_region_held_drew (S := fun w' => Blk w' sb 32 #[.int .i64 s.node, .int .i64 s.nodes, .int .i64 s.cells, .int .i64 s.epoch, .slice A1 s.places.length c1, .slice A2 s.prepared.length c2, .slice A3 s.decided.length c3, .slice A4 s.commits.length c4] ∧ Blk w' gt 43 #[.int .i64 r.kind, .int .i64 r.tid.n, .int .i64 r.tid.e, .int .i64 r.tid.s, .slice AI r.items.length cI, .slice AN r.nodes.length cN, .int .i64 r.node, .int .i64 r.count, .int .i64 r.num, .int .i64 r.cell, .int .i64 r.st, .int .i64 r.hop, .int .i64 r.ver, .int .i64 r.val, .bool r.yes]) (by kernel_rfl) (⟨HB.out.drew, HT.out.drew⟩) (fun hS => ?_)
  refine wpAnyH_take (i := 0) (v := ?va1) rfl (by kernel_rfl) (by kernel_rfl) (by kernel_rfl) (fun _ _ _ h => h) (Or.inl ⟨by rfl, ?ya1⟩) hS ?ra1
  case ya1 => (intro w0 _; go_simp; try with_reducible rfl)
  try simp only [yA, yB, yC, Act.put, yD, yE, yF]
  refine wpAnyH_take (i := 1) (v := ?va2) rfl (by kernel_rfl) (by kernel_rfl) (by kernel_rfl) (fun _ _ _ h => h) (Or.inl ⟨by rfl, ?ya2⟩) hS ?ra2
  case ya2 => (intro w0 _; go_simp; try with_reducible rfl)
  try simp only [yA, yB, yC, Act.put, yD, yE, yF]
  refine wpAnyH_take (i := 2) (v := ?va3) rfl (by kernel_rfl) (by kernel_rfl) (by kernel_rfl) (fun _ _ _ h => h) (Or.inl ⟨by rfl, ?ya3⟩) hS ?ra3
  case ya3 => (intro w0 hS0; (try simp only [] at hS0); obtain ⟨hS0_0, hS0_1⟩ := hS0; obtain ⟨q0_0, q0_1, q0_2, q0_3, q0_4, q0_5, q0_6, q0_7⟩ := hS0_0.c8; obtain ⟨q1_0, q1_1, q1_2, q1_3, q1_4, q1_5, q1_6, q1_7, q1_8, q1_9, q1_10, q1_11, q1_12, q1_13, q1_14⟩ := hS0_1.c15; go_simp; try with_reducible rfl)
  try simp only [yA, yB, yC, Act.put, yD, yE, yF]
  refine wpAnyH_take (i := 3) (v := ?va4) rfl (by kernel_rfl) (by kernel_rfl) (by kernel_rfl) (fun _ _ _ h => h) (Or.inl ⟨by rfl, ?ya4⟩) hS ?ra4
  case ya4 => (intro w0 _; go_simp; try with_reducible rfl)
  try simp only [yA, yB, yC, Act.put, yD, yE, yF]
  refine wpAnyH_take (i := 4) (v := ?va5) rfl (by kernel_rfl) (by kernel_rfl) (by kernel_rfl) (fun _ _ _ h => h) (Or.inl ⟨by rfl, ?ya5⟩) hS ?ra5
  case ya5 => (intro w0 hS0; (try simp only [] at hS0); obtain ⟨hS0_0, hS0_1⟩ := hS0; obtain ⟨q0_0, q0_1, q0_2, q0_3, q0_4, q0_5, q0_6, q0_7⟩ := hS0_0.c8; obtain ⟨q1_0, q1_1, q1_2, q1_3, q1_4, q1_5, q1_6, q1_7, q1_8, q1_9, q1_10, q1_11, q1_12, q1_13, q1_14⟩ := hS0_1.c15; go_simp; try with_reducible rfl)
  try simp only [yA, yB, yC, Act.put, yD, yE, yF]
  refine wpAnyH_ready (rs := [5]) (by kernel_rfl) (by simp) (AllReadyH.cons (i := 5) rfl (fun K hK => ?_) AllReadyH.nil)
  go_simp
  refine (cell_c _ s _ _ _ _ (HR.out.grown (gr_drew (gr_refl _ none))) r.cell _ rfl).mono ?_
  rintro e0 w1 ⟨rfl, hg1⟩
  replace HB := As.mk (HB.out.drew.grown hg1 (by simp))
  replace HT := As.mk (HT.out.drew.grown hg1 (by simp))
  replace HO := As.mk (HO.out.drew.grown hg1)
  replace HR := As.mk ((HR.out.grown (gr_drew (gr_refl _ none))).grown hg1)
  replace HG := As.mk (gr_then (gr_drew HG.out) hg1 (.inl rfl))
  replace HK := As.mk (HK.out.trans (.none (gr_then (gr_drew (gr_refl _ none)) hg1 (.inl rfl))))
  clear hg1
  go_simp
  refine hK.out _ _ (⟨HB.out, HT.out⟩) (fun hS => ?_)
  clear hK K
  try simp only [yA, yB, yC, Act.put, yD, yE, yF]
  refine wpAnyH_take (i := 6) (v := ?va7) rfl (by kernel_rfl) (by kernel_rfl) (by kernel_rfl) (fun _ _ _ h => h) (Or.inl ⟨by rfl, ?ya7⟩) hS ?ra7
  case ya7 => (intro w0 _; go_simp; try with_reducible rfl)
  try simp only [yA, yB, yC, Act.put, yD, yE, yF]
  refine wpAnyH_take (i := 7) (v := ?va8) rfl (by kernel_rfl) (by kernel_rfl) (by kernel_rfl) (fun _ _ _ h => h) (Or.inl ⟨by rfl, ?ya8⟩) hS ?ra8
  case ya8 => (intro w0 _; go_simp; try with_reducible rfl)
  try simp only [yA, yB, yC, Act.put, yD, yE, yF]
  refine wpAnyH_done (by kernel_rfl) ?_ _
  refine NoPanic.normal ?_
  try simp only [Exit.then]
  clear hS
  cases hk : cellB s r.cell
  · have HE := As.mk (show inE s r = (1, s) by unfold inE; rw [if_pos hk])
    go_wp2_with fail
    go_ret
    exact MutPost.of HE.out HG.out HK.out HO.out
  · go_wp2_with fail
    refine wp_region_noPanic ?_
    refine wp_region_held_drew (S := fun w' => Blk w' sb 32 #[.int .i64 s.node, .int .i64 s.nodes, .int .i64 s.cells, .int .i64 s.epoch, .slice A1 s.places.length c1, .slice A2 s.prepared.length c2, .slice A3 s.decided.length c3, .slice A4 s.commits.length c4] ∧ Blk w' gt 43 #[.int .i64 r.kind, .int .i64 r.tid.n, .int .i64 r.tid.e, .int .i64 r.tid.s, .slice AI r.items.length cI, .slice AN r.nodes.length cN, .int .i64 r.node, .int .i64 r.count, .int .i64 r.num, .int .i64 r.cell, .int .i64 r.st, .int .i64 r.hop, .int .i64 r.ver, .int .i64 r.val, .bool r.yes]) (by kernel_rfl) (⟨HB.out.drew, HT.out.drew⟩) (fun hS => ?_)
    refine wpAnyH_take (i := 0) (v := ?vb1) rfl (by kernel_rfl) (by kernel_rfl) (by kernel_rfl) (fun _ _ _ h => h) (Or.inl ⟨by rfl, ?yb1⟩) hS ?rb1
    case yb1 => (intro w0 _; go_simp; try with_reducible rfl)
    try simp only [yA, yB, yC, Act.put, yD, yE, yF]
    refine wpAnyH_take (i := 1) (v := ?vb2) rfl (by kernel_rfl) (by kernel_rfl) (by kernel_rfl) (fun _ _ _ h => h) (Or.inl ⟨by rfl, ?yb2⟩) hS ?rb2
    case yb2 => (intro w0 _; go_simp; try with_reducible rfl)
    try simp only [yA, yB, yC, Act.put, yD, yE, yF]
    refine wpAnyH_take (i := 2) (v := ?vb3) rfl (by kernel_rfl) (by kernel_rfl) (by kernel_rfl) (fun _ _ _ h => h) (Or.inl ⟨by rfl, ?yb3⟩) hS ?rb3
    case yb3 => (intro w0 hS0; (try simp only [] at hS0); obtain ⟨hS0_0, hS0_1⟩ := hS0; obtain ⟨q0_0, q0_1, q0_2, q0_3, q0_4, q0_5, q0_6, q0_7⟩ := hS0_0.c8; obtain ⟨q1_0, q1_1, q1_2, q1_3, q1_4, q1_5, q1_6, q1_7, q1_8, q1_9, q1_10, q1_11, q1_12, q1_13, q1_14⟩ := hS0_1.c15; go_simp; try with_reducible rfl)
    try simp only [yA, yB, yC, Act.put, yD, yE, yF]
    refine wpAnyH_take (i := 3) (v := ?vb4) rfl (by kernel_rfl) (by kernel_rfl) (by kernel_rfl) (fun _ _ _ h => h) (Or.inl ⟨by rfl, ?yb4⟩) hS ?rb4
    case yb4 => (intro w0 _; go_simp; try with_reducible rfl)
    try simp only [yA, yB, yC, Act.put, yD, yE, yF]
    refine wpAnyH_take (i := 4) (v := ?vb5) rfl (by kernel_rfl) (by kernel_rfl) (by kernel_rfl) (fun _ _ _ h => h) (Or.inl ⟨by rfl, ?yb5⟩) hS ?rb5
    case yb5 => (intro w0 hS0; (try simp only [] at hS0); obtain ⟨hS0_0, hS0_1⟩ := hS0; obtain ⟨q0_0, q0_1, q0_2, q0_3, q0_4, q0_5, q0_6, q0_7⟩ := hS0_0.c8; obtain ⟨q1_0, q1_1, q1_2, q1_3, q1_4, q1_5, q1_6, q1_7, q1_8, q1_9, q1_10, q1_11, q1_12, q1_13, q1_14⟩ := hS0_1.c15; go_simp; try with_reducible rfl)
    try simp only [yA, yB, yC, Act.put, yD, yE, yF]
    refine wpAnyH_ready (rs := [5]) (by kernel_rfl) (by simp) (AllReadyH.cons (i := 5) rfl (fun K hK => ?_) AllReadyH.nil)
    go_simp
    refine (owns_c _ s _ _ _ _ (HR.out.grown (gr_drew (gr_refl _ none))) r.cell _ rfl).mono ?_
    rintro e0 w1 ⟨rfl, hg1⟩
    replace HB := As.mk (HB.out.drew.grown hg1 (by simp))
    replace HT := As.mk (HT.out.drew.grown hg1 (by simp))
    replace HO := As.mk (HO.out.drew.grown hg1)
    replace HR := As.mk ((HR.out.grown (gr_drew (gr_refl _ none))).grown hg1)
    replace HG := As.mk (gr_then (gr_drew HG.out) hg1 (.inl rfl))
    replace HK := As.mk (HK.out.trans (.none (gr_then (gr_drew (gr_refl _ none)) hg1 (.inl rfl))))
    clear hg1
    go_simp
    refine hK.out _ _ (⟨HB.out, HT.out⟩) (fun hS => ?_)
    clear hK K
    try simp only [yA, yB, yC, Act.put, yD, yE, yF]
    refine wpAnyH_take (i := 6) (v := ?vb7) rfl (by kernel_rfl) (by kernel_rfl) (by kernel_rfl) (fun _ _ _ h => h) (Or.inl ⟨by rfl, ?yb7⟩) hS ?rb7
    case yb7 => (intro w0 _; go_simp; try with_reducible rfl)
    try simp only [yA, yB, yC, Act.put, yD, yE, yF]
    refine wpAnyH_done (by kernel_rfl) ?_ _
    refine NoPanic.normal ?_
    try simp only [Exit.then]
    clear hS
    cases hy : ownsB s r.cell
    · go_wp2_with fail
      obtain ⟨j, hjc⟩ : ∃ j : Nat, r.cell = (j : Int) := ⟨r.cell.toNat, by unfold cellB at hk; simp only [Bool.and_eq_true, decide_eq_true_eq] at hk; omega⟩
      have hj : j < s.places.length := by unfold cellB at hk; simp only [Bool.and_eq_true, decide_eq_true_eq] at hk; omega
      have HPA := As.mk (show placeAt s r.cell = s.places[j]'hj by unfold placeAt; rw [hjc, Int.toNat_natCast, List.getElem?_eq_getElem hj])
      have hj0 : (0 : Int) ≤ (j : Int) := by omega
      have hjI : (j : Int) < (s.places.length : Int) := by omega
      have hd := HO.out
      obtain ⟨vP, vQ, vD, vC, qs, cs, hO⟩ := hd
      obtain ⟨g, cap, rfl⟩ := own_some hO.pl (by omega)
      have hle : s.places.length ≤ cap ∧ cap ≤ 9223372036854775807 := by
        obtain ⟨_, _, _, _, h1, h2⟩ := own_whole hO.pl
        exact ⟨h1, by simp only [maxLen] at h2; omega⟩
      obtain ⟨A2, c2, rfl⟩ := own_shape hO.pr
      obtain ⟨A3, c3, rfl⟩ := own_shape hO.de
      obtain ⟨A4, c4, rfl⟩ := own_shape hO.cm
      have HOO := As.mk hO
      rw [hjc] at HT
      have pc0 := (hO.atP j _ (List.getElem?_eq_getElem hj) 0 _ rfl).1
      have pc1 := (hO.atP j _ (List.getElem?_eq_getElem hj) 1 _ rfl).1
      have pc2 := (hO.atP j _ (List.getElem?_eq_getElem hj) 2 _ rfl).1
      have pc3 := (hO.atP j _ (List.getElem?_eq_getElem hj) 3 _ rfl).1
      have pc4 := (hO.atP j _ (List.getElem?_eq_getElem hj) 4 _ rfl).1
      have pf0 := (hO.atP j _ (List.getElem?_eq_getElem hj) 0 _ rfl).2
      have pf1 := (hO.atP j _ (List.getElem?_eq_getElem hj) 1 _ rfl).2
      have pf2 := (hO.atP j _ (List.getElem?_eq_getElem hj) 2 _ rfl).2
      have pf3 := (hO.atP j _ (List.getElem?_eq_getElem hj) 3 _ rfl).2
      have pf4 := (hO.atP j _ (List.getElem?_eq_getElem hj) 4 _ rfl).2
      simp only [Nat.add_zero] at pc0 pf0
      have HPC := As.mk (And.intro pc0 (And.intro pc1 (And.intro pc2 (And.intro pc3 pc4))))
      have HPF := As.mk (And.intro pf0 (And.intro pf1 (And.intro pf2 (And.intro pf3 pf4))))
      have HJ := As.mk hj
      have HPJ := As.mk (List.getElem?_eq_getElem hj)
      have HOO0 := As.mk hO
      have HG0 := As.mk HG.out
      have HT0 := As.mk HT.out
      have HK0 := As.mk HK.out
      clear hO pc0 pc1 pc2 pc3 pc4 pf0 pf1 pf2 pf3 pf4 HB HR HO
      generalize s.places[j]'hj = p at *
      refine wp_region_noPanic ?_
      refine wp_region_held_drew (S := fun w' => Blk w' sb 32 #[.int .i64 s.node, .int .i64 s.nodes, .int .i64 s.cells, .int .i64 s.epoch, .slice (some ⟨g, 0, none⟩) s.places.length cap, .slice A2 qs.length c2, .slice A3 s.decided.length c3, .slice A4 cs.length c4] ∧ Blk w' gt 43 #[.int .i64 r.kind, .int .i64 r.tid.n, .int .i64 r.tid.e, .int .i64 r.tid.s, .slice AI r.items.length cI, .slice AN r.nodes.length cN, .int .i64 r.node, .int .i64 r.count, .int .i64 r.num, .int .i64 (j : Int), .int .i64 r.st, .int .i64 r.hop, .int .i64 r.ver, .int .i64 r.val, .bool r.yes] ∧ w'.cell? ⟨g, j * 5 + 1, none⟩ = some (.int .i64 p.hop)) (by kernel_rfl) (⟨HOO.out.blk.drew, HT.out.drew, HPC.out.2.1⟩) (fun hS => ?_)
      refine wpAnyH_take (i := 0) (v := ?vc1) rfl (by kernel_rfl) (by kernel_rfl) (by kernel_rfl) (fun _ _ _ h => h) (Or.inl ⟨by rfl, ?yc1⟩) hS ?rc1
      case yc1 => (intro w0 _; go_simp; try with_reducible rfl)
      try simp only [yA, yB, yC, Act.put, yD, yE, yF]
      refine wpAnyH_take (i := 1) (v := ?vc2) rfl (by kernel_rfl) (by kernel_rfl) (by kernel_rfl) (fun _ _ _ h => h) (Or.inl ⟨by rfl, ?yc2⟩) hS ?rc2
      case yc2 => (intro w0 hS0; (try simp only [] at hS0); obtain ⟨hS0_0, hS0_1, hS0_2⟩ := hS0; obtain ⟨q0_0, q0_1, q0_2, q0_3, q0_4, q0_5, q0_6, q0_7⟩ := hS0_0.c8; obtain ⟨q1_0, q1_1, q1_2, q1_3, q1_4, q1_5, q1_6, q1_7, q1_8, q1_9, q1_10, q1_11, q1_12, q1_13, q1_14⟩ := hS0_1.c15; go_simp; try with_reducible rfl)
      try simp only [yA, yB, yC, Act.put, yD, yE, yF]
      refine wpAnyH_take (i := 2) (v := ?vc3) rfl (by kernel_rfl) (by kernel_rfl) (by kernel_rfl) (fun _ _ _ h => h) (Or.inl ⟨by rfl, ?yc3⟩) hS ?rc3
      case yc3 => (intro w0 _; go_simp; try with_reducible rfl)
      try simp only [yA, yB, yC, Act.put, yD, yE, yF]
      refine wpAnyH_take (i := 3) (v := ?vc4) rfl (by kernel_rfl) (by kernel_rfl) (by kernel_rfl) (fun _ _ _ h => h) (Or.inl ⟨by rfl, ?yc4⟩) hS ?rc4
      case yc4 => (intro w0 _; go_simp; try with_reducible rfl)
      try simp only [yA, yB, yC, Act.put, yD, yE, yF]
      refine wpAnyH_take (i := 4) (v := ?vc5) rfl (by kernel_rfl) (by kernel_rfl) (by kernel_rfl) (fun _ _ _ h => h) (Or.inl ⟨by rfl, ?yc5⟩) hS ?rc5
      case yc5 => (intro w0 _; go_simp; try with_reducible rfl)
      try simp only [yA, yB, yC, Act.put, yD, yE, yF]
      refine wpAnyH_take (i := 5) (v := ?vc6) rfl (by kernel_rfl) (by kernel_rfl) (by kernel_rfl) (fun _ _ _ h => h) (Or.inl ⟨by rfl, ?yc6⟩) hS ?rc6
      case yc6 => (intro w0 hS0; (try simp only [] at hS0); obtain ⟨hS0_0, hS0_1, hS0_2⟩ := hS0; obtain ⟨q0_0, q0_1, q0_2, q0_3, q0_4, q0_5, q0_6, q0_7⟩ := hS0_0.c8; obtain ⟨q1_0, q1_1, q1_2, q1_3, q1_4, q1_5, q1_6, q1_7, q1_8, q1_9, q1_10, q1_11, q1_12, q1_13, q1_14⟩ := hS0_1.c15; go_simp; try with_reducible rfl)
      try simp only [yA, yB, yC, Act.put, yD, yE, yF]
      refine wpAnyH_take (i := 6) (v := ?vc7) rfl (by kernel_rfl) (by kernel_rfl) (by kernel_rfl) (fun _ _ _ h => h) (Or.inl ⟨by rfl, ?yc7⟩) hS ?rc7
      case yc7 => (intro w0 _; go_simp; try with_reducible rfl)
      try simp only [yA, yB, yC, Act.put, yD, yE, yF]
      refine wpAnyH_take (i := 7) (v := ?vc8) rfl (by kernel_rfl) (by kernel_rfl) (by kernel_rfl) (fun _ _ _ h => h) (Or.inl ⟨by rfl, ?yc8⟩) hS ?rc8
      case yc8 => (intro w0 hS0; (try simp only [] at hS0); obtain ⟨hS0_0, hS0_1, hS0_2⟩ := hS0; obtain ⟨q0_0, q0_1, q0_2, q0_3, q0_4, q0_5, q0_6, q0_7⟩ := hS0_0.c8; obtain ⟨q1_0, q1_1, q1_2, q1_3, q1_4, q1_5, q1_6, q1_7, q1_8, q1_9, q1_10, q1_11, q1_12, q1_13, q1_14⟩ := hS0_1.c15; go_simp; try with_reducible rfl)
      try simp only [yA, yB, yC, Act.put, yD, yE, yF]
      refine wpAnyH_take (i := 8) (v := ?vc9) rfl (by kernel_rfl) (by kernel_rfl) (by kernel_rfl) (fun _ _ _ h => h) (Or.inl ⟨by rfl, ?yc9⟩) hS ?rc9
      case yc9 => (intro w0 _; go_simp; try with_reducible rfl)
      try simp only [yA, yB, yC, Act.put, yD, yE, yF]
      refine wpAnyH_take (i := 9) (v := ?vc10) rfl (by kernel_rfl) (by kernel_rfl) (by kernel_rfl) (fun _ _ _ h => h) (Or.inl ⟨by rfl, ?yc10⟩) hS ?rc10
      case yc10 => (intro w0 _; go_simp; try with_reducible rfl)
      try simp only [yA, yB, yC, Act.put, yD, yE, yF]
      refine wpAnyH_take (i := 10) (v := ?vc11) rfl (by kernel_rfl) (by kernel_rfl) (by kernel_rfl) (fun _ _ _ h => h) (Or.inl ⟨by rfl, ?yc11⟩) hS ?rc11
      case yc11 => (intro w0 hS0; (try simp only [] at hS0); obtain ⟨hS0_0, hS0_1, hS0_2⟩ := hS0; obtain ⟨q0_0, q0_1, q0_2, q0_3, q0_4, q0_5, q0_6, q0_7⟩ := hS0_0.c8; obtain ⟨q1_0, q1_1, q1_2, q1_3, q1_4, q1_5, q1_6, q1_7, q1_8, q1_9, q1_10, q1_11, q1_12, q1_13, q1_14⟩ := hS0_1.c15; go_simp; try with_reducible rfl)
      try simp only [yA, yB, yC, Act.put, yD, yE, yF]
      refine wpAnyH_take (i := 11) (v := ?vc12) rfl (by kernel_rfl) (by kernel_rfl) (by kernel_rfl) (fun _ _ _ h => h) (Or.inl ⟨by rfl, ?yc12⟩) hS ?rc12
      case yc12 => (intro w0 _; go_simp; try with_reducible rfl)
      try simp only [yA, yB, yC, Act.put, yD, yE, yF]
      refine wpAnyH_take (i := 12) (v := ?vc13) rfl (by kernel_rfl) (by kernel_rfl) (by kernel_rfl) (fun _ _ _ h => h) (Or.inl ⟨by rfl, ?yc13⟩) hS ?rc13
      case yc13 => (intro w0 _; go_simp; try with_reducible rfl)
      try simp only [yA, yB, yC, Act.put, yD, yE, yF]
      refine wpAnyH_done (by kernel_rfl) ?_ _
      refine NoPanic.normal ?_
      try simp only [Exit.then]
      clear hS
      replace HT := As.mk HT.out.drew
      replace HOO := As.mk HOO.out.drew
      replace HG := As.mk (gr_drew HG.out)
      replace HK := As.mk (HK.out.trans (.none (gr_drew (gr_refl _ none))))
      by_cases hh : r.hop ≤ p.hop
      · have HE := As.mk (show inE s r = (10, s) by unfold inE; rw [if_neg (by rw [hk]; simp), if_neg (by rw [hy]; simp), HPA.out, if_pos hh])
        go_wp2_with fail
        go_ret
        exact MutPost.of HE.out HG.out HK.out ⟨_, _, _, _, _, _, HOO.out⟩
      · have HE := As.mk (show inE s r = (0, setAt s r.cell ⟨1, r.hop, 0, r.ver, r.val⟩) by unfold inE; rw [if_neg (by rw [hk]; simp), if_neg (by rw [hy]; simp), HPA.out, if_neg hh])
        go_wp2_with fail
        have hlo : w0.heap.size ≤ g := own_lo HOO0.out.pl g rfl
        have HO5 := As.mk ((HOO0.out.five j HJ.out (⟨1, r.hop, 0, r.ver, r.val⟩ : PPl)).drew.drew)
        have HK5 := As.mk (HK0.out.trans (.own HOO0.out.pl (by decide) (gr_drew (gr_drew (gr_set (gr_set (gr_set (gr_set (gr_set (gr_refl _ (some g)) (a := ⟨g, j * 5, none⟩) (.inl rfl) (.int .i64 (⟨1, r.hop, 0, r.ver, r.val⟩ : PPl).st)) (a := ⟨g, j * 5 + 1, none⟩) (.inl rfl) (.int .i64 (⟨1, r.hop, 0, r.ver, r.val⟩ : PPl).hop)) (a := ⟨g, j * 5 + 2, none⟩) (.inl rfl) (.int .i64 (⟨1, r.hop, 0, r.ver, r.val⟩ : PPl).to_)) (a := ⟨g, j * 5 + 3, none⟩) (.inl rfl) (.int .i64 (⟨1, r.hop, 0, r.ver, r.val⟩ : PPl).ver)) (a := ⟨g, j * 5 + 4, none⟩) (.inl rfl) (.int .i64 (⟨1, r.hop, 0, r.ver, r.val⟩ : PPl).val))))))
        have HG5 := As.mk (gr_drew (gr_drew (gr_set (gr_set (gr_set (gr_set (gr_set HG0.out (a := ⟨g, j * 5, none⟩) (.inr hlo) (.int .i64 (⟨1, r.hop, 0, r.ver, r.val⟩ : PPl).st)) (a := ⟨g, j * 5 + 1, none⟩) (.inr hlo) (.int .i64 (⟨1, r.hop, 0, r.ver, r.val⟩ : PPl).hop)) (a := ⟨g, j * 5 + 2, none⟩) (.inr hlo) (.int .i64 (⟨1, r.hop, 0, r.ver, r.val⟩ : PPl).to_)) (a := ⟨g, j * 5 + 3, none⟩) (.inr hlo) (.int .i64 (⟨1, r.hop, 0, r.ver, r.val⟩ : PPl).ver)) (a := ⟨g, j * 5 + 4, none⟩) (.inr hlo) (.int .i64 (⟨1, r.hop, 0, r.ver, r.val⟩ : PPl).val))))
        dsimp only at HO5 HK5 HG5
        refine wp_region_noPanic ?_
        refine wp_region_D (S := fun w' => Blk w' sb 32 #[.int .i64 s.node, .int .i64 s.nodes, .int .i64 s.cells, .int .i64 s.epoch, .slice (some ⟨g, 0, none⟩) s.places.length cap, .slice A2 qs.length c2, .slice A3 s.decided.length c3, .slice A4 cs.length c4] ∧ Blk w' gt 43 #[.int .i64 r.kind, .int .i64 r.tid.n, .int .i64 r.tid.e, .int .i64 r.tid.s, .slice AI r.items.length cI, .slice AN r.nodes.length cN, .int .i64 r.node, .int .i64 r.count, .int .i64 r.num, .int .i64 (j : Int), .int .i64 r.st, .int .i64 r.hop, .int .i64 r.ver, .int .i64 r.val, .bool r.yes]) 14 (by kernel_rfl) (⟨HOO.out.blk.drew, HT.out.drew⟩) (fun hS => ?_)
        refine wpAnyD_take (i := 0) (v := ?vd1) rfl rfl (by kernel_rfl) (by kernel_rfl) (by kernel_rfl) (by kernel_rfl) (fun _ _ _ h => h) (Or.inl ⟨by rfl, ?yd1⟩) hS ?rd1
        case yd1 => (intro w0 _; go_simp; try with_reducible rfl)
        try simp only [yA, yB, yC, Act.put, yD, yE, yF]
        refine wpAnyD_take (i := 1) (v := ?vd2) rfl rfl (by kernel_rfl) (by kernel_rfl) (by kernel_rfl) (by kernel_rfl) (fun _ _ _ h => h) (Or.inl ⟨by rfl, ?yd2⟩) hS ?rd2
        case yd2 => (intro w0 _; go_simp; try with_reducible rfl)
        try simp only [yA, yB, yC, Act.put, yD, yE, yF]
        refine wpAnyD_take (i := 2) (v := ?vd3) rfl rfl (by kernel_rfl) (by kernel_rfl) (by kernel_rfl) (by kernel_rfl) (fun _ _ _ h => h) (Or.inl ⟨by rfl, ?yd3⟩) hS ?rd3
        case yd3 => (intro w0 _; go_simp; try with_reducible rfl)
        try simp only [yA, yB, yC, Act.put, yD, yE, yF]
        refine wpAnyD_take (i := 3) (v := ?vd4) rfl rfl (by kernel_rfl) (by kernel_rfl) (by kernel_rfl) (by kernel_rfl) (fun _ _ _ h => h) (Or.inl ⟨by rfl, ?yd4⟩) hS ?rd4
        case yd4 => (intro w0 hS0; (try simp only [] at hS0); obtain ⟨hS0_0, hS0_1⟩ := hS0; obtain ⟨q0_0, q0_1, q0_2, q0_3, q0_4, q0_5, q0_6, q0_7⟩ := hS0_0.c8; obtain ⟨q1_0, q1_1, q1_2, q1_3, q1_4, q1_5, q1_6, q1_7, q1_8, q1_9, q1_10, q1_11, q1_12, q1_13, q1_14⟩ := hS0_1.c15; go_simp; try with_reducible rfl)
        try simp only [yA, yB, yC, Act.put, yD, yE, yF]
        refine wpAnyD_take (i := 4) (v := ?vd5) rfl rfl (by kernel_rfl) (by kernel_rfl) (by kernel_rfl) (by kernel_rfl) (fun _ _ _ h => h) (Or.inl ⟨by rfl, ?yd5⟩) hS ?rd5
        case yd5 => (intro w0 _; go_simp; try with_reducible rfl)
        try simp only [yA, yB, yC, Act.put, yD, yE, yF]
        refine wpAnyD_take (i := 5) (v := ?vd6) rfl rfl (by kernel_rfl) (by kernel_rfl) (by kernel_rfl) (by kernel_rfl) (fun _ _ _ h => h) (Or.inl ⟨by rfl, ?yd6⟩) hS ?rd6
        case yd6 => (intro w0 hS0; (try simp only [] at hS0); obtain ⟨hS0_0, hS0_1⟩ := hS0; obtain ⟨q0_0, q0_1, q0_2, q0_3, q0_4, q0_5, q0_6, q0_7⟩ := hS0_0.c8; obtain ⟨q1_0, q1_1, q1_2, q1_3, q1_4, q1_5, q1_6, q1_7, q1_8, q1_9, q1_10, q1_11, q1_12, q1_13, q1_14⟩ := hS0_1.c15; go_simp; try with_reducible rfl)
        try simp only [yA, yB, yC, Act.put, yD, yE, yF]
        refine wpAnyD_take (i := 6) (v := ?vd7) rfl rfl (by kernel_rfl) (by kernel_rfl) (by kernel_rfl) (by kernel_rfl) (fun _ _ _ h => h) (Or.inl ⟨by rfl, ?yd7⟩) hS ?rd7
        case yd7 => (intro w0 _; go_simp; try with_reducible rfl)
        try simp only [yA, yB, yC, Act.put, yD, yE, yF]
        refine wpAnyD_take (i := 7) (v := ?vd8) rfl rfl (by kernel_rfl) (by kernel_rfl) (by kernel_rfl) (by kernel_rfl) (fun _ _ _ h => h) (Or.inl ⟨by rfl, ?yd8⟩) hS ?rd8
        case yd8 => (intro w0 hS0; (try simp only [] at hS0); obtain ⟨hS0_0, hS0_1⟩ := hS0; obtain ⟨q0_0, q0_1, q0_2, q0_3, q0_4, q0_5, q0_6, q0_7⟩ := hS0_0.c8; obtain ⟨q1_0, q1_1, q1_2, q1_3, q1_4, q1_5, q1_6, q1_7, q1_8, q1_9, q1_10, q1_11, q1_12, q1_13, q1_14⟩ := hS0_1.c15; go_simp; try with_reducible rfl)
        try simp only [yA, yB, yC, Act.put, yD, yE, yF]
        refine wpAnyD_take (i := 8) (v := ?vd9) rfl rfl (by kernel_rfl) (by kernel_rfl) (by kernel_rfl) (by kernel_rfl) (fun _ _ _ h => h) (Or.inl ⟨by rfl, ?yd9⟩) hS ?rd9
        case yd9 => (intro w0 _; go_simp; try with_reducible rfl)
        try simp only [yA, yB, yC, Act.put, yD, yE, yF]
        refine wpAnyD_take (i := 9) (v := ?vd10) rfl rfl (by kernel_rfl) (by kernel_rfl) (by kernel_rfl) (by kernel_rfl) (fun _ _ _ h => h) (Or.inl ⟨by rfl, ?yd10⟩) hS ?rd10
        case yd10 => (intro w0 hS0; (try simp only [] at hS0); obtain ⟨hS0_0, hS0_1⟩ := hS0; obtain ⟨q0_0, q0_1, q0_2, q0_3, q0_4, q0_5, q0_6, q0_7⟩ := hS0_0.c8; obtain ⟨q1_0, q1_1, q1_2, q1_3, q1_4, q1_5, q1_6, q1_7, q1_8, q1_9, q1_10, q1_11, q1_12, q1_13, q1_14⟩ := hS0_1.c15; go_simp; try with_reducible rfl)
        try simp only [yA, yB, yC, Act.put, yD, yE, yF]
        refine wpAnyD_take (i := 10) (v := ?vd11) rfl rfl (by kernel_rfl) (by kernel_rfl) (by kernel_rfl) (by kernel_rfl) (fun _ _ _ h => h) (Or.inl ⟨by rfl, ?yd11⟩) hS ?rd11
        case yd11 => (intro w0 _; go_simp; try with_reducible rfl)
        try simp only [yA, yB, yC, Act.put, yD, yE, yF]
        refine wpAnyD_take (i := 11) (v := ?vd12) rfl rfl (by kernel_rfl) (by kernel_rfl) (by kernel_rfl) (by kernel_rfl) (fun _ _ _ h => h) (Or.inl ⟨by rfl, ?yd12⟩) hS ?rd12
        case yd12 => (intro w0 hS0; (try simp only [] at hS0); obtain ⟨hS0_0, hS0_1⟩ := hS0; obtain ⟨q0_0, q0_1, q0_2, q0_3, q0_4, q0_5, q0_6, q0_7⟩ := hS0_0.c8; obtain ⟨q1_0, q1_1, q1_2, q1_3, q1_4, q1_5, q1_6, q1_7, q1_8, q1_9, q1_10, q1_11, q1_12, q1_13, q1_14⟩ := hS0_1.c15; go_simp; try with_reducible rfl)
        try simp only [yA, yB, yC, Act.put, yD, yE, yF]
        refine wpAnyD_take (i := 12) (v := ?vd13) rfl rfl (by kernel_rfl) (by kernel_rfl) (by kernel_rfl) (by kernel_rfl) (fun _ _ _ h => h) (Or.inl ⟨by rfl, ?yd13⟩) hS ?rd13
        case yd13 => (intro w0 _; go_simp; try with_reducible rfl)
        try simp only [yA, yB, yC, Act.put, yD, yE, yF]
        refine wpAnyD_take (i := 13) (v := ?vd14) rfl rfl (by kernel_rfl) (by kernel_rfl) (by kernel_rfl) (by kernel_rfl) (fun _ _ _ h => h) (Or.inl ⟨by rfl, ?yd14⟩) hS ?rd14
        case yd14 => (intro w0 _; go_simp; try with_reducible rfl)
        try simp only [yA, yB, yC, Act.put, yD, yE, yF]
        refine wpAnyD_ready (rs := [14]) (by kernel_rfl) (by simp) (AllReadyD.cons (i := 14) rfl (fun K hK => ?_) AllReadyD.nil)
        obtain ⟨pc0, pc1, pc2, pc3, pc4⟩ := HPC.out
        obtain ⟨pf0, pf1, pf2, pf3, pf4⟩ := HPF.out
        go_simp
        refine hK.out _ _ (fun h => absurd rfl h) (fun _ => ?_)
        clear hK K
        try simp only [yA, yB, yC, Act.put, yD, yE, yF]
        refine wpAnyD_done (by kernel_rfl) ?_ _
        refine NoPanic.normal ?_
        try simp only [Exit.then]
        go_wp2_with fail
        go_ret
        exact MutPost.of (HE.out.trans (by rw [hjc])) HG5.out HK5.out ⟨_, _, _, _, _, _, HO5.out⟩
    · have HE := As.mk (show inE s r = (9, s) by unfold inE; rw [if_neg (by rw [hk]; simp), if_pos hy])
      go_wp2_with fail
      go_ret
      exact MutPost.of HE.out HG.out HK.out HO.out
set_option maxHeartbeats 6400000 in
theorem goneS_c (w0 w : World) (sb : Nat) (s : PSt) (hg : w0.grownBy w none) (hs : StO w w0.heap.size sb s) (r : PRec) (AI : Option Addr) (cI : Nat) (AN : Option Addr) (cN : Nat) :
    Calls Try.prog 59 #[.pointer (some ⟨sb, 0, none⟩), .agg (reCells r AI cI AN cN)] w (MutPost w0 w sb (.int .i64 (goneE s r).1) (goneE s r).2) := by
  have HGA := gr_alloc (gr_refl w none) (.cells (reCells r AI cI AN cN) 43)
  have HG := As.mk (gr_then hg HGA (.inl rfl))
  have HO := As.mk (hs.grown HGA)
  have HK := As.mk (Keeps.none (sb := sb) HGA)
  have HT := As.mk (Blk.new w 43 (reCells r AI cI AN cN))
  have hd := hs.grown HGA
  clear hs hg HGA
  unfold reCells at *
  go_enter Try.func59, Try.ntmps59
  go_wp2_with fail
  generalize w.alloc (.cells #[.int .i64 r.kind, .int .i64 r.tid.n, .int .i64 r.tid.e, .int .i64 r.tid.s, .slice AI r.items.length cI, .slice AN r.nodes.length cN, .int .i64 r.node, .int .i64 r.count, .int .i64 r.num, .int .i64 r.cell, .int .i64 r.st, .int .i64 r.hop, .int .i64 r.ver, .int .i64 r.val, .bool r.yes] 43) = W at *
  generalize w.heap.size = gt at *
  obtain ⟨vP, vQ, vD, vC, hB, h⟩ := hd.toP
  obtain ⟨A1, c1, rfl⟩ := h.pl.len
  obtain ⟨A2, c2, rfl⟩ := h.pr.len
  obtain ⟨A3, c3, rfl⟩ := h.de.len
  obtain ⟨A4, c4, rfl⟩ := h.cm.len
  have HB := As.mk hB
  have HR := As.mk h
  unfold stCells at HB
  clear hd hB h
  refine wp_region_noPanic ?_
  refine wp_region_held_drew (S := fun w' => Blk w' sb 32 #[.int .i64 s.node, .int .i64 s.nodes, .int .i64 s.cells, .int .i64 s.epoch, .slice A1 s.places.length c1, .slice A2 s.prepared.length c2, .slice A3 s.decided.length c3, .slice A4 s.commits.length c4] ∧ Blk w' gt 43 #[.int .i64 r.kind, .int .i64 r.tid.n, .int .i64 r.tid.e, .int .i64 r.tid.s, .slice AI r.items.length cI, .slice AN r.nodes.length cN, .int .i64 r.node, .int .i64 r.count, .int .i64 r.num, .int .i64 r.cell, .int .i64 r.st, .int .i64 r.hop, .int .i64 r.ver, .int .i64 r.val, .bool r.yes]) (by kernel_rfl) (⟨HB.out.drew, HT.out.drew⟩) (fun hS => ?_)
  refine wpAnyH_take (i := 0) (v := ?va1) rfl (by kernel_rfl) (by kernel_rfl) (by kernel_rfl) (fun _ _ _ h => h) (Or.inl ⟨by rfl, ?ya1⟩) hS ?ra1
  case ya1 => (intro w0 _; go_simp; try with_reducible rfl)
  try simp only [yA, yB, yC, Act.put, yD, yE, yF]
  refine wpAnyH_take (i := 1) (v := ?va2) rfl (by kernel_rfl) (by kernel_rfl) (by kernel_rfl) (fun _ _ _ h => h) (Or.inl ⟨by rfl, ?ya2⟩) hS ?ra2
  case ya2 => (intro w0 _; go_simp; try with_reducible rfl)
  try simp only [yA, yB, yC, Act.put, yD, yE, yF]
  refine wpAnyH_take (i := 2) (v := ?va3) rfl (by kernel_rfl) (by kernel_rfl) (by kernel_rfl) (fun _ _ _ h => h) (Or.inl ⟨by rfl, ?ya3⟩) hS ?ra3
  case ya3 => (intro w0 hS0; (try simp only [] at hS0); obtain ⟨hS0_0, hS0_1⟩ := hS0; obtain ⟨q0_0, q0_1, q0_2, q0_3, q0_4, q0_5, q0_6, q0_7⟩ := hS0_0.c8; obtain ⟨q1_0, q1_1, q1_2, q1_3, q1_4, q1_5, q1_6, q1_7, q1_8, q1_9, q1_10, q1_11, q1_12, q1_13, q1_14⟩ := hS0_1.c15; go_simp; try with_reducible rfl)
  try simp only [yA, yB, yC, Act.put, yD, yE, yF]
  refine wpAnyH_take (i := 3) (v := ?va4) rfl (by kernel_rfl) (by kernel_rfl) (by kernel_rfl) (fun _ _ _ h => h) (Or.inl ⟨by rfl, ?ya4⟩) hS ?ra4
  case ya4 => (intro w0 _; go_simp; try with_reducible rfl)
  try simp only [yA, yB, yC, Act.put, yD, yE, yF]
  refine wpAnyH_take (i := 4) (v := ?va5) rfl (by kernel_rfl) (by kernel_rfl) (by kernel_rfl) (fun _ _ _ h => h) (Or.inl ⟨by rfl, ?ya5⟩) hS ?ra5
  case ya5 => (intro w0 hS0; (try simp only [] at hS0); obtain ⟨hS0_0, hS0_1⟩ := hS0; obtain ⟨q0_0, q0_1, q0_2, q0_3, q0_4, q0_5, q0_6, q0_7⟩ := hS0_0.c8; obtain ⟨q1_0, q1_1, q1_2, q1_3, q1_4, q1_5, q1_6, q1_7, q1_8, q1_9, q1_10, q1_11, q1_12, q1_13, q1_14⟩ := hS0_1.c15; go_simp; try with_reducible rfl)
  try simp only [yA, yB, yC, Act.put, yD, yE, yF]
  refine wpAnyH_ready (rs := [5]) (by kernel_rfl) (by simp) (AllReadyH.cons (i := 5) rfl (fun K hK => ?_) AllReadyH.nil)
  go_simp
  refine (cell_c _ s _ _ _ _ (HR.out.grown (gr_drew (gr_refl _ none))) r.cell _ rfl).mono ?_
  rintro e0 w1 ⟨rfl, hg1⟩
  replace HB := As.mk (HB.out.drew.grown hg1 (by simp))
  replace HT := As.mk (HT.out.drew.grown hg1 (by simp))
  replace HO := As.mk (HO.out.drew.grown hg1)
  replace HR := As.mk ((HR.out.grown (gr_drew (gr_refl _ none))).grown hg1)
  replace HG := As.mk (gr_then (gr_drew HG.out) hg1 (.inl rfl))
  replace HK := As.mk (HK.out.trans (.none (gr_then (gr_drew (gr_refl _ none)) hg1 (.inl rfl))))
  clear hg1
  go_simp
  refine hK.out _ _ (⟨HB.out, HT.out⟩) (fun hS => ?_)
  clear hK K
  try simp only [yA, yB, yC, Act.put, yD, yE, yF]
  refine wpAnyH_take (i := 6) (v := ?va7) rfl (by kernel_rfl) (by kernel_rfl) (by kernel_rfl) (fun _ _ _ h => h) (Or.inl ⟨by rfl, ?ya7⟩) hS ?ra7
  case ya7 => (intro w0 _; go_simp; try with_reducible rfl)
  try simp only [yA, yB, yC, Act.put, yD, yE, yF]
  refine wpAnyH_take (i := 7) (v := ?va8) rfl (by kernel_rfl) (by kernel_rfl) (by kernel_rfl) (fun _ _ _ h => h) (Or.inl ⟨by rfl, ?ya8⟩) hS ?ra8
  case ya8 => (intro w0 _; go_simp; try with_reducible rfl)
  try simp only [yA, yB, yC, Act.put, yD, yE, yF]
  refine wpAnyH_done (by kernel_rfl) ?_ _
  refine NoPanic.normal ?_
  try simp only [Exit.then]
  clear hS
  cases hk : cellB s r.cell
  · have HE := As.mk (show goneE s r = (1, s) by unfold goneE; rw [if_pos hk])
    go_wp2_with fail
    go_ret
    exact MutPost.of HE.out HG.out HK.out HO.out
  · go_wp2_with fail
    obtain ⟨j, hjc⟩ : ∃ j : Nat, r.cell = (j : Int) := ⟨r.cell.toNat, by unfold cellB at hk; simp only [Bool.and_eq_true, decide_eq_true_eq] at hk; omega⟩
    have hj : j < s.places.length := by unfold cellB at hk; simp only [Bool.and_eq_true, decide_eq_true_eq] at hk; omega
    have HPA := As.mk (show placeAt s r.cell = s.places[j]'hj by unfold placeAt; rw [hjc, Int.toNat_natCast, List.getElem?_eq_getElem hj])
    have hj0 : (0 : Int) ≤ (j : Int) := by omega
    have hjI : (j : Int) < (s.places.length : Int) := by omega
    have hd := HO.out
    obtain ⟨vP, vQ, vD, vC, qs, cs, hO⟩ := hd
    obtain ⟨g, cap, rfl⟩ := own_some hO.pl (by omega)
    have hle : s.places.length ≤ cap ∧ cap ≤ 9223372036854775807 := by
      obtain ⟨_, _, _, _, h1, h2⟩ := own_whole hO.pl
      exact ⟨h1, by simp only [maxLen] at h2; omega⟩
    obtain ⟨A2, c2, rfl⟩ := own_shape hO.pr
    obtain ⟨A3, c3, rfl⟩ := own_shape hO.de
    obtain ⟨A4, c4, rfl⟩ := own_shape hO.cm
    have HOO := As.mk hO
    rw [hjc] at HT
    have pc0 := (hO.atP j _ (List.getElem?_eq_getElem hj) 0 _ rfl).1
    have pc1 := (hO.atP j _ (List.getElem?_eq_getElem hj) 1 _ rfl).1
    have pc2 := (hO.atP j _ (List.getElem?_eq_getElem hj) 2 _ rfl).1
    have pc3 := (hO.atP j _ (List.getElem?_eq_getElem hj) 3 _ rfl).1
    have pc4 := (hO.atP j _ (List.getElem?_eq_getElem hj) 4 _ rfl).1
    have pf0 := (hO.atP j _ (List.getElem?_eq_getElem hj) 0 _ rfl).2
    have pf1 := (hO.atP j _ (List.getElem?_eq_getElem hj) 1 _ rfl).2
    have pf2 := (hO.atP j _ (List.getElem?_eq_getElem hj) 2 _ rfl).2
    have pf3 := (hO.atP j _ (List.getElem?_eq_getElem hj) 3 _ rfl).2
    have pf4 := (hO.atP j _ (List.getElem?_eq_getElem hj) 4 _ rfl).2
    simp only [Nat.add_zero] at pc0 pf0
    have HPC := As.mk (And.intro pc0 (And.intro pc1 (And.intro pc2 (And.intro pc3 pc4))))
    have HPF := As.mk (And.intro pf0 (And.intro pf1 (And.intro pf2 (And.intro pf3 pf4))))
    have HJ := As.mk hj
    have HPJ := As.mk (List.getElem?_eq_getElem hj)
    have HOO0 := As.mk hO
    have HG0 := As.mk HG.out
    have HT0 := As.mk HT.out
    have HK0 := As.mk HK.out
    clear hO pc0 pc1 pc2 pc3 pc4 pf0 pf1 pf2 pf3 pf4 HB HR HO
    generalize s.places[j]'hj = p at *
    refine wp_region_noPanic ?_
    refine wp_region_held_drew (S := fun w' => Blk w' sb 32 #[.int .i64 s.node, .int .i64 s.nodes, .int .i64 s.cells, .int .i64 s.epoch, .slice (some ⟨g, 0, none⟩) s.places.length cap, .slice A2 qs.length c2, .slice A3 s.decided.length c3, .slice A4 cs.length c4] ∧ Blk w' gt 43 #[.int .i64 r.kind, .int .i64 r.tid.n, .int .i64 r.tid.e, .int .i64 r.tid.s, .slice AI r.items.length cI, .slice AN r.nodes.length cN, .int .i64 r.node, .int .i64 r.count, .int .i64 r.num, .int .i64 (j : Int), .int .i64 r.st, .int .i64 r.hop, .int .i64 r.ver, .int .i64 r.val, .bool r.yes] ∧ w'.cell? ⟨g, j * 5, none⟩ = some (.int .i64 p.st)) (by kernel_rfl) (⟨HOO.out.blk.drew, HT.out.drew, HPC.out.1⟩) (fun hS => ?_)
    refine wpAnyH_take (i := 0) (v := ?vb1) rfl (by kernel_rfl) (by kernel_rfl) (by kernel_rfl) (fun _ _ _ h => h) (Or.inl ⟨by rfl, ?yb1⟩) hS ?rb1
    case yb1 => (intro w0 _; go_simp; try with_reducible rfl)
    try simp only [yA, yB, yC, Act.put, yD, yE, yF]
    refine wpAnyH_take (i := 1) (v := ?vb2) rfl (by kernel_rfl) (by kernel_rfl) (by kernel_rfl) (fun _ _ _ h => h) (Or.inl ⟨by rfl, ?yb2⟩) hS ?rb2
    case yb2 => (intro w0 _; go_simp; try with_reducible rfl)
    try simp only [yA, yB, yC, Act.put, yD, yE, yF]
    refine wpAnyH_take (i := 2) (v := ?vb3) rfl (by kernel_rfl) (by kernel_rfl) (by kernel_rfl) (fun _ _ _ h => h) (Or.inl ⟨by rfl, ?yb3⟩) hS ?rb3
    case yb3 => (intro w0 _; go_simp; try with_reducible rfl)
    try simp only [yA, yB, yC, Act.put, yD, yE, yF]
    refine wpAnyH_take (i := 3) (v := ?vb4) rfl (by kernel_rfl) (by kernel_rfl) (by kernel_rfl) (fun _ _ _ h => h) (Or.inl ⟨by rfl, ?yb4⟩) hS ?rb4
    case yb4 => (intro w0 hS0; (try simp only [] at hS0); obtain ⟨hS0_0, hS0_1, hS0_2⟩ := hS0; obtain ⟨q0_0, q0_1, q0_2, q0_3, q0_4, q0_5, q0_6, q0_7⟩ := hS0_0.c8; obtain ⟨q1_0, q1_1, q1_2, q1_3, q1_4, q1_5, q1_6, q1_7, q1_8, q1_9, q1_10, q1_11, q1_12, q1_13, q1_14⟩ := hS0_1.c15; go_simp; try with_reducible rfl)
    try simp only [yA, yB, yC, Act.put, yD, yE, yF]
    refine wpAnyH_take (i := 4) (v := ?vb5) rfl (by kernel_rfl) (by kernel_rfl) (by kernel_rfl) (fun _ _ _ h => h) (Or.inl ⟨by rfl, ?yb5⟩) hS ?rb5
    case yb5 => (intro w0 _; go_simp; try with_reducible rfl)
    try simp only [yA, yB, yC, Act.put, yD, yE, yF]
    refine wpAnyH_take (i := 5) (v := ?vb6) rfl (by kernel_rfl) (by kernel_rfl) (by kernel_rfl) (fun _ _ _ h => h) (Or.inl ⟨by rfl, ?yb6⟩) hS ?rb6
    case yb6 => (intro w0 hS0; (try simp only [] at hS0); obtain ⟨hS0_0, hS0_1, hS0_2⟩ := hS0; obtain ⟨q0_0, q0_1, q0_2, q0_3, q0_4, q0_5, q0_6, q0_7⟩ := hS0_0.c8; obtain ⟨q1_0, q1_1, q1_2, q1_3, q1_4, q1_5, q1_6, q1_7, q1_8, q1_9, q1_10, q1_11, q1_12, q1_13, q1_14⟩ := hS0_1.c15; go_simp; try with_reducible rfl)
    try simp only [yA, yB, yC, Act.put, yD, yE, yF]
    refine wpAnyH_take (i := 6) (v := ?vb7) rfl (by kernel_rfl) (by kernel_rfl) (by kernel_rfl) (fun _ _ _ h => h) (Or.inl ⟨by rfl, ?yb7⟩) hS ?rb7
    case yb7 => (intro w0 _; go_simp; try with_reducible rfl)
    try simp only [yA, yB, yC, Act.put, yD, yE, yF]
    refine wpAnyH_take (i := 7) (v := ?vb8) rfl (by kernel_rfl) (by kernel_rfl) (by kernel_rfl) (fun _ _ _ h => h) (Or.inl ⟨by rfl, ?yb8⟩) hS ?rb8
    case yb8 => (intro w0 _; go_simp; try with_reducible rfl)
    try simp only [yA, yB, yC, Act.put, yD, yE, yF]
    refine wpAnyH_take (i := 8) (v := ?vb9) rfl (by kernel_rfl) (by kernel_rfl) (by kernel_rfl) (fun _ _ _ h => h) (Or.inl ⟨by rfl, ?yb9⟩) hS ?rb9
    case yb9 => (intro w0 hS0; (try simp only [] at hS0); obtain ⟨hS0_0, hS0_1, hS0_2⟩ := hS0; obtain ⟨q0_0, q0_1, q0_2, q0_3, q0_4, q0_5, q0_6, q0_7⟩ := hS0_0.c8; obtain ⟨q1_0, q1_1, q1_2, q1_3, q1_4, q1_5, q1_6, q1_7, q1_8, q1_9, q1_10, q1_11, q1_12, q1_13, q1_14⟩ := hS0_1.c15; go_simp; try with_reducible rfl)
    try simp only [yA, yB, yC, Act.put, yD, yE, yF]
    refine wpAnyH_take (i := 9) (v := ?vb10) rfl (by kernel_rfl) (by kernel_rfl) (by kernel_rfl) (fun _ _ _ h => h) (Or.inl ⟨by rfl, ?yb10⟩) hS ?rb10
    case yb10 => (intro w0 _; go_simp; try with_reducible rfl)
    try simp only [yA, yB, yC, Act.put, yD, yE, yF]
    refine wpAnyH_take (i := 10) (v := ?vb11) rfl (by kernel_rfl) (by kernel_rfl) (by kernel_rfl) (fun _ _ _ h => h) (Or.inl ⟨by rfl, ?yb11⟩) hS ?rb11
    case yb11 => (intro w0 _; go_simp; try with_reducible rfl)
    try simp only [yA, yB, yC, Act.put, yD, yE, yF]
    refine wpAnyH_done (by kernel_rfl) ?_ _
    refine NoPanic.normal ?_
    try simp only [Exit.then]
    clear hS
    replace HT := As.mk HT.out.drew
    replace HOO := As.mk HOO.out.drew
    replace HG := As.mk (gr_drew HG.out)
    replace HK := As.mk (HK.out.trans (.none (gr_drew (gr_refl _ none))))
    cases hy : (p.st == 2)
    · have HE := As.mk (show goneE s r = (8, s) by unfold goneE; rw [if_neg (by rw [hk]; simp), HPA.out, if_pos hy])
      go_wp2_with fail
      go_ret
      exact MutPost.of HE.out HG.out HK.out ⟨_, _, _, _, _, _, HOO.out⟩
    · go_wp2_with fail
      refine wp_region_noPanic ?_
      refine wp_region_held_drew (S := fun w' => Blk w' sb 32 #[.int .i64 s.node, .int .i64 s.nodes, .int .i64 s.cells, .int .i64 s.epoch, .slice (some ⟨g, 0, none⟩) s.places.length cap, .slice A2 qs.length c2, .slice A3 s.decided.length c3, .slice A4 cs.length c4] ∧ Blk w' gt 43 #[.int .i64 r.kind, .int .i64 r.tid.n, .int .i64 r.tid.e, .int .i64 r.tid.s, .slice AI r.items.length cI, .slice AN r.nodes.length cN, .int .i64 r.node, .int .i64 r.count, .int .i64 r.num, .int .i64 (j : Int), .int .i64 r.st, .int .i64 r.hop, .int .i64 r.ver, .int .i64 r.val, .bool r.yes] ∧ w'.cell? ⟨g, j * 5 + 1, none⟩ = some (.int .i64 p.hop)) (by kernel_rfl) (⟨HOO.out.blk.drew, HT.out.drew, HPC.out.2.1⟩) (fun hS => ?_)
      refine wpAnyH_take (i := 0) (v := ?vc1) rfl (by kernel_rfl) (by kernel_rfl) (by kernel_rfl) (fun _ _ _ h => h) (Or.inl ⟨by rfl, ?yc1⟩) hS ?rc1
      case yc1 => (intro w0 _; go_simp; try with_reducible rfl)
      try simp only [yA, yB, yC, Act.put, yD, yE, yF]
      refine wpAnyH_take (i := 1) (v := ?vc2) rfl (by kernel_rfl) (by kernel_rfl) (by kernel_rfl) (fun _ _ _ h => h) (Or.inl ⟨by rfl, ?yc2⟩) hS ?rc2
      case yc2 => (intro w0 hS0; (try simp only [] at hS0); obtain ⟨hS0_0, hS0_1, hS0_2⟩ := hS0; obtain ⟨q0_0, q0_1, q0_2, q0_3, q0_4, q0_5, q0_6, q0_7⟩ := hS0_0.c8; obtain ⟨q1_0, q1_1, q1_2, q1_3, q1_4, q1_5, q1_6, q1_7, q1_8, q1_9, q1_10, q1_11, q1_12, q1_13, q1_14⟩ := hS0_1.c15; go_simp; try with_reducible rfl)
      try simp only [yA, yB, yC, Act.put, yD, yE, yF]
      refine wpAnyH_take (i := 2) (v := ?vc3) rfl (by kernel_rfl) (by kernel_rfl) (by kernel_rfl) (fun _ _ _ h => h) (Or.inl ⟨by rfl, ?yc3⟩) hS ?rc3
      case yc3 => (intro w0 _; go_simp; try with_reducible rfl)
      try simp only [yA, yB, yC, Act.put, yD, yE, yF]
      refine wpAnyH_take (i := 3) (v := ?vc4) rfl (by kernel_rfl) (by kernel_rfl) (by kernel_rfl) (fun _ _ _ h => h) (Or.inl ⟨by rfl, ?yc4⟩) hS ?rc4
      case yc4 => (intro w0 _; go_simp; try with_reducible rfl)
      try simp only [yA, yB, yC, Act.put, yD, yE, yF]
      refine wpAnyH_take (i := 4) (v := ?vc5) rfl (by kernel_rfl) (by kernel_rfl) (by kernel_rfl) (fun _ _ _ h => h) (Or.inl ⟨by rfl, ?yc5⟩) hS ?rc5
      case yc5 => (intro w0 _; go_simp; try with_reducible rfl)
      try simp only [yA, yB, yC, Act.put, yD, yE, yF]
      refine wpAnyH_take (i := 5) (v := ?vc6) rfl (by kernel_rfl) (by kernel_rfl) (by kernel_rfl) (fun _ _ _ h => h) (Or.inl ⟨by rfl, ?yc6⟩) hS ?rc6
      case yc6 => (intro w0 hS0; (try simp only [] at hS0); obtain ⟨hS0_0, hS0_1, hS0_2⟩ := hS0; obtain ⟨q0_0, q0_1, q0_2, q0_3, q0_4, q0_5, q0_6, q0_7⟩ := hS0_0.c8; obtain ⟨q1_0, q1_1, q1_2, q1_3, q1_4, q1_5, q1_6, q1_7, q1_8, q1_9, q1_10, q1_11, q1_12, q1_13, q1_14⟩ := hS0_1.c15; go_simp; try with_reducible rfl)
      try simp only [yA, yB, yC, Act.put, yD, yE, yF]
      refine wpAnyH_take (i := 6) (v := ?vc7) rfl (by kernel_rfl) (by kernel_rfl) (by kernel_rfl) (fun _ _ _ h => h) (Or.inl ⟨by rfl, ?yc7⟩) hS ?rc7
      case yc7 => (intro w0 _; go_simp; try with_reducible rfl)
      try simp only [yA, yB, yC, Act.put, yD, yE, yF]
      refine wpAnyH_take (i := 7) (v := ?vc8) rfl (by kernel_rfl) (by kernel_rfl) (by kernel_rfl) (fun _ _ _ h => h) (Or.inl ⟨by rfl, ?yc8⟩) hS ?rc8
      case yc8 => (intro w0 hS0; (try simp only [] at hS0); obtain ⟨hS0_0, hS0_1, hS0_2⟩ := hS0; obtain ⟨q0_0, q0_1, q0_2, q0_3, q0_4, q0_5, q0_6, q0_7⟩ := hS0_0.c8; obtain ⟨q1_0, q1_1, q1_2, q1_3, q1_4, q1_5, q1_6, q1_7, q1_8, q1_9, q1_10, q1_11, q1_12, q1_13, q1_14⟩ := hS0_1.c15; go_simp; try with_reducible rfl)
      try simp only [yA, yB, yC, Act.put, yD, yE, yF]
      refine wpAnyH_take (i := 8) (v := ?vc9) rfl (by kernel_rfl) (by kernel_rfl) (by kernel_rfl) (fun _ _ _ h => h) (Or.inl ⟨by rfl, ?yc9⟩) hS ?rc9
      case yc9 => (intro w0 _; go_simp; try with_reducible rfl)
      try simp only [yA, yB, yC, Act.put, yD, yE, yF]
      refine wpAnyH_take (i := 9) (v := ?vc10) rfl (by kernel_rfl) (by kernel_rfl) (by kernel_rfl) (fun _ _ _ h => h) (Or.inl ⟨by rfl, ?yc10⟩) hS ?rc10
      case yc10 => (intro w0 _; go_simp; try with_reducible rfl)
      try simp only [yA, yB, yC, Act.put, yD, yE, yF]
      refine wpAnyH_take (i := 10) (v := ?vc11) rfl (by kernel_rfl) (by kernel_rfl) (by kernel_rfl) (fun _ _ _ h => h) (Or.inl ⟨by rfl, ?yc11⟩) hS ?rc11
      case yc11 => (intro w0 hS0; (try simp only [] at hS0); obtain ⟨hS0_0, hS0_1, hS0_2⟩ := hS0; obtain ⟨q0_0, q0_1, q0_2, q0_3, q0_4, q0_5, q0_6, q0_7⟩ := hS0_0.c8; obtain ⟨q1_0, q1_1, q1_2, q1_3, q1_4, q1_5, q1_6, q1_7, q1_8, q1_9, q1_10, q1_11, q1_12, q1_13, q1_14⟩ := hS0_1.c15; go_simp; try with_reducible rfl)
      try simp only [yA, yB, yC, Act.put, yD, yE, yF]
      refine wpAnyH_take (i := 11) (v := ?vc12) rfl (by kernel_rfl) (by kernel_rfl) (by kernel_rfl) (fun _ _ _ h => h) (Or.inl ⟨by rfl, ?yc12⟩) hS ?rc12
      case yc12 => (intro w0 _; go_simp; try with_reducible rfl)
      try simp only [yA, yB, yC, Act.put, yD, yE, yF]
      refine wpAnyH_take (i := 12) (v := ?vc13) rfl (by kernel_rfl) (by kernel_rfl) (by kernel_rfl) (fun _ _ _ h => h) (Or.inl ⟨by rfl, ?yc13⟩) hS ?rc13
      case yc13 => (intro w0 _; go_simp; try with_reducible rfl)
      try simp only [yA, yB, yC, Act.put, yD, yE, yF]
      refine wpAnyH_done (by kernel_rfl) ?_ _
      refine NoPanic.normal ?_
      try simp only [Exit.then]
      clear hS
      replace HT := As.mk HT.out.drew
      replace HOO := As.mk HOO.out.drew
      replace HG := As.mk (gr_drew HG.out)
      replace HK := As.mk (HK.out.trans (.none (gr_drew (gr_refl _ none))))
      cases hh : (r.hop == p.hop)
      · have HE := As.mk (show goneE s r = (10, s) by unfold goneE; rw [if_neg (by rw [hk]; simp), HPA.out, if_neg (by rw [hy]; simp), if_pos hh])
        go_wp2_with fail
        go_ret
        exact MutPost.of HE.out HG.out HK.out ⟨_, _, _, _, _, _, HOO.out⟩
      · have HE := As.mk (show goneE s r = (0, setAt s r.cell ⟨0, r.hop, 0, 0, 0⟩) by unfold goneE; rw [if_neg (by rw [hk]; simp), HPA.out, if_neg (by rw [hy]; simp), if_neg (by rw [hh]; simp)])
        go_wp2_with fail
        have hlo : w0.heap.size ≤ g := own_lo HOO0.out.pl g rfl
        have HO5 := As.mk ((HOO0.out.five j HJ.out (⟨0, r.hop, 0, 0, 0⟩ : PPl)).drew.drew.drew)
        have HK5 := As.mk (HK0.out.trans (.own HOO0.out.pl (by decide) (gr_drew (gr_drew (gr_drew (gr_set (gr_set (gr_set (gr_set (gr_set (gr_refl _ (some g)) (a := ⟨g, j * 5, none⟩) (.inl rfl) (.int .i64 (⟨0, r.hop, 0, 0, 0⟩ : PPl).st)) (a := ⟨g, j * 5 + 1, none⟩) (.inl rfl) (.int .i64 (⟨0, r.hop, 0, 0, 0⟩ : PPl).hop)) (a := ⟨g, j * 5 + 2, none⟩) (.inl rfl) (.int .i64 (⟨0, r.hop, 0, 0, 0⟩ : PPl).to_)) (a := ⟨g, j * 5 + 3, none⟩) (.inl rfl) (.int .i64 (⟨0, r.hop, 0, 0, 0⟩ : PPl).ver)) (a := ⟨g, j * 5 + 4, none⟩) (.inl rfl) (.int .i64 (⟨0, r.hop, 0, 0, 0⟩ : PPl).val)))))))
        have HG5 := As.mk (gr_drew (gr_drew (gr_drew (gr_set (gr_set (gr_set (gr_set (gr_set HG0.out (a := ⟨g, j * 5, none⟩) (.inr hlo) (.int .i64 (⟨0, r.hop, 0, 0, 0⟩ : PPl).st)) (a := ⟨g, j * 5 + 1, none⟩) (.inr hlo) (.int .i64 (⟨0, r.hop, 0, 0, 0⟩ : PPl).hop)) (a := ⟨g, j * 5 + 2, none⟩) (.inr hlo) (.int .i64 (⟨0, r.hop, 0, 0, 0⟩ : PPl).to_)) (a := ⟨g, j * 5 + 3, none⟩) (.inr hlo) (.int .i64 (⟨0, r.hop, 0, 0, 0⟩ : PPl).ver)) (a := ⟨g, j * 5 + 4, none⟩) (.inr hlo) (.int .i64 (⟨0, r.hop, 0, 0, 0⟩ : PPl).val)))))
        dsimp only at HO5 HK5 HG5
        refine wp_region_noPanic ?_
        refine wp_region_D (S := fun w' => Blk w' sb 32 #[.int .i64 s.node, .int .i64 s.nodes, .int .i64 s.cells, .int .i64 s.epoch, .slice (some ⟨g, 0, none⟩) s.places.length cap, .slice A2 qs.length c2, .slice A3 s.decided.length c3, .slice A4 cs.length c4] ∧ Blk w' gt 43 #[.int .i64 r.kind, .int .i64 r.tid.n, .int .i64 r.tid.e, .int .i64 r.tid.s, .slice AI r.items.length cI, .slice AN r.nodes.length cN, .int .i64 r.node, .int .i64 r.count, .int .i64 r.num, .int .i64 (j : Int), .int .i64 r.st, .int .i64 r.hop, .int .i64 r.ver, .int .i64 r.val, .bool r.yes]) 10 (by kernel_rfl) (⟨HOO.out.blk.drew, HT.out.drew⟩) (fun hS => ?_)
        refine wpAnyD_take (i := 0) (v := ?vd1) rfl rfl (by kernel_rfl) (by kernel_rfl) (by kernel_rfl) (by kernel_rfl) (fun _ _ _ h => h) (Or.inl ⟨by rfl, ?yd1⟩) hS ?rd1
        case yd1 => (intro w0 _; go_simp; try with_reducible rfl)
        try simp only [yA, yB, yC, Act.put, yD, yE, yF]
        refine wpAnyD_take (i := 1) (v := ?vd2) rfl rfl (by kernel_rfl) (by kernel_rfl) (by kernel_rfl) (by kernel_rfl) (fun _ _ _ h => h) (Or.inl ⟨by rfl, ?yd2⟩) hS ?rd2
        case yd2 => (intro w0 _; go_simp; try with_reducible rfl)
        try simp only [yA, yB, yC, Act.put, yD, yE, yF]
        refine wpAnyD_take (i := 2) (v := ?vd3) rfl rfl (by kernel_rfl) (by kernel_rfl) (by kernel_rfl) (by kernel_rfl) (fun _ _ _ h => h) (Or.inl ⟨by rfl, ?yd3⟩) hS ?rd3
        case yd3 => (intro w0 _; go_simp; try with_reducible rfl)
        try simp only [yA, yB, yC, Act.put, yD, yE, yF]
        refine wpAnyD_take (i := 3) (v := ?vd4) rfl rfl (by kernel_rfl) (by kernel_rfl) (by kernel_rfl) (by kernel_rfl) (fun _ _ _ h => h) (Or.inl ⟨by rfl, ?yd4⟩) hS ?rd4
        case yd4 => (intro w0 hS0; (try simp only [] at hS0); obtain ⟨hS0_0, hS0_1⟩ := hS0; obtain ⟨q0_0, q0_1, q0_2, q0_3, q0_4, q0_5, q0_6, q0_7⟩ := hS0_0.c8; obtain ⟨q1_0, q1_1, q1_2, q1_3, q1_4, q1_5, q1_6, q1_7, q1_8, q1_9, q1_10, q1_11, q1_12, q1_13, q1_14⟩ := hS0_1.c15; go_simp; try with_reducible rfl)
        try simp only [yA, yB, yC, Act.put, yD, yE, yF]
        refine wpAnyD_take (i := 4) (v := ?vd5) rfl rfl (by kernel_rfl) (by kernel_rfl) (by kernel_rfl) (by kernel_rfl) (fun _ _ _ h => h) (Or.inl ⟨by rfl, ?yd5⟩) hS ?rd5
        case yd5 => (intro w0 _; go_simp; try with_reducible rfl)
        try simp only [yA, yB, yC, Act.put, yD, yE, yF]
        refine wpAnyD_take (i := 5) (v := ?vd6) rfl rfl (by kernel_rfl) (by kernel_rfl) (by kernel_rfl) (by kernel_rfl) (fun _ _ _ h => h) (Or.inl ⟨by rfl, ?yd6⟩) hS ?rd6
        case yd6 => (intro w0 hS0; (try simp only [] at hS0); obtain ⟨hS0_0, hS0_1⟩ := hS0; obtain ⟨q0_0, q0_1, q0_2, q0_3, q0_4, q0_5, q0_6, q0_7⟩ := hS0_0.c8; obtain ⟨q1_0, q1_1, q1_2, q1_3, q1_4, q1_5, q1_6, q1_7, q1_8, q1_9, q1_10, q1_11, q1_12, q1_13, q1_14⟩ := hS0_1.c15; go_simp; try with_reducible rfl)
        try simp only [yA, yB, yC, Act.put, yD, yE, yF]
        refine wpAnyD_take (i := 6) (v := ?vd7) rfl rfl (by kernel_rfl) (by kernel_rfl) (by kernel_rfl) (by kernel_rfl) (fun _ _ _ h => h) (Or.inl ⟨by rfl, ?yd7⟩) hS ?rd7
        case yd7 => (intro w0 _; go_simp; try with_reducible rfl)
        try simp only [yA, yB, yC, Act.put, yD, yE, yF]
        refine wpAnyD_take (i := 7) (v := ?vd8) rfl rfl (by kernel_rfl) (by kernel_rfl) (by kernel_rfl) (by kernel_rfl) (fun _ _ _ h => h) (Or.inl ⟨by rfl, ?yd8⟩) hS ?rd8
        case yd8 => (intro w0 hS0; (try simp only [] at hS0); obtain ⟨hS0_0, hS0_1⟩ := hS0; obtain ⟨q0_0, q0_1, q0_2, q0_3, q0_4, q0_5, q0_6, q0_7⟩ := hS0_0.c8; obtain ⟨q1_0, q1_1, q1_2, q1_3, q1_4, q1_5, q1_6, q1_7, q1_8, q1_9, q1_10, q1_11, q1_12, q1_13, q1_14⟩ := hS0_1.c15; go_simp; try with_reducible rfl)
        try simp only [yA, yB, yC, Act.put, yD, yE, yF]
        refine wpAnyD_take (i := 8) (v := ?vd9) rfl rfl (by kernel_rfl) (by kernel_rfl) (by kernel_rfl) (by kernel_rfl) (fun _ _ _ h => h) (Or.inl ⟨by rfl, ?yd9⟩) hS ?rd9
        case yd9 => (intro w0 _; go_simp; try with_reducible rfl)
        try simp only [yA, yB, yC, Act.put, yD, yE, yF]
        refine wpAnyD_take (i := 9) (v := ?vd10) rfl rfl (by kernel_rfl) (by kernel_rfl) (by kernel_rfl) (by kernel_rfl) (fun _ _ _ h => h) (Or.inl ⟨by rfl, ?yd10⟩) hS ?rd10
        case yd10 => (intro w0 _; go_simp; try with_reducible rfl)
        try simp only [yA, yB, yC, Act.put, yD, yE, yF]
        refine wpAnyD_ready (rs := [10]) (by kernel_rfl) (by simp) (AllReadyD.cons (i := 10) rfl (fun K hK => ?_) AllReadyD.nil)
        obtain ⟨pc0, pc1, pc2, pc3, pc4⟩ := HPC.out
        obtain ⟨pf0, pf1, pf2, pf3, pf4⟩ := HPF.out
        go_simp
        refine hK.out _ _ (fun h => absurd rfl h) (fun _ => ?_)
        clear hK K
        try simp only [yA, yB, yC, Act.put, yD, yE, yF]
        refine wpAnyD_done (by kernel_rfl) ?_ _
        refine NoPanic.normal ?_
        try simp only [Exit.then]
        go_wp2_with fail
        go_ret
        exact MutPost.of (HE.out.trans (by rw [hjc])) HG5.out HK5.out ⟨_, _, _, _, _, _, HO5.out⟩
end Go.Proofs.Ytdmkijdbldcdiaa
