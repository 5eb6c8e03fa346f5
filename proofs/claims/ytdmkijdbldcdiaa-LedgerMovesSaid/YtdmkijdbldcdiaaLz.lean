/- The walk of prepare. (Printed by wip/gen/gen_lz.py.) -/
import Derived.Test.YtdmkijdbldcdiaaLy
namespace Go.Proofs.Ytdmkijdbldcdiaa
open Go.RowKit
set_option linter.unusedVariables false
set_option linter.unusedSimpArgs false
set_option maxRecDepth 100000

def prepE (s : PSt) (r : PRec) : Int × PSt := if knownB s r.tid = true then (9, s) else if s.nodes < r.tid.n then (1, s) else if strangeB s r.nodes = true then (1, s) else if r.nodes.any (fun x => s.node == x) = false then (1, s)
  else if r.items.any (fun x : PIt => !cellB s x.c) = true then (1, s) else if freeE s r.items ≠ 0 then (freeE s r.items, s) else if roomB s = false then (6, s)
  else (0, { s with prepared := insT (fun x : PPr => x.tid) s.prepared ⟨r.tid, r.items, r.nodes⟩ })
theorem posT_map {α β : Type} (g : α → β) (f : β → PTid) (l : List α) (t : PTid) : posT f (l.map g) t = posT (fun x => f (g x)) l t := by
  unfold posT
  induction l with
  | nil => rfl
  | cons x l ih =>
    rw [List.map_cons, List.takeWhile_cons, List.takeWhile_cons]
    split
    · rw [List.length_cons, List.length_cons, ih]
    · rfl
theorem insT_map {α β : Type} (g : α → β) (f : β → PTid) (l : List α) (d : α) : (insT (fun x => f (g x)) l d).map g = insT f (l.map g) (g d) := by
  unfold insT
  rw [List.map_append, List.map_cons, List.map_take, List.map_drop, posT_map]
theorem insT_mem {α : Type} (f : α → PTid) (l : List α) (d x : α) (h : x ∈ insT f l d) : x = d ∨ x ∈ l := by
  unfold insT at h
  rcases List.mem_append.1 h with h | h
  · exact .inr (List.mem_of_mem_take h)
  · rcases List.mem_cons.1 h with h | h
    · exact .inl h
    · exact .inr (List.mem_of_mem_drop h)
set_option maxHeartbeats 6400000 in
theorem prepareS_c (w0 w : World) (sb : Nat) (s : PSt) (hg : w0.grownBy w none) (hs : StO w w0.heap.size sb s) (hn : s.prepared.length + s.decided.length ≤ 1000) (r : PRec) (AI : Option Addr) (cI : Nat) (AN : Option Addr) (cN : Nat) (hI : Arr ItE 5 w0 (.slice AI r.items.length cI) r.items) (hIn : Arr IE 1 w0 (.slice AN r.nodes.length cN) r.nodes) (hl1 : r.items.length ≤ 1000000) (hl2 : r.nodes.length ≤ 1000000) :
    Calls Try.prog 53 #[.pointer (some ⟨sb, 0, none⟩), .agg (reCells r AI cI AN cN)] w (MutPost w0 w sb (.int .i64 (prepE s r).1) (prepE s r).2) := by
  have HGA := gr_alloc (gr_alloc (gr_refl w none) (.cells #[.pointer (some ⟨sb, 0, none⟩)] 111)) (.cells (reCells r AI cI AN cN) 43)
  have HPB := As.mk ((Blk.new w 111 #[.pointer (some ⟨sb, 0, none⟩)]).alloc (.cells (reCells r AI cI AN cN) 43))
  have HG := As.mk (gr_then hg HGA (.inl rfl))
  have HO := As.mk (hs.grown HGA)
  have HK := As.mk (Keeps.none (sb := sb) HGA)
  have HT := As.mk (Blk.new_at (w.alloc (.cells #[.pointer (some ⟨sb, 0, none⟩)] 111)) 43 (reCells r AI cI AN cN) (g := w.heap.size + 1) (by simp))
  have HN := As.mk hn
  have HI := As.mk hI
  have HIN := As.mk hIn
  have HLE := As.mk (And.intro hl1 hl2)
  clear hn hI hIn hl1 hl2
  have hd := hs.grown HGA
  clear hs hg HGA
  unfold reCells at *
  go_enter Try.func53, Try.ntmps53
  go_wp2_with fail
  generalize (w.alloc (.cells #[.pointer (some ⟨sb, 0, none⟩)] 111)).alloc (.cells #[.int .i64 r.kind, .int .i64 r.tid.n, .int .i64 r.tid.e, .int .i64 r.tid.s, .slice AI r.items.length cI, .slice AN r.nodes.length cN, .int .i64 r.node, .int .i64 r.count, .int .i64 r.num, .int .i64 r.cell, .int .i64 r.st, .int .i64 r.hop, .int .i64 r.ver, .int .i64 r.val, .bool r.yes] 43) = W at *
  generalize hgt : w.heap.size + 1 = gt at *
  generalize w.heap.size = gp at *
  clear hgt
  obtain ⟨vP, vQ, vD, vC, hB, h⟩ := hd.toP
  obtain ⟨A1, c1, rfl⟩ := h.pl.len
  obtain ⟨A2, c2, rfl⟩ := h.pr.len
  obtain ⟨A3, c3, rfl⟩ := h.de.len
  obtain ⟨A4, c4, rfl⟩ := h.cm.len
  have HB := As.mk hB
  have HR := As.mk h
  unfold stCells at HB
  clear hd hB h
  refine wp_region_noPanic ?_
  refine wp_region_held_drew (S := fun w' => Blk w' sb 32 #[.int .i64 s.node, .int .i64 s.nodes, .int .i64 s.cells, .int .i64 s.epoch, .slice A1 s.places.length c1, .slice A2 s.prepared.length c2, .slice A3 s.decided.length c3, .slice A4 s.commits.length c4] ∧ Blk w' gt 43 #[.int .i64 r.kind, .int .i64 r.tid.n, .int .i64 r.tid.e, .int .i64 r.tid.s, .slice AI r.items.length cI, .slice AN r.nodes.length cN, .int .i64 r.node, .int .i64 r.count, .int .i64 r.num, .int .i64 r.cell, .int .i64 r.st, .int .i64 r.hop, .int .i64 r.ver, .int .i64 r.val, .bool r.yes] ∧ w'.cell? ⟨gp, 0, none⟩ = some (.pointer (some ⟨sb, 0, none⟩))) (by kernel_rfl) (⟨HB.out.drew, HT.out.drew, HPB.out.drew.cell 0⟩) (fun hS => ?_)
  refine wpAnyH_take (i := 0) (v := ?va1) rfl (by kernel_rfl) (by kernel_rfl) (by kernel_rfl) (fun _ _ _ h => h) (Or.inl ⟨by rfl, ?ya1⟩) hS ?ra1
  case ya1 => (intro w0 hS0; (try simp only [] at hS0); obtain ⟨hS0_0, hS0_1, hS0_2⟩ := hS0; obtain ⟨q0_0, q0_1, q0_2, q0_3, q0_4, q0_5, q0_6, q0_7⟩ := hS0_0.c8; obtain ⟨q1_0, q1_1, q1_2, q1_3, q1_4, q1_5, q1_6, q1_7, q1_8, q1_9, q1_10, q1_11, q1_12, q1_13, q1_14⟩ := hS0_1.c15; go_simp; try with_reducible rfl)
  try simp only [yA, yB, yC, Act.put, yD, yE, yF]
  refine wpAnyH_take (i := 1) (v := ?va2) rfl (by kernel_rfl) (by kernel_rfl) (by kernel_rfl) (fun _ _ _ h => h) (Or.inl ⟨by rfl, ?ya2⟩) hS ?ra2
  case ya2 => (intro w0 _; go_simp; try with_reducible rfl)
  try simp only [yA, yB, yC, Act.put, yD, yE, yF]
  refine wpAnyH_take (i := 2) (v := ?va3) rfl (by kernel_rfl) (by kernel_rfl) (by kernel_rfl) (fun _ _ _ h => h) (Or.inl ⟨by rfl, ?ya3⟩) hS ?ra3
  case ya3 => (intro w0 hS0; (try simp only [] at hS0); obtain ⟨hS0_0, hS0_1, hS0_2⟩ := hS0; obtain ⟨q0_0, q0_1, q0_2, q0_3, q0_4, q0_5, q0_6, q0_7⟩ := hS0_0.c8; obtain ⟨q1_0, q1_1, q1_2, q1_3, q1_4, q1_5, q1_6, q1_7, q1_8, q1_9, q1_10, q1_11, q1_12, q1_13, q1_14⟩ := hS0_1.c15; go_simp; try with_reducible rfl)
  try simp only [yA, yB, yC, Act.put, yD, yE, yF]
  refine wpAnyH_take (i := 3) (v := ?va4) rfl (by kernel_rfl) (by kernel_rfl) (by kernel_rfl) (fun _ _ _ h => h) (Or.inl ⟨by rfl, ?ya4⟩) hS ?ra4
  case ya4 => (intro w0 _; go_simp; try with_reducible rfl)
  try simp only [yA, yB, yC, Act.put, yD, yE, yF]
  refine wpAnyH_take (i := 4) (v := ?va5) rfl (by kernel_rfl) (by kernel_rfl) (by kernel_rfl) (fun _ _ _ h => h) (Or.inl ⟨by rfl, ?ya5⟩) hS ?ra5
  case ya5 => (intro w0 hS0; (try simp only [] at hS0); obtain ⟨hS0_0, hS0_1, hS0_2⟩ := hS0; obtain ⟨q0_0, q0_1, q0_2, q0_3, q0_4, q0_5, q0_6, q0_7⟩ := hS0_0.c8; obtain ⟨q1_0, q1_1, q1_2, q1_3, q1_4, q1_5, q1_6, q1_7, q1_8, q1_9, q1_10, q1_11, q1_12, q1_13, q1_14⟩ := hS0_1.c15; go_simp; try with_reducible rfl)
  try simp only [yA, yB, yC, Act.put, yD, yE, yF]
  refine wpAnyH_ready (rs := [5]) (by kernel_rfl) (by simp) (AllReadyH.cons (i := 5) rfl (fun K hK => ?_) AllReadyH.nil)
  go_simp
  refine (known_c _ s _ _ _ _ (HR.out.grown (gr_drew (gr_refl _ none))) r.tid _ rfl).mono ?_
  rintro e0 w1 ⟨rfl, hg1⟩
  replace HB := As.mk (HB.out.drew.grown hg1 (by simp))
  replace HT := As.mk (HT.out.drew.grown hg1 (by simp))
  replace HO := As.mk (HO.out.drew.grown hg1)
  replace HR := As.mk ((HR.out.grown (gr_drew (gr_refl _ none))).grown hg1)
  replace HG := As.mk (gr_then (gr_drew HG.out) hg1 (.inl rfl))
  replace HK := As.mk (HK.out.trans (.none (gr_then (gr_drew (gr_refl _ none)) hg1 (.inl rfl))))
  replace HPB := As.mk (HPB.out.drew.grown hg1 (by simp))
  clear hg1
  go_simp
  refine hK.out _ _ (⟨HB.out, HT.out, HPB.out.cell 0⟩) (fun hS => ?_)
  clear hK K
  try simp only [yA, yB, yC, Act.put, yD, yE, yF]
  refine wpAnyH_take (i := 6) (v := ?va7) rfl (by kernel_rfl) (by kernel_rfl) (by kernel_rfl) (fun _ _ _ h => h) (Or.inl ⟨by rfl, ?ya7⟩) hS ?ra7
  case ya7 => (intro w0 _; go_simp; try with_reducible rfl)
  try simp only [yA, yB, yC, Act.put, yD, yE, yF]
  refine wpAnyH_done (by kernel_rfl) ?_ _
  refine NoPanic.normal ?_
  try simp only [Exit.then]
  clear hS
  cases hk : knownB s r.tid
  · have HE0 := As.mk (show prepE s r = _ from if_neg (by rw [hk]; simp))
    clear hk
    go_wp2_with fail
    by_cases hn : s.nodes < r.tid.n
    · have HE := As.mk (HE0.out.trans (if_pos hn))
      refine wp_region_noPanic ?_
      refine wp_region_held_drew (S := fun w' => Blk w' sb 32 #[.int .i64 s.node, .int .i64 s.nodes, .int .i64 s.cells, .int .i64 s.epoch, .slice A1 s.places.length c1, .slice A2 s.prepared.length c2, .slice A3 s.decided.length c3, .slice A4 s.commits.length c4] ∧ Blk w' gt 43 #[.int .i64 r.kind, .int .i64 r.tid.n, .int .i64 r.tid.e, .int .i64 r.tid.s, .slice AI r.items.length cI, .slice AN r.nodes.length cN, .int .i64 r.node, .int .i64 r.count, .int .i64 r.num, .int .i64 r.cell, .int .i64 r.st, .int .i64 r.hop, .int .i64 r.ver, .int .i64 r.val, .bool r.yes] ∧ w'.cell? ⟨gp, 0, none⟩ = some (.pointer (some ⟨sb, 0, none⟩))) (by kernel_rfl) (⟨HB.out.drew, HT.out.drew, HPB.out.drew.cell 0⟩) (fun hS => ?_)
      refine wpAnyH_take (i := 0) (v := ?vb1) rfl (by kernel_rfl) (by kernel_rfl) (by kernel_rfl) (fun _ _ _ h => h) (Or.inl ⟨by rfl, ?yb1⟩) hS ?rb1
      case yb1 => (intro w0 _; go_simp; try with_reducible rfl)
      try simp only [yA, yB, yC, Act.put, yD, yE, yF]
      refine wpAnyH_take (i := 1) (v := ?vb2) rfl (by kernel_rfl) (by kernel_rfl) (by kernel_rfl) (fun _ _ _ h => h) (Or.inl ⟨by rfl, ?yb2⟩) hS ?rb2
      case yb2 => (intro w0 _; go_simp; try with_reducible rfl)
      try simp only [yA, yB, yC, Act.put, yD, yE, yF]
      refine wpAnyH_take (i := 2) (v := ?vb3) rfl (by kernel_rfl) (by kernel_rfl) (by kernel_rfl) (fun _ _ _ h => h) (Or.inl ⟨by rfl, ?yb3⟩) hS ?rb3
      case yb3 => (intro w0 hS0; (try simp only [] at hS0); obtain ⟨hS0_0, hS0_1, hS0_2⟩ := hS0; obtain ⟨q0_0, q0_1, q0_2, q0_3, q0_4, q0_5, q0_6, q0_7⟩ := hS0_0.c8; obtain ⟨q1_0, q1_1, q1_2, q1_3, q1_4, q1_5, q1_6, q1_7, q1_8, q1_9, q1_10, q1_11, q1_12, q1_13, q1_14⟩ := hS0_1.c15; go_simp; try with_reducible rfl)
      try simp only [yA, yB, yC, Act.put, yD, yE, yF]
      refine wpAnyH_take (i := 3) (v := ?vb4) rfl (by kernel_rfl) (by kernel_rfl) (by kernel_rfl) (fun _ _ _ h => h) (Or.inl ⟨by rfl, ?yb4⟩) hS ?rb4
      case yb4 => (intro w0 hS0; (try simp only [] at hS0); obtain ⟨hS0_0, hS0_1, hS0_2⟩ := hS0; obtain ⟨q0_0, q0_1, q0_2, q0_3, q0_4, q0_5, q0_6, q0_7⟩ := hS0_0.c8; obtain ⟨q1_0, q1_1, q1_2, q1_3, q1_4, q1_5, q1_6, q1_7, q1_8, q1_9, q1_10, q1_11, q1_12, q1_13, q1_14⟩ := hS0_1.c15; go_simp; try with_reducible rfl)
      try simp only [yA, yB, yC, Act.put, yD, yE, yF]
      refine wpAnyH_take (i := 4) (v := ?vb5) rfl (by kernel_rfl) (by kernel_rfl) (by kernel_rfl) (fun _ _ _ h => h) (Or.inl ⟨by rfl, ?yb5⟩) hS ?rb5
      case yb5 => (intro w0 _; go_simp; try with_reducible rfl)
      try simp only [yA, yB, yC, Act.put, yD, yE, yF]
      refine wpAnyH_take (i := 5) (v := ?vb6) rfl (by kernel_rfl) (by kernel_rfl) (by kernel_rfl) (fun _ _ _ h => h) (Or.inl ⟨by rfl, ?yb6⟩) hS ?rb6
      case yb6 => (intro w0 _; go_simp; try with_reducible rfl)
      try simp only [yA, yB, yC, Act.put, yD, yE, yF]
      refine wpAnyH_take (i := 6) (v := ?vb7) rfl (by kernel_rfl) (by kernel_rfl) (by kernel_rfl) (fun _ _ _ h => h) (Or.inl ⟨by rfl, ?yb7⟩) hS ?rb7
      case yb7 => (intro w0 hS0; (try simp only [] at hS0); obtain ⟨hS0_0, hS0_1, hS0_2⟩ := hS0; obtain ⟨q0_0, q0_1, q0_2, q0_3, q0_4, q0_5, q0_6, q0_7⟩ := hS0_0.c8; obtain ⟨q1_0, q1_1, q1_2, q1_3, q1_4, q1_5, q1_6, q1_7, q1_8, q1_9, q1_10, q1_11, q1_12, q1_13, q1_14⟩ := hS0_1.c15; go_simp; try with_reducible rfl)
      try simp only [yA, yB, yC, Act.put, yD, yE, yF]
      refine wpAnyH_take (i := 7) (v := ?vb8) rfl (by kernel_rfl) (by kernel_rfl) (by kernel_rfl) (fun _ _ _ h => h) (Or.inl ⟨by rfl, ?yb8⟩) hS ?rb8
      case yb8 => (intro w0 _; go_simp; try with_reducible rfl)
      try simp only [yA, yB, yC, Act.put, yD, yE, yF]
      refine wpAnyH_take (i := 8) (v := ?vb9) rfl (by kernel_rfl) (by kernel_rfl) (by kernel_rfl) (fun _ _ _ h => h) (Or.inl ⟨by rfl, ?yb9⟩) hS ?rb9
      case yb9 => (intro w0 _; go_simp; try with_reducible rfl)
      try simp only [yA, yB, yC, Act.put, yD, yE, yF]
      refine wpAnyH_take (i := 9) (v := undef) rfl (by kernel_rfl) (by kernel_rfl) (by kernel_rfl) (fun _ _ _ h => h) (Or.inr ⟨by kernel_rfl, rfl⟩) hS ?_
      try simp only [yA, yB, yC, Act.put, yD, yE, yF]
      refine wpAnyH_take (i := 10) (v := undef) rfl (by kernel_rfl) (by kernel_rfl) (by kernel_rfl) (fun _ _ _ h => h) (Or.inr ⟨by kernel_rfl, rfl⟩) hS ?_
      try simp only [yA, yB, yC, Act.put, yD, yE, yF]
      refine wpAnyH_take (i := 11) (v := undef) rfl (by kernel_rfl) (by kernel_rfl) (by kernel_rfl) (fun _ _ _ h => h) (Or.inr ⟨by kernel_rfl, rfl⟩) hS ?_
      try simp only [yA, yB, yC, Act.put, yD, yE, yF]
      refine wpAnyH_take (i := 12) (v := undef) rfl (by kernel_rfl) (by kernel_rfl) (by kernel_rfl) (fun _ _ _ h => h) (Or.inr ⟨by kernel_rfl, rfl⟩) hS ?_
      try simp only [yA, yB, yC, Act.put, yD, yE, yF]
      refine wpAnyH_take (i := 13) (v := undef) rfl (by kernel_rfl) (by kernel_rfl) (by kernel_rfl) (fun _ _ _ h => h) (Or.inr ⟨by kernel_rfl, rfl⟩) hS ?_
      try simp only [yA, yB, yC, Act.put, yD, yE, yF]
      refine wpAnyH_take (i := 14) (v := undef) rfl (by kernel_rfl) (by kernel_rfl) (by kernel_rfl) (fun _ _ _ h => h) (Or.inr ⟨by kernel_rfl, rfl⟩) hS ?_
      try simp only [yA, yB, yC, Act.put, yD, yE, yF]
      refine wpAnyH_take (i := 15) (v := ?vb16) rfl (by kernel_rfl) (by kernel_rfl) (by kernel_rfl) (fun _ _ _ h => h) (Or.inl ⟨by rfl, ?yb16⟩) hS ?rb16
      case yb16 => (intro w0 _; go_simp; try with_reducible rfl)
      try simp only [yA, yB, yC, Act.put, yD, yE, yF]
      refine wpAnyH_take (i := 16) (v := ?vb17) rfl (by kernel_rfl) (by kernel_rfl) (by kernel_rfl) (fun _ _ _ h => h) (Or.inl ⟨by rfl, ?yb17⟩) hS ?rb17
      case yb17 => (intro w0 _; go_simp; try with_reducible rfl)
      try simp only [yA, yB, yC, Act.put, yD, yE, yF]
      refine wpAnyH_take (i := 17) (v := undef) rfl (by kernel_rfl) (by kernel_rfl) (by kernel_rfl) (fun _ _ _ h => h) (Or.inr ⟨by kernel_rfl, rfl⟩) hS ?_
      try simp only [yA, yB, yC, Act.put, yD, yE, yF]
      refine wpAnyH_take (i := 18) (v := undef) rfl (by kernel_rfl) (by kernel_rfl) (by kernel_rfl) (fun _ _ _ h => h) (Or.inr ⟨by kernel_rfl, rfl⟩) hS ?_
      try simp only [yA, yB, yC, Act.put, yD, yE, yF]
      refine wpAnyH_take (i := 19) (v := undef) rfl (by kernel_rfl) (by kernel_rfl) (by kernel_rfl) (fun _ _ _ h => h) (Or.inr ⟨by kernel_rfl, rfl⟩) hS ?_
      try simp only [yA, yB, yC, Act.put, yD, yE, yF]
      refine wpAnyH_take (i := 20) (v := undef) rfl (by kernel_rfl) (by kernel_rfl) (by kernel_rfl) (fun _ _ _ h => h) (Or.inr ⟨by kernel_rfl, rfl⟩) hS ?_
      try simp only [yA, yB, yC, Act.put, yD, yE, yF]
      refine wpAnyH_take (i := 21) (v := undef) rfl (by kernel_rfl) (by kernel_rfl) (by kernel_rfl) (fun _ _ _ h => h) (Or.inr ⟨by kernel_rfl, rfl⟩) hS ?_
      try simp only [yA, yB, yC, Act.put, yD, yE, yF]
      refine wpAnyH_take (i := 22) (v := undef) rfl (by kernel_rfl) (by kernel_rfl) (by kernel_rfl) (fun _ _ _ h => h) (Or.inr ⟨by kernel_rfl, rfl⟩) hS ?_
      try simp only [yA, yB, yC, Act.put, yD, yE, yF]
      refine wpAnyH_take (i := 23) (v := undef) rfl (by kernel_rfl) (by kernel_rfl) (by kernel_rfl) (fun _ _ _ h => h) (Or.inr ⟨by kernel_rfl, rfl⟩) hS ?_
      try simp only [yA, yB, yC, Act.put, yD, yE, yF]
      refine wpAnyH_take (i := 24) (v := undef) rfl (by kernel_rfl) (by kernel_rfl) (by kernel_rfl) (fun _ _ _ h => h) (Or.inr ⟨by kernel_rfl, rfl⟩) hS ?_
      try simp only [yA, yB, yC, Act.put, yD, yE, yF]
      refine wpAnyH_take (i := 25) (v := ?vb26) rfl (by kernel_rfl) (by kernel_rfl) (by kernel_rfl) (fun _ _ _ h => h) (Or.inl ⟨by rfl, ?yb26⟩) hS ?rb26
      case yb26 => (intro w0 _; go_simp; try with_reducible rfl)
      try simp only [yA, yB, yC, Act.put, yD, yE, yF]
      refine wpAnyH_take (i := 26) (v := ?vb27) rfl (by kernel_rfl) (by kernel_rfl) (by kernel_rfl) (fun _ _ _ h => h) (Or.inl ⟨by rfl, ?yb27⟩) hS ?rb27
      case yb27 => (intro w0 _; go_simp; try with_reducible rfl)
      try simp only [yA, yB, yC, Act.put, yD, yE, yF]
      refine wpAnyH_done (by kernel_rfl) ?_ _
      refine NoPanic.normal ?_
      try simp only [Exit.then]
      clear hS
      replace HB := As.mk HB.out.drew
      replace HT := As.mk HT.out.drew
      replace HO := As.mk HO.out.drew
      replace HR := As.mk (HR.out.grown (gr_drew (gr_refl _ none)))
      replace HG := As.mk (gr_drew HG.out)
      replace HK := As.mk (HK.out.trans (.none (gr_drew (gr_refl _ none))))
      replace HPB := As.mk HPB.out.drew
      go_wp2_with fail
      go_ret
      exact MutPost.of HE.out HG.out HK.out HO.out
    · rw [if_neg hn] at HE0
      cases hs : strangeB s r.nodes
      · rw [if_neg (by rw [hs]; simp)] at HE0
        refine wp_region_noPanic ?_
        refine wp_region_held_drew (S := fun w' => Blk w' sb 32 #[.int .i64 s.node, .int .i64 s.nodes, .int .i64 s.cells, .int .i64 s.epoch, .slice A1 s.places.length c1, .slice A2 s.prepared.length c2, .slice A3 s.decided.length c3, .slice A4 s.commits.length c4] ∧ Blk w' gt 43 #[.int .i64 r.kind, .int .i64 r.tid.n, .int .i64 r.tid.e, .int .i64 r.tid.s, .slice AI r.items.length cI, .slice AN r.nodes.length cN, .int .i64 r.node, .int .i64 r.count, .int .i64 r.num, .int .i64 r.cell, .int .i64 r.st, .int .i64 r.hop, .int .i64 r.ver, .int .i64 r.val, .bool r.yes] ∧ w'.cell? ⟨gp, 0, none⟩ = some (.pointer (some ⟨sb, 0, none⟩))) (by kernel_rfl) (⟨HB.out.drew, HT.out.drew, HPB.out.drew.cell 0⟩) (fun hS => ?_)
        refine wpAnyH_take (i := 0) (v := ?vc1) rfl (by kernel_rfl) (by kernel_rfl) (by kernel_rfl) (fun _ _ _ h => h) (Or.inl ⟨by rfl, ?yc1⟩) hS ?rc1
        case yc1 => (intro w0 _; go_simp; try with_reducible rfl)
        try simp only [yA, yB, yC, Act.put, yD, yE, yF]
        refine wpAnyH_take (i := 1) (v := ?vc2) rfl (by kernel_rfl) (by kernel_rfl) (by kernel_rfl) (fun _ _ _ h => h) (Or.inl ⟨by rfl, ?yc2⟩) hS ?rc2
        case yc2 => (intro w0 _; go_simp; try with_reducible rfl)
        try simp only [yA, yB, yC, Act.put, yD, yE, yF]
        refine wpAnyH_take (i := 2) (v := ?vc3) rfl (by kernel_rfl) (by kernel_rfl) (by kernel_rfl) (fun _ _ _ h => h) (Or.inl ⟨by rfl, ?yc3⟩) hS ?rc3
        case yc3 => (intro w0 hS0; (try simp only [] at hS0); obtain ⟨hS0_0, hS0_1, hS0_2⟩ := hS0; obtain ⟨q0_0, q0_1, q0_2, q0_3, q0_4, q0_5, q0_6, q0_7⟩ := hS0_0.c8; obtain ⟨q1_0, q1_1, q1_2, q1_3, q1_4, q1_5, q1_6, q1_7, q1_8, q1_9, q1_10, q1_11, q1_12, q1_13, q1_14⟩ := hS0_1.c15; go_simp; try with_reducible rfl)
        try simp only [yA, yB, yC, Act.put, yD, yE, yF]
        refine wpAnyH_take (i := 3) (v := ?vc4) rfl (by kernel_rfl) (by kernel_rfl) (by kernel_rfl) (fun _ _ _ h => h) (Or.inl ⟨by rfl, ?yc4⟩) hS ?rc4
        case yc4 => (intro w0 hS0; (try simp only [] at hS0); obtain ⟨hS0_0, hS0_1, hS0_2⟩ := hS0; obtain ⟨q0_0, q0_1, q0_2, q0_3, q0_4, q0_5, q0_6, q0_7⟩ := hS0_0.c8; obtain ⟨q1_0, q1_1, q1_2, q1_3, q1_4, q1_5, q1_6, q1_7, q1_8, q1_9, q1_10, q1_11, q1_12, q1_13, q1_14⟩ := hS0_1.c15; go_simp; try with_reducible rfl)
        try simp only [yA, yB, yC, Act.put, yD, yE, yF]
        refine wpAnyH_take (i := 4) (v := ?vc5) rfl (by kernel_rfl) (by kernel_rfl) (by kernel_rfl) (fun _ _ _ h => h) (Or.inl ⟨by rfl, ?yc5⟩) hS ?rc5
        case yc5 => (intro w0 _; go_simp; try with_reducible rfl)
        try simp only [yA, yB, yC, Act.put, yD, yE, yF]
        refine wpAnyH_take (i := 5) (v := ?vc6) rfl (by kernel_rfl) (by kernel_rfl) (by kernel_rfl) (fun _ _ _ h => h) (Or.inl ⟨by rfl, ?yc6⟩) hS ?rc6
        case yc6 => (intro w0 _; go_simp; try with_reducible rfl)
        try simp only [yA, yB, yC, Act.put, yD, yE, yF]
        refine wpAnyH_take (i := 6) (v := ?vc7) rfl (by kernel_rfl) (by kernel_rfl) (by kernel_rfl) (fun _ _ _ h => h) (Or.inl ⟨by rfl, ?yc7⟩) hS ?rc7
        case yc7 => (intro w0 hS0; (try simp only [] at hS0); obtain ⟨hS0_0, hS0_1, hS0_2⟩ := hS0; obtain ⟨q0_0, q0_1, q0_2, q0_3, q0_4, q0_5, q0_6, q0_7⟩ := hS0_0.c8; obtain ⟨q1_0, q1_1, q1_2, q1_3, q1_4, q1_5, q1_6, q1_7, q1_8, q1_9, q1_10, q1_11, q1_12, q1_13, q1_14⟩ := hS0_1.c15; go_simp; try with_reducible rfl)
        try simp only [yA, yB, yC, Act.put, yD, yE, yF]
        refine wpAnyH_take (i := 7) (v := ?vc8) rfl (by kernel_rfl) (by kernel_rfl) (by kernel_rfl) (fun _ _ _ h => h) (Or.inl ⟨by rfl, ?yc8⟩) hS ?rc8
        case yc8 => (intro w0 _; go_simp; try with_reducible rfl)
        try simp only [yA, yB, yC, Act.put, yD, yE, yF]
        refine wpAnyH_take (i := 8) (v := ?vc9) rfl (by kernel_rfl) (by kernel_rfl) (by kernel_rfl) (fun _ _ _ h => h) (Or.inl ⟨by rfl, ?yc9⟩) hS ?rc9
        case yc9 => (intro w0 _; go_simp; try with_reducible rfl)
        try simp only [yA, yB, yC, Act.put, yD, yE, yF]
        refine wpAnyH_take (i := 9) (v := ?vc10) rfl (by kernel_rfl) (by kernel_rfl) (by kernel_rfl) (fun _ _ _ h => h) (Or.inl ⟨by rfl, ?yc10⟩) hS ?rc10
        case yc10 => (intro w0 hS0; (try simp only [] at hS0); obtain ⟨hS0_0, hS0_1, hS0_2⟩ := hS0; obtain ⟨q0_0, q0_1, q0_2, q0_3, q0_4, q0_5, q0_6, q0_7⟩ := hS0_0.c8; obtain ⟨q1_0, q1_1, q1_2, q1_3, q1_4, q1_5, q1_6, q1_7, q1_8, q1_9, q1_10, q1_11, q1_12, q1_13, q1_14⟩ := hS0_1.c15; go_simp; try with_reducible rfl)
        try simp only [yA, yB, yC, Act.put, yD, yE, yF]
        refine wpAnyH_take (i := 10) (v := ?vc11) rfl (by kernel_rfl) (by kernel_rfl) (by kernel_rfl) (fun _ _ _ h => h) (Or.inl ⟨by rfl, ?yc11⟩) hS ?rc11
        case yc11 => (intro w0 _; go_simp; try with_reducible rfl)
        try simp only [yA, yB, yC, Act.put, yD, yE, yF]
        refine wpAnyH_take (i := 11) (v := ?vc12) rfl (by kernel_rfl) (by kernel_rfl) (by kernel_rfl) (fun _ _ _ h => h) (Or.inl ⟨by rfl, ?yc12⟩) hS ?rc12
        case yc12 => (intro w0 hS0; (try simp only [] at hS0); obtain ⟨hS0_0, hS0_1, hS0_2⟩ := hS0; obtain ⟨q0_0, q0_1, q0_2, q0_3, q0_4, q0_5, q0_6, q0_7⟩ := hS0_0.c8; obtain ⟨q1_0, q1_1, q1_2, q1_3, q1_4, q1_5, q1_6, q1_7, q1_8, q1_9, q1_10, q1_11, q1_12, q1_13, q1_14⟩ := hS0_1.c15; go_simp; try with_reducible rfl)
        try simp only [yA, yB, yC, Act.put, yD, yE, yF]
        refine wpAnyH_take (i := 12) (v := ?vc13) rfl (by kernel_rfl) (by kernel_rfl) (by kernel_rfl) (fun _ _ _ h => h) (Or.inl ⟨by rfl, ?yc13⟩) hS ?rc13
        case yc13 => (intro w0 _; go_simp; try with_reducible rfl)
        try simp only [yA, yB, yC, Act.put, yD, yE, yF]
        refine wpAnyH_take (i := 13) (v := ?vc14) rfl (by kernel_rfl) (by kernel_rfl) (by kernel_rfl) (fun _ _ _ h => h) (Or.inl ⟨by rfl, ?yc14⟩) hS ?rc14
        case yc14 => (intro w0 hS0; (try simp only [] at hS0); obtain ⟨hS0_0, hS0_1, hS0_2⟩ := hS0; obtain ⟨q0_0, q0_1, q0_2, q0_3, q0_4, q0_5, q0_6, q0_7⟩ := hS0_0.c8; obtain ⟨q1_0, q1_1, q1_2, q1_3, q1_4, q1_5, q1_6, q1_7, q1_8, q1_9, q1_10, q1_11, q1_12, q1_13, q1_14⟩ := hS0_1.c15; go_simp; try with_reducible rfl)
        try simp only [yA, yB, yC, Act.put, yD, yE, yF]
        refine wpAnyH_ready (rs := [14]) (by kernel_rfl) (by simp) (AllReadyH.cons (i := 14) rfl (fun K hK => ?_) AllReadyH.nil)
        go_simp
        refine (strange_c _ s _ _ _ _ (HR.out.grown (gr_drew (gr_refl _ none))) _ r.nodes (HIN.out.below (gr_drew HG.out) (fun _ _ h => h)) _ rfl).mono ?_
        rintro e0 w1 ⟨rfl, hg1⟩
        replace HB := As.mk (HB.out.drew.grown hg1 (by simp))
        replace HT := As.mk (HT.out.drew.grown hg1 (by simp))
        replace HO := As.mk (HO.out.drew.grown hg1)
        replace HR := As.mk ((HR.out.grown (gr_drew (gr_refl _ none))).grown hg1)
        replace HG := As.mk (gr_then (gr_drew HG.out) hg1 (.inl rfl))
        replace HK := As.mk (HK.out.trans (.none (gr_then (gr_drew (gr_refl _ none)) hg1 (.inl rfl))))
        replace HPB := As.mk (HPB.out.drew.grown hg1 (by simp))
        clear hg1
        go_simp
        refine hK.out _ _ (⟨HB.out, HT.out, HPB.out.cell 0⟩) (fun hS => ?_)
        clear hK K
        try simp only [yA, yB, yC, Act.put, yD, yE, yF]
        refine wpAnyH_take (i := 15) (v := ?vc16) rfl (by kernel_rfl) (by kernel_rfl) (by kernel_rfl) (fun _ _ _ h => h) (Or.inl ⟨by rfl, ?yc16⟩) hS ?rc16
        case yc16 => (intro w0 _; go_simp; try with_reducible rfl)
        try simp only [yA, yB, yC, Act.put, yD, yE, yF]
        refine wpAnyH_take (i := 16) (v := ?vc17) rfl (by kernel_rfl) (by kernel_rfl) (by kernel_rfl) (fun _ _ _ h => h) (Or.inl ⟨by rfl, ?yc17⟩) hS ?rc17
        case yc17 => (intro w0 _; go_simp; try with_reducible rfl)
        try simp only [yA, yB, yC, Act.put, yD, yE, yF]
        refine wpAnyH_take (i := 17) (v := ?vc18) rfl (by kernel_rfl) (by kernel_rfl) (by kernel_rfl) (fun _ _ _ h => h) (Or.inl ⟨by rfl, ?yc18⟩) hS ?rc18
        case yc18 => (intro w0 _; go_simp; try with_reducible rfl)
        try simp only [yA, yB, yC, Act.put, yD, yE, yF]
        refine wpAnyH_take (i := 18) (v := ?vc19) rfl (by kernel_rfl) (by kernel_rfl) (by kernel_rfl) (fun _ _ _ h => h) (Or.inl ⟨by rfl, ?yc19⟩) hS ?rc19
        case yc19 => (intro w0 hS0; (try simp only [] at hS0); obtain ⟨hS0_0, hS0_1, hS0_2⟩ := hS0; obtain ⟨q0_0, q0_1, q0_2, q0_3, q0_4, q0_5, q0_6, q0_7⟩ := hS0_0.c8; obtain ⟨q1_0, q1_1, q1_2, q1_3, q1_4, q1_5, q1_6, q1_7, q1_8, q1_9, q1_10, q1_11, q1_12, q1_13, q1_14⟩ := hS0_1.c15; go_simp; try with_reducible rfl)
        try simp only [yA, yB, yC, Act.put, yD, yE, yF]
        refine wpAnyH_take (i := 19) (v := ?vc20) rfl (by kernel_rfl) (by kernel_rfl) (by kernel_rfl) (fun _ _ _ h => h) (Or.inl ⟨by rfl, ?yc20⟩) hS ?rc20
        case yc20 => (intro w0 hS0; (try simp only [] at hS0); obtain ⟨hS0_0, hS0_1, hS0_2⟩ := hS0; obtain ⟨q0_0, q0_1, q0_2, q0_3, q0_4, q0_5, q0_6, q0_7⟩ := hS0_0.c8; obtain ⟨q1_0, q1_1, q1_2, q1_3, q1_4, q1_5, q1_6, q1_7, q1_8, q1_9, q1_10, q1_11, q1_12, q1_13, q1_14⟩ := hS0_1.c15; go_simp; try with_reducible rfl)
        try simp only [yA, yB, yC, Act.put, yD, yE, yF]
        refine wpAnyH_take (i := 20) (v := ?vc21) rfl (by kernel_rfl) (by kernel_rfl) (by kernel_rfl) (fun _ _ _ h => h) (Or.inl ⟨by rfl, ?yc21⟩) hS ?rc21
        case yc21 => (intro w0 _; go_simp; try with_reducible rfl)
        try simp only [yA, yB, yC, Act.put, yD, yE, yF]
        refine wpAnyH_take (i := 21) (v := ?vc22) rfl (by kernel_rfl) (by kernel_rfl) (by kernel_rfl) (fun _ _ _ h => h) (Or.inl ⟨by rfl, ?yc22⟩) hS ?rc22
        case yc22 => (intro w0 _; go_simp; try with_reducible rfl)
        try simp only [yA, yB, yC, Act.put, yD, yE, yF]
        refine wpAnyH_take (i := 22) (v := ?vc23) rfl (by kernel_rfl) (by kernel_rfl) (by kernel_rfl) (fun _ _ _ h => h) (Or.inl ⟨by rfl, ?yc23⟩) hS ?rc23
        case yc23 => (intro w0 hS0; (try simp only [] at hS0); obtain ⟨hS0_0, hS0_1, hS0_2⟩ := hS0; obtain ⟨q0_0, q0_1, q0_2, q0_3, q0_4, q0_5, q0_6, q0_7⟩ := hS0_0.c8; obtain ⟨q1_0, q1_1, q1_2, q1_3, q1_4, q1_5, q1_6, q1_7, q1_8, q1_9, q1_10, q1_11, q1_12, q1_13, q1_14⟩ := hS0_1.c15; go_simp; try with_reducible rfl)
        try simp only [yA, yB, yC, Act.put, yD, yE, yF]
        refine wpAnyH_ready (rs := [23]) (by kernel_rfl) (by simp) (AllReadyH.cons (i := 23) rfl (fun K hK => ?_) AllReadyH.nil)
        go_simp
        refine (contains_c _ _ r.nodes (HIN.out.below HG.out (fun _ _ h => h)) s.node _ rfl).mono ?_
        rintro e0 w1 ⟨rfl, rfl⟩
        go_simp
        refine hK.out _ _ (⟨HB.out, HT.out, HPB.out.cell 0⟩) (fun hS => ?_)
        clear hK K
        try simp only [yA, yB, yC, Act.put, yD, yE, yF]
        refine wpAnyH_take (i := 24) (v := ?vc25) rfl (by kernel_rfl) (by kernel_rfl) (by kernel_rfl) (fun _ _ _ h => h) (Or.inl ⟨by rfl, ?yc25⟩) hS ?rc25
        case yc25 => (intro w0 _; go_simp; try with_reducible rfl)
        try simp only [yA, yB, yC, Act.put, yD, yE, yF]
        refine wpAnyH_take (i := 25) (v := ?vc26) rfl (by kernel_rfl) (by kernel_rfl) (by kernel_rfl) (fun _ _ _ h => h) (Or.inl ⟨by rfl, ?yc26⟩) hS ?rc26
        case yc26 => (intro w0 _; go_simp; try with_reducible rfl)
        try simp only [yA, yB, yC, Act.put, yD, yE, yF]
        refine wpAnyH_take (i := 26) (v := ?vc27) rfl (by kernel_rfl) (by kernel_rfl) (by kernel_rfl) (fun _ _ _ h => h) (Or.inl ⟨by rfl, ?yc27⟩) hS ?rc27
        case yc27 => (intro w0 _; go_simp; try with_reducible rfl)
        try simp only [yA, yB, yC, Act.put, yD, yE, yF]
        refine wpAnyH_done (by kernel_rfl) ?_ _
        refine NoPanic.normal ?_
        try simp only [Exit.then]
        clear hS
        clear hn
        cases hc : r.nodes.any (fun x => s.node == x)
        · have HE := As.mk (HE0.out.trans (if_pos hc))
          go_wp2_with fail
          go_ret
          exact MutPost.of HE.out HG.out HK.out HO.out
        · rw [if_neg (by rw [hc]; simp)] at HE0
          obtain ⟨t0, t1, t2, t3, t4, t5, t6, t7, t8, t9, t10, t11, t12, t13, t14⟩ := (HT.out).c15
          go_wp2_with fail
          clear t0 t1 t2 t3 t4 t5 t6 t7 t8 t9 t10 t11 t12 t13 t14
          refine (conItP_c _ _ r.items (HI.out.below HG.out (fun _ _ h => h)) gp sb s (HPB.out.cell 0) HO.out.toP _ rfl).mono ?_
          rintro e0 w2 ⟨rfl, hg1⟩
          replace HB := As.mk (HB.out.grown hg1 (by simp))
          replace HT := As.mk (HT.out.grown hg1 (by simp))
          replace HPB := As.mk (HPB.out.grown hg1 (by simp))
          replace HO := As.mk (HO.out.grown hg1)
          replace HR := As.mk (HR.out.grown hg1)
          replace HG := As.mk (gr_then HG.out hg1 (.inl rfl))
          replace HK := As.mk (HK.out.trans (.none hg1))
          clear hg1
          cases hq : r.items.any (fun x : PIt => !cellB s x.c)
          · rw [if_neg (by rw [hq]; simp)] at HE0
            go_wp2_with fail
            refine wp_region_noPanic ?_
            refine wp_region_held_drew (S := fun w' => Blk w' sb 32 #[.int .i64 s.node, .int .i64 s.nodes, .int .i64 s.cells, .int .i64 s.epoch, .slice A1 s.places.length c1, .slice A2 s.prepared.length c2, .slice A3 s.decided.length c3, .slice A4 s.commits.length c4] ∧ Blk w' gt 43 #[.int .i64 r.kind, .int .i64 r.tid.n, .int .i64 r.tid.e, .int .i64 r.tid.s, .slice AI r.items.length cI, .slice AN r.nodes.length cN, .int .i64 r.node, .int .i64 r.count, .int .i64 r.num, .int .i64 r.cell, .int .i64 r.st, .int .i64 r.hop, .int .i64 r.ver, .int .i64 r.val, .bool r.yes] ∧ w'.cell? ⟨gp, 0, none⟩ = some (.pointer (some ⟨sb, 0, none⟩))) (by kernel_rfl) (⟨HB.out.drew, HT.out.drew, HPB.out.drew.cell 0⟩) (fun hS => ?_)
            refine wpAnyH_take (i := 0) (v := ?vd1) rfl (by kernel_rfl) (by kernel_rfl) (by kernel_rfl) (fun _ _ _ h => h) (Or.inl ⟨by rfl, ?yd1⟩) hS ?rd1
            case yd1 => (intro w0 hS0; (try simp only [] at hS0); obtain ⟨hS0_0, hS0_1, hS0_2⟩ := hS0; obtain ⟨q0_0, q0_1, q0_2, q0_3, q0_4, q0_5, q0_6, q0_7⟩ := hS0_0.c8; obtain ⟨q1_0, q1_1, q1_2, q1_3, q1_4, q1_5, q1_6, q1_7, q1_8, q1_9, q1_10, q1_11, q1_12, q1_13, q1_14⟩ := hS0_1.c15; go_simp; try with_reducible rfl)
            try simp only [yA, yB, yC, Act.put, yD, yE, yF]
            refine wpAnyH_take (i := 1) (v := ?vd2) rfl (by kernel_rfl) (by kernel_rfl) (by kernel_rfl) (fun _ _ _ h => h) (Or.inl ⟨by rfl, ?yd2⟩) hS ?rd2
            case yd2 => (intro w0 _; go_simp; try with_reducible rfl)
            try simp only [yA, yB, yC, Act.put, yD, yE, yF]
            refine wpAnyH_take (i := 2) (v := ?vd3) rfl (by kernel_rfl) (by kernel_rfl) (by kernel_rfl) (fun _ _ _ h => h) (Or.inl ⟨by rfl, ?yd3⟩) hS ?rd3
            case yd3 => (intro w0 hS0; (try simp only [] at hS0); obtain ⟨hS0_0, hS0_1, hS0_2⟩ := hS0; obtain ⟨q0_0, q0_1, q0_2, q0_3, q0_4, q0_5, q0_6, q0_7⟩ := hS0_0.c8; obtain ⟨q1_0, q1_1, q1_2, q1_3, q1_4, q1_5, q1_6, q1_7, q1_8, q1_9, q1_10, q1_11, q1_12, q1_13, q1_14⟩ := hS0_1.c15; go_simp; try with_reducible rfl)
            try simp only [yA, yB, yC, Act.put, yD, yE, yF]
            refine wpAnyH_take (i := 3) (v := ?vd4) rfl (by kernel_rfl) (by kernel_rfl) (by kernel_rfl) (fun _ _ _ h => h) (Or.inl ⟨by rfl, ?yd4⟩) hS ?rd4
            case yd4 => (intro w0 _; go_simp; try with_reducible rfl)
            try simp only [yA, yB, yC, Act.put, yD, yE, yF]
            refine wpAnyH_take (i := 4) (v := ?vd5) rfl (by kernel_rfl) (by kernel_rfl) (by kernel_rfl) (fun _ _ _ h => h) (Or.inl ⟨by rfl, ?yd5⟩) hS ?rd5
            case yd5 => (intro w0 hS0; (try simp only [] at hS0); obtain ⟨hS0_0, hS0_1, hS0_2⟩ := hS0; obtain ⟨q0_0, q0_1, q0_2, q0_3, q0_4, q0_5, q0_6, q0_7⟩ := hS0_0.c8; obtain ⟨q1_0, q1_1, q1_2, q1_3, q1_4, q1_5, q1_6, q1_7, q1_8, q1_9, q1_10, q1_11, q1_12, q1_13, q1_14⟩ := hS0_1.c15; go_simp; try with_reducible rfl)
            try simp only [yA, yB, yC, Act.put, yD, yE, yF]
            refine wpAnyH_ready (rs := [5]) (by kernel_rfl) (by simp) (AllReadyH.cons (i := 5) rfl (fun K hK => ?_) AllReadyH.nil)
            go_simp
            refine (free_c _ s _ _ _ _ (HR.out.grown (gr_drew (gr_refl _ none))) _ r.items (HI.out.below (gr_drew HG.out) (fun _ _ h => h)) _ rfl).mono ?_
            rintro e0 w1 ⟨rfl, hg1⟩
            replace HB := As.mk (HB.out.drew.grown hg1 (by simp))
            replace HT := As.mk (HT.out.drew.grown hg1 (by simp))
            replace HO := As.mk (HO.out.drew.grown hg1)
            replace HR := As.mk ((HR.out.grown (gr_drew (gr_refl _ none))).grown hg1)
            replace HG := As.mk (gr_then (gr_drew HG.out) hg1 (.inl rfl))
            replace HK := As.mk (HK.out.trans (.none (gr_then (gr_drew (gr_refl _ none)) hg1 (.inl rfl))))
            replace HPB := As.mk (HPB.out.drew.grown hg1 (by simp))
            clear hg1
            go_simp
            refine hK.out _ _ (⟨HB.out, HT.out, HPB.out.cell 0⟩) (fun hS => ?_)
            clear hK K
            try simp only [yA, yB, yC, Act.put, yD, yE, yF]
            refine wpAnyH_take (i := 6) (v := ?vd7) rfl (by kernel_rfl) (by kernel_rfl) (by kernel_rfl) (fun _ _ _ h => h) (Or.inl ⟨by rfl, ?yd7⟩) hS ?rd7
            case yd7 => (intro w0 _; go_simp; try with_reducible rfl)
            try simp only [yA, yB, yC, Act.put, yD, yE, yF]
            refine wpAnyH_done (by kernel_rfl) ?_ _
            refine NoPanic.normal ?_
            try simp only [Exit.then]
            clear hS
            by_cases hf : freeE s r.items = 0
            · rw [if_neg (by rw [hf]; simp)] at HE0
              rw [hf]
              obtain ⟨d0, d1, d2, d3, d4, d5, d6, d7⟩ := (HB.out).c8
              have p0 := HPB.out.cell 0
              simp only [List.getElem?_toArray, List.getElem?_cons_zero] at p0
              go_wp2_with fail
              clear d0 d1 d2 d3 d4 d5 d6 d7
              clear p0
              refine (room_c _ s _ _ _ _ HR.out (by have := HN.out; omega) _ rfl).mono ?_
              rintro e0 w3 ⟨rfl, hg1⟩
              replace HB := As.mk (HB.out.grown hg1 (by simp))
              replace HT := As.mk (HT.out.grown hg1 (by simp))
              replace HPB := As.mk (HPB.out.grown hg1 (by simp))
              replace HO := As.mk (HO.out.grown hg1)
              replace HR := As.mk (HR.out.grown hg1)
              replace HG := As.mk (gr_then HG.out hg1 (.inl rfl))
              replace HK := As.mk (HK.out.trans (.none hg1))
              clear hg1
              cases hr : roomB s
              · have HE := As.mk (HE0.out.trans (if_pos hr))
                go_wp2_with fail
                go_ret
                exact MutPost.of HE.out HG.out HK.out HO.out
              · have HE := As.mk (HE0.out.trans (if_neg (by rw [hr]; simp)))
                go_wp2_with fail
                clear HE0
                obtain ⟨vP, vQ, vD, vC, qs, cs, hO⟩ := HO.out
                have hcl : qs.length = s.prepared.length := by rw [show s.prepared = qs.map QPr.p from hO.qp.symm, List.length_map]
                have HCL := As.mk hcl
                have HOO := As.mk hO
                clear hO hcl HB HR
                refine wp_region_noPanic ?_
                refine wp_region_D (S := fun w' => Blk w' sb 32 (stCells s vP vQ vD vC) ∧ Blk w' gt 43 #[.int .i64 r.kind, .int .i64 r.tid.n, .int .i64 r.tid.e, .int .i64 r.tid.s, .slice AI r.items.length cI, .slice AN r.nodes.length cN, .int .i64 r.node, .int .i64 r.count, .int .i64 r.num, .int .i64 r.cell, .int .i64 r.st, .int .i64 r.hop, .int .i64 r.ver, .int .i64 r.val, .bool r.yes] ∧ w'.cell? ⟨gp, 0, none⟩ = some (.pointer (some ⟨sb, 0, none⟩))) 17 (by kernel_rfl) (⟨HOO.out.blk.drew, HT.out.drew, HPB.out.drew.cell 0⟩) (fun hS => ?_)
                refine wpAnyD_take (i := 0) (v := ?vz1) rfl rfl (by kernel_rfl) (by kernel_rfl) (by kernel_rfl) (by kernel_rfl) (fun _ _ _ h => h) (Or.inl ⟨by rfl, ?yz1⟩) hS ?rz1
                case yz1 => (intro w0 hS0; (try simp only [] at hS0); obtain ⟨hS0_0, hS0_1, hS0_2⟩ := hS0; obtain ⟨q0_0, q0_1, q0_2, q0_3, q0_4, q0_5, q0_6, q0_7⟩ := hS0_0.c8; obtain ⟨q1_0, q1_1, q1_2, q1_3, q1_4, q1_5, q1_6, q1_7, q1_8, q1_9, q1_10, q1_11, q1_12, q1_13, q1_14⟩ := hS0_1.c15; go_simp; try with_reducible rfl)
                try simp only [yA, yB, yC, Act.put, yD, yE, yF]
                refine wpAnyD_take (i := 1) (v := ?vz2) rfl rfl (by kernel_rfl) (by kernel_rfl) (by kernel_rfl) (by kernel_rfl) (fun _ _ _ h => h) (Or.inl ⟨by rfl, ?yz2⟩) hS ?rz2
                case yz2 => (intro w0 hS0; (try simp only [] at hS0); obtain ⟨hS0_0, hS0_1, hS0_2⟩ := hS0; obtain ⟨q0_0, q0_1, q0_2, q0_3, q0_4, q0_5, q0_6, q0_7⟩ := hS0_0.c8; obtain ⟨q1_0, q1_1, q1_2, q1_3, q1_4, q1_5, q1_6, q1_7, q1_8, q1_9, q1_10, q1_11, q1_12, q1_13, q1_14⟩ := hS0_1.c15; go_simp; try with_reducible rfl)
                try simp only [yA, yB, yC, Act.put, yD, yE, yF]
                refine wpAnyD_take (i := 2) (v := ?vz3) rfl rfl (by kernel_rfl) (by kernel_rfl) (by kernel_rfl) (by kernel_rfl) (fun _ _ _ h => h) (Or.inl ⟨by rfl, ?yz3⟩) hS ?rz3
                case yz3 => (intro w0 _; go_simp; try with_reducible rfl)
                try simp only [yA, yB, yC, Act.put, yD, yE, yF]
                refine wpAnyD_take (i := 3) (v := ?vz4) rfl rfl (by kernel_rfl) (by kernel_rfl) (by kernel_rfl) (by kernel_rfl) (fun _ _ _ h => h) (Or.inl ⟨by rfl, ?yz4⟩) hS ?rz4
                case yz4 => (intro w0 _; go_simp; try with_reducible rfl)
                try simp only [yA, yB, yC, Act.put, yD, yE, yF]
                refine wpAnyD_take (i := 4) (v := ?vz5) rfl rfl (by kernel_rfl) (by kernel_rfl) (by kernel_rfl) (by kernel_rfl) (fun _ _ _ h => h) (Or.inl ⟨by rfl, ?yz5⟩) hS ?rz5
                case yz5 => (intro w0 hS0; (try simp only [] at hS0); obtain ⟨hS0_0, hS0_1, hS0_2⟩ := hS0; obtain ⟨q0_0, q0_1, q0_2, q0_3, q0_4, q0_5, q0_6, q0_7⟩ := hS0_0.c8; obtain ⟨q1_0, q1_1, q1_2, q1_3, q1_4, q1_5, q1_6, q1_7, q1_8, q1_9, q1_10, q1_11, q1_12, q1_13, q1_14⟩ := hS0_1.c15; go_simp; try with_reducible rfl)
                try simp only [yA, yB, yC, Act.put, yD, yE, yF]
                refine wpAnyD_take (i := 5) (v := ?vz6) rfl rfl (by kernel_rfl) (by kernel_rfl) (by kernel_rfl) (by kernel_rfl) (fun _ _ _ h => h) (Or.inl ⟨by rfl, ?yz6⟩) hS ?rz6
                case yz6 => (intro w0 _; go_simp; try with_reducible rfl)
                try simp only [yA, yB, yC, Act.put, yD, yE, yF]
                refine wpAnyD_take (i := 6) (v := ?vz7) rfl rfl (by kernel_rfl) (by kernel_rfl) (by kernel_rfl) (by kernel_rfl) (fun _ _ _ h => h) (Or.inl ⟨by rfl, ?yz7⟩) hS ?rz7
                case yz7 => (intro w0 hS0; (try simp only [] at hS0); obtain ⟨hS0_0, hS0_1, hS0_2⟩ := hS0; obtain ⟨q0_0, q0_1, q0_2, q0_3, q0_4, q0_5, q0_6, q0_7⟩ := hS0_0.c8; obtain ⟨q1_0, q1_1, q1_2, q1_3, q1_4, q1_5, q1_6, q1_7, q1_8, q1_9, q1_10, q1_11, q1_12, q1_13, q1_14⟩ := hS0_1.c15; go_simp; try with_reducible rfl)
                try simp only [yA, yB, yC, Act.put, yD, yE, yF]
                refine wpAnyD_take (i := 7) (v := ?vz8) rfl rfl (by kernel_rfl) (by kernel_rfl) (by kernel_rfl) (by kernel_rfl) (fun _ _ _ h => h) (Or.inl ⟨by rfl, ?yz8⟩) hS ?rz8
                case yz8 => (intro w0 _; go_simp; try with_reducible rfl)
                try simp only [yA, yB, yC, Act.put, yD, yE, yF]
                refine wpAnyD_take (i := 8) (v := ?vz9) rfl rfl (by kernel_rfl) (by kernel_rfl) (by kernel_rfl) (by kernel_rfl) (fun _ _ _ h => h) (Or.inl ⟨by rfl, ?yz9⟩) hS ?rz9
                case yz9 => (intro w0 hS0; (try simp only [] at hS0); obtain ⟨hS0_0, hS0_1, hS0_2⟩ := hS0; obtain ⟨q0_0, q0_1, q0_2, q0_3, q0_4, q0_5, q0_6, q0_7⟩ := hS0_0.c8; obtain ⟨q1_0, q1_1, q1_2, q1_3, q1_4, q1_5, q1_6, q1_7, q1_8, q1_9, q1_10, q1_11, q1_12, q1_13, q1_14⟩ := hS0_1.c15; go_simp; try with_reducible rfl)
                try simp only [yA, yB, yC, Act.put, yD, yE, yF]
                refine wpAnyD_take (i := 10) (v := ?vz10) rfl rfl (by kernel_rfl) (by kernel_rfl) (by kernel_rfl) (by kernel_rfl) (fun _ _ _ h => h) (Or.inl ⟨by rfl, ?yz10⟩) hS ?rz10
                case yz10 => (intro w0 _; go_simp; try with_reducible rfl)
                try simp only [yA, yB, yC, Act.put, yD, yE, yF]
                refine wpAnyD_take (i := 11) (v := ?vz11) rfl rfl (by kernel_rfl) (by kernel_rfl) (by kernel_rfl) (by kernel_rfl) (fun _ _ _ h => h) (Or.inl ⟨by rfl, ?yz11⟩) hS ?rz11
                case yz11 => (intro w0 hS0; (try simp only [] at hS0); obtain ⟨hS0_0, hS0_1, hS0_2⟩ := hS0; obtain ⟨q0_0, q0_1, q0_2, q0_3, q0_4, q0_5, q0_6, q0_7⟩ := hS0_0.c8; obtain ⟨q1_0, q1_1, q1_2, q1_3, q1_4, q1_5, q1_6, q1_7, q1_8, q1_9, q1_10, q1_11, q1_12, q1_13, q1_14⟩ := hS0_1.c15; go_simp; try with_reducible rfl)
                try simp only [yA, yB, yC, Act.put, yD, yE, yF]
                refine wpAnyD_ready (rs := [9]) (by kernel_rfl) (by simp) (AllReadyD.cons (i := 9) rfl (fun K hK => ?_) AllReadyD.nil)
                go_simp
                refine (clIt_c _ _ r.items (HI.out.below (gr_drew HG.out) (fun _ _ h => h)) HLE.out.1).mono ?_
                rintro e0 w1 ⟨Ai, ci, rfl, ho, hg1⟩
                have HV1 := As.mk (TArr.own (f := itC) ho (fun _ => rfl))
                replace HOO := As.mk (HOO.out.drew.grown hg1)
                replace HT := As.mk (HT.out.drew.grown hg1 (by simp))
                replace HPB := As.mk (HPB.out.drew.grown hg1 (by simp))
                replace HG := As.mk (gr_then (gr_drew HG.out) hg1 (.inl rfl))
                replace HK := As.mk (HK.out.trans (.none (gr_then (gr_drew (gr_refl _ none)) hg1 (.inl rfl))))
                clear hg1 ho
                go_simp
                refine hK.out _ _ (fun _ => ⟨HOO.out.blk, HT.out, HPB.out.cell 0⟩) (fun hS' => ?_)
                replace hS := hS' (by decide)
                clear hS'
                clear hK K
                try simp only [yA, yB, yC, Act.put, yD, yE, yF]
                refine wpAnyD_ready (rs := [12]) (by kernel_rfl) (by simp) (AllReadyD.cons (i := 12) rfl (fun K hK => ?_) AllReadyD.nil)
                go_simp
                refine (clIn_c _ _ r.nodes (HIN.out.below HG.out (fun _ _ h => h)) HLE.out.2).mono ?_
                rintro e0 w2 ⟨An, cn, rfl, ho, hg1⟩
                have HV := As.mk (show TArr ItE 5 66 w2 _ r.items ∧ TArr IE 1 3 w2 _ r.nodes from ⟨HV1.out.step hg1 (fun _ _ h => h) (fun g e => by cases e), TArr.own (f := inC) ho (fun _ => rfl)⟩)
                replace HOO := As.mk (HOO.out.grown hg1)
                replace HT := As.mk (HT.out.grown hg1 (by simp))
                replace HPB := As.mk (HPB.out.grown hg1 (by simp))
                replace HG := As.mk (gr_then HG.out hg1 (.inl rfl))
                replace HK := As.mk (HK.out.trans (.none hg1))
                clear hg1 ho HV1
                go_simp
                refine hK.out _ _ (fun _ => ⟨HOO.out.blk, HT.out, HPB.out.cell 0⟩) (fun hS' => ?_)
                replace hS := hS' (by decide)
                clear hS'
                clear hK K
                try simp only [yA, yB, yC, Act.put, yD, yE, yF]
                refine wpAnyD_take (i := 13) (v := ?vz14) rfl rfl (by kernel_rfl) (by kernel_rfl) (by kernel_rfl) (by kernel_rfl) (fun _ _ _ h => h) (Or.inl ⟨by rfl, ?yz14⟩) hS ?rz14
                case yz14 => (intro w0 _; go_simp; try with_reducible rfl)
                try simp only [yA, yB, yC, Act.put, yD, yE, yF]
                refine wpAnyD_ready (rs := [14]) (by kernel_rfl) (by simp) (AllReadyD.cons (i := 14) rfl (fun K hK => ?_) AllReadyD.nil)
                go_simp
                refine (linsertPr_c _ w0.heap.size HG.out.size vQ qs HOO.out.pr (by have := HCL.out; have := HN.out; omega) ⟨⟨r.tid, r.items, r.nodes⟩, Ai, ci, An, cn⟩).mono ?_
                rintro e0 w3 ⟨v', rfl, ho, hg', _⟩
                obtain ⟨A9, c9, rfl⟩ := own_shape ho
                have HB3 := As.mk (HOO.out.blk.grown hg' (own_ne HOO.out.blk HOO.out.pr (by decide)))
                have HT3 := As.mk (HT.out.grown hg' (own_ne HT.out HOO.out.pr (by decide)))
                have HP3 := As.mk (HPB.out.grown hg' (own_ne HPB.out HOO.out.pr (by decide)))
                have HO4 := As.mk (HOO.out.setQ hg' (qs' := (insT (fun x : QPr => x.p.tid) qs ⟨⟨r.tid, r.items, r.nodes⟩, Ai, ci, An, cn⟩)) (by rw [insT_len]; exact ho) (fun q hq => by
                  rcases insT_mem _ _ _ _ hq with rfl | hq
                  · exact nest_step HV.out hg' (fun g e cs => ⟨own_typed HOO.out.pr (by decide) g e cs, own_typed HOO.out.pr (by decide) g e cs⟩)
                  · exact nest_step (HOO.out.qi q hq) hg' (fun g e cs => ⟨own_typed HOO.out.pr (by decide) g e cs, own_typed HOO.out.pr (by decide) g e cs⟩)))
                have hlo : w0.heap.size ≤ sb := HOO.out.lo
                have HG4 := As.mk (gr_set (gr_then HG.out hg' (.inr (.inr (own_lo HOO.out.pr)))) (a := ⟨sb, 5, none⟩) (.inr hlo) (.slice A9 (qs.length + 1) c9))
                have HK4 := As.mk ((HK.out.trans (.own HOO.out.pr (by decide) hg')).trans (.set HB3.out (by decide) 5 (.slice A9 (qs.length + 1) c9)))
                clear hg' ho hlo
                go_simp
                refine hK.out _ _ (fun _ => ⟨HB3.out, HT3.out, HP3.out.cell 0⟩) (fun hS' => ?_)
                replace hS := hS' (by decide)
                clear hS'
                clear hK K
                try simp only [yA, yB, yC, Act.put, yD, yE, yF]
                refine wpAnyD_ready (rs := [15]) (by kernel_rfl) (by simp) (AllReadyD.cons (i := 15) rfl (fun K hK => ?_) AllReadyD.nil)
                go_simp
                refine hK.out _ _ (fun _ => hS) (fun hS' => ?_)
                replace hS := hS' (by decide)
                clear hS'
                clear hK K
                try simp only [yA, yB, yC, Act.put, yD, yE, yF]
                refine wpAnyD_take (i := 16) (v := ?vz17) rfl rfl (by kernel_rfl) (by kernel_rfl) (by kernel_rfl) (by kernel_rfl) (fun _ _ _ h => h) (Or.inl ⟨by rfl, ?yz17⟩) hS ?rz17
                case yz17 => (intro w0 _; go_simp; try with_reducible rfl)
                try simp only [yA, yB, yC, Act.put, yD, yE, yF]
                refine wpAnyD_ready (rs := [17]) (by kernel_rfl) (by simp) (AllReadyD.cons (i := 17) rfl (fun K hK => ?_) AllReadyD.nil)
                have q5 := HB3.out.cell 5
                have f5 := HB3.out.free 5
                simp only [stCells, List.getElem?_toArray, List.getElem?_cons_zero, List.getElem?_cons_succ] at q5
                go_simp
                refine hK.out _ _ (fun h => absurd rfl h) (fun _ => ?_)
                clear hK K
                try simp only [yA, yB, yC, Act.put, yD, yE, yF]
                refine wpAnyD_done (by kernel_rfl) ?_ _
                refine NoPanic.normal ?_
                try simp only [Exit.then]
                go_wp2_with fail
                go_ret
                have hfin := HO4.out
                rw [insT_map QPr.p (fun x : PPr => x.tid), HOO.out.qp] at hfin
                exact MutPost.of HE.out HG4.out HK4.out ⟨_, _, _, _, _, _, hfin⟩
            · have HE := As.mk (HE0.out.trans (if_pos hf))
              go_wp2_with fail
              go_ret
              exact MutPost.of HE.out HG.out HK.out HO.out
          · have HE := As.mk (HE0.out.trans (if_pos hq))
            go_wp2_with fail
            go_ret
            exact MutPost.of HE.out HG.out HK.out HO.out
      · have HE := As.mk (HE0.out.trans (if_pos hs))
        refine wp_region_noPanic ?_
        refine wp_region_held_drew (S := fun w' => Blk w' sb 32 #[.int .i64 s.node, .int .i64 s.nodes, .int .i64 s.cells, .int .i64 s.epoch, .slice A1 s.places.length c1, .slice A2 s.prepared.length c2, .slice A3 s.decided.length c3, .slice A4 s.commits.length c4] ∧ Blk w' gt 43 #[.int .i64 r.kind, .int .i64 r.tid.n, .int .i64 r.tid.e, .int .i64 r.tid.s, .slice AI r.items.length cI, .slice AN r.nodes.length cN, .int .i64 r.node, .int .i64 r.count, .int .i64 r.num, .int .i64 r.cell, .int .i64 r.st, .int .i64 r.hop, .int .i64 r.ver, .int .i64 r.val, .bool r.yes] ∧ w'.cell? ⟨gp, 0, none⟩ = some (.pointer (some ⟨sb, 0, none⟩))) (by kernel_rfl) (⟨HB.out.drew, HT.out.drew, HPB.out.drew.cell 0⟩) (fun hS => ?_)
        refine wpAnyH_take (i := 0) (v := ?ve1) rfl (by kernel_rfl) (by kernel_rfl) (by kernel_rfl) (fun _ _ _ h => h) (Or.inl ⟨by rfl, ?ye1⟩) hS ?re1
        case ye1 => (intro w0 _; go_simp; try with_reducible rfl)
        try simp only [yA, yB, yC, Act.put, yD, yE, yF]
        refine wpAnyH_take (i := 1) (v := ?ve2) rfl (by kernel_rfl) (by kernel_rfl) (by kernel_rfl) (fun _ _ _ h => h) (Or.inl ⟨by rfl, ?ye2⟩) hS ?re2
        case ye2 => (intro w0 _; go_simp; try with_reducible rfl)
        try simp only [yA, yB, yC, Act.put, yD, yE, yF]
        refine wpAnyH_take (i := 2) (v := ?ve3) rfl (by kernel_rfl) (by kernel_rfl) (by kernel_rfl) (fun _ _ _ h => h) (Or.inl ⟨by rfl, ?ye3⟩) hS ?re3
        case ye3 => (intro w0 hS0; (try simp only [] at hS0); obtain ⟨hS0_0, hS0_1, hS0_2⟩ := hS0; obtain ⟨q0_0, q0_1, q0_2, q0_3, q0_4, q0_5, q0_6, q0_7⟩ := hS0_0.c8; obtain ⟨q1_0, q1_1, q1_2, q1_3, q1_4, q1_5, q1_6, q1_7, q1_8, q1_9, q1_10, q1_11, q1_12, q1_13, q1_14⟩ := hS0_1.c15; go_simp; try with_reducible rfl)
        try simp only [yA, yB, yC, Act.put, yD, yE, yF]
        refine wpAnyH_take (i := 3) (v := ?ve4) rfl (by kernel_rfl) (by kernel_rfl) (by kernel_rfl) (fun _ _ _ h => h) (Or.inl ⟨by rfl, ?ye4⟩) hS ?re4
        case ye4 => (intro w0 hS0; (try simp only [] at hS0); obtain ⟨hS0_0, hS0_1, hS0_2⟩ := hS0; obtain ⟨q0_0, q0_1, q0_2, q0_3, q0_4, q0_5, q0_6, q0_7⟩ := hS0_0.c8; obtain ⟨q1_0, q1_1, q1_2, q1_3, q1_4, q1_5, q1_6, q1_7, q1_8, q1_9, q1_10, q1_11, q1_12, q1_13, q1_14⟩ := hS0_1.c15; go_simp; try with_reducible rfl)
        try simp only [yA, yB, yC, Act.put, yD, yE, yF]
        refine wpAnyH_take (i := 4) (v := ?ve5) rfl (by kernel_rfl) (by kernel_rfl) (by kernel_rfl) (fun _ _ _ h => h) (Or.inl ⟨by rfl, ?ye5⟩) hS ?re5
        case ye5 => (intro w0 _; go_simp; try with_reducible rfl)
        try simp only [yA, yB, yC, Act.put, yD, yE, yF]
        refine wpAnyH_take (i := 5) (v := ?ve6) rfl (by kernel_rfl) (by kernel_rfl) (by kernel_rfl) (fun _ _ _ h => h) (Or.inl ⟨by rfl, ?ye6⟩) hS ?re6
        case ye6 => (intro w0 _; go_simp; try with_reducible rfl)
        try simp only [yA, yB, yC, Act.put, yD, yE, yF]
        refine wpAnyH_take (i := 6) (v := ?ve7) rfl (by kernel_rfl) (by kernel_rfl) (by kernel_rfl) (fun _ _ _ h => h) (Or.inl ⟨by rfl, ?ye7⟩) hS ?re7
        case ye7 => (intro w0 hS0; (try simp only [] at hS0); obtain ⟨hS0_0, hS0_1, hS0_2⟩ := hS0; obtain ⟨q0_0, q0_1, q0_2, q0_3, q0_4, q0_5, q0_6, q0_7⟩ := hS0_0.c8; obtain ⟨q1_0, q1_1, q1_2, q1_3, q1_4, q1_5, q1_6, q1_7, q1_8, q1_9, q1_10, q1_11, q1_12, q1_13, q1_14⟩ := hS0_1.c15; go_simp; try with_reducible rfl)
        try simp only [yA, yB, yC, Act.put, yD, yE, yF]
        refine wpAnyH_take (i := 7) (v := ?ve8) rfl (by kernel_rfl) (by kernel_rfl) (by kernel_rfl) (fun _ _ _ h => h) (Or.inl ⟨by rfl, ?ye8⟩) hS ?re8
        case ye8 => (intro w0 _; go_simp; try with_reducible rfl)
        try simp only [yA, yB, yC, Act.put, yD, yE, yF]
        refine wpAnyH_take (i := 8) (v := ?ve9) rfl (by kernel_rfl) (by kernel_rfl) (by kernel_rfl) (fun _ _ _ h => h) (Or.inl ⟨by rfl, ?ye9⟩) hS ?re9
        case ye9 => (intro w0 _; go_simp; try with_reducible rfl)
        try simp only [yA, yB, yC, Act.put, yD, yE, yF]
        refine wpAnyH_take (i := 9) (v := ?ve10) rfl (by kernel_rfl) (by kernel_rfl) (by kernel_rfl) (fun _ _ _ h => h) (Or.inl ⟨by rfl, ?ye10⟩) hS ?re10
        case ye10 => (intro w0 hS0; (try simp only [] at hS0); obtain ⟨hS0_0, hS0_1, hS0_2⟩ := hS0; obtain ⟨q0_0, q0_1, q0_2, q0_3, q0_4, q0_5, q0_6, q0_7⟩ := hS0_0.c8; obtain ⟨q1_0, q1_1, q1_2, q1_3, q1_4, q1_5, q1_6, q1_7, q1_8, q1_9, q1_10, q1_11, q1_12, q1_13, q1_14⟩ := hS0_1.c15; go_simp; try with_reducible rfl)
        try simp only [yA, yB, yC, Act.put, yD, yE, yF]
        refine wpAnyH_take (i := 10) (v := ?ve11) rfl (by kernel_rfl) (by kernel_rfl) (by kernel_rfl) (fun _ _ _ h => h) (Or.inl ⟨by rfl, ?ye11⟩) hS ?re11
        case ye11 => (intro w0 _; go_simp; try with_reducible rfl)
        try simp only [yA, yB, yC, Act.put, yD, yE, yF]
        refine wpAnyH_take (i := 11) (v := ?ve12) rfl (by kernel_rfl) (by kernel_rfl) (by kernel_rfl) (fun _ _ _ h => h) (Or.inl ⟨by rfl, ?ye12⟩) hS ?re12
        case ye12 => (intro w0 hS0; (try simp only [] at hS0); obtain ⟨hS0_0, hS0_1, hS0_2⟩ := hS0; obtain ⟨q0_0, q0_1, q0_2, q0_3, q0_4, q0_5, q0_6, q0_7⟩ := hS0_0.c8; obtain ⟨q1_0, q1_1, q1_2, q1_3, q1_4, q1_5, q1_6, q1_7, q1_8, q1_9, q1_10, q1_11, q1_12, q1_13, q1_14⟩ := hS0_1.c15; go_simp; try with_reducible rfl)
        try simp only [yA, yB, yC, Act.put, yD, yE, yF]
        refine wpAnyH_take (i := 12) (v := ?ve13) rfl (by kernel_rfl) (by kernel_rfl) (by kernel_rfl) (fun _ _ _ h => h) (Or.inl ⟨by rfl, ?ye13⟩) hS ?re13
        case ye13 => (intro w0 _; go_simp; try with_reducible rfl)
        try simp only [yA, yB, yC, Act.put, yD, yE, yF]
        refine wpAnyH_take (i := 13) (v := ?ve14) rfl (by kernel_rfl) (by kernel_rfl) (by kernel_rfl) (fun _ _ _ h => h) (Or.inl ⟨by rfl, ?ye14⟩) hS ?re14
        case ye14 => (intro w0 hS0; (try simp only [] at hS0); obtain ⟨hS0_0, hS0_1, hS0_2⟩ := hS0; obtain ⟨q0_0, q0_1, q0_2, q0_3, q0_4, q0_5, q0_6, q0_7⟩ := hS0_0.c8; obtain ⟨q1_0, q1_1, q1_2, q1_3, q1_4, q1_5, q1_6, q1_7, q1_8, q1_9, q1_10, q1_11, q1_12, q1_13, q1_14⟩ := hS0_1.c15; go_simp; try with_reducible rfl)
        try simp only [yA, yB, yC, Act.put, yD, yE, yF]
        refine wpAnyH_ready (rs := [14]) (by kernel_rfl) (by simp) (AllReadyH.cons (i := 14) rfl (fun K hK => ?_) AllReadyH.nil)
        go_simp
        refine (strange_c _ s _ _ _ _ (HR.out.grown (gr_drew (gr_refl _ none))) _ r.nodes (HIN.out.below (gr_drew HG.out) (fun _ _ h => h)) _ rfl).mono ?_
        rintro e0 w1 ⟨rfl, hg1⟩
        replace HB := As.mk (HB.out.drew.grown hg1 (by simp))
        replace HT := As.mk (HT.out.drew.grown hg1 (by simp))
        replace HO := As.mk (HO.out.drew.grown hg1)
        replace HR := As.mk ((HR.out.grown (gr_drew (gr_refl _ none))).grown hg1)
        replace HG := As.mk (gr_then (gr_drew HG.out) hg1 (.inl rfl))
        replace HK := As.mk (HK.out.trans (.none (gr_then (gr_drew (gr_refl _ none)) hg1 (.inl rfl))))
        replace HPB := As.mk (HPB.out.drew.grown hg1 (by simp))
        clear hg1
        go_simp
        refine hK.out _ _ (⟨HB.out, HT.out, HPB.out.cell 0⟩) (fun hS => ?_)
        clear hK K
        try simp only [yA, yB, yC, Act.put, yD, yE, yF]
        refine wpAnyH_take (i := 15) (v := ?ve16) rfl (by kernel_rfl) (by kernel_rfl) (by kernel_rfl) (fun _ _ _ h => h) (Or.inl ⟨by rfl, ?ye16⟩) hS ?re16
        case ye16 => (intro w0 _; go_simp; try with_reducible rfl)
        try simp only [yA, yB, yC, Act.put, yD, yE, yF]
        refine wpAnyH_take (i := 16) (v := ?ve17) rfl (by kernel_rfl) (by kernel_rfl) (by kernel_rfl) (fun _ _ _ h => h) (Or.inl ⟨by rfl, ?ye17⟩) hS ?re17
        case ye17 => (intro w0 _; go_simp; try with_reducible rfl)
        try simp only [yA, yB, yC, Act.put, yD, yE, yF]
        refine wpAnyH_take (i := 17) (v := undef) rfl (by kernel_rfl) (by kernel_rfl) (by kernel_rfl) (fun _ _ _ h => h) (Or.inr ⟨by kernel_rfl, rfl⟩) hS ?_
        try simp only [yA, yB, yC, Act.put, yD, yE, yF]
        refine wpAnyH_take (i := 18) (v := undef) rfl (by kernel_rfl) (by kernel_rfl) (by kernel_rfl) (fun _ _ _ h => h) (Or.inr ⟨by kernel_rfl, rfl⟩) hS ?_
        try simp only [yA, yB, yC, Act.put, yD, yE, yF]
        refine wpAnyH_take (i := 19) (v := undef) rfl (by kernel_rfl) (by kernel_rfl) (by kernel_rfl) (fun _ _ _ h => h) (Or.inr ⟨by kernel_rfl, rfl⟩) hS ?_
        try simp only [yA, yB, yC, Act.put, yD, yE, yF]
        refine wpAnyH_take (i := 20) (v := undef) rfl (by kernel_rfl) (by kernel_rfl) (by kernel_rfl) (fun _ _ _ h => h) (Or.inr ⟨by kernel_rfl, rfl⟩) hS ?_
        try simp only [yA, yB, yC, Act.put, yD, yE, yF]
        refine wpAnyH_take (i := 21) (v := undef) rfl (by kernel_rfl) (by kernel_rfl) (by kernel_rfl) (fun _ _ _ h => h) (Or.inr ⟨by kernel_rfl, rfl⟩) hS ?_
        try simp only [yA, yB, yC, Act.put, yD, yE, yF]
        refine wpAnyH_take (i := 22) (v := undef) rfl (by kernel_rfl) (by kernel_rfl) (by kernel_rfl) (fun _ _ _ h => h) (Or.inr ⟨by kernel_rfl, rfl⟩) hS ?_
        try simp only [yA, yB, yC, Act.put, yD, yE, yF]
        refine wpAnyH_take (i := 23) (v := undef) rfl (by kernel_rfl) (by kernel_rfl) (by kernel_rfl) (fun _ _ _ h => h) (Or.inr ⟨by kernel_rfl, rfl⟩) hS ?_
        try simp only [yA, yB, yC, Act.put, yD, yE, yF]
        refine wpAnyH_take (i := 24) (v := undef) rfl (by kernel_rfl) (by kernel_rfl) (by kernel_rfl) (fun _ _ _ h => h) (Or.inr ⟨by kernel_rfl, rfl⟩) hS ?_
        try simp only [yA, yB, yC, Act.put, yD, yE, yF]
        refine wpAnyH_take (i := 25) (v := ?ve26) rfl (by kernel_rfl) (by kernel_rfl) (by kernel_rfl) (fun _ _ _ h => h) (Or.inl ⟨by rfl, ?ye26⟩) hS ?re26
        case ye26 => (intro w0 _; go_simp; try with_reducible rfl)
        try simp only [yA, yB, yC, Act.put, yD, yE, yF]
        refine wpAnyH_take (i := 26) (v := ?ve27) rfl (by kernel_rfl) (by kernel_rfl) (by kernel_rfl) (fun _ _ _ h => h) (Or.inl ⟨by rfl, ?ye27⟩) hS ?re27
        case ye27 => (intro w0 _; go_simp; try with_reducible rfl)
        try simp only [yA, yB, yC, Act.put, yD, yE, yF]
        refine wpAnyH_done (by kernel_rfl) ?_ _
        refine NoPanic.normal ?_
        try simp only [Exit.then]
        clear hS
        go_wp2_with fail
        go_ret
        exact MutPost.of HE.out HG.out HK.out HO.out
  · have HE := As.mk (show prepE s r = (9, s) from if_pos hk)
    go_wp2_with fail
    go_ret
    exact MutPost.of HE.out HG.out HK.out HO.out
end Go.Proofs.Ytdmkijdbldcdiaa
