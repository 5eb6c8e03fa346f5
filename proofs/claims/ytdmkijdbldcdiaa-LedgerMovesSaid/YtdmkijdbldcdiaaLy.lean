/- Clones of lists; the walk of commit. (Printed by wip/gen/gen_ly.py.) -/
import Derived.Test.YtdmkijdbldcdiaaLx
namespace Go.Proofs.Ytdmkijdbldcdiaa
open Go.RowKit
set_option linter.unusedVariables false
set_option linter.unusedSimpArgs false
set_option maxRecDepth 100000

def itC (x : PIt) : List Value := [.int .i64 x.c, .int .i64 x.v, .int .i64 x.a, .bool x.wr, .int .i64 x.nw]
def inC (x : Int) : List Value := [.int .i64 x]
theorem Arr.src {α : Type} {f : α → List Value} {sz : Nat} {w : World} {v : Value} {xs : List α} (h : Arr (fun _ x cs => cs = f x) sz w v xs) (hz : 0 < sz) (h1 : ∀ x, ∀ u ∈ f x, u.oneCell' = true) : SrcA w sz v xs.length (xs.flatMap f) := by
  obtain ⟨css, q1, q2, _, q4⟩ := h.cellsOf hz (fun x cs e u hu => by subst e; exact h1 x u hu)
  have : css = xs.map f := by
    apply List.ext_getElem?
    intro j
    rw [List.getElem?_map]
    by_cases hj : j < xs.length
    · obtain ⟨cs, e1, e2, _⟩ := q2 j _ (List.getElem?_eq_getElem hj)
      rw [e1, List.getElem?_eq_getElem hj, e2]
      rfl
    · rw [List.getElem?_eq_none (by omega), List.getElem?_eq_none (by omega)]
      rfl
  rw [this] at q4
  rwa [List.flatMap_def]
theorem itC_one (x : PIt) : ∀ u ∈ itC x, u.oneCell' = true := fun u hu => by
  simp only [itC, List.mem_cons, List.not_mem_nil, or_false] at hu
  rcases hu with rfl | rfl | rfl | rfl | rfl <;> rfl
theorem inC_one (x : Int) : ∀ u ∈ inC x, u.oneCell' = true := fun u hu => by
  simp only [inC, List.mem_cons, List.not_mem_nil, or_false] at hu
  rcases hu with rfl
  rfl
def CloneL {α : Type} (f : α → List Value) (sz : Nat) (T : TypeId) (w : World) (l : List α) (e : Ending) (w' : World) : Prop := ∃ A c, e = .returned (.slice A l.length c) ∧ w'.ownsRow w.heap.size T sz (.slice A l.length c) l.length (l.flatMap f) ∧ w.grownBy w' none
theorem ClonePost.list {α : Type} {f : α → List Value} {sz : Nat} {T : TypeId} {w w' : World} {l : List α} {e : Ending} (h : ClonePost w T sz l.length (l.flatMap f) e w') : CloneL f sz T w l e w' := by
  obtain ⟨v, rfl, h1, h2⟩ := h
  obtain ⟨A, c, rfl⟩ := own_shape h1
  exact ⟨A, c, rfl, h1, h2⟩
theorem clIt_c (w : World) (v : Value) (l : List PIt) (h : Arr ItE 5 w v l) (hn : l.length ≤ 1000000) : Calls Try.prog 39 #[v] w (CloneL itC 5 66 w l) :=
  (cloneIt_c w v l.length (l.flatMap itC) (Arr.src (f := itC) h (by omega) itC_one) hn).mono fun _ _ h => h.list
theorem clIn_c (w : World) (v : Value) (l : List Int) (h : Arr IE 1 w v l) (hn : l.length ≤ 1000000) : Calls Try.prog 40 #[v] w (CloneL inC 1 3 w l) :=
  (cloneIn_c w v l.length (l.flatMap inC) (Arr.src (f := inC) h (by omega) inC_one) hn).mono fun _ _ h => h.list
def commitE (s : PSt) (r : PRec) : Int × PSt := if (r.tid.n == s.node) = false then (1, s) else if strangeB s r.nodes = true then (1, s) else if 0 ≤ findI (fun x : PCm => eqT x.tid r.tid) s.commits then (9, s) else if 512 ≤ s.commits.length then (6, s)
  else (0, { s with commits := s.commits ++ [⟨r.tid, r.items, r.nodes, false⟩] })
set_option maxHeartbeats 6400000 in
theorem commitS_c (w0 w : World) (sb : Nat) (s : PSt) (hg : w0.grownBy w none) (hs : StO w w0.heap.size sb s) (hn : s.commits.length ≤ 1000000) (r : PRec) (AI : Option Addr) (cI : Nat) (AN : Option Addr) (cN : Nat) (hI : Arr ItE 5 w0 (.slice AI r.items.length cI) r.items) (hIn : Arr IE 1 w0 (.slice AN r.nodes.length cN) r.nodes) (hl1 : r.items.length ≤ 1000000) (hl2 : r.nodes.length ≤ 1000000) :
    Calls Try.prog 54 #[.pointer (some ⟨sb, 0, none⟩), .agg (reCells r AI cI AN cN)] w (MutPost w0 w sb (.int .i64 (commitE s r).1) (commitE s r).2) := by
  have HGA := gr_alloc (gr_refl w none) (.cells (reCells r AI cI AN cN) 43)
  have HG := As.mk (gr_then hg HGA (.inl rfl))
  have HO := As.mk (hs.grown HGA)
  have HK := As.mk (Keeps.none (sb := sb) HGA)
  have HT := As.mk (Blk.new w 43 (reCells r AI cI AN cN))
  have HN := As.mk hn
  have HI := As.mk hI
  have HIN := As.mk hIn
  have HLE := As.mk (And.intro hl1 hl2)
  clear hn hI hIn hl1 hl2
  have hd := hs.grown HGA
  clear hs hg HGA
  unfold reCells at *
  go_enter Try.func54, Try.ntmps54
  go_wp2_with fail
  generalize w.alloc (.cells #[.int .i64 r.kind, .int .i64 r.tid.n, .int .i64 r.tid.e, .int .i64 r.tid.s, .slice AI r.items.length cI, .slice AN r.nodes.length cN, .int .i64 r.node, .int .i64 r.count, .int .i64 r.num, .int .i64 r.cell, .int .i64 r.st, .int .i64 r.hop, .int .i64 r.ver, .int .i64 r.val, .bool r.yes] 43) = W at *
  generalize w.heap.size = gt at *
  obtain ⟨vP, vQ, vD, vC, hB, h⟩ := hd.toP
  obtain ⟨A1, c1, rfl⟩ := h.pl.len
  obtain ⟨A2, c2, rfl⟩ := h.pr.len
  obtain ⟨A3, c3, rfl⟩ := h.de.len
  obtain ⟨A4, c4, rfl⟩ := h.cm.len
  have HB := As.mk hB
  have HR := As.mk h
  unfold stCells at HB
  clear hd hB h
  cases hm : (r.tid.n == s.node)
  · have HE := As.mk (show commitE s r = (1, s) by unfold commitE; rw [if_pos hm])
    have hm2 : (r.tid.n != s.node) = true := by rw [bne, hm]; rfl
    have hm3 : ¬ r.tid.n = s.node := by simpa using hm
    refine wp_region_noPanic ?_
    refine wp_region_held_drew (S := fun w' => Blk w' sb 32 #[.int .i64 s.node, .int .i64 s.nodes, .int .i64 s.cells, .int .i64 s.epoch, .slice A1 s.places.length c1, .slice A2 s.prepared.length c2, .slice A3 s.decided.length c3, .slice A4 s.commits.length c4] ∧ Blk w' gt 43 #[.int .i64 r.kind, .int .i64 r.tid.n, .int .i64 r.tid.e, .int .i64 r.tid.s, .slice AI r.items.length cI, .slice AN r.nodes.length cN, .int .i64 r.node, .int .i64 r.count, .int .i64 r.num, .int .i64 r.cell, .int .i64 r.st, .int .i64 r.hop, .int .i64 r.ver, .int .i64 r.val, .bool r.yes]) (by kernel_rfl) (⟨HB.out.drew, HT.out.drew⟩) (fun hS => ?_)
    refine wpAnyH_take (i := 0) (v := ?va1) rfl (by kernel_rfl) (by kernel_rfl) (by kernel_rfl) (fun _ _ _ h => h) (Or.inl ⟨by rfl, ?ya1⟩) hS ?ra1
    case ya1 => (intro w0 _; go_simp; try with_reducible rfl)
    try simp only [yA, yB, yC, Act.put, yD, yE, yF]
    refine wpAnyH_take (i := 1) (v := ?va2) rfl (by kernel_rfl) (by kernel_rfl) (by kernel_rfl) (fun _ _ _ h => h) (Or.inl ⟨by rfl, ?ya2⟩) hS ?ra2
    case ya2 => (intro w0 _; go_simp; try with_reducible rfl)
    try simp only [yA, yB, yC, Act.put, yD, yE, yF]
    refine wpAnyH_take (i := 2) (v := ?va3) rfl (by kernel_rfl) (by kernel_rfl) (by kernel_rfl) (fun _ _ _ h => h) (Or.inl ⟨by rfl, ?ya3⟩) hS ?ra3
    case ya3 => (intro w0 hS0; (try simp only [] at hS0); obtain ⟨hS0_0, hS0_1⟩ := hS0; obtain ⟨q0_0, q0_1, q0_2, q0_3, q0_4, q0_5, q0_6, q0_7⟩ := hS0_0.c8; obtain ⟨q1_0, q1_1, q1_2, q1_3, q1_4, q1_5, q1_6, q1_7, q1_8, q1_9, q1_10, q1_11, q1_12, q1_13, q1_14⟩ := hS0_1.c15; go_simp; try with_reducible rfl)
    try simp only [yA, yB, yC, Act.put, yD, yE, yF]
    refine wpAnyH_take (i := 3) (v := ?va4) rfl (by kernel_rfl) (by kernel_rfl) (by kernel_rfl) (fun _ _ _ h => h) (Or.inl ⟨by rfl, ?ya4⟩) hS ?ra4
    case ya4 => (intro w0 _; go_simp; try with_reducible rfl)
    try simp only [yA, yB, yC, Act.put, yD, yE, yF]
    refine wpAnyH_take (i := 4) (v := ?va5) rfl (by kernel_rfl) (by kernel_rfl) (by kernel_rfl) (fun _ _ _ h => h) (Or.inl ⟨by rfl, ?ya5⟩) hS ?ra5
    case ya5 => (intro w0 _; go_simp; try with_reducible rfl)
    try simp only [yA, yB, yC, Act.put, yD, yE, yF]
    refine wpAnyH_take (i := 5) (v := ?va6) rfl (by kernel_rfl) (by kernel_rfl) (by kernel_rfl) (fun _ _ _ h => h) (Or.inl ⟨by rfl, ?ya6⟩) hS ?ra6
    case ya6 => (intro w0 _; go_simp; try with_reducible rfl)
    try simp only [yA, yB, yC, Act.put, yD, yE, yF]
    refine wpAnyH_take (i := 6) (v := ?va7) rfl (by kernel_rfl) (by kernel_rfl) (by kernel_rfl) (fun _ _ _ h => h) (Or.inl ⟨by rfl, ?ya7⟩) hS ?ra7
    case ya7 => (intro w0 hS0; (try simp only [] at hS0); obtain ⟨hS0_0, hS0_1⟩ := hS0; obtain ⟨q0_0, q0_1, q0_2, q0_3, q0_4, q0_5, q0_6, q0_7⟩ := hS0_0.c8; obtain ⟨q1_0, q1_1, q1_2, q1_3, q1_4, q1_5, q1_6, q1_7, q1_8, q1_9, q1_10, q1_11, q1_12, q1_13, q1_14⟩ := hS0_1.c15; go_simp; try with_reducible rfl)
    try simp only [yA, yB, yC, Act.put, yD, yE, yF]
    refine wpAnyH_take (i := 7) (v := ?va8) rfl (by kernel_rfl) (by kernel_rfl) (by kernel_rfl) (fun _ _ _ h => h) (Or.inl ⟨by rfl, ?ya8⟩) hS ?ra8
    case ya8 => (intro w0 _; go_simp; try with_reducible rfl)
    try simp only [yA, yB, yC, Act.put, yD, yE, yF]
    refine wpAnyH_take (i := 8) (v := ?va9) rfl (by kernel_rfl) (by kernel_rfl) (by kernel_rfl) (fun _ _ _ h => h) (Or.inl ⟨by rfl, ?ya9⟩) hS ?ra9
    case ya9 => (intro w0 _; go_simp; try with_reducible rfl)
    try simp only [yA, yB, yC, Act.put, yD, yE, yF]
    refine wpAnyH_take (i := 9) (v := undef) rfl (by kernel_rfl) (by kernel_rfl) (by kernel_rfl) (fun _ _ _ h => h) (Or.inr ⟨by kernel_rfl, rfl⟩) hS ?_
    try simp only [yA, yB, yC, Act.put, yD, yE, yF]
    refine wpAnyH_take (i := 10) (v := undef) rfl (by kernel_rfl) (by kernel_rfl) (by kernel_rfl) (fun _ _ _ h => h) (Or.inr ⟨by kernel_rfl, rfl⟩) hS ?_
    try simp only [yA, yB, yC, Act.put, yD, yE, yF]
    refine wpAnyH_take (i := 11) (v := undef) rfl (by kernel_rfl) (by kernel_rfl) (by kernel_rfl) (fun _ _ _ h => h) (Or.inr ⟨by kernel_rfl, rfl⟩) hS ?_
    try simp only [yA, yB, yC, Act.put, yD, yE, yF]
    refine wpAnyH_take (i := 12) (v := undef) rfl (by kernel_rfl) (by kernel_rfl) (by kernel_rfl) (fun _ _ _ h => h) (Or.inr ⟨by kernel_rfl, rfl⟩) hS ?_
    try simp only [yA, yB, yC, Act.put, yD, yE, yF]
    refine wpAnyH_take (i := 13) (v := undef) rfl (by kernel_rfl) (by kernel_rfl) (by kernel_rfl) (fun _ _ _ h => h) (Or.inr ⟨by kernel_rfl, rfl⟩) hS ?_
    try simp only [yA, yB, yC, Act.put, yD, yE, yF]
    refine wpAnyH_take (i := 14) (v := undef) rfl (by kernel_rfl) (by kernel_rfl) (by kernel_rfl) (fun _ _ _ h => h) (Or.inr ⟨by kernel_rfl, rfl⟩) hS ?_
    try simp only [yA, yB, yC, Act.put, yD, yE, yF]
    refine wpAnyH_take (i := 15) (v := ?va16) rfl (by kernel_rfl) (by kernel_rfl) (by kernel_rfl) (fun _ _ _ h => h) (Or.inl ⟨by rfl, ?ya16⟩) hS ?ra16
    case ya16 => (intro w0 _; go_simp; try with_reducible rfl)
    try simp only [yA, yB, yC, Act.put, yD, yE, yF]
    refine wpAnyH_take (i := 16) (v := ?va17) rfl (by kernel_rfl) (by kernel_rfl) (by kernel_rfl) (fun _ _ _ h => h) (Or.inl ⟨by rfl, ?ya17⟩) hS ?ra17
    case ya17 => (intro w0 _; go_simp; try with_reducible rfl)
    try simp only [yA, yB, yC, Act.put, yD, yE, yF]
    refine wpAnyH_done (by kernel_rfl) ?_ _
    refine NoPanic.normal ?_
    try simp only [Exit.then]
    clear hS
    replace HB := As.mk HB.out.drew
    replace HT := As.mk HT.out.drew
    replace HO := As.mk HO.out.drew
    replace HR := As.mk (HR.out.grown (gr_drew (gr_refl _ none)))
    replace HG := As.mk (gr_drew HG.out)
    replace HK := As.mk (HK.out.trans (.none (gr_drew (gr_refl _ none))))
    go_wp2_with fail
    go_ret
    exact MutPost.of HE.out HG.out HK.out HO.out
  · have HE0 := As.mk (show commitE s r = if strangeB s r.nodes = true then (1, s) else if 0 ≤ findI (fun x : PCm => eqT x.tid r.tid) s.commits then (9, s) else if 512 ≤ s.commits.length then (6, s)
  else (0, { s with commits := s.commits ++ [⟨r.tid, r.items, r.nodes, false⟩] }) by unfold commitE; rw [if_neg (by rw [hm]; simp)])
    have hm2 : (r.tid.n != s.node) = false := by rw [bne, hm]; rfl
    refine wp_region_noPanic ?_
    refine wp_region_held_drew (S := fun w' => Blk w' sb 32 #[.int .i64 s.node, .int .i64 s.nodes, .int .i64 s.cells, .int .i64 s.epoch, .slice A1 s.places.length c1, .slice A2 s.prepared.length c2, .slice A3 s.decided.length c3, .slice A4 s.commits.length c4] ∧ Blk w' gt 43 #[.int .i64 r.kind, .int .i64 r.tid.n, .int .i64 r.tid.e, .int .i64 r.tid.s, .slice AI r.items.length cI, .slice AN r.nodes.length cN, .int .i64 r.node, .int .i64 r.count, .int .i64 r.num, .int .i64 r.cell, .int .i64 r.st, .int .i64 r.hop, .int .i64 r.ver, .int .i64 r.val, .bool r.yes]) (by kernel_rfl) (⟨HB.out.drew, HT.out.drew⟩) (fun hS => ?_)
    refine wpAnyH_take (i := 0) (v := ?vb1) rfl (by kernel_rfl) (by kernel_rfl) (by kernel_rfl) (fun _ _ _ h => h) (Or.inl ⟨by rfl, ?yb1⟩) hS ?rb1
    case yb1 => (intro w0 _; go_simp; try with_reducible rfl)
    try simp only [yA, yB, yC, Act.put, yD, yE, yF]
    refine wpAnyH_take (i := 1) (v := ?vb2) rfl (by kernel_rfl) (by kernel_rfl) (by kernel_rfl) (fun _ _ _ h => h) (Or.inl ⟨by rfl, ?yb2⟩) hS ?rb2
    case yb2 => (intro w0 _; go_simp; try with_reducible rfl)
    try simp only [yA, yB, yC, Act.put, yD, yE, yF]
    refine wpAnyH_take (i := 2) (v := ?vb3) rfl (by kernel_rfl) (by kernel_rfl) (by kernel_rfl) (fun _ _ _ h => h) (Or.inl ⟨by rfl, ?yb3⟩) hS ?rb3
    case yb3 => (intro w0 hS0; (try simp only [] at hS0); obtain ⟨hS0_0, hS0_1⟩ := hS0; obtain ⟨q0_0, q0_1, q0_2, q0_3, q0_4, q0_5, q0_6, q0_7⟩ := hS0_0.c8; obtain ⟨q1_0, q1_1, q1_2, q1_3, q1_4, q1_5, q1_6, q1_7, q1_8, q1_9, q1_10, q1_11, q1_12, q1_13, q1_14⟩ := hS0_1.c15; go_simp; try with_reducible rfl)
    try simp only [yA, yB, yC, Act.put, yD, yE, yF]
    refine wpAnyH_take (i := 3) (v := ?vb4) rfl (by kernel_rfl) (by kernel_rfl) (by kernel_rfl) (fun _ _ _ h => h) (Or.inl ⟨by rfl, ?yb4⟩) hS ?rb4
    case yb4 => (intro w0 _; go_simp; try with_reducible rfl)
    try simp only [yA, yB, yC, Act.put, yD, yE, yF]
    refine wpAnyH_take (i := 4) (v := ?vb5) rfl (by kernel_rfl) (by kernel_rfl) (by kernel_rfl) (fun _ _ _ h => h) (Or.inl ⟨by rfl, ?yb5⟩) hS ?rb5
    case yb5 => (intro w0 _; go_simp; try with_reducible rfl)
    try simp only [yA, yB, yC, Act.put, yD, yE, yF]
    refine wpAnyH_take (i := 5) (v := ?vb6) rfl (by kernel_rfl) (by kernel_rfl) (by kernel_rfl) (fun _ _ _ h => h) (Or.inl ⟨by rfl, ?yb6⟩) hS ?rb6
    case yb6 => (intro w0 _; go_simp; try with_reducible rfl)
    try simp only [yA, yB, yC, Act.put, yD, yE, yF]
    refine wpAnyH_take (i := 6) (v := ?vb7) rfl (by kernel_rfl) (by kernel_rfl) (by kernel_rfl) (fun _ _ _ h => h) (Or.inl ⟨by rfl, ?yb7⟩) hS ?rb7
    case yb7 => (intro w0 hS0; (try simp only [] at hS0); obtain ⟨hS0_0, hS0_1⟩ := hS0; obtain ⟨q0_0, q0_1, q0_2, q0_3, q0_4, q0_5, q0_6, q0_7⟩ := hS0_0.c8; obtain ⟨q1_0, q1_1, q1_2, q1_3, q1_4, q1_5, q1_6, q1_7, q1_8, q1_9, q1_10, q1_11, q1_12, q1_13, q1_14⟩ := hS0_1.c15; go_simp; try with_reducible rfl)
    try simp only [yA, yB, yC, Act.put, yD, yE, yF]
    refine wpAnyH_take (i := 7) (v := ?vb8) rfl (by kernel_rfl) (by kernel_rfl) (by kernel_rfl) (fun _ _ _ h => h) (Or.inl ⟨by rfl, ?yb8⟩) hS ?rb8
    case yb8 => (intro w0 _; go_simp; try with_reducible rfl)
    try simp only [yA, yB, yC, Act.put, yD, yE, yF]
    refine wpAnyH_take (i := 8) (v := ?vb9) rfl (by kernel_rfl) (by kernel_rfl) (by kernel_rfl) (fun _ _ _ h => h) (Or.inl ⟨by rfl, ?yb9⟩) hS ?rb9
    case yb9 => (intro w0 _; go_simp; try with_reducible rfl)
    try simp only [yA, yB, yC, Act.put, yD, yE, yF]
    refine wpAnyH_take (i := 9) (v := ?vb10) rfl (by kernel_rfl) (by kernel_rfl) (by kernel_rfl) (fun _ _ _ h => h) (Or.inl ⟨by rfl, ?yb10⟩) hS ?rb10
    case yb10 => (intro w0 _; go_simp; try with_reducible rfl)
    try simp only [yA, yB, yC, Act.put, yD, yE, yF]
    refine wpAnyH_take (i := 10) (v := ?vb11) rfl (by kernel_rfl) (by kernel_rfl) (by kernel_rfl) (fun _ _ _ h => h) (Or.inl ⟨by rfl, ?yb11⟩) hS ?rb11
    case yb11 => (intro w0 _; go_simp; try with_reducible rfl)
    try simp only [yA, yB, yC, Act.put, yD, yE, yF]
    refine wpAnyH_take (i := 11) (v := ?vb12) rfl (by kernel_rfl) (by kernel_rfl) (by kernel_rfl) (fun _ _ _ h => h) (Or.inl ⟨by rfl, ?yb12⟩) hS ?rb12
    case yb12 => (intro w0 hS0; (try simp only [] at hS0); obtain ⟨hS0_0, hS0_1⟩ := hS0; obtain ⟨q0_0, q0_1, q0_2, q0_3, q0_4, q0_5, q0_6, q0_7⟩ := hS0_0.c8; obtain ⟨q1_0, q1_1, q1_2, q1_3, q1_4, q1_5, q1_6, q1_7, q1_8, q1_9, q1_10, q1_11, q1_12, q1_13, q1_14⟩ := hS0_1.c15; go_simp; try with_reducible rfl)
    try simp only [yA, yB, yC, Act.put, yD, yE, yF]
    refine wpAnyH_take (i := 12) (v := ?vb13) rfl (by kernel_rfl) (by kernel_rfl) (by kernel_rfl) (fun _ _ _ h => h) (Or.inl ⟨by rfl, ?yb13⟩) hS ?rb13
    case yb13 => (intro w0 _; go_simp; try with_reducible rfl)
    try simp only [yA, yB, yC, Act.put, yD, yE, yF]
    refine wpAnyH_take (i := 13) (v := ?vb14) rfl (by kernel_rfl) (by kernel_rfl) (by kernel_rfl) (fun _ _ _ h => h) (Or.inl ⟨by rfl, ?yb14⟩) hS ?rb14
    case yb14 => (intro w0 hS0; (try simp only [] at hS0); obtain ⟨hS0_0, hS0_1⟩ := hS0; obtain ⟨q0_0, q0_1, q0_2, q0_3, q0_4, q0_5, q0_6, q0_7⟩ := hS0_0.c8; obtain ⟨q1_0, q1_1, q1_2, q1_3, q1_4, q1_5, q1_6, q1_7, q1_8, q1_9, q1_10, q1_11, q1_12, q1_13, q1_14⟩ := hS0_1.c15; go_simp; try with_reducible rfl)
    try simp only [yA, yB, yC, Act.put, yD, yE, yF]
    refine wpAnyH_ready (rs := [14]) (by kernel_rfl) (by simp) (AllReadyH.cons (i := 14) rfl (fun K hK => ?_) AllReadyH.nil)
    go_simp
    refine (strange_c _ s _ _ _ _ (HR.out.grown (gr_drew (gr_refl _ none))) _ r.nodes (HIN.out.below (gr_drew HG.out) (fun _ _ h => h)) _ rfl).mono ?_
    rintro e0 w1 ⟨rfl, hg1⟩
    replace HB := As.mk (HB.out.drew.grown hg1 (by simp))
    replace HT := As.mk (HT.out.drew.grown hg1 (by simp))
    replace HO := As.mk (HO.out.drew.grown hg1)
    replace HR := As.mk ((HR.out.grown (gr_drew (gr_refl _ none))).grown hg1)
    replace HG := As.mk (gr_then (gr_drew HG.out) hg1 (.inl rfl))
    replace HK := As.mk (HK.out.trans (.none (gr_then (gr_drew (gr_refl _ none)) hg1 (.inl rfl))))
    clear hg1
    go_simp
    refine hK.out _ _ (⟨HB.out, HT.out⟩) (fun hS => ?_)
    clear hK K
    try simp only [yA, yB, yC, Act.put, yD, yE, yF]
    refine wpAnyH_take (i := 15) (v := ?vb16) rfl (by kernel_rfl) (by kernel_rfl) (by kernel_rfl) (fun _ _ _ h => h) (Or.inl ⟨by rfl, ?yb16⟩) hS ?rb16
    case yb16 => (intro w0 _; go_simp; try with_reducible rfl)
    try simp only [yA, yB, yC, Act.put, yD, yE, yF]
    refine wpAnyH_take (i := 16) (v := ?vb17) rfl (by kernel_rfl) (by kernel_rfl) (by kernel_rfl) (fun _ _ _ h => h) (Or.inl ⟨by rfl, ?yb17⟩) hS ?rb17
    case yb17 => (intro w0 _; go_simp; try with_reducible rfl)
    try simp only [yA, yB, yC, Act.put, yD, yE, yF]
    refine wpAnyH_done (by kernel_rfl) ?_ _
    refine NoPanic.normal ?_
    try simp only [Exit.then]
    clear hS
    clear hm hm2
    cases hs : strangeB s r.nodes
    · rw [if_neg (by rw [hs]; simp)] at HE0
      go_wp2_with fail
      refine wp_region_noPanic ?_
      refine wp_region_held_drew (S := fun w' => Blk w' sb 32 #[.int .i64 s.node, .int .i64 s.nodes, .int .i64 s.cells, .int .i64 s.epoch, .slice A1 s.places.length c1, .slice A2 s.prepared.length c2, .slice A3 s.decided.length c3, .slice A4 s.commits.length c4] ∧ Blk w' gt 43 #[.int .i64 r.kind, .int .i64 r.tid.n, .int .i64 r.tid.e, .int .i64 r.tid.s, .slice AI r.items.length cI, .slice AN r.nodes.length cN, .int .i64 r.node, .int .i64 r.count, .int .i64 r.num, .int .i64 r.cell, .int .i64 r.st, .int .i64 r.hop, .int .i64 r.ver, .int .i64 r.val, .bool r.yes]) (by kernel_rfl) (⟨HB.out.drew, HT.out.drew⟩) (fun hS => ?_)
      refine wpAnyH_take (i := 0) (v := ?vc1) rfl (by kernel_rfl) (by kernel_rfl) (by kernel_rfl) (fun _ _ _ h => h) (Or.inl ⟨by rfl, ?yc1⟩) hS ?rc1
      case yc1 => (intro w0 _; go_simp; try with_reducible rfl)
      try simp only [yA, yB, yC, Act.put, yD, yE, yF]
      refine wpAnyH_take (i := 1) (v := ?vc2) rfl (by kernel_rfl) (by kernel_rfl) (by kernel_rfl) (fun _ _ _ h => h) (Or.inl ⟨by rfl, ?yc2⟩) hS ?rc2
      case yc2 => (intro w0 _; go_simp; try with_reducible rfl)
      try simp only [yA, yB, yC, Act.put, yD, yE, yF]
      refine wpAnyH_take (i := 2) (v := ?vc3) rfl (by kernel_rfl) (by kernel_rfl) (by kernel_rfl) (fun _ _ _ h => h) (Or.inl ⟨by rfl, ?yc3⟩) hS ?rc3
      case yc3 => (intro w0 hS0; (try simp only [] at hS0); obtain ⟨hS0_0, hS0_1⟩ := hS0; obtain ⟨q0_0, q0_1, q0_2, q0_3, q0_4, q0_5, q0_6, q0_7⟩ := hS0_0.c8; obtain ⟨q1_0, q1_1, q1_2, q1_3, q1_4, q1_5, q1_6, q1_7, q1_8, q1_9, q1_10, q1_11, q1_12, q1_13, q1_14⟩ := hS0_1.c15; go_simp; try with_reducible rfl)
      try simp only [yA, yB, yC, Act.put, yD, yE, yF]
      refine wpAnyH_take (i := 3) (v := ?vc4) rfl (by kernel_rfl) (by kernel_rfl) (by kernel_rfl) (fun _ _ _ h => h) (Or.inl ⟨by rfl, ?yc4⟩) hS ?rc4
      case yc4 => (intro w0 _; go_simp; try with_reducible rfl)
      try simp only [yA, yB, yC, Act.put, yD, yE, yF]
      refine wpAnyH_take (i := 4) (v := ?vc5) rfl (by kernel_rfl) (by kernel_rfl) (by kernel_rfl) (fun _ _ _ h => h) (Or.inl ⟨by rfl, ?yc5⟩) hS ?rc5
      case yc5 => (intro w0 hS0; (try simp only [] at hS0); obtain ⟨hS0_0, hS0_1⟩ := hS0; obtain ⟨q0_0, q0_1, q0_2, q0_3, q0_4, q0_5, q0_6, q0_7⟩ := hS0_0.c8; obtain ⟨q1_0, q1_1, q1_2, q1_3, q1_4, q1_5, q1_6, q1_7, q1_8, q1_9, q1_10, q1_11, q1_12, q1_13, q1_14⟩ := hS0_1.c15; go_simp; try with_reducible rfl)
      try simp only [yA, yB, yC, Act.put, yD, yE, yF]
      refine wpAnyH_ready (rs := [5]) (by kernel_rfl) (by simp) (AllReadyH.cons (i := 5) rfl (fun K hK => ?_) AllReadyH.nil)
      go_simp
      refine (findCm_c _ s _ _ _ _ (HR.out.grown (gr_drew (gr_refl _ none))) r.tid).mono ?_
      rintro e0 w1 ⟨rfl, hg1⟩
      replace HB := As.mk (HB.out.drew.grown hg1 (by simp))
      replace HT := As.mk (HT.out.drew.grown hg1 (by simp))
      replace HO := As.mk (HO.out.drew.grown hg1)
      replace HR := As.mk ((HR.out.grown (gr_drew (gr_refl _ none))).grown hg1)
      replace HG := As.mk (gr_then (gr_drew HG.out) hg1 (.inl rfl))
      replace HK := As.mk (HK.out.trans (.none (gr_then (gr_drew (gr_refl _ none)) hg1 (.inl rfl))))
      clear hg1
      go_simp
      refine hK.out _ _ (⟨HB.out, HT.out⟩) (fun hS => ?_)
      clear hK K
      try simp only [yA, yB, yC, Act.put, yD, yE, yF]
      refine wpAnyH_take (i := 6) (v := ?vc7) rfl (by kernel_rfl) (by kernel_rfl) (by kernel_rfl) (fun _ _ _ h => h) (Or.inl ⟨by rfl, ?yc7⟩) hS ?rc7
      case yc7 => (intro w0 _; go_simp; try with_reducible rfl)
      try simp only [yA, yB, yC, Act.put, yD, yE, yF]
      refine wpAnyH_take (i := 7) (v := ?vc8) rfl (by kernel_rfl) (by kernel_rfl) (by kernel_rfl) (fun _ _ _ h => h) (Or.inl ⟨by rfl, ?yc8⟩) hS ?rc8
      case yc8 => (intro w0 _; go_simp; try with_reducible rfl)
      try simp only [yA, yB, yC, Act.put, yD, yE, yF]
      refine wpAnyH_done (by kernel_rfl) ?_ _
      refine NoPanic.normal ?_
      try simp only [Exit.then]
      clear hS
      by_cases hf : 0 ≤ findI (fun x : PCm => eqT x.tid r.tid) s.commits
      · have HE := As.mk (HE0.out.trans (if_pos hf))
        clear HE0
        go_wp2_with fail
        go_ret
        exact MutPost.of HE.out HG.out HK.out HO.out
      · rw [if_neg hf] at HE0
        by_cases hl : 512 ≤ s.commits.length
        · have HE := As.mk (HE0.out.trans (if_pos hl))
          have hlI : (512 : Int) ≤ (s.commits.length : Int) := by omega
          obtain ⟨d0, d1, d2, d3, d4, d5, d6, d7⟩ := (HB.out).c8
          go_wp2_with fail
          go_ret
          exact MutPost.of HE.out HG.out HK.out HO.out
        · have HE := As.mk (HE0.out.trans (if_neg hl))
          have hlI : ¬ (512 : Int) ≤ (s.commits.length : Int) := by omega
          obtain ⟨d0, d1, d2, d3, d4, d5, d6, d7⟩ := (HB.out).c8
          go_wp2_with fail
          clear d0 d1 d2 d3 d4 d5 d6 d7
          clear hlI hl HE0 hf hs
          obtain ⟨vP, vQ, vD, vC, qs, cs, hO⟩ := HO.out
          have hcl : cs.length = s.commits.length := by rw [show s.commits = cs.map QCm.p from hO.cp.symm, List.length_map]
          have HCL := As.mk hcl
          have HOO := As.mk hO
          clear hO hcl HB HR
          obtain ⟨i0, hi, hz0, hz1, hz2⟩ := info_parts infoCm
          have HIF := As.mk (And.intro hi (And.intro hz0 (And.intro hz1 hz2)))
          clear hi hz0 hz1 hz2
          refine wp_region_noPanic ?_
          refine wp_region_D (S := fun w' => Blk w' sb 32 (stCells s vP vQ vD vC) ∧ Blk w' gt 43 #[.int .i64 r.kind, .int .i64 r.tid.n, .int .i64 r.tid.e, .int .i64 r.tid.s, .slice AI r.items.length cI, .slice AN r.nodes.length cN, .int .i64 r.node, .int .i64 r.count, .int .i64 r.num, .int .i64 r.cell, .int .i64 r.st, .int .i64 r.hop, .int .i64 r.ver, .int .i64 r.val, .bool r.yes]) 18 (by kernel_rfl) (⟨HOO.out.blk.drew, HT.out.drew⟩) (fun hS => ?_)
          refine wpAnyD_take (i := 0) (v := ?vz1) rfl rfl (by kernel_rfl) (by kernel_rfl) (by kernel_rfl) (by kernel_rfl) (fun _ _ _ h => h) (Or.inl ⟨by rfl, ?yz1⟩) hS ?rz1
          case yz1 => (intro w0 _; go_simp; try with_reducible rfl)
          try simp only [yA, yB, yC, Act.put, yD, yE, yF]
          refine wpAnyD_take (i := 1) (v := ?vz2) rfl rfl (by kernel_rfl) (by kernel_rfl) (by kernel_rfl) (by kernel_rfl) (fun _ _ _ h => h) (Or.inl ⟨by rfl, ?yz2⟩) hS ?rz2
          case yz2 => (intro w0 _; go_simp; try with_reducible rfl)
          try simp only [yA, yB, yC, Act.put, yD, yE, yF]
          refine wpAnyD_take (i := 2) (v := ?vz3) rfl rfl (by kernel_rfl) (by kernel_rfl) (by kernel_rfl) (by kernel_rfl) (fun _ _ _ h => h) (Or.inl ⟨by rfl, ?yz3⟩) hS ?rz3
          case yz3 => (intro w0 _; go_simp; try with_reducible rfl)
          try simp only [yA, yB, yC, Act.put, yD, yE, yF]
          refine wpAnyD_take (i := 3) (v := ?vz4) rfl rfl (by kernel_rfl) (by kernel_rfl) (by kernel_rfl) (by kernel_rfl) (fun _ _ _ h => h) (Or.inl ⟨by rfl, ?yz4⟩) hS ?rz4
          case yz4 => (intro w0 _; go_simp; try with_reducible rfl)
          try simp only [yA, yB, yC, Act.put, yD, yE, yF]
          refine wpAnyD_take (i := 4) (v := ?vz5) rfl rfl (by kernel_rfl) (by kernel_rfl) (by kernel_rfl) (by kernel_rfl) (fun _ _ _ h => h) (Or.inl ⟨by rfl, ?yz5⟩) hS ?rz5
          case yz5 => (intro w0 hS0; (try simp only [] at hS0); obtain ⟨hS0_0, hS0_1⟩ := hS0; obtain ⟨q0_0, q0_1, q0_2, q0_3, q0_4, q0_5, q0_6, q0_7⟩ := hS0_0.c8; obtain ⟨q1_0, q1_1, q1_2, q1_3, q1_4, q1_5, q1_6, q1_7, q1_8, q1_9, q1_10, q1_11, q1_12, q1_13, q1_14⟩ := hS0_1.c15; go_simp; try with_reducible rfl)
          try simp only [yA, yB, yC, Act.put, yD, yE, yF]
          refine wpAnyD_take (i := 5) (v := ?vz6) rfl rfl (by kernel_rfl) (by kernel_rfl) (by kernel_rfl) (by kernel_rfl) (fun _ _ _ h => h) (Or.inl ⟨by rfl, ?yz6⟩) hS ?rz6
          case yz6 => (intro w0 _; go_simp; try with_reducible rfl)
          try simp only [yA, yB, yC, Act.put, yD, yE, yF]
          refine wpAnyD_take (i := 6) (v := ?vz7) rfl rfl (by kernel_rfl) (by kernel_rfl) (by kernel_rfl) (by kernel_rfl) (fun _ _ _ h => h) (Or.inl ⟨by rfl, ?yz7⟩) hS ?rz7
          case yz7 => (intro w0 hS0; (try simp only [] at hS0); obtain ⟨hS0_0, hS0_1⟩ := hS0; obtain ⟨q0_0, q0_1, q0_2, q0_3, q0_4, q0_5, q0_6, q0_7⟩ := hS0_0.c8; obtain ⟨q1_0, q1_1, q1_2, q1_3, q1_4, q1_5, q1_6, q1_7, q1_8, q1_9, q1_10, q1_11, q1_12, q1_13, q1_14⟩ := hS0_1.c15; go_simp; try with_reducible rfl)
          try simp only [yA, yB, yC, Act.put, yD, yE, yF]
          refine wpAnyD_take (i := 7) (v := ?vz8) rfl rfl (by kernel_rfl) (by kernel_rfl) (by kernel_rfl) (by kernel_rfl) (fun _ _ _ h => h) (Or.inl ⟨by rfl, ?yz8⟩) hS ?rz8
          case yz8 => (intro w0 _; go_simp; try with_reducible rfl)
          try simp only [yA, yB, yC, Act.put, yD, yE, yF]
          refine wpAnyD_take (i := 8) (v := ?vz9) rfl rfl (by kernel_rfl) (by kernel_rfl) (by kernel_rfl) (by kernel_rfl) (fun _ _ _ h => h) (Or.inl ⟨by rfl, ?yz9⟩) hS ?rz9
          case yz9 => (intro w0 hS0; (try simp only [] at hS0); obtain ⟨hS0_0, hS0_1⟩ := hS0; obtain ⟨q0_0, q0_1, q0_2, q0_3, q0_4, q0_5, q0_6, q0_7⟩ := hS0_0.c8; obtain ⟨q1_0, q1_1, q1_2, q1_3, q1_4, q1_5, q1_6, q1_7, q1_8, q1_9, q1_10, q1_11, q1_12, q1_13, q1_14⟩ := hS0_1.c15; go_simp; try with_reducible rfl)
          try simp only [yA, yB, yC, Act.put, yD, yE, yF]
          refine wpAnyD_take (i := 10) (v := ?vz10) rfl rfl (by kernel_rfl) (by kernel_rfl) (by kernel_rfl) (by kernel_rfl) (fun _ _ _ h => h) (Or.inl ⟨by rfl, ?yz10⟩) hS ?rz10
          case yz10 => (intro w0 _; go_simp; try with_reducible rfl)
          try simp only [yA, yB, yC, Act.put, yD, yE, yF]
          refine wpAnyD_take (i := 11) (v := ?vz11) rfl rfl (by kernel_rfl) (by kernel_rfl) (by kernel_rfl) (by kernel_rfl) (fun _ _ _ h => h) (Or.inl ⟨by rfl, ?yz11⟩) hS ?rz11
          case yz11 => (intro w0 hS0; (try simp only [] at hS0); obtain ⟨hS0_0, hS0_1⟩ := hS0; obtain ⟨q0_0, q0_1, q0_2, q0_3, q0_4, q0_5, q0_6, q0_7⟩ := hS0_0.c8; obtain ⟨q1_0, q1_1, q1_2, q1_3, q1_4, q1_5, q1_6, q1_7, q1_8, q1_9, q1_10, q1_11, q1_12, q1_13, q1_14⟩ := hS0_1.c15; go_simp; try with_reducible rfl)
          try simp only [yA, yB, yC, Act.put, yD, yE, yF]
          refine wpAnyD_ready (rs := [9]) (by kernel_rfl) (by simp) (AllReadyD.cons (i := 9) rfl (fun K hK => ?_) AllReadyD.nil)
          go_simp
          refine (clIt_c _ _ r.items (HI.out.below (gr_drew HG.out) (fun _ _ h => h)) HLE.out.1).mono ?_
          rintro e0 w1 ⟨Ai, ci, rfl, ho, hg1⟩
          have HV1 := As.mk (TArr.own (f := itC) ho (fun _ => rfl))
          replace HOO := As.mk (HOO.out.drew.grown hg1)
          replace HT := As.mk (HT.out.drew.grown hg1 (by simp))
          replace HG := As.mk (gr_then (gr_drew HG.out) hg1 (.inl rfl))
          replace HK := As.mk (HK.out.trans (.none (gr_then (gr_drew (gr_refl _ none)) hg1 (.inl rfl))))
          clear hg1 ho
          go_simp
          refine hK.out _ _ (fun _ => ⟨HOO.out.blk, HT.out⟩) (fun hS' => ?_)
          replace hS := hS' (by decide)
          clear hS'
          clear hK K
          try simp only [yA, yB, yC, Act.put, yD, yE, yF]
          refine wpAnyD_ready (rs := [12]) (by kernel_rfl) (by simp) (AllReadyD.cons (i := 12) rfl (fun K hK => ?_) AllReadyD.nil)
          go_simp
          refine (clIn_c _ _ r.nodes (HIN.out.below HG.out (fun _ _ h => h)) HLE.out.2).mono ?_
          rintro e0 w2 ⟨An, cn, rfl, ho, hg1⟩
          have HV := As.mk (show TArr ItE 5 66 w2 _ r.items ∧ TArr IE 1 3 w2 _ r.nodes from ⟨HV1.out.step hg1 (fun _ _ h => h) (fun g e => by cases e), TArr.own (f := inC) ho (fun _ => rfl)⟩)
          replace HOO := As.mk (HOO.out.grown hg1)
          replace HT := As.mk (HT.out.grown hg1 (by simp))
          replace HG := As.mk (gr_then HG.out hg1 (.inl rfl))
          replace HK := As.mk (HK.out.trans (.none hg1))
          clear hg1 ho HV1
          go_simp
          refine hK.out _ _ (fun _ => ⟨HOO.out.blk, HT.out⟩) (fun hS' => ?_)
          replace hS := hS' (by decide)
          clear hS'
          clear hK K
          try simp only [yA, yB, yC, Act.put, yD, yE, yF]
          refine wpAnyD_take (i := 13) (v := ?vz14) rfl rfl (by kernel_rfl) (by kernel_rfl) (by kernel_rfl) (by kernel_rfl) (fun _ _ _ h => h) (Or.inl ⟨by rfl, ?yz14⟩) hS ?rz14
          case yz14 => (intro w0 _; go_simp; try with_reducible rfl)
          try simp only [yA, yB, yC, Act.put, yD, yE, yF]
          refine wpAnyD_ready (rs := [14]) (by kernel_rfl) (by simp) (AllReadyD.cons (i := 14) rfl (fun K hK => ?_) AllReadyD.nil)
          go_simp
          have hga := gr_alloc (gr_refl w2 none) (.cells #[.int .i64 r.tid.n, .int .i64 r.tid.e, .int .i64 r.tid.s, .slice Ai r.items.length ci, .slice An r.nodes.length cn, .bool false] 58)
          have HBS := As.mk (Blk.new w2 58 #[.int .i64 r.tid.n, .int .i64 r.tid.e, .int .i64 r.tid.s, .slice Ai r.items.length ci, .slice An r.nodes.length cn, .bool false])
          replace HOO := As.mk (HOO.out.grown hga)
          replace HT := As.mk (HT.out.grown hga (by simp))
          replace HG := As.mk (gr_then HG.out hga (.inl rfl))
          replace HK := As.mk (HK.out.trans (.none hga))
          replace HV := As.mk (nest_step HV.out hga (fun g e => by cases e))
          clear hga
          refine hK.out _ _ (fun _ => ⟨HOO.out.blk, HT.out⟩) (fun hS' => ?_)
          replace hS := hS' (by decide)
          clear hS'
          clear hK K
          try simp only [yA, yB, yC, Act.put, yD, yE, yF]
          refine wpAnyD_ready (rs := [15]) (by kernel_rfl) (by simp) (AllReadyD.cons (i := 15) rfl (fun K hK => ?_) AllReadyD.nil)
          refine step_app1 rfl _ _ _ rfl w0.heap.size 58 i0 _ 6 80 Try.underlying30 HIF.out.1 HIF.out.2.1 HIF.out.2.2.1 HIF.out.2.2.2 rfl (by omega) (by omega) vC cs.length (cs.flatMap qcC) rfl HOO.out.cm w2.heap.size rfl _ HBS.out rfl (by simp [Value.oneCell']) (by have := HCL.out; have := HN.out; omega) HG.out.size ?_
          intro v' w3 ho hg' _
          obtain ⟨A9, c9, rfl⟩ := own_shape ho
          have HB3 := As.mk (HOO.out.blk.grown hg' (own_ne HOO.out.blk HOO.out.cm (by decide)))
          have HT3 := As.mk (HT.out.grown hg' (own_ne HT.out HOO.out.cm (by decide)))
          have HO4 := As.mk (HOO.out.setC hg' (cs' := cs ++ [⟨⟨r.tid, r.items, r.nodes, false⟩, Ai, ci, An, cn⟩]) (by rw [List.length_append, List.flatMap_append]; simpa [qcC] using ho) (fun q hq => by
            rcases List.mem_append.1 hq with hq | hq
            · exact nest_step (HOO.out.ci q hq) hg' (fun g e cs => ⟨own_typed HOO.out.cm (by decide) g e cs, own_typed HOO.out.cm (by decide) g e cs⟩)
            · rw [List.mem_singleton] at hq
              subst hq
              exact nest_step HV.out hg' (fun g e cs => ⟨own_typed HOO.out.cm (by decide) g e cs, own_typed HOO.out.cm (by decide) g e cs⟩)))
          have hlo : w0.heap.size ≤ sb := HOO.out.lo
          have HG4 := As.mk (gr_set (gr_then HG.out hg' (.inr (.inr (own_lo HOO.out.cm)))) (a := ⟨sb, 7, none⟩) (.inr hlo) (.slice A9 (cs.length + 1) c9))
          have HK4 := As.mk ((HK.out.trans (.own HOO.out.cm (by decide) hg')).trans (.set HB3.out (by decide) 7 (.slice A9 (cs.length + 1) c9)))
          clear hg' ho hlo
          refine hK.out _ _ (fun _ => ⟨HB3.out, HT3.out⟩) (fun hS' => ?_)
          replace hS := hS' (by decide)
          clear hS'
          clear hK K
          try simp only [yA, yB, yC, Act.put, yD, yE, yF]
          refine wpAnyD_ready (rs := [16]) (by kernel_rfl) (by simp) (AllReadyD.cons (i := 16) rfl (fun K hK => ?_) AllReadyD.nil)
          go_simp
          refine hK.out _ _ (fun _ => hS) (fun hS' => ?_)
          replace hS := hS' (by decide)
          clear hS'
          clear hK K
          try simp only [yA, yB, yC, Act.put, yD, yE, yF]
          refine wpAnyD_take (i := 17) (v := ?vz18) rfl rfl (by kernel_rfl) (by kernel_rfl) (by kernel_rfl) (by kernel_rfl) (fun _ _ _ h => h) (Or.inl ⟨by rfl, ?yz18⟩) hS ?rz18
          case yz18 => (intro w0 _; go_simp; try with_reducible rfl)
          try simp only [yA, yB, yC, Act.put, yD, yE, yF]
          refine wpAnyD_ready (rs := [18]) (by kernel_rfl) (by simp) (AllReadyD.cons (i := 18) rfl (fun K hK => ?_) AllReadyD.nil)
          have q7 := HB3.out.cell 7
          have f7 := HB3.out.free 7
          simp only [stCells, List.getElem?_toArray, List.getElem?_cons_zero, List.getElem?_cons_succ] at q7
          go_simp
          refine hK.out _ _ (fun h => absurd rfl h) (fun _ => ?_)
          clear hK K
          try simp only [yA, yB, yC, Act.put, yD, yE, yF]
          refine wpAnyD_done (by kernel_rfl) ?_ _
          refine NoPanic.normal ?_
          try simp only [Exit.then]
          go_wp2_with fail
          go_ret
          have hfin := HO4.out
          rw [List.map_append, HOO.out.cp] at hfin
          exact MutPost.of HE.out HG4.out HK4.out ⟨_, _, _, _, _, _, hfin⟩
    · have HE := As.mk (HE0.out.trans (if_pos hs))
      go_wp2_with fail
      go_ret
      exact MutPost.of HE.out HG.out HK.out HO.out
end Go.Proofs.Ytdmkijdbldcdiaa
