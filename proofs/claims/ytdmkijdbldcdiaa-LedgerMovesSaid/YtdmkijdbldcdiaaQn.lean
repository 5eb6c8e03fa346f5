/- A row of states; the walk of LedgerMoves' closure. (Printed by wip/gen/gen_qn.py.) -/
import Derived.Test.YtdmkijdbldcdiaaQm
import Derived.Test.YtdmkijdbldcdiaaOf
import Derived.Outline
namespace Go.Proofs.Ytdmkijdbldcdiaa
open Go.RowKit
set_option linter.unusedVariables false
set_option linter.unusedSimpArgs false
set_option maxRecDepth 100000


/-- A state as it lies in a row. -/
structure QSt where
  s : PSt
  P : Option Addr
  p : Nat
  Q : Option Addr
  q : Nat
  D : Option Addr
  d : Nat
  C : Option Addr
  c : Nat
  qs : List QPr
  cs : List QCm
def qsC (x : QSt) : List Value := [.int .i64 x.s.node, .int .i64 x.s.nodes, .int .i64 x.s.cells, .int .i64 x.s.epoch, .slice x.P x.s.places.length x.p, .slice x.Q x.qs.length x.q, .slice x.D x.s.decided.length x.d, .slice x.C x.cs.length x.c]
def RowsQ (w : World) (B : Nat) (x : QSt) : Prop := Rows w B x.s (.slice x.P x.s.places.length x.p) (.slice x.Q x.qs.length x.q) (.slice x.D x.s.decided.length x.d) (.slice x.C x.cs.length x.c) x.qs x.cs
/-- A row of states, all of the call's own. -/
def LRow (w : World) (B : Nat) (N : Nat → Prop) (V : Value) (ss : List PSt) : Prop := ∃ qs : List QSt, w.ownsRow B 32 8 V ss.length (qs.flatMap qsC) ∧ qs.map QSt.s = ss ∧ ∀ x ∈ qs, RowsQ w B x ∧ ∀ a, x.P = some a → N a.block
theorem LRow.grown {w w' : World} {B : Nat} {N : Nat → Prop} {V : Value} {ss : List PSt} (h : LRow w B N V ss) (hg : w.grownBy w' none) : LRow w' B N V ss := by
  obtain ⟨qs, a, b, c⟩ := h
  exact ⟨qs, own_gr0 a hg, b, fun x hx => ⟨(c x hx).1.grown hg, (c x hx).2⟩⟩
/-- Rows stay behind what is written into one block of another type. -/
theorem Rows.blk {w w' : World} {B : Nat} {s : PSt} {vP vQ vD vC : Value} {qs : List QPr} {cs : List QCm} (h : Rows w B s vP vQ vD vC qs cs) {g : Nat} {u : Array Value} (hb : Blk w g 32 u) (hg : w.grownBy w' (some g)) : Rows w' B s vP vQ vD vC qs cs := by
  have hn : ∀ k, some g = some k → ∀ cs, ¬ Blk w k 66 cs ∧ ¬ Blk w k 3 cs := fun k e cs => by
    injection e with e
    subst e
    exact ⟨fun q => Blk.ne hb q (by decide) rfl, fun q => Blk.ne hb q (by decide) rfl⟩
  exact ⟨own_grown h.pl hg (.inr (Ne.symm (own_ne hb h.pl (by decide)))), own_grown h.pr hg (.inr (Ne.symm (own_ne hb h.pr (by decide)))), own_grown h.de hg (.inr (Ne.symm (own_ne hb h.de (by decide)))), own_grown h.cm hg (.inr (Ne.symm (own_ne hb h.cm (by decide)))), h.qp, h.cp,
    fun q hq => nest_step (h.qi q hq) hg hn, fun q hq => nest_step (h.ci q hq) hg hn⟩
theorem own_blk {w : World} {base : Nat} {e : TypeId} {size n g cap : Nat} {xs : List Value} (h : w.ownsRow base e size (.slice (some ⟨g, 0, none⟩) n cap) n xs) : ∃ cs, Blk w g e cs := by
  rcases h.2 with ⟨hv, _⟩ | ⟨g', cap', cur, hv, _, hg, _⟩
  · cases hv
  · injection hv with hv1 _ _
    injection hv1 with hv1
    injection hv1 with hv1
    subst hv1
    exact ⟨cur, hg⟩
theorem set_app (A L : List Value) (n k : Nat) (hn : n = A.length) (u : Value) : (A ++ L).set (n + k) u = A ++ L.set k u := by
  subst hn
  rw [List.set_append_right _ _ (Nat.le_add_right _ _), Nat.add_sub_cancel_left]
theorem flat_len8 {α : Type} (f : α → List Value) (hf : ∀ x, (f x).length = 8) (l : List α) : (l.flatMap f).length = l.length * 8 := by
  induction l with
  | nil => rfl
  | cons x l ih => rw [List.flatMap_cons, List.length_append, hf, ih, List.length_cons]; omega
theorem flat_put8 {α : Type} (f : α → List Value) (hf : ∀ x, (f x).length = 8) (l : List α) (j : Nat) (hj : j < l.length) (u0 u1 u2 u3 u4 u5 u6 u7 : Value) (y : α) (hy : f y = [u0, u1, u2, u3, u4, u5, u6, u7]) :
    ((((((((l.flatMap f).set (j * 8) u0).set (j * 8 + 1) u1).set (j * 8 + 2) u2).set (j * 8 + 3) u3).set (j * 8 + 4) u4).set (j * 8 + 5) u5).set (j * 8 + 6) u6).set (j * 8 + 7) u7 = (l.set j y).flatMap f := by
  obtain ⟨A, x, B, rfl, hA⟩ : ∃ A x B, l = A ++ x :: B ∧ A.length = j := ⟨l.take j, l[j], l.drop (j + 1), by simp, by simp; omega⟩
  subst hA
  have e1 : (A ++ x :: B).set A.length y = A ++ y :: B := by rw [List.set_append_right _ _ (Nat.le_refl _), Nat.sub_self]; rfl
  have hn : A.length * 8 = (A.flatMap f).length := (flat_len8 f hf A).symm
  rw [e1, List.flatMap_append, List.flatMap_append, List.flatMap_cons, List.flatMap_cons, hy]
  generalize hc : f x = c
  have h8 : c.length = 8 := by rw [← hc]; exact hf x
  generalize hb : B.flatMap f = b
  generalize ha : A.flatMap f = a at hn
  generalize A.length * 8 = n at hn
  match c, h8 with
  | [a0, a1, a2, a3, a4, a5, a6, a7], _ =>
    have h0 : ∀ L u, (a ++ L).set n u = a ++ L.set 0 u := fun L u => set_app a L n 0 hn u
    rw [h0, set_app a _ n 1 hn, set_app a _ n 2 hn, set_app a _ n 3 hn, set_app a _ n 4 hn, set_app a _ n 5 hn, set_app a _ n 6 hn, set_app a _ n 7 hn]
    rfl
/-- One state of the row is stored anew. -/
theorem LRow.put {w : World} {B g cap : Nat} {N : Nat → Prop} {ss : List PSt} (h : LRow w B N (.slice (some ⟨g, 0, none⟩) ss.length cap) ss) (i : Nat) (hi : i < ss.length) (s2 : PSt) {aP aQ aD aC : Option Addr} {ap aq ad ac : Nat} {qs2 : List QPr} {cs2 : List QCm} (hr : Rows w B s2 (.slice aP s2.places.length ap) (.slice aQ qs2.length aq) (.slice aD s2.decided.length ad) (.slice aC cs2.length ac) qs2 cs2) (hN : ∀ a, aP = some a → N a.block) :
    LRow ((((((((w.setCell ⟨g, i * 8, none⟩ (.int .i64 s2.node)).setCell ⟨g, i * 8 + 1, none⟩ (.int .i64 s2.nodes)).setCell ⟨g, i * 8 + 2, none⟩ (.int .i64 s2.cells)).setCell ⟨g, i * 8 + 3, none⟩ (.int .i64 s2.epoch)).setCell ⟨g, i * 8 + 4, none⟩ (.slice aP s2.places.length ap)).setCell ⟨g, i * 8 + 5, none⟩ (.slice aQ qs2.length aq)).setCell ⟨g, i * 8 + 6, none⟩ (.slice aD s2.decided.length ad)).setCell ⟨g, i * 8 + 7, none⟩ (.slice aC cs2.length ac)) B N (.slice (some ⟨g, 0, none⟩) ss.length cap) (ss.set i s2) ∧ w.grownBy ((((((((w.setCell ⟨g, i * 8, none⟩ (.int .i64 s2.node)).setCell ⟨g, i * 8 + 1, none⟩ (.int .i64 s2.nodes)).setCell ⟨g, i * 8 + 2, none⟩ (.int .i64 s2.cells)).setCell ⟨g, i * 8 + 3, none⟩ (.int .i64 s2.epoch)).setCell ⟨g, i * 8 + 4, none⟩ (.slice aP s2.places.length ap)).setCell ⟨g, i * 8 + 5, none⟩ (.slice aQ qs2.length aq)).setCell ⟨g, i * 8 + 6, none⟩ (.slice aD s2.decided.length ad)).setCell ⟨g, i * 8 + 7, none⟩ (.slice aC cs2.length ac)) (some g) := by
  obtain ⟨qs, a, b, c⟩ := h
  have hl : qs.length = ss.length := by rw [← b, List.length_map]
  obtain ⟨u, hb⟩ := own_blk a
  have hg : w.grownBy ((((((((w.setCell ⟨g, i * 8, none⟩ (.int .i64 s2.node)).setCell ⟨g, i * 8 + 1, none⟩ (.int .i64 s2.nodes)).setCell ⟨g, i * 8 + 2, none⟩ (.int .i64 s2.cells)).setCell ⟨g, i * 8 + 3, none⟩ (.int .i64 s2.epoch)).setCell ⟨g, i * 8 + 4, none⟩ (.slice aP s2.places.length ap)).setCell ⟨g, i * 8 + 5, none⟩ (.slice aQ qs2.length aq)).setCell ⟨g, i * 8 + 6, none⟩ (.slice aD s2.decided.length ad)).setCell ⟨g, i * 8 + 7, none⟩ (.slice aC cs2.length ac)) (some g) := (gr_set (gr_set (gr_set (gr_set (gr_set (gr_set (gr_set (gr_set (gr_refl w (some g)) (a := ⟨g, i * 8, none⟩) (.inl rfl) (.int .i64 s2.node)) (a := ⟨g, i * 8 + 1, none⟩) (.inl rfl) (.int .i64 s2.nodes)) (a := ⟨g, i * 8 + 2, none⟩) (.inl rfl) (.int .i64 s2.cells)) (a := ⟨g, i * 8 + 3, none⟩) (.inl rfl) (.int .i64 s2.epoch)) (a := ⟨g, i * 8 + 4, none⟩) (.inl rfl) (.slice aP s2.places.length ap)) (a := ⟨g, i * 8 + 5, none⟩) (.inl rfl) (.slice aQ qs2.length aq)) (a := ⟨g, i * 8 + 6, none⟩) (.inl rfl) (.slice aD s2.decided.length ad)) (a := ⟨g, i * 8 + 7, none⟩) (.inl rfl) (.slice aC cs2.length ac))
  refine ⟨⟨qs.set i ⟨s2, aP, ap, aQ, aq, aD, ad, aC, ac, qs2, cs2⟩, ?_, by rw [List.map_set, b], fun x hx => ?_⟩, hg⟩
  · rw [List.length_set]
    have h0 := own_set a (i * 8) (by omega) (.int .i64 s2.node)
    have h1 := own_set h0 (i * 8 + 1) (by omega) (.int .i64 s2.nodes)
    have h2 := own_set h1 (i * 8 + 2) (by omega) (.int .i64 s2.cells)
    have h3 := own_set h2 (i * 8 + 3) (by omega) (.int .i64 s2.epoch)
    have h4 := own_set h3 (i * 8 + 4) (by omega) (.slice aP s2.places.length ap)
    have h5 := own_set h4 (i * 8 + 5) (by omega) (.slice aQ qs2.length aq)
    have h6 := own_set h5 (i * 8 + 6) (by omega) (.slice aD s2.decided.length ad)
    have h7 := own_set h6 (i * 8 + 7) (by omega) (.slice aC cs2.length ac)
    rw [flat_put8 qsC (fun _ => rfl) qs i (by omega) _ _ _ _ _ _ _ _ (⟨s2, aP, ap, aQ, aq, aD, ad, aC, ac, qs2, cs2⟩ : QSt) rfl] at h7
    exact h7
  · rcases List.mem_or_eq_of_mem_set hx with hx | rfl
    · exact ⟨(c x hx).1.blk hb hg, (c x hx).2⟩
    · exact ⟨hr.blk hb hg, hN⟩
/-- Behind the closure's Apply. -/
def DoMid (W wx : World) (tb : Nat) (s2 : PSt) : Prop := ∃ aP ap aQ aq aD ad aC ac qs2 cs2, W.grownBy wx none ∧ Blk wx tb 32 #[.int .i64 s2.node, .int .i64 s2.nodes, .int .i64 s2.cells, .int .i64 s2.epoch, .slice aP s2.places.length ap, .slice aQ qs2.length aq, .slice aD s2.decided.length ad, .slice aC cs2.length ac] ∧ Rows wx W.heap.size s2 (.slice aP s2.places.length ap) (.slice aQ qs2.length aq) (.slice aD s2.decided.length ad) (.slice aC cs2.length ac) qs2 cs2 ∧ W.heap.size ≤ tb
/-- What the closure leaves. -/
def DoPost (w : World) (B : Nat) (N : Nat → Prop) (lb g cap : Nat) (ss : List PSt) (i : Nat) (s : PSt) (r : PRec) (e : Ending) (w' : World) : Prop := e = .returned (.bool ((applyL s [r]).1 == 0)) ∧ w.grownBy w' (some g) ∧ LRow w' B N (.slice (some ⟨g, 0, none⟩) ss.length cap) (ss.set i (stepS s r)) ∧ Blk w' lb 69 #[.slice (some ⟨g, 0, none⟩) ss.length cap]
theorem set_same {l : List PSt} {i : Nat} {s : PSt} (h : l[i]? = some s) : l.set i s = l := by
  obtain ⟨hi, rfl⟩ := List.getElem?_eq_some_iff.1 h
  exact List.set_getElem_self hi
/-- The way back into a region: the world behind an operation gets a letter. -/
theorem shut_gen {S F : World → Prop} {R : Act → World → Prop} {K : Act → World → Prop} {a : Act} {w : World} (hK : Shut (∀ a w, S w → (S w → R a w) → K a w)) (hs : S w) (hf : F w) (k : ∀ w1, S w1 → F w1 → R a w1) : K a w := hK.out a w hs (fun h => k w h hf)
set_option maxHeartbeats 6400000 in
theorem do_c (w : World) (B : Nat) (N : Nat → Prop) (lb g cap : Nat) (ss : List PSt) (hB : B ≤ w.heap.size) (hNN : ∀ b, w.heap.size ≤ b → N b) (hL : LRow w B N (.slice (some ⟨g, 0, none⟩) ss.length cap) ss) (hb : Blk w lb 69 #[.slice (some ⟨g, 0, none⟩) ss.length cap]) (i : Nat) (s : PSt) (hi : ss[i]? = some s) (hs : SInv s)
    (r : PRec) (AI : Option Addr) (cI : Nat) (AN : Option Addr) (cN : Nat) (hI : Arr ItE 5 w (.slice AI r.items.length cI) r.items) (hN : Arr IE 1 w (.slice AN r.nodes.length cN) r.nodes) :
    Calls Try.prog 19 #[.int .i64 (i : Int), .agg (reCells r AI cI AN cN), .pointer (some ⟨lb, 0, none⟩)] w (DoPost w B N lb g cap ss i s r) := by
  have hil : i < ss.length := (List.getElem?_eq_some_iff.1 hi).1
  obtain ⟨qs, hown, hm, hrows⟩ := hL
  have hql : qs.length = ss.length := by rw [← hm, List.length_map]
  obtain ⟨x, hx⟩ : ∃ x, qs[i]? = some x := ⟨_, List.getElem?_eq_getElem (by omega)⟩
  have hxs : x.s = s := by rw [← hm, List.getElem?_map, hx] at hi; injection hi
  have HX := As.mk (show RowsQ w B x from (hrows x (List.mem_of_getElem? hx)).1)
  have hle : ss.length ≤ cap ∧ cap ≤ 9223372036854775807 := by
    obtain ⟨_, _, _, _, h1, h2⟩ := own_whole hown
    exact ⟨h1, by simp only [maxLen] at h2; omega⟩
  have p0 := own_cellAt hown (i * 8 + 0) _ (flat_at qsC 8 (fun _ => rfl) qs i _ hx 0 _ rfl)
  have p1 := own_cellAt hown (i * 8 + 1) _ (flat_at qsC 8 (fun _ => rfl) qs i _ hx 1 _ rfl)
  have p2 := own_cellAt hown (i * 8 + 2) _ (flat_at qsC 8 (fun _ => rfl) qs i _ hx 2 _ rfl)
  have p3 := own_cellAt hown (i * 8 + 3) _ (flat_at qsC 8 (fun _ => rfl) qs i _ hx 3 _ rfl)
  have p4 := own_cellAt hown (i * 8 + 4) _ (flat_at qsC 8 (fun _ => rfl) qs i _ hx 4 _ rfl)
  have p5 := own_cellAt hown (i * 8 + 5) _ (flat_at qsC 8 (fun _ => rfl) qs i _ hx 5 _ rfl)
  have p6 := own_cellAt hown (i * 8 + 6) _ (flat_at qsC 8 (fun _ => rfl) qs i _ hx 6 _ rfl)
  have p7 := own_cellAt hown (i * 8 + 7) _ (flat_at qsC 8 (fun _ => rfl) qs i _ hx 7 _ rfl)
  simp only [Nat.add_zero] at p0
  have HP := As.mk (And.intro p0 (And.intro p1 (And.intro p2 (And.intro p3 (And.intro p4 (And.intro p5 (And.intro p6 p7)))))))
  have HLR := As.mk (show LRow w B N (.slice (some ⟨g, 0, none⟩) ss.length cap) ss from ⟨qs, hown, hm, hrows⟩)
  have HLO := As.mk (own_lo hown g rfl)
  have HFR := As.mk (fun j => own_freeAt hown j)
  have HI := As.mk hI
  have HN := As.mk hN
  have HSI := As.mk hs
  have HLB := As.mk hb
  have HII := As.mk hi
  have hiI : (i : Int) < (ss.length : Int) := by omega
  have hi0 : (0 : Int) ≤ (i : Int) := by omega
  subst hxs
  clear p0 p1 p2 p3 p4 p5 p6 p7 hown hm hrows hql hI hN hs hb hx hi
  have HG := As.mk (gr_alloc (gr_refl w none) (.cells #[.int .i64 r.kind, .int .i64 r.tid.n, .int .i64 r.tid.e, .int .i64 r.tid.s, .slice AI r.items.length cI, .slice AN r.nodes.length cN, .int .i64 r.node, .int .i64 r.count, .int .i64 r.num, .int .i64 r.cell, .int .i64 r.st, .int .i64 r.hop, .int .i64 r.ver, .int .i64 r.val, .bool r.yes] 43))
  have HT := As.mk (Blk.new w 43 #[.int .i64 r.kind, .int .i64 r.tid.n, .int .i64 r.tid.e, .int .i64 r.tid.s, .slice AI r.items.length cI, .slice AN r.nodes.length cN, .int .i64 r.node, .int .i64 r.count, .int .i64 r.num, .int .i64 r.cell, .int .i64 r.st, .int .i64 r.hop, .int .i64 r.ver, .int .i64 r.val, .bool r.yes])
  unfold reCells
  go_enter Try.func19, Try.ntmps19
  go_wp2_with fail
  have HBW := As.mk (Nat.le_trans hB HG.out.size)
  generalize w.alloc (.cells #[.int .i64 r.kind, .int .i64 r.tid.n, .int .i64 r.tid.e, .int .i64 r.tid.s, .slice AI r.items.length cI, .slice AN r.nodes.length cN, .int .i64 r.node, .int .i64 r.count, .int .i64 r.num, .int .i64 r.cell, .int .i64 r.st, .int .i64 r.hop, .int .i64 r.ver, .int .i64 r.val, .bool r.yes] 43) = W at *
  have HNN := As.mk (show ∀ b, W.heap.size ≤ b → N b from fun b hb => hNN b (Nat.le_trans HG.out.size hb))
  clear hNN
  generalize w.heap.size = rb at *
  have HLW := As.mk (HLB.out.grown HG.out (by simp))
  have HXW := As.mk (HX.out.grown HG.out)
  have HPW := As.mk (And.intro (HG.out.cell HP.out.1 (by simp)) (And.intro (HG.out.cell HP.out.2.1 (by simp)) (And.intro (HG.out.cell HP.out.2.2.1 (by simp)) (And.intro (HG.out.cell HP.out.2.2.2.1 (by simp)) (And.intro (HG.out.cell HP.out.2.2.2.2.1 (by simp)) (And.intro (HG.out.cell HP.out.2.2.2.2.2.1 (by simp)) (And.intro (HG.out.cell HP.out.2.2.2.2.2.2.1 (by simp)) (HG.out.cell HP.out.2.2.2.2.2.2.2 (by simp)))))))))
  have HIW := As.mk (HI.out.itG HG.out)
  have HNW := As.mk (HN.out.inG HG.out)
  have HWZ := As.mk (Nat.le_refl W.heap.size)
  go_cut [6, 7] (fun v6 v7 wx => ∃ tb : Nat, v6 = .pointer (some ⟨tb, 0, none⟩) ∧ v7 = .int .i64 (applyL x.s [r]).1 ∧ As (DoMid W wx tb (applyL x.s [r]).2))
  case first =>
    refine wp_region_noPanic ?_
    refine wp_region_held_drew (S := fun w' => W.grownBy w' none) (by kernel_rfl) ((gr_drew (gr_refl W none))) (fun hS => ?_)
    refine wpAnyH_take (i := 0) (v := ?va1) rfl (by kernel_rfl) (by kernel_rfl) (by kernel_rfl) (fun _ _ _ h => h) (Or.inl ⟨by rfl, ?ya1⟩) hS ?ra1
    case ya1 => (intro w0 hS0; (try simp only [] at hS0); have q0 := (HLW.out.grown hS0 (by simp)).c1; go_simp; try with_reducible rfl)
    try simp only [yA, yB, yC, Act.put, yD, yE, yF]
    refine wpAnyH_take (i := 1) (v := ?va2) rfl (by kernel_rfl) (by kernel_rfl) (by kernel_rfl) (fun _ _ _ h => h) (Or.inl ⟨by rfl, ?ya2⟩) hS ?ra2
    case ya2 => (intro w0 _; go_simp; try with_reducible rfl)
    try simp only [yA, yB, yC, Act.put, yD, yE, yF]
    refine wpAnyH_take (i := 2) (v := ?va3) rfl (by kernel_rfl) (by kernel_rfl) (by kernel_rfl) (fun _ _ _ h => h) (Or.inl ⟨by rfl, ?ya3⟩) hS ?ra3
    case ya3 => (intro w0 _; go_simp; try with_reducible rfl)
    try simp only [yA, yB, yC, Act.put, yD, yE, yF]
    refine wpAnyH_take (i := 3) (v := ?va4) rfl (by kernel_rfl) (by kernel_rfl) (by kernel_rfl) (fun _ _ _ h => h) (Or.inl ⟨by rfl, ?ya4⟩) hS ?ra4
    case ya4 => (intro w0 hS0; (try simp only [] at hS0); have p0 := hS0.cell HPW.out.1 (by simp); have p1 := hS0.cell HPW.out.2.1 (by simp); have p2 := hS0.cell HPW.out.2.2.1 (by simp); have p3 := hS0.cell HPW.out.2.2.2.1 (by simp); have p4 := hS0.cell HPW.out.2.2.2.2.1 (by simp); have p5 := hS0.cell HPW.out.2.2.2.2.2.1 (by simp); have p6 := hS0.cell HPW.out.2.2.2.2.2.2.1 (by simp); have p7 := hS0.cell HPW.out.2.2.2.2.2.2.2 (by simp); go_simp; try with_reducible rfl)
    try simp only [yA, yB, yC, Act.put, yD, yE, yF]
    refine wpAnyH_take (i := 4) (v := ?va5) rfl (by kernel_rfl) (by kernel_rfl) (by kernel_rfl) (fun _ _ _ h => h) (Or.inl ⟨by rfl, ?ya5⟩) hS ?ra5
    case ya5 => (intro w0 hS0; (try simp only [] at hS0); obtain ⟨t0, t1, t2, t3, t4, t5, t6, t7, t8, t9, t10, t11, t12, t13, t14⟩ := (HT.out.grown hS0 (by simp)).c15; go_simp; try with_reducible rfl)
    try simp only [yA, yB, yC, Act.put, yD, yE, yF]
    refine wpAnyH_ready (rs := [5, 10]) (by kernel_rfl) (by simp) (AllReadyH.cons (i := 5) rfl (fun K hK => ?f5_a6) (AllReadyH.cons (i := 10) rfl (fun K hK => ?f10_a6) AllReadyH.nil))
    case f5_a6 =>
      go_simp
      refine shut_gen hK (F := fun w' => As (Blk w' W.heap.size 43 #[.int .i64 r.kind, .int .i64 r.tid.n, .int .i64 r.tid.e, .int .i64 r.tid.s, .slice AI r.items.length cI, .slice AN r.nodes.length cN, .int .i64 r.node, .int .i64 r.count, .int .i64 r.num, .int .i64 r.cell, .int .i64 r.st, .int .i64 r.hop, .int .i64 r.ver, .int .i64 r.val, .bool r.yes])) (by repeat (first | with_reducible exact gr_refl _ _ | with_reducible exact hS | with_reducible refine gr_drew ?_ | with_reducible refine gr_alloc ?_ _)) (⟨by first | with_reducible exact Blk.drew (Blk.new _ _ _) | exact Blk.drew (Blk.new _ _ _)⟩) (fun wv1 hS HB => ?_)
      clear hK K
      have HSZ := As.mk hS.size
      try simp only [yA, yB, yC, Act.put, yD, yE, yF]
      refine wpAnyH_ready (rs := [6, 10]) (by kernel_rfl) (by simp) (AllReadyH.cons (i := 6) rfl (fun K hK => ?f6_a7) (AllReadyH.cons (i := 10) rfl (fun K hK => ?f10_a7) AllReadyH.nil))
      case f6_a7 =>
        go_simp
        have hS' := hS
        refine (Apply_c _ x.s _ _ _ _ (HXW.out.grown hS').read HSI.out _ [r] (Arr.re1 HB.out (HIW.out.itG hS') (HNW.out.inG hS'))).mono ?_
        rintro e0 w3 ⟨aP, aQ, aD, aC, qs2, cs2, rfl, hg1, hr1⟩
        obtain ⟨aP, ap, rfl⟩ := own_shape hr1.pl
        obtain ⟨aQ, aq, rfl⟩ := own_shape hr1.pr
        obtain ⟨aD, ad, rfl⟩ := own_shape hr1.de
        obtain ⟨aC, ac, rfl⟩ := own_shape hr1.cm
        have HH3 := As.mk (gr_then hS' hg1 (.inl rfl))
        have HR3 := As.mk (hr1.mono hS'.size)
        have HTG := As.mk hg1
        clear hg1 hr1 hS'
        generalize applyL x.s [r] = q at *
        obtain ⟨er, s2⟩ := q
        dsimp only at HR3 ⊢
        unfold stCells
        go_simp
        refine shut_gen hK (F := fun w' => As (Rows w' W.heap.size s2 (.slice aP s2.places.length ap) (.slice aQ qs2.length aq) (.slice aD s2.decided.length ad) (.slice aC cs2.length ac) qs2 cs2)) (HH3.out) (HR3) (fun wv2 hS HR => ?_)
        clear hK K
        clear HR3 HH3 HTG HB
        have HSZ := As.mk hS.size
        try simp only [yA, yB, yC, Act.put, yD, yE, yF]
        refine wpAnyH_take (i := 7) (v := ?va8) rfl (by kernel_rfl) (by kernel_rfl) (by kernel_rfl) (fun _ _ _ h => h) (Or.inl ⟨by rfl, ?ya8⟩) hS ?ra8
        case ya8 => (intro w0 _; go_simp; try with_reducible rfl)
        try simp only [yA, yB, yC, Act.put, yD, yE, yF]
        refine wpAnyH_take (i := 8) (v := ?va9) rfl (by kernel_rfl) (by kernel_rfl) (by kernel_rfl) (fun _ _ _ h => h) (Or.inl ⟨by rfl, ?ya9⟩) hS ?ra9
        case ya9 => (intro w0 _; go_simp; try with_reducible rfl)
        try simp only [yA, yB, yC, Act.put, yD, yE, yF]
        refine wpAnyH_take (i := 9) (v := ?va10) rfl (by kernel_rfl) (by kernel_rfl) (by kernel_rfl) (fun _ _ _ h => h) (Or.inl ⟨by rfl, ?ya10⟩) hS ?ra10
        case ya10 => (intro w0 _; go_simp; try with_reducible rfl)
        try simp only [yA, yB, yC, Act.put, yD, yE, yF]
        refine wpAnyH_ready (rs := [10]) (by kernel_rfl) (by simp) (AllReadyH.cons (i := 10) rfl (fun K hK => ?_) AllReadyH.nil)
        go_simp
        refine shut_gen hK (F := fun w' => As (Rows w' W.heap.size s2 (.slice aP s2.places.length ap) (.slice aQ qs2.length aq) (.slice aD s2.decided.length ad) (.slice aC cs2.length ac) qs2 cs2 ∧ Blk w' wv2.heap.size 32 #[.int .i64 0, .int .i64 0, .int .i64 0, .int .i64 0, .slice none 0 0, .slice none 0 0, .slice none 0 0, .slice none 0 0])) (by repeat (first | with_reducible exact gr_refl _ _ | with_reducible exact hS | with_reducible refine gr_drew ?_ | with_reducible refine gr_alloc ?_ _)) (⟨HR.out.grown (gr_alloc (gr_refl _ none) _), Blk.new _ _ _⟩) (fun wv3 hS HF => ?_)
        clear hK K
        have HTL := As.mk (show W.heap.size ≤ wv2.heap.size from HSZ.out)
        replace HR := As.mk HF.out.1
        have HTB := As.mk HF.out.2
        clear HF
        try simp only [yA, yB, yC, Act.put, yD, yE, yF]
        refine wpAnyH_ready (rs := [11]) (by kernel_rfl) (by simp) (AllReadyH.cons (i := 11) rfl (fun K hK => ?_) AllReadyH.nil)
        obtain ⟨z0, z1, z2, z3, z4, z5, z6, z7⟩ := HTB.out.c8
        have fz0 := HTB.out.free 0
        have fz1 := HTB.out.free 1
        have fz2 := HTB.out.free 2
        have fz3 := HTB.out.free 3
        have fz4 := HTB.out.free 4
        have fz5 := HTB.out.free 5
        have fz6 := HTB.out.free 6
        have fz7 := HTB.out.free 7
        go_simp
        refine shut_gen hK (F := fun w' => As (DoMid W w' wv2.heap.size s2)) (gr_put8 hS (.inr HTL.out) (.int .i64 s2.node) (.int .i64 s2.nodes) (.int .i64 s2.cells) (.int .i64 s2.epoch) (.slice aP s2.places.length ap) (.slice aQ qs2.length aq) (.slice aD s2.decided.length ad) (.slice aC cs2.length ac)) (⟨aP, ap, aQ, aq, aD, ad, aC, ac, qs2, cs2, gr_put8 hS (.inr HTL.out) (.int .i64 s2.node) (.int .i64 s2.nodes) (.int .i64 s2.cells) (.int .i64 s2.epoch) (.slice aP s2.places.length ap) (.slice aQ qs2.length aq) (.slice aD s2.decided.length ad) (.slice aC cs2.length ac), HTB.out.put8 (.int .i64 s2.node) (.int .i64 s2.nodes) (.int .i64 s2.cells) (.int .i64 s2.epoch) (.slice aP s2.places.length ap) (.slice aQ qs2.length aq) (.slice aD s2.decided.length ad) (.slice aC cs2.length ac), HR.out.put8 HTB.out (.int .i64 s2.node) (.int .i64 s2.nodes) (.int .i64 s2.cells) (.int .i64 s2.epoch) (.slice aP s2.places.length ap) (.slice aQ qs2.length aq) (.slice aD s2.decided.length ad) (.slice aC cs2.length ac), HTL.out⟩) (fun wv4 hS HF => ?_)
        clear hK K
        clear z0 z1 z2 z3 z4 z5 z6 z7 fz0 fz1 fz2 fz3 fz4 fz5 fz6 fz7
        try simp only [yA, yB, yC, Act.put, yD, yE, yF]
        refine wpAnyH_take (i := 12) (v := ?va13) rfl (by kernel_rfl) (by kernel_rfl) (by kernel_rfl) (fun _ _ _ h => h) (Or.inl ⟨by rfl, ?ya13⟩) hS ?ra13
        case ya13 => (intro w0 _; go_simp; try with_reducible rfl)
        try simp only [yA, yB, yC, Act.put, yD, yE, yF]
        refine wpAnyH_done (by kernel_rfl) ?_ _
        refine NoPanic.normal ?_
        try simp only [Exit.then]
        go_wp2_with fail
        go_meet
        case rel => exact ⟨_, rfl, rfl, HF⟩
      case f10_a7 =>
        go_simp
        refine shut_gen hK (F := fun w' => As (Blk w' W.heap.size 43 #[.int .i64 r.kind, .int .i64 r.tid.n, .int .i64 r.tid.e, .int .i64 r.tid.s, .slice AI r.items.length cI, .slice AN r.nodes.length cN, .int .i64 r.node, .int .i64 r.count, .int .i64 r.num, .int .i64 r.cell, .int .i64 r.st, .int .i64 r.hop, .int .i64 r.ver, .int .i64 r.val, .bool r.yes] ∧ Blk w' wv1.heap.size 32 #[.int .i64 0, .int .i64 0, .int .i64 0, .int .i64 0, .slice none 0 0, .slice none 0 0, .slice none 0 0, .slice none 0 0])) (by repeat (first | with_reducible exact gr_refl _ _ | with_reducible exact hS | with_reducible refine gr_drew ?_ | with_reducible refine gr_alloc ?_ _)) (⟨HB.out.alloc _, Blk.new _ _ _⟩) (fun wv2 hS HF => ?_)
        clear hK K
        have HTL := As.mk (show W.heap.size ≤ wv1.heap.size from HSZ.out)
        replace HB := As.mk HF.out.1
        have HTB := As.mk HF.out.2
        try simp only [yA, yB, yC, Act.put, yD, yE, yF]
        refine wpAnyH_ready (rs := [6]) (by kernel_rfl) (by simp) (AllReadyH.cons (i := 6) rfl (fun K hK => ?_) AllReadyH.nil)
        go_simp
        have hS' := hS
        refine (Apply_c _ x.s _ _ _ _ (HXW.out.grown hS').read HSI.out _ [r] (Arr.re1 HB.out (HIW.out.itG hS') (HNW.out.inG hS'))).mono ?_
        rintro e0 w3 ⟨aP, aQ, aD, aC, qs2, cs2, rfl, hg1, hr1⟩
        obtain ⟨aP, ap, rfl⟩ := own_shape hr1.pl
        obtain ⟨aQ, aq, rfl⟩ := own_shape hr1.pr
        obtain ⟨aD, ad, rfl⟩ := own_shape hr1.de
        obtain ⟨aC, ac, rfl⟩ := own_shape hr1.cm
        have HH3 := As.mk (gr_then hS' hg1 (.inl rfl))
        have HR3 := As.mk (hr1.mono hS'.size)
        have HTG := As.mk hg1
        clear hg1 hr1 hS'
        generalize applyL x.s [r] = q at *
        obtain ⟨er, s2⟩ := q
        dsimp only at HR3 ⊢
        unfold stCells
        go_simp
        refine shut_gen hK (F := fun w' => As (Rows w' W.heap.size s2 (.slice aP s2.places.length ap) (.slice aQ qs2.length aq) (.slice aD s2.decided.length ad) (.slice aC cs2.length ac) qs2 cs2 ∧ Blk w' wv1.heap.size 32 #[.int .i64 0, .int .i64 0, .int .i64 0, .int .i64 0, .slice none 0 0, .slice none 0 0, .slice none 0 0, .slice none 0 0])) (HH3.out) (⟨HR3.out, HTB.out.grown HTG.out (by simp)⟩) (fun wv3 hS HF => ?_)
        clear hK K
        clear HR3 HH3 HTG HB HTB
        have HR := As.mk HF.out.1
        have HTB := As.mk HF.out.2
        clear HF
        try simp only [yA, yB, yC, Act.put, yD, yE, yF]
        refine wpAnyH_take (i := 7) (v := ?va15) rfl (by kernel_rfl) (by kernel_rfl) (by kernel_rfl) (fun _ _ _ h => h) (Or.inl ⟨by rfl, ?ya15⟩) hS ?ra15
        case ya15 => (intro w0 _; go_simp; try with_reducible rfl)
        try simp only [yA, yB, yC, Act.put, yD, yE, yF]
        refine wpAnyH_take (i := 8) (v := ?va16) rfl (by kernel_rfl) (by kernel_rfl) (by kernel_rfl) (fun _ _ _ h => h) (Or.inl ⟨by rfl, ?ya16⟩) hS ?ra16
        case ya16 => (intro w0 _; go_simp; try with_reducible rfl)
        try simp only [yA, yB, yC, Act.put, yD, yE, yF]
        refine wpAnyH_take (i := 9) (v := ?va17) rfl (by kernel_rfl) (by kernel_rfl) (by kernel_rfl) (fun _ _ _ h => h) (Or.inl ⟨by rfl, ?ya17⟩) hS ?ra17
        case ya17 => (intro w0 _; go_simp; try with_reducible rfl)
        try simp only [yA, yB, yC, Act.put, yD, yE, yF]
        refine wpAnyH_ready (rs := [11]) (by kernel_rfl) (by simp) (AllReadyH.cons (i := 11) rfl (fun K hK => ?_) AllReadyH.nil)
        obtain ⟨z0, z1, z2, z3, z4, z5, z6, z7⟩ := HTB.out.c8
        have fz0 := HTB.out.free 0
        have fz1 := HTB.out.free 1
        have fz2 := HTB.out.free 2
        have fz3 := HTB.out.free 3
        have fz4 := HTB.out.free 4
        have fz5 := HTB.out.free 5
        have fz6 := HTB.out.free 6
        have fz7 := HTB.out.free 7
        go_simp
        refine shut_gen hK (F := fun w' => As (DoMid W w' wv1.heap.size s2)) (gr_put8 hS (.inr HTL.out) (.int .i64 s2.node) (.int .i64 s2.nodes) (.int .i64 s2.cells) (.int .i64 s2.epoch) (.slice aP s2.places.length ap) (.slice aQ qs2.length aq) (.slice aD s2.decided.length ad) (.slice aC cs2.length ac)) (⟨aP, ap, aQ, aq, aD, ad, aC, ac, qs2, cs2, gr_put8 hS (.inr HTL.out) (.int .i64 s2.node) (.int .i64 s2.nodes) (.int .i64 s2.cells) (.int .i64 s2.epoch) (.slice aP s2.places.length ap) (.slice aQ qs2.length aq) (.slice aD s2.decided.length ad) (.slice aC cs2.length ac), HTB.out.put8 (.int .i64 s2.node) (.int .i64 s2.nodes) (.int .i64 s2.cells) (.int .i64 s2.epoch) (.slice aP s2.places.length ap) (.slice aQ qs2.length aq) (.slice aD s2.decided.length ad) (.slice aC cs2.length ac), HR.out.put8 HTB.out (.int .i64 s2.node) (.int .i64 s2.nodes) (.int .i64 s2.cells) (.int .i64 s2.epoch) (.slice aP s2.places.length ap) (.slice aQ qs2.length aq) (.slice aD s2.decided.length ad) (.slice aC cs2.length ac), HTL.out⟩) (fun wv4 hS HF => ?_)
        clear hK K
        clear z0 z1 z2 z3 z4 z5 z6 z7 fz0 fz1 fz2 fz3 fz4 fz5 fz6 fz7
        try simp only [yA, yB, yC, Act.put, yD, yE, yF]
        refine wpAnyH_take (i := 12) (v := ?va19) rfl (by kernel_rfl) (by kernel_rfl) (by kernel_rfl) (fun _ _ _ h => h) (Or.inl ⟨by rfl, ?ya19⟩) hS ?ra19
        case ya19 => (intro w0 _; go_simp; try with_reducible rfl)
        try simp only [yA, yB, yC, Act.put, yD, yE, yF]
        refine wpAnyH_done (by kernel_rfl) ?_ _
        refine NoPanic.normal ?_
        try simp only [Exit.then]
        go_wp2_with fail
        go_meet
        case rel => exact ⟨_, rfl, rfl, HF⟩
    case f10_a6 =>
      go_simp
      refine shut_gen hK (F := fun w' => As (Blk w' W.heap.size 32 #[.int .i64 0, .int .i64 0, .int .i64 0, .int .i64 0, .slice none 0 0, .slice none 0 0, .slice none 0 0, .slice none 0 0])) (by repeat (first | with_reducible exact gr_refl _ _ | with_reducible exact hS | with_reducible refine gr_drew ?_ | with_reducible refine gr_alloc ?_ _)) (⟨by first | with_reducible exact Blk.drew (Blk.new _ _ _) | exact Blk.drew (Blk.new _ _ _)⟩) (fun wv1 hS HTB => ?_)
      clear hK K
      have HTL := As.mk (Nat.le_refl W.heap.size)
      try simp only [yA, yB, yC, Act.put, yD, yE, yF]
      refine wpAnyH_ready (rs := [5]) (by kernel_rfl) (by simp) (AllReadyH.cons (i := 5) rfl (fun K hK => ?_) AllReadyH.nil)
      go_simp
      refine shut_gen hK (F := fun w' => As (Blk w' wv1.heap.size 43 #[.int .i64 r.kind, .int .i64 r.tid.n, .int .i64 r.tid.e, .int .i64 r.tid.s, .slice AI r.items.length cI, .slice AN r.nodes.length cN, .int .i64 r.node, .int .i64 r.count, .int .i64 r.num, .int .i64 r.cell, .int .i64 r.st, .int .i64 r.hop, .int .i64 r.ver, .int .i64 r.val, .bool r.yes] ∧ Blk w' W.heap.size 32 #[.int .i64 0, .int .i64 0, .int .i64 0, .int .i64 0, .slice none 0 0, .slice none 0 0, .slice none 0 0, .slice none 0 0])) (by repeat (first | with_reducible exact gr_refl _ _ | with_reducible exact hS | with_reducible refine gr_drew ?_ | with_reducible refine gr_alloc ?_ _)) (⟨Blk.new _ _ _, HTB.out.alloc _⟩) (fun wv2 hS HF => ?_)
      clear hK K
      have HB := As.mk HF.out.1
      replace HTB := As.mk HF.out.2
      try simp only [yA, yB, yC, Act.put, yD, yE, yF]
      refine wpAnyH_ready (rs := [6]) (by kernel_rfl) (by simp) (AllReadyH.cons (i := 6) rfl (fun K hK => ?_) AllReadyH.nil)
      go_simp
      have hS' := hS
      refine (Apply_c _ x.s _ _ _ _ (HXW.out.grown hS').read HSI.out _ [r] (Arr.re1 HB.out (HIW.out.itG hS') (HNW.out.inG hS'))).mono ?_
      rintro e0 w3 ⟨aP, aQ, aD, aC, qs2, cs2, rfl, hg1, hr1⟩
      obtain ⟨aP, ap, rfl⟩ := own_shape hr1.pl
      obtain ⟨aQ, aq, rfl⟩ := own_shape hr1.pr
      obtain ⟨aD, ad, rfl⟩ := own_shape hr1.de
      obtain ⟨aC, ac, rfl⟩ := own_shape hr1.cm
      have HH3 := As.mk (gr_then hS' hg1 (.inl rfl))
      have HR3 := As.mk (hr1.mono hS'.size)
      have HTG := As.mk hg1
      clear hg1 hr1 hS'
      generalize applyL x.s [r] = q at *
      obtain ⟨er, s2⟩ := q
      dsimp only at HR3 ⊢
      unfold stCells
      go_simp
      refine shut_gen hK (F := fun w' => As (Rows w' W.heap.size s2 (.slice aP s2.places.length ap) (.slice aQ qs2.length aq) (.slice aD s2.decided.length ad) (.slice aC cs2.length ac) qs2 cs2 ∧ Blk w' W.heap.size 32 #[.int .i64 0, .int .i64 0, .int .i64 0, .int .i64 0, .slice none 0 0, .slice none 0 0, .slice none 0 0, .slice none 0 0])) (HH3.out) (⟨HR3.out, HTB.out.grown HTG.out (by simp)⟩) (fun wv3 hS HF => ?_)
      clear hK K
      clear HR3 HH3 HTG HB HTB
      have HR := As.mk HF.out.1
      have HTB := As.mk HF.out.2
      clear HF
      try simp only [yA, yB, yC, Act.put, yD, yE, yF]
      refine wpAnyH_take (i := 7) (v := ?va22) rfl (by kernel_rfl) (by kernel_rfl) (by kernel_rfl) (fun _ _ _ h => h) (Or.inl ⟨by rfl, ?ya22⟩) hS ?ra22
      case ya22 => (intro w0 _; go_simp; try with_reducible rfl)
      try simp only [yA, yB, yC, Act.put, yD, yE, yF]
      refine wpAnyH_take (i := 8) (v := ?va23) rfl (by kernel_rfl) (by kernel_rfl) (by kernel_rfl) (fun _ _ _ h => h) (Or.inl ⟨by rfl, ?ya23⟩) hS ?ra23
      case ya23 => (intro w0 _; go_simp; try with_reducible rfl)
      try simp only [yA, yB, yC, Act.put, yD, yE, yF]
      refine wpAnyH_take (i := 9) (v := ?va24) rfl (by kernel_rfl) (by kernel_rfl) (by kernel_rfl) (fun _ _ _ h => h) (Or.inl ⟨by rfl, ?ya24⟩) hS ?ra24
      case ya24 => (intro w0 _; go_simp; try with_reducible rfl)
      try simp only [yA, yB, yC, Act.put, yD, yE, yF]
      refine wpAnyH_ready (rs := [11]) (by kernel_rfl) (by simp) (AllReadyH.cons (i := 11) rfl (fun K hK => ?_) AllReadyH.nil)
      obtain ⟨z0, z1, z2, z3, z4, z5, z6, z7⟩ := HTB.out.c8
      have fz0 := HTB.out.free 0
      have fz1 := HTB.out.free 1
      have fz2 := HTB.out.free 2
      have fz3 := HTB.out.free 3
      have fz4 := HTB.out.free 4
      have fz5 := HTB.out.free 5
      have fz6 := HTB.out.free 6
      have fz7 := HTB.out.free 7
      go_simp
      refine shut_gen hK (F := fun w' => As (DoMid W w' W.heap.size s2)) (gr_put8 hS (.inr HTL.out) (.int .i64 s2.node) (.int .i64 s2.nodes) (.int .i64 s2.cells) (.int .i64 s2.epoch) (.slice aP s2.places.length ap) (.slice aQ qs2.length aq) (.slice aD s2.decided.length ad) (.slice aC cs2.length ac)) (⟨aP, ap, aQ, aq, aD, ad, aC, ac, qs2, cs2, gr_put8 hS (.inr HTL.out) (.int .i64 s2.node) (.int .i64 s2.nodes) (.int .i64 s2.cells) (.int .i64 s2.epoch) (.slice aP s2.places.length ap) (.slice aQ qs2.length aq) (.slice aD s2.decided.length ad) (.slice aC cs2.length ac), HTB.out.put8 (.int .i64 s2.node) (.int .i64 s2.nodes) (.int .i64 s2.cells) (.int .i64 s2.epoch) (.slice aP s2.places.length ap) (.slice aQ qs2.length aq) (.slice aD s2.decided.length ad) (.slice aC cs2.length ac), HR.out.put8 HTB.out (.int .i64 s2.node) (.int .i64 s2.nodes) (.int .i64 s2.cells) (.int .i64 s2.epoch) (.slice aP s2.places.length ap) (.slice aQ qs2.length aq) (.slice aD s2.decided.length ad) (.slice aC cs2.length ac), HTL.out⟩) (fun wv4 hS HF => ?_)
      clear hK K
      clear z0 z1 z2 z3 z4 z5 z6 z7 fz0 fz1 fz2 fz3 fz4 fz5 fz6 fz7
      try simp only [yA, yB, yC, Act.put, yD, yE, yF]
      refine wpAnyH_take (i := 12) (v := ?va26) rfl (by kernel_rfl) (by kernel_rfl) (by kernel_rfl) (fun _ _ _ h => h) (Or.inl ⟨by rfl, ?ya26⟩) hS ?ra26
      case ya26 => (intro w0 _; go_simp; try with_reducible rfl)
      try simp only [yA, yB, yC, Act.put, yD, yE, yF]
      refine wpAnyH_done (by kernel_rfl) ?_ _
      refine NoPanic.normal ?_
      try simp only [Exit.then]
      go_wp2_with fail
      go_meet
      case rel => exact ⟨_, rfl, rfl, HF⟩
  case rest =>
    obtain ⟨tb, rfl, rfl, HM⟩ := hcut
    obtain ⟨er, s2, hq⟩ : ∃ er s2, applyL x.s [r] = (er, s2) := ⟨_, _, rfl⟩
    have HQ := As.mk hq
    rw [hq] at HM
    rw [hq]
    obtain ⟨aP, ap, aQ, aq, aD, ad, aC, ac, qs2, cs2, hg, hb, hr, htl⟩ := HM.out
    have HG3 := As.mk (gr_then HG.out hg (.inl rfl))
    have HB3 := As.mk hb
    have HR3 := As.mk hr
    have HL3 := As.mk (HLR.out.grown HG3.out)
    have HLB3 := As.mk (HLB.out.grown HG3.out (by simp))
    have HGW := As.mk hg
    clear hq HM hg hb hr htl
    dsimp only
    by_cases h0 : er = 0
    · subst h0
      have HF3 := As.mk (show ∀ j, wc.frozen? ⟨g, j, none⟩ = false from by
        obtain ⟨qs', ho', _, _⟩ := HL3.out
        exact fun j => own_freeAt ho' j)
      have hcap1 := hle.1
      have hcap2 := hle.2
      have q0 := HLB3.out.c1
      obtain ⟨z0, z1, z2, z3, z4, z5, z6, z7⟩ := (HB3.out).c8
      obtain ⟨p0, p1, p2, p3, p4, p5, p6, p7⟩ := HPW.out
      replace p0 := HGW.out.cell p0 (by simp)
      replace p1 := HGW.out.cell p1 (by simp)
      replace p2 := HGW.out.cell p2 (by simp)
      replace p3 := HGW.out.cell p3 (by simp)
      replace p4 := HGW.out.cell p4 (by simp)
      replace p5 := HGW.out.cell p5 (by simp)
      replace p6 := HGW.out.cell p6 (by simp)
      replace p7 := HGW.out.cell p7 (by simp)
      have HPU := As.mk (HL3.out.put i hil s2 (HR3.out.mono HBW.out) (fun a ha => by
        subst ha
        exact HNN.out _ (own_lo HR3.out.pl _ rfl)))
      have HNE := As.mk (show some lb ≠ some g from by
        obtain ⟨qs', ho', _, _⟩ := HL3.out
        obtain ⟨u, hu⟩ := own_blk ho'
        intro e
        injection e with e
        exact Blk.ne HLB3.out hu (by decide) e)
      have fz0 := HF3.out (i * 8)
      have fz1 := HF3.out (i * 8 + 1)
      have fz2 := HF3.out (i * 8 + 2)
      have fz3 := HF3.out (i * 8 + 3)
      have fz4 := HF3.out (i * 8 + 4)
      have fz5 := HF3.out (i * 8 + 5)
      have fz6 := HF3.out (i * 8 + 6)
      have fz7 := HF3.out (i * 8 + 7)
      go_wp2_with fail
      go_ret
      exact ⟨by rw [HQ.out]; rfl, gr_then (gr_then (gr_refl w (some g)) HG3.out (.inr (.inl rfl))) HPU.out.2 (.inl rfl), by rw [show stepS x.s r = s2 from by unfold stepS; rw [HQ.out]; rfl]; exact HPU.out.1, HLB3.out.grown HPU.out.2 HNE.out⟩
    · have h1 : (er == 0) = false := by simpa using h0
      go_wp2_with fail
      go_ret
      exact ⟨by rw [HQ.out, h1]; rfl, gr_then (gr_refl w (some g)) HG3.out (.inr (.inl rfl)), by rw [show stepS x.s r = x.s from by unfold stepS; rw [HQ.out, if_neg h0], set_same HII.out]; exact HL3.out, HLB3.out⟩
end Go.Proofs.Ytdmkijdbldcdiaa
