/- The walks of base and apply. (Printed by wip/gen/gen_ma.py.) -/
import Derived.Test.YtdmkijdbldcdiaaLz
import Derived.Laws.MakeOwn
namespace Go.Proofs.Ytdmkijdbldcdiaa
open Go.RowKit
set_option linter.unusedVariables false
set_option linter.unusedSimpArgs false
set_option maxRecDepth 100000

def zPl : PPl := ⟨0, 0, 0, 0, 0⟩
theorem plCells_rep (n : Nat) : (List.replicate n zPl).flatMap plCells = List.replicate (n * 5) (.int .i64 0) := by
  induction n with
  | zero => rfl
  | succ n ih => rw [List.replicate_succ, List.flatMap_cons, ih, show (n + 1) * 5 = n * 5 + 1 + 1 + 1 + 1 + 1 by omega]; simp only [List.replicate_succ]; rfl
theorem made_pl (n : Nat) : madeCells (Value.agg #[.int .i64 0, .int .i64 0, .int .i64 0, .int .i64 0, .int .i64 0]).cells (n * 5) = ((List.replicate n zPl).flatMap plCells).toArray := by
  rw [plCells_rep]
  apply Array.ext
  · rw [size_madeCells]; simp
  · intro i h1 h2
    simp only [madeCells, Array.getElem_map, Array.getElem_range, List.getElem_toArray, List.getElem_replicate]
    show ((#[.int .i64 0, .int .i64 0, .int .i64 0, .int .i64 0, .int .i64 0] : Array Value)[i % 5]!) = _
    have : i % 5 = 0 ∨ i % 5 = 1 ∨ i % 5 = 2 ∨ i % 5 = 3 ∨ i % 5 = 4 := by omega
    rcases this with h | h | h | h | h <;> rw [h] <;> rfl
theorem make_pl (w : World) (n : Nat) (hn : n ≤ 16) : (Instr.makeSlice 27 (.int .i64 (n : Int)) (.int .i64 (n : Int))).run Try.prog w = .ok (.slice (some ⟨w.heap.size, 0, none⟩) n n) (w.alloc (.cells ((List.replicate n zPl).flatMap plCells).toArray 62)) := by
  obtain ⟨i, hi, h1, h2, h3⟩ := info_parts infoPl
  have := run_make (P := Try.prog) w 27 62 i _ Try.underlying27 hi h1 .i64 .i64 (n : Int) (n : Int) (by omega) (Int.le_refl _) (by rw [h3]; omega) (by omega)
  rw [h2, Int.toNat_natCast, made_pl] at this
  exact this
def baseS (node nodes cells : Int) : PSt := ⟨node, nodes, cells, 0, List.replicate cells.toNat zPl, [], [], []⟩
set_option maxHeartbeats 1600000 in
theorem base_c (w : World) (a b : Int) (n : Nat) (hn : n ≤ 16) :
    Calls Try.prog 29 #[.int .i64 a, .int .i64 b, .int .i64 (n : Int)] w fun e w' => ∃ g, e = .returned (.agg (stCells (baseS a b n) (.slice (some ⟨g, 0, none⟩) n n) (.slice none 0 0) (.slice none 0 0) (.slice none 0 0))) ∧ w.heap.size ≤ g ∧ Blk w' g 62 ((List.replicate n zPl).flatMap plCells).toArray ∧ w.grownBy w' none := by
  have hmk := fun W => make_pl W n hn
  go_enter Try.func29, Try.ntmps29
  go_wp2_with fail
  exact bodyPost_ret (results_cell_row (P := Try.prog) rfl _ _ w.heap.size 32 _ (0, 0) _ rfl (Blk.alloc (Blk.new w _ _) _) Try.underlying32 rfl (by kernel_rfl)) rfl ⟨w.heap.size + 1, rfl, by omega, Blk.new_at _ _ _ (by simp), gr_alloc (gr_alloc (gr_refl w none) _) _⟩
def applyE (s : PSt) (r : PRec) : Int × PSt :=
  if (r.kind == 1) = true then (0, baseS r.node r.count r.num) else if (r.kind == 2) = true then (if r.num ≤ s.epoch then (10, s) else (0, { s with epoch := r.num }))
  else if (r.kind == 3) = true then (if cellB s r.cell = false then (1, s) else if s.nodes < r.node then (1, s) else if lockedB s r.cell = true then (12, s) else (0, setAt s r.cell ⟨r.st, r.hop, r.node, r.ver, r.val⟩))
  else if (r.kind == 4) = true then prepE s r else if (r.kind == 5) = true then commitE s r else if (r.kind == 6) = true then doneE s r else if (r.kind == 7) = true then endE s r else if (r.kind == 8) = true then outE s r
  else if (r.kind == 9) = true then inE s r else if (r.kind == 10) = true then goneE s r else if (r.kind == 11) = true then pastE s r else (0, s)
theorem own_ofBlk {w : World} {g n : Nat} {t : TypeId} {sz : Nat} {xs : List Value} (h : Blk w g t xs.toArray) (hx : xs.length = n * sz) (base : Nat) (hb : base ≤ g) (hn : n ≤ 1000) : w.ownsRow base t sz (.slice (some ⟨g, 0, none⟩) n n) n xs :=
  own_of_whole (rest := []) (by simpa using h) hx (by simpa using hx) hb (Nat.le_refl _) (by simp only [maxLen]; omega)
theorem own_nilRow (w : World) (base : Nat) (t : TypeId) (sz : Nat) : w.ownsRow base t sz (.slice none 0 0) 0 [] := ⟨by simp, .inl ⟨rfl, rfl⟩⟩
theorem OwnSt.setE {w : World} {B sb : Nat} {s : PSt} {vP vQ vD vC : Value} {qs : List QPr} {cs : List QCm} (h : OwnSt w B sb s vP vQ vD vC qs cs) (v : Int) : OwnSt (w.setCell ⟨sb, 3, none⟩ (.int .i64 v)) B sb { s with epoch := v } vP vQ vD vC qs cs := by
  have hs : w.grownBy (w.setCell ⟨sb, 3, none⟩ (.int .i64 v)) (some sb) := gr_set (gr_refl w (some sb)) (a := ⟨sb, 3, none⟩) (.inl rfl) _
  have hn : ∀ g, some sb = some g → ∀ cs, ¬ Blk w g 66 cs ∧ ¬ Blk w g 3 cs := fun g e cs => by
    injection e with e
    subst e
    exact ⟨fun q => Blk.ne h.blk q (by decide) rfl, fun q => Blk.ne h.blk q (by decide) rfl⟩
  refine ⟨?_, h.lo, own_far h.pl (own_ne h.blk h.pl (by decide)) _, own_far h.pr (own_ne h.blk h.pr (by decide)) _, own_far h.de (own_ne h.blk h.de (by decide)) _, own_far h.cm (own_ne h.blk h.cm (by decide)) _, h.qp, h.cp, fun q hq => nest_step (h.qi q hq) hs hn, fun q hq => nest_step (h.ci q hq) hs hn⟩
  have := h.blk.set 3 (.int .i64 v)
  simpa [stCells] using this
def put8 (w : World) (sb : Nat) (v0 v1 v2 v3 v4 v5 v6 v7 : Value) : World := (((((((w.setCell ⟨sb, 0, none⟩ v0).setCell ⟨sb, 1, none⟩ v1).setCell ⟨sb, 2, none⟩ v2).setCell ⟨sb, 3, none⟩ v3).setCell ⟨sb, 4, none⟩ v4).setCell ⟨sb, 5, none⟩ v5).setCell ⟨sb, 6, none⟩ v6).setCell ⟨sb, 7, none⟩ v7
theorem Blk.put8 {w : World} {sb : Nat} {t : TypeId} {u0 u1 u2 u3 u4 u5 u6 u7 : Value} (h : Blk w sb t #[u0, u1, u2, u3, u4, u5, u6, u7]) (v0 v1 v2 v3 v4 v5 v6 v7 : Value) : Blk (put8 w sb v0 v1 v2 v3 v4 v5 v6 v7) sb t #[v0, v1, v2, v3, v4, v5, v6, v7] := by
  have := (((((((h.set 0 v0).set 1 v1).set 2 v2).set 3 v3).set 4 v4).set 5 v5).set 6 v6).set 7 v7
  simpa [Go.Proofs.Ytdmkijdbldcdiaa.put8] using this
theorem gr_put8 {w w' : World} {row : Option Nat} (h : w.grownBy w' row) {sb : Nat} (hs : row = some sb ∨ w.heap.size ≤ sb) (v0 v1 v2 v3 v4 v5 v6 v7 : Value) : w.grownBy (put8 w' sb v0 v1 v2 v3 v4 v5 v6 v7) row :=
  gr_set (gr_set (gr_set (gr_set (gr_set (gr_set (gr_set (gr_set h (a := ⟨sb, 0, none⟩) hs v0) (a := ⟨sb, 1, none⟩) hs v1) (a := ⟨sb, 2, none⟩) hs v2) (a := ⟨sb, 3, none⟩) hs v3) (a := ⟨sb, 4, none⟩) hs v4) (a := ⟨sb, 5, none⟩) hs v5) (a := ⟨sb, 6, none⟩) hs v6) (a := ⟨sb, 7, none⟩) hs v7
theorem Keeps.put8 {w : World} {sb : Nat} (v0 v1 v2 v3 v4 v5 v6 v7 : Value) : Keeps sb w (put8 w sb v0 v1 v2 v3 v4 v5 v6 v7) := fun b t cs hb _ hn => hb.grown (gr_put8 (gr_refl w (some sb)) (.inl rfl) v0 v1 v2 v3 v4 v5 v6 v7) (fun e => hn (by injection e))
theorem base_st {w : World} {B sb : Nat} {u0 u1 u2 u3 u4 u5 u6 u7 : Value} (h : Blk w sb 32 #[u0, u1, u2, u3, u4, u5, u6, u7]) (hlo : B ≤ sb) {g n : Nat} (hp : Blk w g 62 ((List.replicate n zPl).flatMap plCells).toArray) (hn : n ≤ 16) (hg : B ≤ g) (a b : Int) :
    OwnSt (put8 w sb (.int .i64 a) (.int .i64 b) (.int .i64 (n : Int)) (.int .i64 0) (.slice (some ⟨g, 0, none⟩) n n) (.slice none 0 0) (.slice none 0 0) (.slice none 0 0)) B sb (baseS a b n) (.slice (some ⟨g, 0, none⟩) n n) (.slice none 0 0) (.slice none 0 0) (.slice none 0 0) [] [] := by
  have hne : g ≠ sb := Blk.ne hp h (by decide)
  have hp' := hp.grown (gr_put8 (gr_refl w (some sb)) (.inl rfl) (.int .i64 a) (.int .i64 b) (.int .i64 (n : Int)) (.int .i64 0) (.slice (some ⟨g, 0, none⟩) n n) (.slice none 0 0) (.slice none 0 0) (.slice none 0 0)) (fun e => hne (by injection e))
  refine ⟨h.put8 _ _ _ _ _ _ _ _, hlo, ?_, own_nilRow _ _ _ _, own_nilRow _ _ _ _, own_nilRow _ _ _ _, rfl, rfl, fun q hq => (by cases hq), fun q hq => (by cases hq)⟩
  have := own_ofBlk (n := n) (sz := 5) hp' (by rw [flat_len plCells 5 (fun _ => rfl), List.length_replicate]) B hg (by omega)
  simpa [baseS] using this
set_option maxHeartbeats 6400000 in
theorem applyS_c (w0 w : World) (sb : Nat) (s : PSt) (hg : w0.grownBy w none) (hs : StO w w0.heap.size sb s) (hn : s.prepared.length + s.decided.length ≤ 1000) (hn2 : s.commits.length ≤ 1000000) (hC : ∀ p ∈ s.prepared, ∀ x ∈ p.items, 0 ≤ x.c ∧ x.c < s.places.length) (r : PRec) (AI : Option Addr) (cI : Nat) (AN : Option Addr) (cN : Nat) (hB : (r.kind == 1) = true → 0 ≤ r.num ∧ r.num ≤ 16) (hI : Arr ItE 5 w0 (.slice AI r.items.length cI) r.items) (hIn : Arr IE 1 w0 (.slice AN r.nodes.length cN) r.nodes) (hl1 : r.items.length ≤ 1000000) (hl2 : r.nodes.length ≤ 1000000) :
    Calls Try.prog 26 #[.pointer (some ⟨sb, 0, none⟩), .agg (reCells r AI cI AN cN)] w (MutPost w0 w sb (.int .i64 (applyE s r).1) (applyE s r).2) := by
  have HGA := gr_alloc (gr_refl w none) (.cells (reCells r AI cI AN cN) 43)
  have HG := As.mk (gr_then hg HGA (.inl rfl))
  have HO := As.mk (hs.grown HGA)
  have HK := As.mk (Keeps.none (sb := sb) HGA)
  have HT := As.mk (Blk.new w 43 (reCells r AI cI AN cN))
  have HN := As.mk (And.intro hn hn2)
  have HC := As.mk hC
  have HBA := As.mk hB
  have HI := As.mk hI
  have HIN := As.mk hIn
  have HLE := As.mk (And.intro hl1 hl2)
  clear hn hn2 hC hB hI hIn hl1 hl2
  have hd := hs.grown HGA
  clear hs hg HGA
  unfold reCells at *
  go_enter Try.func26, Try.ntmps26
  by_cases hx1 : (r.kind == 1) = true
  · have hk1 := hx1
    obtain ⟨n, hnum⟩ : ∃ n : Nat, r.num = (n : Int) := ⟨r.num.toNat, by have := (HBA.out hx1).1; omega⟩
    have hn16 : n ≤ 16 := by have := (HBA.out hx1).2; omega
    have HE := As.mk (show applyE s r = (0, baseS r.node r.count r.num) by unfold applyE; rw [if_pos hx1])
    rw [hnum] at HE
    have HX := As.mk (show Blk _ w.heap.size _ _ from HT.out)
    rw [hnum] at HT HG HO HK hd ⊢
    go_wp2_with fail
    generalize w.alloc (.cells #[.int .i64 r.kind, .int .i64 r.tid.n, .int .i64 r.tid.e, .int .i64 r.tid.s, .slice AI r.items.length cI, .slice AN r.nodes.length cN, .int .i64 r.node, .int .i64 r.count, .int .i64 (n : Int), .int .i64 r.cell, .int .i64 r.st, .int .i64 r.hop, .int .i64 r.ver, .int .i64 r.val, .bool r.yes] 43) = W at *
    generalize w.heap.size = gt at *
    obtain ⟨vP, vQ, vD, vC, hB, h⟩ := hd.toP
    obtain ⟨A1, c1, rfl⟩ := h.pl.len
    obtain ⟨A2, c2, rfl⟩ := h.pr.len
    obtain ⟨A3, c3, rfl⟩ := h.de.len
    obtain ⟨A4, c4, rfl⟩ := h.cm.len
    have HB := As.mk hB
    have HR := As.mk h
    unfold stCells at HB
    clear hd hB h
    refine (base_c _ r.node r.count n hn16).mono ?_
    rintro e0 w2 ⟨g, rfl, hgg, hbg, hg1⟩
    have hlo : w0.heap.size ≤ sb := by obtain ⟨_, _, _, _, _, _, hO⟩ := HO.out; exact hO.lo
    have HB2 := As.mk (HB.out.grown hg1 (by simp))
    have HO5 := As.mk (base_st HB2.out hlo hbg hn16 (Nat.le_trans HG.out.size hgg) r.node r.count)
    have HG5 := As.mk (gr_put8 (gr_then HG.out hg1 (.inl rfl)) (.inr hlo) (.int .i64 r.node) (.int .i64 r.count) (.int .i64 (n : Int)) (.int .i64 0) (.slice (some ⟨g, 0, none⟩) n n) (.slice none 0 0) (.slice none 0 0) (.slice none 0 0))
    have HK5 := As.mk ((HK.out.trans (.none hg1)).trans (.put8 (.int .i64 r.node) (.int .i64 r.count) (.int .i64 (n : Int)) (.int .i64 0) (.slice (some ⟨g, 0, none⟩) n n) (.slice none 0 0) (.slice none 0 0) (.slice none 0 0)))
    unfold put8 at HO5 HG5 HK5
    clear hgg hbg hg1 hlo
    have q0 := HB2.out.cell 0
    have f0 := HB2.out.free 0
    have q1 := HB2.out.cell 1
    have f1 := HB2.out.free 1
    have q2 := HB2.out.cell 2
    have f2 := HB2.out.free 2
    have q3 := HB2.out.cell 3
    have f3 := HB2.out.free 3
    have q4 := HB2.out.cell 4
    have f4 := HB2.out.free 4
    have q5 := HB2.out.cell 5
    have f5 := HB2.out.free 5
    have q6 := HB2.out.cell 6
    have f6 := HB2.out.free 6
    have q7 := HB2.out.cell 7
    have f7 := HB2.out.free 7
    simp only [List.getElem?_toArray, List.getElem?_cons_zero, List.getElem?_cons_succ] at q0 q1 q2 q3 q4 q5 q6 q7
    clear HB2
    unfold stCells baseS
    go_wp2_with fail
    go_ret
    exact MutPost.of HE.out HG5.out HK5.out ⟨_, _, _, _, _, _, HO5.out⟩
  · by_cases hx2 : (r.kind == 2) = true
    · have hk1 : (r.kind == 1) = false := by simpa using hx1
      have hk2 := hx2
      have HE0 := As.mk (show applyE s r = if r.num ≤ s.epoch then (10, s) else (0, { s with epoch := r.num }) by unfold applyE; rw [if_neg hx1]; rw [if_pos hx2])
      go_wp2_with fail
      generalize w.alloc (.cells #[.int .i64 r.kind, .int .i64 r.tid.n, .int .i64 r.tid.e, .int .i64 r.tid.s, .slice AI r.items.length cI, .slice AN r.nodes.length cN, .int .i64 r.node, .int .i64 r.count, .int .i64 r.num, .int .i64 r.cell, .int .i64 r.st, .int .i64 r.hop, .int .i64 r.ver, .int .i64 r.val, .bool r.yes] 43) = W at *
      generalize w.heap.size = gt at *
      obtain ⟨vP, vQ, vD, vC, hB, h⟩ := hd.toP
      obtain ⟨A1, c1, rfl⟩ := h.pl.len
      obtain ⟨A2, c2, rfl⟩ := h.pr.len
      obtain ⟨A3, c3, rfl⟩ := h.de.len
      obtain ⟨A4, c4, rfl⟩ := h.cm.len
      have HB := As.mk hB
      have HR := As.mk h
      unfold stCells at HB
      clear hd hB h
      refine wp_region_noPanic ?_
      refine wp_region_held_drew (S := fun w' => Blk w' sb 32 #[.int .i64 s.node, .int .i64 s.nodes, .int .i64 s.cells, .int .i64 s.epoch, .slice A1 s.places.length c1, .slice A2 s.prepared.length c2, .slice A3 s.decided.length c3, .slice A4 s.commits.length c4] ∧ Blk w' gt 43 #[.int .i64 r.kind, .int .i64 r.tid.n, .int .i64 r.tid.e, .int .i64 r.tid.s, .slice AI r.items.length cI, .slice AN r.nodes.length cN, .int .i64 r.node, .int .i64 r.count, .int .i64 r.num, .int .i64 r.cell, .int .i64 r.st, .int .i64 r.hop, .int .i64 r.ver, .int .i64 r.val, .bool r.yes]) (by kernel_rfl) (⟨HB.out.drew, HT.out.drew⟩) (fun hS => ?_)
      refine wpAnyH_take (i := 0) (v := ?ve1) rfl (by kernel_rfl) (by kernel_rfl) (by kernel_rfl) (fun _ _ _ h => h) (Or.inl ⟨by rfl, ?ye1⟩) hS ?re1
      case ye1 => (intro w0 _; go_simp; try with_reducible rfl)
      try simp only [yA, yB, yC, Act.put, yD, yE, yF]
      refine wpAnyH_take (i := 1) (v := ?ve2) rfl (by kernel_rfl) (by kernel_rfl) (by kernel_rfl) (fun _ _ _ h => h) (Or.inl ⟨by rfl, ?ye2⟩) hS ?re2
      case ye2 => (intro w0 hS0; (try simp only [] at hS0); obtain ⟨hS0_0, hS0_1⟩ := hS0; obtain ⟨q0_0, q0_1, q0_2, q0_3, q0_4, q0_5, q0_6, q0_7⟩ := hS0_0.c8; obtain ⟨q1_0, q1_1, q1_2, q1_3, q1_4, q1_5, q1_6, q1_7, q1_8, q1_9, q1_10, q1_11, q1_12, q1_13, q1_14⟩ := hS0_1.c15; go_simp; try with_reducible rfl)
      try simp only [yA, yB, yC, Act.put, yD, yE, yF]
      refine wpAnyH_take (i := 2) (v := ?ve3) rfl (by kernel_rfl) (by kernel_rfl) (by kernel_rfl) (fun _ _ _ h => h) (Or.inl ⟨by rfl, ?ye3⟩) hS ?re3
      case ye3 => (intro w0 _; go_simp; try with_reducible rfl)
      try simp only [yA, yB, yC, Act.put, yD, yE, yF]
      refine wpAnyH_take (i := 3) (v := ?ve4) rfl (by kernel_rfl) (by kernel_rfl) (by kernel_rfl) (fun _ _ _ h => h) (Or.inl ⟨by rfl, ?ye4⟩) hS ?re4
      case ye4 => (intro w0 _; go_simp; try with_reducible rfl)
      try simp only [yA, yB, yC, Act.put, yD, yE, yF]
      refine wpAnyH_take (i := 4) (v := ?ve5) rfl (by kernel_rfl) (by kernel_rfl) (by kernel_rfl) (fun _ _ _ h => h) (Or.inl ⟨by rfl, ?ye5⟩) hS ?re5
      case ye5 => (intro w0 _; go_simp; try with_reducible rfl)
      try simp only [yA, yB, yC, Act.put, yD, yE, yF]
      refine wpAnyH_take (i := 5) (v := ?ve6) rfl (by kernel_rfl) (by kernel_rfl) (by kernel_rfl) (fun _ _ _ h => h) (Or.inl ⟨by rfl, ?ye6⟩) hS ?re6
      case ye6 => (intro w0 hS0; (try simp only [] at hS0); obtain ⟨hS0_0, hS0_1⟩ := hS0; obtain ⟨q0_0, q0_1, q0_2, q0_3, q0_4, q0_5, q0_6, q0_7⟩ := hS0_0.c8; obtain ⟨q1_0, q1_1, q1_2, q1_3, q1_4, q1_5, q1_6, q1_7, q1_8, q1_9, q1_10, q1_11, q1_12, q1_13, q1_14⟩ := hS0_1.c15; go_simp; try with_reducible rfl)
      try simp only [yA, yB, yC, Act.put, yD, yE, yF]
      refine wpAnyH_take (i := 6) (v := ?ve7) rfl (by kernel_rfl) (by kernel_rfl) (by kernel_rfl) (fun _ _ _ h => h) (Or.inl ⟨by rfl, ?ye7⟩) hS ?re7
      case ye7 => (intro w0 _; go_simp; try with_reducible rfl)
      try simp only [yA, yB, yC, Act.put, yD, yE, yF]
      refine wpAnyH_done (by kernel_rfl) ?_ _
      refine NoPanic.normal ?_
      try simp only [Exit.then]
      clear hS
      replace HB := As.mk HB.out.drew
      replace HT := As.mk HT.out.drew
      replace HO := As.mk HO.out.drew
      replace HR := As.mk (HR.out.grown (gr_drew (gr_refl _ none)))
      replace HG := As.mk (gr_drew HG.out)
      replace HK := As.mk (HK.out.trans (.none (gr_drew (gr_refl _ none))))
      by_cases hq : r.num ≤ s.epoch
      · have HE := As.mk (HE0.out.trans (if_pos hq))
        go_wp2_with fail
        go_ret
        exact MutPost.of HE.out HG.out HK.out HO.out
      · have HE := As.mk (HE0.out.trans (if_neg hq))
        obtain ⟨vP, vQ, vD, vC, qs, cs, hO⟩ := HO.out
        have HO5 := As.mk (hO.setE r.num)
        have hlo : w0.heap.size ≤ sb := hO.lo
        have HG5 := As.mk (gr_set HG.out (a := ⟨sb, 3, none⟩) (.inr hlo) (.int .i64 r.num))
        have HK5 := As.mk (HK.out.trans (.set hO.blk trivial 3 (.int .i64 r.num)))
        clear hO hlo
        have q3 := HB.out.cell 3
        have f3 := HB.out.free 3
        simp only [List.getElem?_toArray, List.getElem?_cons_zero, List.getElem?_cons_succ] at q3
        obtain ⟨t0, t1, t2, t3, t4, t5, t6, t7, t8, t9, t10, t11, t12, t13, t14⟩ := (HT.out).c15
        go_wp2_with fail
        go_ret
        exact MutPost.of HE.out HG5.out HK5.out ⟨_, _, _, _, _, _, HO5.out⟩
    · by_cases hx3 : (r.kind == 3) = true
      · have hk1 : (r.kind == 1) = false := by simpa using hx1
        have hk2 : (r.kind == 2) = false := by simpa using hx2
        have hk3 := hx3
        have HE0 := As.mk (show applyE s r = if cellB s r.cell = false then (1, s) else if s.nodes < r.node then (1, s) else if lockedB s r.cell = true then (12, s) else (0, setAt s r.cell ⟨r.st, r.hop, r.node, r.ver, r.val⟩) by unfold applyE; rw [if_neg hx1]; rw [if_neg hx2]; rw [if_pos hx3])
        go_wp2_with fail
        generalize w.alloc (.cells #[.int .i64 r.kind, .int .i64 r.tid.n, .int .i64 r.tid.e, .int .i64 r.tid.s, .slice AI r.items.length cI, .slice AN r.nodes.length cN, .int .i64 r.node, .int .i64 r.count, .int .i64 r.num, .int .i64 r.cell, .int .i64 r.st, .int .i64 r.hop, .int .i64 r.ver, .int .i64 r.val, .bool r.yes] 43) = W at *
        generalize w.heap.size = gt at *
        obtain ⟨vP, vQ, vD, vC, hB, h⟩ := hd.toP
        obtain ⟨A1, c1, rfl⟩ := h.pl.len
        obtain ⟨A2, c2, rfl⟩ := h.pr.len
        obtain ⟨A3, c3, rfl⟩ := h.de.len
        obtain ⟨A4, c4, rfl⟩ := h.cm.len
        have HB := As.mk hB
        have HR := As.mk h
        unfold stCells at HB
        clear hd hB h
        cases hk : cellB s r.cell
        · have HE := As.mk (HE0.out.trans (if_pos hk))
          refine wp_region_noPanic ?_
          refine wp_region_held_drew (S := fun w' => Blk w' sb 32 #[.int .i64 s.node, .int .i64 s.nodes, .int .i64 s.cells, .int .i64 s.epoch, .slice A1 s.places.length c1, .slice A2 s.prepared.length c2, .slice A3 s.decided.length c3, .slice A4 s.commits.length c4] ∧ Blk w' gt 43 #[.int .i64 r.kind, .int .i64 r.tid.n, .int .i64 r.tid.e, .int .i64 r.tid.s, .slice AI r.items.length cI, .slice AN r.nodes.length cN, .int .i64 r.node, .int .i64 r.count, .int .i64 r.num, .int .i64 r.cell, .int .i64 r.st, .int .i64 r.hop, .int .i64 r.ver, .int .i64 r.val, .bool r.yes]) (by kernel_rfl) (⟨HB.out.drew, HT.out.drew⟩) (fun hS => ?_)
          refine wpAnyH_take (i := 0) (v := ?vf1) rfl (by kernel_rfl) (by kernel_rfl) (by kernel_rfl) (fun _ _ _ h => h) (Or.inl ⟨by rfl, ?yf1⟩) hS ?rf1
          case yf1 => (intro w0 _; go_simp; try with_reducible rfl)
          try simp only [yA, yB, yC, Act.put, yD, yE, yF]
          refine wpAnyH_take (i := 1) (v := ?vf2) rfl (by kernel_rfl) (by kernel_rfl) (by kernel_rfl) (fun _ _ _ h => h) (Or.inl ⟨by rfl, ?yf2⟩) hS ?rf2
          case yf2 => (intro w0 _; go_simp; try with_reducible rfl)
          try simp only [yA, yB, yC, Act.put, yD, yE, yF]
          refine wpAnyH_take (i := 2) (v := ?vf3) rfl (by kernel_rfl) (by kernel_rfl) (by kernel_rfl) (fun _ _ _ h => h) (Or.inl ⟨by rfl, ?yf3⟩) hS ?rf3
          case yf3 => (intro w0 hS0; (try simp only [] at hS0); obtain ⟨hS0_0, hS0_1⟩ := hS0; obtain ⟨q0_0, q0_1, q0_2, q0_3, q0_4, q0_5, q0_6, q0_7⟩ := hS0_0.c8; obtain ⟨q1_0, q1_1, q1_2, q1_3, q1_4, q1_5, q1_6, q1_7, q1_8, q1_9, q1_10, q1_11, q1_12, q1_13, q1_14⟩ := hS0_1.c15; go_simp; try with_reducible rfl)
          try simp only [yA, yB, yC, Act.put, yD, yE, yF]
          refine wpAnyH_take (i := 3) (v := ?vf4) rfl (by kernel_rfl) (by kernel_rfl) (by kernel_rfl) (fun _ _ _ h => h) (Or.inl ⟨by rfl, ?yf4⟩) hS ?rf4
          case yf4 => (intro w0 _; go_simp; try with_reducible rfl)
          try simp only [yA, yB, yC, Act.put, yD, yE, yF]
          refine wpAnyH_take (i := 4) (v := ?vf5) rfl (by kernel_rfl) (by kernel_rfl) (by kernel_rfl) (fun _ _ _ h => h) (Or.inl ⟨by rfl, ?yf5⟩) hS ?rf5
          case yf5 => (intro w0 hS0; (try simp only [] at hS0); obtain ⟨hS0_0, hS0_1⟩ := hS0; obtain ⟨q0_0, q0_1, q0_2, q0_3, q0_4, q0_5, q0_6, q0_7⟩ := hS0_0.c8; obtain ⟨q1_0, q1_1, q1_2, q1_3, q1_4, q1_5, q1_6, q1_7, q1_8, q1_9, q1_10, q1_11, q1_12, q1_13, q1_14⟩ := hS0_1.c15; go_simp; try with_reducible rfl)
          try simp only [yA, yB, yC, Act.put, yD, yE, yF]
          refine wpAnyH_ready (rs := [5]) (by kernel_rfl) (by simp) (AllReadyH.cons (i := 5) rfl (fun K hK => ?_) AllReadyH.nil)
          go_simp
          refine (cell_c _ s _ _ _ _ (HR.out.grown (gr_drew (gr_refl _ none))) r.cell false hk).mono ?_
          rintro e0 w1 ⟨rfl, hg1⟩
          replace HB := As.mk (HB.out.drew.grown hg1 (by simp))
          replace HT := As.mk (HT.out.drew.grown hg1 (by simp))
          replace HO := As.mk (HO.out.drew.grown hg1)
          replace HR := As.mk ((HR.out.grown (gr_drew (gr_refl _ none))).grown hg1)
          replace HG := As.mk (gr_then (gr_drew HG.out) hg1 (.inl rfl))
          replace HK := As.mk (HK.out.trans (.none (gr_then (gr_drew (gr_refl _ none)) hg1 (.inl rfl))))
          clear hg1
          go_simp
          refine hK.out _ _ (⟨HB.out, HT.out⟩) (fun hS => ?_)
          clear hK K
          try simp only [yA, yB, yC, Act.put, yD, yE, yF]
          refine wpAnyH_take (i := 6) (v := ?vf7) rfl (by kernel_rfl) (by kernel_rfl) (by kernel_rfl) (fun _ _ _ h => h) (Or.inl ⟨by rfl, ?yf7⟩) hS ?rf7
          case yf7 => (intro w0 _; go_simp; try with_reducible rfl)
          try simp only [yA, yB, yC, Act.put, yD, yE, yF]
          refine wpAnyH_take (i := 7) (v := ?vf8) rfl (by kernel_rfl) (by kernel_rfl) (by kernel_rfl) (fun _ _ _ h => h) (Or.inl ⟨by rfl, ?yf8⟩) hS ?rf8
          case yf8 => (intro w0 _; go_simp; try with_reducible rfl)
          try simp only [yA, yB, yC, Act.put, yD, yE, yF]
          refine wpAnyH_take (i := 8) (v := undef) rfl (by kernel_rfl) (by kernel_rfl) (by kernel_rfl) (fun _ _ _ h => h) (Or.inr ⟨by kernel_rfl, rfl⟩) hS ?_
          try simp only [yA, yB, yC, Act.put, yD, yE, yF]
          refine wpAnyH_take (i := 9) (v := undef) rfl (by kernel_rfl) (by kernel_rfl) (by kernel_rfl) (fun _ _ _ h => h) (Or.inr ⟨by kernel_rfl, rfl⟩) hS ?_
          try simp only [yA, yB, yC, Act.put, yD, yE, yF]
          refine wpAnyH_take (i := 10) (v := undef) rfl (by kernel_rfl) (by kernel_rfl) (by kernel_rfl) (fun _ _ _ h => h) (Or.inr ⟨by kernel_rfl, rfl⟩) hS ?_
          try simp only [yA, yB, yC, Act.put, yD, yE, yF]
          refine wpAnyH_take (i := 11) (v := undef) rfl (by kernel_rfl) (by kernel_rfl) (by kernel_rfl) (fun _ _ _ h => h) (Or.inr ⟨by kernel_rfl, rfl⟩) hS ?_
          try simp only [yA, yB, yC, Act.put, yD, yE, yF]
          refine wpAnyH_take (i := 12) (v := undef) rfl (by kernel_rfl) (by kernel_rfl) (by kernel_rfl) (fun _ _ _ h => h) (Or.inr ⟨by kernel_rfl, rfl⟩) hS ?_
          try simp only [yA, yB, yC, Act.put, yD, yE, yF]
          refine wpAnyH_take (i := 13) (v := undef) rfl (by kernel_rfl) (by kernel_rfl) (by kernel_rfl) (fun _ _ _ h => h) (Or.inr ⟨by kernel_rfl, rfl⟩) hS ?_
          try simp only [yA, yB, yC, Act.put, yD, yE, yF]
          refine wpAnyH_take (i := 14) (v := undef) rfl (by kernel_rfl) (by kernel_rfl) (by kernel_rfl) (fun _ _ _ h => h) (Or.inr ⟨by kernel_rfl, rfl⟩) hS ?_
          try simp only [yA, yB, yC, Act.put, yD, yE, yF]
          refine wpAnyH_take (i := 15) (v := ?vf16) rfl (by kernel_rfl) (by kernel_rfl) (by kernel_rfl) (fun _ _ _ h => h) (Or.inl ⟨by rfl, ?yf16⟩) hS ?rf16
          case yf16 => (intro w0 _; go_simp; try with_reducible rfl)
          try simp only [yA, yB, yC, Act.put, yD, yE, yF]
          refine wpAnyH_done (by kernel_rfl) ?_ _
          refine NoPanic.normal ?_
          try simp only [Exit.then]
          clear hS
          go_wp2_with fail
          go_ret
          exact MutPost.of HE.out HG.out HK.out HO.out
        · rw [if_neg (by rw [hk]; simp)] at HE0
          by_cases hn : s.nodes < r.node
          · have HE := As.mk (HE0.out.trans (if_pos hn))
            refine wp_region_noPanic ?_
            refine wp_region_held_drew (S := fun w' => Blk w' sb 32 #[.int .i64 s.node, .int .i64 s.nodes, .int .i64 s.cells, .int .i64 s.epoch, .slice A1 s.places.length c1, .slice A2 s.prepared.length c2, .slice A3 s.decided.length c3, .slice A4 s.commits.length c4] ∧ Blk w' gt 43 #[.int .i64 r.kind, .int .i64 r.tid.n, .int .i64 r.tid.e, .int .i64 r.tid.s, .slice AI r.items.length cI, .slice AN r.nodes.length cN, .int .i64 r.node, .int .i64 r.count, .int .i64 r.num, .int .i64 r.cell, .int .i64 r.st, .int .i64 r.hop, .int .i64 r.ver, .int .i64 r.val, .bool r.yes]) (by kernel_rfl) (⟨HB.out.drew, HT.out.drew⟩) (fun hS => ?_)
            refine wpAnyH_take (i := 0) (v := ?vg1) rfl (by kernel_rfl) (by kernel_rfl) (by kernel_rfl) (fun _ _ _ h => h) (Or.inl ⟨by rfl, ?yg1⟩) hS ?rg1
            case yg1 => (intro w0 _; go_simp; try with_reducible rfl)
            try simp only [yA, yB, yC, Act.put, yD, yE, yF]
            refine wpAnyH_take (i := 1) (v := ?vg2) rfl (by kernel_rfl) (by kernel_rfl) (by kernel_rfl) (fun _ _ _ h => h) (Or.inl ⟨by rfl, ?yg2⟩) hS ?rg2
            case yg2 => (intro w0 _; go_simp; try with_reducible rfl)
            try simp only [yA, yB, yC, Act.put, yD, yE, yF]
            refine wpAnyH_take (i := 2) (v := ?vg3) rfl (by kernel_rfl) (by kernel_rfl) (by kernel_rfl) (fun _ _ _ h => h) (Or.inl ⟨by rfl, ?yg3⟩) hS ?rg3
            case yg3 => (intro w0 hS0; (try simp only [] at hS0); obtain ⟨hS0_0, hS0_1⟩ := hS0; obtain ⟨q0_0, q0_1, q0_2, q0_3, q0_4, q0_5, q0_6, q0_7⟩ := hS0_0.c8; obtain ⟨q1_0, q1_1, q1_2, q1_3, q1_4, q1_5, q1_6, q1_7, q1_8, q1_9, q1_10, q1_11, q1_12, q1_13, q1_14⟩ := hS0_1.c15; go_simp; try with_reducible rfl)
            try simp only [yA, yB, yC, Act.put, yD, yE, yF]
            refine wpAnyH_take (i := 3) (v := ?vg4) rfl (by kernel_rfl) (by kernel_rfl) (by kernel_rfl) (fun _ _ _ h => h) (Or.inl ⟨by rfl, ?yg4⟩) hS ?rg4
            case yg4 => (intro w0 _; go_simp; try with_reducible rfl)
            try simp only [yA, yB, yC, Act.put, yD, yE, yF]
            refine wpAnyH_take (i := 4) (v := ?vg5) rfl (by kernel_rfl) (by kernel_rfl) (by kernel_rfl) (fun _ _ _ h => h) (Or.inl ⟨by rfl, ?yg5⟩) hS ?rg5
            case yg5 => (intro w0 hS0; (try simp only [] at hS0); obtain ⟨hS0_0, hS0_1⟩ := hS0; obtain ⟨q0_0, q0_1, q0_2, q0_3, q0_4, q0_5, q0_6, q0_7⟩ := hS0_0.c8; obtain ⟨q1_0, q1_1, q1_2, q1_3, q1_4, q1_5, q1_6, q1_7, q1_8, q1_9, q1_10, q1_11, q1_12, q1_13, q1_14⟩ := hS0_1.c15; go_simp; try with_reducible rfl)
            try simp only [yA, yB, yC, Act.put, yD, yE, yF]
            refine wpAnyH_ready (rs := [5]) (by kernel_rfl) (by simp) (AllReadyH.cons (i := 5) rfl (fun K hK => ?_) AllReadyH.nil)
            go_simp
            refine (cell_c _ s _ _ _ _ (HR.out.grown (gr_drew (gr_refl _ none))) r.cell true hk).mono ?_
            rintro e0 w1 ⟨rfl, hg1⟩
            replace HB := As.mk (HB.out.drew.grown hg1 (by simp))
            replace HT := As.mk (HT.out.drew.grown hg1 (by simp))
            replace HO := As.mk (HO.out.drew.grown hg1)
            replace HR := As.mk ((HR.out.grown (gr_drew (gr_refl _ none))).grown hg1)
            replace HG := As.mk (gr_then (gr_drew HG.out) hg1 (.inl rfl))
            replace HK := As.mk (HK.out.trans (.none (gr_then (gr_drew (gr_refl _ none)) hg1 (.inl rfl))))
            clear hg1
            go_simp
            refine hK.out _ _ (⟨HB.out, HT.out⟩) (fun hS => ?_)
            clear hK K
            try simp only [yA, yB, yC, Act.put, yD, yE, yF]
            refine wpAnyH_take (i := 6) (v := ?vg7) rfl (by kernel_rfl) (by kernel_rfl) (by kernel_rfl) (fun _ _ _ h => h) (Or.inl ⟨by rfl, ?yg7⟩) hS ?rg7
            case yg7 => (intro w0 _; go_simp; try with_reducible rfl)
            try simp only [yA, yB, yC, Act.put, yD, yE, yF]
            refine wpAnyH_take (i := 7) (v := ?vg8) rfl (by kernel_rfl) (by kernel_rfl) (by kernel_rfl) (fun _ _ _ h => h) (Or.inl ⟨by rfl, ?yg8⟩) hS ?rg8
            case yg8 => (intro w0 _; go_simp; try with_reducible rfl)
            try simp only [yA, yB, yC, Act.put, yD, yE, yF]
            refine wpAnyH_take (i := 8) (v := ?vg9) rfl (by kernel_rfl) (by kernel_rfl) (by kernel_rfl) (fun _ _ _ h => h) (Or.inl ⟨by rfl, ?yg9⟩) hS ?rg9
            case yg9 => (intro w0 _; go_simp; try with_reducible rfl)
            try simp only [yA, yB, yC, Act.put, yD, yE, yF]
            refine wpAnyH_take (i := 9) (v := ?vg10) rfl (by kernel_rfl) (by kernel_rfl) (by kernel_rfl) (fun _ _ _ h => h) (Or.inl ⟨by rfl, ?yg10⟩) hS ?rg10
            case yg10 => (intro w0 hS0; (try simp only [] at hS0); obtain ⟨hS0_0, hS0_1⟩ := hS0; obtain ⟨q0_0, q0_1, q0_2, q0_3, q0_4, q0_5, q0_6, q0_7⟩ := hS0_0.c8; obtain ⟨q1_0, q1_1, q1_2, q1_3, q1_4, q1_5, q1_6, q1_7, q1_8, q1_9, q1_10, q1_11, q1_12, q1_13, q1_14⟩ := hS0_1.c15; go_simp; try with_reducible rfl)
            try simp only [yA, yB, yC, Act.put, yD, yE, yF]
            refine wpAnyH_take (i := 10) (v := ?vg11) rfl (by kernel_rfl) (by kernel_rfl) (by kernel_rfl) (fun _ _ _ h => h) (Or.inl ⟨by rfl, ?yg11⟩) hS ?rg11
            case yg11 => (intro w0 _; go_simp; try with_reducible rfl)
            try simp only [yA, yB, yC, Act.put, yD, yE, yF]
            refine wpAnyH_take (i := 11) (v := ?vg12) rfl (by kernel_rfl) (by kernel_rfl) (by kernel_rfl) (fun _ _ _ h => h) (Or.inl ⟨by rfl, ?yg12⟩) hS ?rg12
            case yg12 => (intro w0 _; go_simp; try with_reducible rfl)
            try simp only [yA, yB, yC, Act.put, yD, yE, yF]
            refine wpAnyH_take (i := 12) (v := ?vg13) rfl (by kernel_rfl) (by kernel_rfl) (by kernel_rfl) (fun _ _ _ h => h) (Or.inl ⟨by rfl, ?yg13⟩) hS ?rg13
            case yg13 => (intro w0 _; go_simp; try with_reducible rfl)
            try simp only [yA, yB, yC, Act.put, yD, yE, yF]
            refine wpAnyH_take (i := 13) (v := ?vg14) rfl (by kernel_rfl) (by kernel_rfl) (by kernel_rfl) (fun _ _ _ h => h) (Or.inl ⟨by rfl, ?yg14⟩) hS ?rg14
            case yg14 => (intro w0 hS0; (try simp only [] at hS0); obtain ⟨hS0_0, hS0_1⟩ := hS0; obtain ⟨q0_0, q0_1, q0_2, q0_3, q0_4, q0_5, q0_6, q0_7⟩ := hS0_0.c8; obtain ⟨q1_0, q1_1, q1_2, q1_3, q1_4, q1_5, q1_6, q1_7, q1_8, q1_9, q1_10, q1_11, q1_12, q1_13, q1_14⟩ := hS0_1.c15; go_simp; try with_reducible rfl)
            try simp only [yA, yB, yC, Act.put, yD, yE, yF]
            refine wpAnyH_take (i := 14) (v := ?vg15) rfl (by kernel_rfl) (by kernel_rfl) (by kernel_rfl) (fun _ _ _ h => h) (Or.inl ⟨by rfl, ?yg15⟩) hS ?rg15
            case yg15 => (intro w0 _; go_simp; try with_reducible rfl)
            try simp only [yA, yB, yC, Act.put, yD, yE, yF]
            refine wpAnyH_take (i := 15) (v := ?vg16) rfl (by kernel_rfl) (by kernel_rfl) (by kernel_rfl) (fun _ _ _ h => h) (Or.inl ⟨by rfl, ?yg16⟩) hS ?rg16
            case yg16 => (intro w0 _; go_simp; try with_reducible rfl)
            try simp only [yA, yB, yC, Act.put, yD, yE, yF]
            refine wpAnyH_done (by kernel_rfl) ?_ _
            refine NoPanic.normal ?_
            try simp only [Exit.then]
            clear hS
            go_wp2_with fail
            go_ret
            exact MutPost.of HE.out HG.out HK.out HO.out
          · rw [if_neg hn] at HE0
            refine wp_region_noPanic ?_
            refine wp_region_held_drew (S := fun w' => Blk w' sb 32 #[.int .i64 s.node, .int .i64 s.nodes, .int .i64 s.cells, .int .i64 s.epoch, .slice A1 s.places.length c1, .slice A2 s.prepared.length c2, .slice A3 s.decided.length c3, .slice A4 s.commits.length c4] ∧ Blk w' gt 43 #[.int .i64 r.kind, .int .i64 r.tid.n, .int .i64 r.tid.e, .int .i64 r.tid.s, .slice AI r.items.length cI, .slice AN r.nodes.length cN, .int .i64 r.node, .int .i64 r.count, .int .i64 r.num, .int .i64 r.cell, .int .i64 r.st, .int .i64 r.hop, .int .i64 r.ver, .int .i64 r.val, .bool r.yes]) (by kernel_rfl) (⟨HB.out.drew, HT.out.drew⟩) (fun hS => ?_)
            refine wpAnyH_take (i := 0) (v := ?vh1) rfl (by kernel_rfl) (by kernel_rfl) (by kernel_rfl) (fun _ _ _ h => h) (Or.inl ⟨by rfl, ?yh1⟩) hS ?rh1
            case yh1 => (intro w0 _; go_simp; try with_reducible rfl)
            try simp only [yA, yB, yC, Act.put, yD, yE, yF]
            refine wpAnyH_take (i := 1) (v := ?vh2) rfl (by kernel_rfl) (by kernel_rfl) (by kernel_rfl) (fun _ _ _ h => h) (Or.inl ⟨by rfl, ?yh2⟩) hS ?rh2
            case yh2 => (intro w0 _; go_simp; try with_reducible rfl)
            try simp only [yA, yB, yC, Act.put, yD, yE, yF]
            refine wpAnyH_take (i := 2) (v := ?vh3) rfl (by kernel_rfl) (by kernel_rfl) (by kernel_rfl) (fun _ _ _ h => h) (Or.inl ⟨by rfl, ?yh3⟩) hS ?rh3
            case yh3 => (intro w0 hS0; (try simp only [] at hS0); obtain ⟨hS0_0, hS0_1⟩ := hS0; obtain ⟨q0_0, q0_1, q0_2, q0_3, q0_4, q0_5, q0_6, q0_7⟩ := hS0_0.c8; obtain ⟨q1_0, q1_1, q1_2, q1_3, q1_4, q1_5, q1_6, q1_7, q1_8, q1_9, q1_10, q1_11, q1_12, q1_13, q1_14⟩ := hS0_1.c15; go_simp; try with_reducible rfl)
            try simp only [yA, yB, yC, Act.put, yD, yE, yF]
            refine wpAnyH_take (i := 3) (v := ?vh4) rfl (by kernel_rfl) (by kernel_rfl) (by kernel_rfl) (fun _ _ _ h => h) (Or.inl ⟨by rfl, ?yh4⟩) hS ?rh4
            case yh4 => (intro w0 _; go_simp; try with_reducible rfl)
            try simp only [yA, yB, yC, Act.put, yD, yE, yF]
            refine wpAnyH_take (i := 4) (v := ?vh5) rfl (by kernel_rfl) (by kernel_rfl) (by kernel_rfl) (fun _ _ _ h => h) (Or.inl ⟨by rfl, ?yh5⟩) hS ?rh5
            case yh5 => (intro w0 hS0; (try simp only [] at hS0); obtain ⟨hS0_0, hS0_1⟩ := hS0; obtain ⟨q0_0, q0_1, q0_2, q0_3, q0_4, q0_5, q0_6, q0_7⟩ := hS0_0.c8; obtain ⟨q1_0, q1_1, q1_2, q1_3, q1_4, q1_5, q1_6, q1_7, q1_8, q1_9, q1_10, q1_11, q1_12, q1_13, q1_14⟩ := hS0_1.c15; go_simp; try with_reducible rfl)
            try simp only [yA, yB, yC, Act.put, yD, yE, yF]
            refine wpAnyH_ready (rs := [5]) (by kernel_rfl) (by simp) (AllReadyH.cons (i := 5) rfl (fun K hK => ?_) AllReadyH.nil)
            go_simp
            refine (cell_c _ s _ _ _ _ (HR.out.grown (gr_drew (gr_refl _ none))) r.cell true hk).mono ?_
            rintro e0 w1 ⟨rfl, hg1⟩
            replace HB := As.mk (HB.out.drew.grown hg1 (by simp))
            replace HT := As.mk (HT.out.drew.grown hg1 (by simp))
            replace HO := As.mk (HO.out.drew.grown hg1)
            replace HR := As.mk ((HR.out.grown (gr_drew (gr_refl _ none))).grown hg1)
            replace HG := As.mk (gr_then (gr_drew HG.out) hg1 (.inl rfl))
            replace HK := As.mk (HK.out.trans (.none (gr_then (gr_drew (gr_refl _ none)) hg1 (.inl rfl))))
            clear hg1
            go_simp
            refine hK.out _ _ (⟨HB.out, HT.out⟩) (fun hS => ?_)
            clear hK K
            try simp only [yA, yB, yC, Act.put, yD, yE, yF]
            refine wpAnyH_take (i := 6) (v := ?vh7) rfl (by kernel_rfl) (by kernel_rfl) (by kernel_rfl) (fun _ _ _ h => h) (Or.inl ⟨by rfl, ?yh7⟩) hS ?rh7
            case yh7 => (intro w0 _; go_simp; try with_reducible rfl)
            try simp only [yA, yB, yC, Act.put, yD, yE, yF]
            refine wpAnyH_take (i := 7) (v := ?vh8) rfl (by kernel_rfl) (by kernel_rfl) (by kernel_rfl) (fun _ _ _ h => h) (Or.inl ⟨by rfl, ?yh8⟩) hS ?rh8
            case yh8 => (intro w0 _; go_simp; try with_reducible rfl)
            try simp only [yA, yB, yC, Act.put, yD, yE, yF]
            refine wpAnyH_take (i := 8) (v := ?vh9) rfl (by kernel_rfl) (by kernel_rfl) (by kernel_rfl) (fun _ _ _ h => h) (Or.inl ⟨by rfl, ?yh9⟩) hS ?rh9
            case yh9 => (intro w0 _; go_simp; try with_reducible rfl)
            try simp only [yA, yB, yC, Act.put, yD, yE, yF]
            refine wpAnyH_take (i := 9) (v := ?vh10) rfl (by kernel_rfl) (by kernel_rfl) (by kernel_rfl) (fun _ _ _ h => h) (Or.inl ⟨by rfl, ?yh10⟩) hS ?rh10
            case yh10 => (intro w0 hS0; (try simp only [] at hS0); obtain ⟨hS0_0, hS0_1⟩ := hS0; obtain ⟨q0_0, q0_1, q0_2, q0_3, q0_4, q0_5, q0_6, q0_7⟩ := hS0_0.c8; obtain ⟨q1_0, q1_1, q1_2, q1_3, q1_4, q1_5, q1_6, q1_7, q1_8, q1_9, q1_10, q1_11, q1_12, q1_13, q1_14⟩ := hS0_1.c15; go_simp; try with_reducible rfl)
            try simp only [yA, yB, yC, Act.put, yD, yE, yF]
            refine wpAnyH_take (i := 10) (v := ?vh11) rfl (by kernel_rfl) (by kernel_rfl) (by kernel_rfl) (fun _ _ _ h => h) (Or.inl ⟨by rfl, ?yh11⟩) hS ?rh11
            case yh11 => (intro w0 _; go_simp; try with_reducible rfl)
            try simp only [yA, yB, yC, Act.put, yD, yE, yF]
            refine wpAnyH_take (i := 11) (v := ?vh12) rfl (by kernel_rfl) (by kernel_rfl) (by kernel_rfl) (fun _ _ _ h => h) (Or.inl ⟨by rfl, ?yh12⟩) hS ?rh12
            case yh12 => (intro w0 _; go_simp; try with_reducible rfl)
            try simp only [yA, yB, yC, Act.put, yD, yE, yF]
            refine wpAnyH_take (i := 12) (v := ?vh13) rfl (by kernel_rfl) (by kernel_rfl) (by kernel_rfl) (fun _ _ _ h => h) (Or.inl ⟨by rfl, ?yh13⟩) hS ?rh13
            case yh13 => (intro w0 _; go_simp; try with_reducible rfl)
            try simp only [yA, yB, yC, Act.put, yD, yE, yF]
            refine wpAnyH_take (i := 13) (v := ?vh14) rfl (by kernel_rfl) (by kernel_rfl) (by kernel_rfl) (fun _ _ _ h => h) (Or.inl ⟨by rfl, ?yh14⟩) hS ?rh14
            case yh14 => (intro w0 hS0; (try simp only [] at hS0); obtain ⟨hS0_0, hS0_1⟩ := hS0; obtain ⟨q0_0, q0_1, q0_2, q0_3, q0_4, q0_5, q0_6, q0_7⟩ := hS0_0.c8; obtain ⟨q1_0, q1_1, q1_2, q1_3, q1_4, q1_5, q1_6, q1_7, q1_8, q1_9, q1_10, q1_11, q1_12, q1_13, q1_14⟩ := hS0_1.c15; go_simp; try with_reducible rfl)
            try simp only [yA, yB, yC, Act.put, yD, yE, yF]
            refine wpAnyH_take (i := 14) (v := ?vh15) rfl (by kernel_rfl) (by kernel_rfl) (by kernel_rfl) (fun _ _ _ h => h) (Or.inl ⟨by rfl, ?yh15⟩) hS ?rh15
            case yh15 => (intro w0 _; go_simp; try with_reducible rfl)
            try simp only [yA, yB, yC, Act.put, yD, yE, yF]
            refine wpAnyH_take (i := 15) (v := ?vh16) rfl (by kernel_rfl) (by kernel_rfl) (by kernel_rfl) (fun _ _ _ h => h) (Or.inl ⟨by rfl, ?yh16⟩) hS ?rh16
            case yh16 => (intro w0 _; go_simp; try with_reducible rfl)
            try simp only [yA, yB, yC, Act.put, yD, yE, yF]
            refine wpAnyH_done (by kernel_rfl) ?_ _
            refine NoPanic.normal ?_
            try simp only [Exit.then]
            clear hS
            go_wp2_with fail
            refine wp_region_noPanic ?_
            refine wp_region_held_drew (S := fun w' => Blk w' sb 32 #[.int .i64 s.node, .int .i64 s.nodes, .int .i64 s.cells, .int .i64 s.epoch, .slice A1 s.places.length c1, .slice A2 s.prepared.length c2, .slice A3 s.decided.length c3, .slice A4 s.commits.length c4] ∧ Blk w' gt 43 #[.int .i64 r.kind, .int .i64 r.tid.n, .int .i64 r.tid.e, .int .i64 r.tid.s, .slice AI r.items.length cI, .slice AN r.nodes.length cN, .int .i64 r.node, .int .i64 r.count, .int .i64 r.num, .int .i64 r.cell, .int .i64 r.st, .int .i64 r.hop, .int .i64 r.ver, .int .i64 r.val, .bool r.yes]) (by kernel_rfl) (⟨HB.out.drew, HT.out.drew⟩) (fun hS => ?_)
            refine wpAnyH_take (i := 0) (v := ?vi1) rfl (by kernel_rfl) (by kernel_rfl) (by kernel_rfl) (fun _ _ _ h => h) (Or.inl ⟨by rfl, ?yi1⟩) hS ?ri1
            case yi1 => (intro w0 _; go_simp; try with_reducible rfl)
            try simp only [yA, yB, yC, Act.put, yD, yE, yF]
            refine wpAnyH_take (i := 1) (v := ?vi2) rfl (by kernel_rfl) (by kernel_rfl) (by kernel_rfl) (fun _ _ _ h => h) (Or.inl ⟨by rfl, ?yi2⟩) hS ?ri2
            case yi2 => (intro w0 _; go_simp; try with_reducible rfl)
            try simp only [yA, yB, yC, Act.put, yD, yE, yF]
            refine wpAnyH_take (i := 2) (v := ?vi3) rfl (by kernel_rfl) (by kernel_rfl) (by kernel_rfl) (fun _ _ _ h => h) (Or.inl ⟨by rfl, ?yi3⟩) hS ?ri3
            case yi3 => (intro w0 hS0; (try simp only [] at hS0); obtain ⟨hS0_0, hS0_1⟩ := hS0; obtain ⟨q0_0, q0_1, q0_2, q0_3, q0_4, q0_5, q0_6, q0_7⟩ := hS0_0.c8; obtain ⟨q1_0, q1_1, q1_2, q1_3, q1_4, q1_5, q1_6, q1_7, q1_8, q1_9, q1_10, q1_11, q1_12, q1_13, q1_14⟩ := hS0_1.c15; go_simp; try with_reducible rfl)
            try simp only [yA, yB, yC, Act.put, yD, yE, yF]
            refine wpAnyH_take (i := 3) (v := ?vi4) rfl (by kernel_rfl) (by kernel_rfl) (by kernel_rfl) (fun _ _ _ h => h) (Or.inl ⟨by rfl, ?yi4⟩) hS ?ri4
            case yi4 => (intro w0 _; go_simp; try with_reducible rfl)
            try simp only [yA, yB, yC, Act.put, yD, yE, yF]
            refine wpAnyH_take (i := 4) (v := ?vi5) rfl (by kernel_rfl) (by kernel_rfl) (by kernel_rfl) (fun _ _ _ h => h) (Or.inl ⟨by rfl, ?yi5⟩) hS ?ri5
            case yi5 => (intro w0 hS0; (try simp only [] at hS0); obtain ⟨hS0_0, hS0_1⟩ := hS0; obtain ⟨q0_0, q0_1, q0_2, q0_3, q0_4, q0_5, q0_6, q0_7⟩ := hS0_0.c8; obtain ⟨q1_0, q1_1, q1_2, q1_3, q1_4, q1_5, q1_6, q1_7, q1_8, q1_9, q1_10, q1_11, q1_12, q1_13, q1_14⟩ := hS0_1.c15; go_simp; try with_reducible rfl)
            try simp only [yA, yB, yC, Act.put, yD, yE, yF]
            refine wpAnyH_ready (rs := [5]) (by kernel_rfl) (by simp) (AllReadyH.cons (i := 5) rfl (fun K hK => ?_) AllReadyH.nil)
            go_simp
            refine (locked_c _ s _ _ _ _ (HR.out.grown (gr_drew (gr_refl _ none))) r.cell _ rfl).mono ?_
            rintro e0 w1 ⟨rfl, hg1⟩
            replace HB := As.mk (HB.out.drew.grown hg1 (by simp))
            replace HT := As.mk (HT.out.drew.grown hg1 (by simp))
            replace HO := As.mk (HO.out.drew.grown hg1)
            replace HR := As.mk ((HR.out.grown (gr_drew (gr_refl _ none))).grown hg1)
            replace HG := As.mk (gr_then (gr_drew HG.out) hg1 (.inl rfl))
            replace HK := As.mk (HK.out.trans (.none (gr_then (gr_drew (gr_refl _ none)) hg1 (.inl rfl))))
            clear hg1
            go_simp
            refine hK.out _ _ (⟨HB.out, HT.out⟩) (fun hS => ?_)
            clear hK K
            try simp only [yA, yB, yC, Act.put, yD, yE, yF]
            refine wpAnyH_done (by kernel_rfl) ?_ _
            refine NoPanic.normal ?_
            try simp only [Exit.then]
            clear hS
            cases hlk : lockedB s r.cell
            · have HE := As.mk (HE0.out.trans (if_neg (by rw [hlk]; simp)))
              go_wp2_with fail
              obtain ⟨j, hjc⟩ : ∃ j : Nat, r.cell = (j : Int) := ⟨r.cell.toNat, by unfold cellB at hk; simp only [Bool.and_eq_true, decide_eq_true_eq] at hk; omega⟩
              have hj : j < s.places.length := by unfold cellB at hk; simp only [Bool.and_eq_true, decide_eq_true_eq] at hk; omega
              have HPA := As.mk (show placeAt s r.cell = s.places[j]'hj by unfold placeAt; rw [hjc, Int.toNat_natCast, List.getElem?_eq_getElem hj])
              have hj0 : (0 : Int) ≤ (j : Int) := by omega
              have hjI : (j : Int) < (s.places.length : Int) := by omega
              have hd := HO.out
              obtain ⟨vP, vQ, vD, vC, qs, cs, hO⟩ := hd
              obtain ⟨g, cap, rfl⟩ := own_some hO.pl (by omega)
              have hle : s.places.length ≤ cap ∧ cap ≤ 9223372036854775807 := by
                obtain ⟨_, _, _, _, h1, h2⟩ := own_whole hO.pl
                exact ⟨h1, by simp only [maxLen] at h2; omega⟩
              obtain ⟨A2, c2, rfl⟩ := own_shape hO.pr
              obtain ⟨A3, c3, rfl⟩ := own_shape hO.de
              obtain ⟨A4, c4, rfl⟩ := own_shape hO.cm
              have HOO := As.mk hO
              rw [hjc] at HT
              have pc0 := (hO.atP j _ (List.getElem?_eq_getElem hj) 0 _ rfl).1
              have pc1 := (hO.atP j _ (List.getElem?_eq_getElem hj) 1 _ rfl).1
              have pc2 := (hO.atP j _ (List.getElem?_eq_getElem hj) 2 _ rfl).1
              have pc3 := (hO.atP j _ (List.getElem?_eq_getElem hj) 3 _ rfl).1
              have pc4 := (hO.atP j _ (List.getElem?_eq_getElem hj) 4 _ rfl).1
              have pf0 := (hO.atP j _ (List.getElem?_eq_getElem hj) 0 _ rfl).2
              have pf1 := (hO.atP j _ (List.getElem?_eq_getElem hj) 1 _ rfl).2
              have pf2 := (hO.atP j _ (List.getElem?_eq_getElem hj) 2 _ rfl).2
              have pf3 := (hO.atP j _ (List.getElem?_eq_getElem hj) 3 _ rfl).2
              have pf4 := (hO.atP j _ (List.getElem?_eq_getElem hj) 4 _ rfl).2
              simp only [Nat.add_zero] at pc0 pf0
              have HPC := As.mk (And.intro pc0 (And.intro pc1 (And.intro pc2 (And.intro pc3 pc4))))
              have HPF := As.mk (And.intro pf0 (And.intro pf1 (And.intro pf2 (And.intro pf3 pf4))))
              have HJ := As.mk hj
              have HPJ := As.mk (List.getElem?_eq_getElem hj)
              have HOO0 := As.mk hO
              have HG0 := As.mk HG.out
              have HT0 := As.mk HT.out
              have HK0 := As.mk HK.out
              clear hO pc0 pc1 pc2 pc3 pc4 pf0 pf1 pf2 pf3 pf4 HB HR HO
              generalize s.places[j]'hj = p at *
              have hlo : w0.heap.size ≤ g := own_lo HOO0.out.pl g rfl
              have HO5 := As.mk ((HOO0.out.five j HJ.out (⟨r.st, r.hop, r.node, r.ver, r.val⟩ : PPl)).drew)
              have HK5 := As.mk (HK0.out.trans (.own HOO0.out.pl (by decide) (gr_drew (gr_set (gr_set (gr_set (gr_set (gr_set (gr_refl _ (some g)) (a := ⟨g, j * 5, none⟩) (.inl rfl) (.int .i64 (⟨r.st, r.hop, r.node, r.ver, r.val⟩ : PPl).st)) (a := ⟨g, j * 5 + 1, none⟩) (.inl rfl) (.int .i64 (⟨r.st, r.hop, r.node, r.ver, r.val⟩ : PPl).hop)) (a := ⟨g, j * 5 + 2, none⟩) (.inl rfl) (.int .i64 (⟨r.st, r.hop, r.node, r.ver, r.val⟩ : PPl).to_)) (a := ⟨g, j * 5 + 3, none⟩) (.inl rfl) (.int .i64 (⟨r.st, r.hop, r.node, r.ver, r.val⟩ : PPl).ver)) (a := ⟨g, j * 5 + 4, none⟩) (.inl rfl) (.int .i64 (⟨r.st, r.hop, r.node, r.ver, r.val⟩ : PPl).val)))))
              have HG5 := As.mk (gr_drew (gr_set (gr_set (gr_set (gr_set (gr_set HG0.out (a := ⟨g, j * 5, none⟩) (.inr hlo) (.int .i64 (⟨r.st, r.hop, r.node, r.ver, r.val⟩ : PPl).st)) (a := ⟨g, j * 5 + 1, none⟩) (.inr hlo) (.int .i64 (⟨r.st, r.hop, r.node, r.ver, r.val⟩ : PPl).hop)) (a := ⟨g, j * 5 + 2, none⟩) (.inr hlo) (.int .i64 (⟨r.st, r.hop, r.node, r.ver, r.val⟩ : PPl).to_)) (a := ⟨g, j * 5 + 3, none⟩) (.inr hlo) (.int .i64 (⟨r.st, r.hop, r.node, r.ver, r.val⟩ : PPl).ver)) (a := ⟨g, j * 5 + 4, none⟩) (.inr hlo) (.int .i64 (⟨r.st, r.hop, r.node, r.ver, r.val⟩ : PPl).val)))
              dsimp only at HO5 HK5 HG5
              refine wp_region_noPanic ?_
              refine wp_region_D (S := fun w' => Blk w' sb 32 #[.int .i64 s.node, .int .i64 s.nodes, .int .i64 s.cells, .int .i64 s.epoch, .slice (some ⟨g, 0, none⟩) s.places.length cap, .slice A2 qs.length c2, .slice A3 s.decided.length c3, .slice A4 cs.length c4] ∧ Blk w' gt 43 #[.int .i64 r.kind, .int .i64 r.tid.n, .int .i64 r.tid.e, .int .i64 r.tid.s, .slice AI r.items.length cI, .slice AN r.nodes.length cN, .int .i64 r.node, .int .i64 r.count, .int .i64 r.num, .int .i64 (j : Int), .int .i64 r.st, .int .i64 r.hop, .int .i64 r.ver, .int .i64 r.val, .bool r.yes]) 18 (by kernel_rfl) (⟨HOO.out.blk.drew, HT.out.drew⟩) (fun hS => ?_)
              refine wpAnyD_take (i := 0) (v := ?vj1) rfl rfl (by kernel_rfl) (by kernel_rfl) (by kernel_rfl) (by kernel_rfl) (fun _ _ _ h => h) (Or.inl ⟨by rfl, ?yj1⟩) hS ?rj1
              case yj1 => (intro w0 _; go_simp; try with_reducible rfl)
              try simp only [yA, yB, yC, Act.put, yD, yE, yF]
              refine wpAnyD_take (i := 1) (v := ?vj2) rfl rfl (by kernel_rfl) (by kernel_rfl) (by kernel_rfl) (by kernel_rfl) (fun _ _ _ h => h) (Or.inl ⟨by rfl, ?yj2⟩) hS ?rj2
              case yj2 => (intro w0 _; go_simp; try with_reducible rfl)
              try simp only [yA, yB, yC, Act.put, yD, yE, yF]
              refine wpAnyD_take (i := 2) (v := ?vj3) rfl rfl (by kernel_rfl) (by kernel_rfl) (by kernel_rfl) (by kernel_rfl) (fun _ _ _ h => h) (Or.inl ⟨by rfl, ?yj3⟩) hS ?rj3
              case yj3 => (intro w0 _; go_simp; try with_reducible rfl)
              try simp only [yA, yB, yC, Act.put, yD, yE, yF]
              refine wpAnyD_take (i := 3) (v := ?vj4) rfl rfl (by kernel_rfl) (by kernel_rfl) (by kernel_rfl) (by kernel_rfl) (fun _ _ _ h => h) (Or.inl ⟨by rfl, ?yj4⟩) hS ?rj4
              case yj4 => (intro w0 hS0; (try simp only [] at hS0); obtain ⟨hS0_0, hS0_1⟩ := hS0; obtain ⟨q0_0, q0_1, q0_2, q0_3, q0_4, q0_5, q0_6, q0_7⟩ := hS0_0.c8; obtain ⟨q1_0, q1_1, q1_2, q1_3, q1_4, q1_5, q1_6, q1_7, q1_8, q1_9, q1_10, q1_11, q1_12, q1_13, q1_14⟩ := hS0_1.c15; go_simp; try with_reducible rfl)
              try simp only [yA, yB, yC, Act.put, yD, yE, yF]
              refine wpAnyD_take (i := 4) (v := ?vj5) rfl rfl (by kernel_rfl) (by kernel_rfl) (by kernel_rfl) (by kernel_rfl) (fun _ _ _ h => h) (Or.inl ⟨by rfl, ?yj5⟩) hS ?rj5
              case yj5 => (intro w0 _; go_simp; try with_reducible rfl)
              try simp only [yA, yB, yC, Act.put, yD, yE, yF]
              refine wpAnyD_take (i := 5) (v := ?vj6) rfl rfl (by kernel_rfl) (by kernel_rfl) (by kernel_rfl) (by kernel_rfl) (fun _ _ _ h => h) (Or.inl ⟨by rfl, ?yj6⟩) hS ?rj6
              case yj6 => (intro w0 hS0; (try simp only [] at hS0); obtain ⟨hS0_0, hS0_1⟩ := hS0; obtain ⟨q0_0, q0_1, q0_2, q0_3, q0_4, q0_5, q0_6, q0_7⟩ := hS0_0.c8; obtain ⟨q1_0, q1_1, q1_2, q1_3, q1_4, q1_5, q1_6, q1_7, q1_8, q1_9, q1_10, q1_11, q1_12, q1_13, q1_14⟩ := hS0_1.c15; go_simp; try with_reducible rfl)
              try simp only [yA, yB, yC, Act.put, yD, yE, yF]
              refine wpAnyD_take (i := 6) (v := ?vj7) rfl rfl (by kernel_rfl) (by kernel_rfl) (by kernel_rfl) (by kernel_rfl) (fun _ _ _ h => h) (Or.inl ⟨by rfl, ?yj7⟩) hS ?rj7
              case yj7 => (intro w0 _; go_simp; try with_reducible rfl)
              try simp only [yA, yB, yC, Act.put, yD, yE, yF]
              refine wpAnyD_take (i := 7) (v := ?vj8) rfl rfl (by kernel_rfl) (by kernel_rfl) (by kernel_rfl) (by kernel_rfl) (fun _ _ _ h => h) (Or.inl ⟨by rfl, ?yj8⟩) hS ?rj8
              case yj8 => (intro w0 hS0; (try simp only [] at hS0); obtain ⟨hS0_0, hS0_1⟩ := hS0; obtain ⟨q0_0, q0_1, q0_2, q0_3, q0_4, q0_5, q0_6, q0_7⟩ := hS0_0.c8; obtain ⟨q1_0, q1_1, q1_2, q1_3, q1_4, q1_5, q1_6, q1_7, q1_8, q1_9, q1_10, q1_11, q1_12, q1_13, q1_14⟩ := hS0_1.c15; go_simp; try with_reducible rfl)
              try simp only [yA, yB, yC, Act.put, yD, yE, yF]
              refine wpAnyD_take (i := 8) (v := ?vj9) rfl rfl (by kernel_rfl) (by kernel_rfl) (by kernel_rfl) (by kernel_rfl) (fun _ _ _ h => h) (Or.inl ⟨by rfl, ?yj9⟩) hS ?rj9
              case yj9 => (intro w0 _; go_simp; try with_reducible rfl)
              try simp only [yA, yB, yC, Act.put, yD, yE, yF]
              refine wpAnyD_take (i := 9) (v := ?vj10) rfl rfl (by kernel_rfl) (by kernel_rfl) (by kernel_rfl) (by kernel_rfl) (fun _ _ _ h => h) (Or.inl ⟨by rfl, ?yj10⟩) hS ?rj10
              case yj10 => (intro w0 hS0; (try simp only [] at hS0); obtain ⟨hS0_0, hS0_1⟩ := hS0; obtain ⟨q0_0, q0_1, q0_2, q0_3, q0_4, q0_5, q0_6, q0_7⟩ := hS0_0.c8; obtain ⟨q1_0, q1_1, q1_2, q1_3, q1_4, q1_5, q1_6, q1_7, q1_8, q1_9, q1_10, q1_11, q1_12, q1_13, q1_14⟩ := hS0_1.c15; go_simp; try with_reducible rfl)
              try simp only [yA, yB, yC, Act.put, yD, yE, yF]
              refine wpAnyD_take (i := 10) (v := ?vj11) rfl rfl (by kernel_rfl) (by kernel_rfl) (by kernel_rfl) (by kernel_rfl) (fun _ _ _ h => h) (Or.inl ⟨by rfl, ?yj11⟩) hS ?rj11
              case yj11 => (intro w0 _; go_simp; try with_reducible rfl)
              try simp only [yA, yB, yC, Act.put, yD, yE, yF]
              refine wpAnyD_take (i := 11) (v := ?vj12) rfl rfl (by kernel_rfl) (by kernel_rfl) (by kernel_rfl) (by kernel_rfl) (fun _ _ _ h => h) (Or.inl ⟨by rfl, ?yj12⟩) hS ?rj12
              case yj12 => (intro w0 hS0; (try simp only [] at hS0); obtain ⟨hS0_0, hS0_1⟩ := hS0; obtain ⟨q0_0, q0_1, q0_2, q0_3, q0_4, q0_5, q0_6, q0_7⟩ := hS0_0.c8; obtain ⟨q1_0, q1_1, q1_2, q1_3, q1_4, q1_5, q1_6, q1_7, q1_8, q1_9, q1_10, q1_11, q1_12, q1_13, q1_14⟩ := hS0_1.c15; go_simp; try with_reducible rfl)
              try simp only [yA, yB, yC, Act.put, yD, yE, yF]
              refine wpAnyD_take (i := 12) (v := ?vj13) rfl rfl (by kernel_rfl) (by kernel_rfl) (by kernel_rfl) (by kernel_rfl) (fun _ _ _ h => h) (Or.inl ⟨by rfl, ?yj13⟩) hS ?rj13
              case yj13 => (intro w0 _; go_simp; try with_reducible rfl)
              try simp only [yA, yB, yC, Act.put, yD, yE, yF]
              refine wpAnyD_take (i := 13) (v := ?vj14) rfl rfl (by kernel_rfl) (by kernel_rfl) (by kernel_rfl) (by kernel_rfl) (fun _ _ _ h => h) (Or.inl ⟨by rfl, ?yj14⟩) hS ?rj14
              case yj14 => (intro w0 hS0; (try simp only [] at hS0); obtain ⟨hS0_0, hS0_1⟩ := hS0; obtain ⟨q0_0, q0_1, q0_2, q0_3, q0_4, q0_5, q0_6, q0_7⟩ := hS0_0.c8; obtain ⟨q1_0, q1_1, q1_2, q1_3, q1_4, q1_5, q1_6, q1_7, q1_8, q1_9, q1_10, q1_11, q1_12, q1_13, q1_14⟩ := hS0_1.c15; go_simp; try with_reducible rfl)
              try simp only [yA, yB, yC, Act.put, yD, yE, yF]
              refine wpAnyD_take (i := 14) (v := ?vj15) rfl rfl (by kernel_rfl) (by kernel_rfl) (by kernel_rfl) (by kernel_rfl) (fun _ _ _ h => h) (Or.inl ⟨by rfl, ?yj15⟩) hS ?rj15
              case yj15 => (intro w0 _; go_simp; try with_reducible rfl)
              try simp only [yA, yB, yC, Act.put, yD, yE, yF]
              refine wpAnyD_take (i := 15) (v := ?vj16) rfl rfl (by kernel_rfl) (by kernel_rfl) (by kernel_rfl) (by kernel_rfl) (fun _ _ _ h => h) (Or.inl ⟨by rfl, ?yj16⟩) hS ?rj16
              case yj16 => (intro w0 hS0; (try simp only [] at hS0); obtain ⟨hS0_0, hS0_1⟩ := hS0; obtain ⟨q0_0, q0_1, q0_2, q0_3, q0_4, q0_5, q0_6, q0_7⟩ := hS0_0.c8; obtain ⟨q1_0, q1_1, q1_2, q1_3, q1_4, q1_5, q1_6, q1_7, q1_8, q1_9, q1_10, q1_11, q1_12, q1_13, q1_14⟩ := hS0_1.c15; go_simp; try with_reducible rfl)
              try simp only [yA, yB, yC, Act.put, yD, yE, yF]
              refine wpAnyD_take (i := 16) (v := ?vj17) rfl rfl (by kernel_rfl) (by kernel_rfl) (by kernel_rfl) (by kernel_rfl) (fun _ _ _ h => h) (Or.inl ⟨by rfl, ?yj17⟩) hS ?rj17
              case yj17 => (intro w0 _; go_simp; try with_reducible rfl)
              try simp only [yA, yB, yC, Act.put, yD, yE, yF]
              refine wpAnyD_take (i := 17) (v := ?vj18) rfl rfl (by kernel_rfl) (by kernel_rfl) (by kernel_rfl) (by kernel_rfl) (fun _ _ _ h => h) (Or.inl ⟨by rfl, ?yj18⟩) hS ?rj18
              case yj18 => (intro w0 _; go_simp; try with_reducible rfl)
              try simp only [yA, yB, yC, Act.put, yD, yE, yF]
              refine wpAnyD_ready (rs := [18]) (by kernel_rfl) (by simp) (AllReadyD.cons (i := 18) rfl (fun K hK => ?_) AllReadyD.nil)
              obtain ⟨pc0, pc1, pc2, pc3, pc4⟩ := HPC.out
              obtain ⟨pf0, pf1, pf2, pf3, pf4⟩ := HPF.out
              go_simp
              refine hK.out _ _ (fun h => absurd rfl h) (fun _ => ?_)
              clear hK K
              try simp only [yA, yB, yC, Act.put, yD, yE, yF]
              refine wpAnyD_done (by kernel_rfl) ?_ _
              refine NoPanic.normal ?_
              try simp only [Exit.then]
              go_wp2_with fail
              go_ret
              exact MutPost.of (HE.out.trans (by rw [hjc])) HG5.out HK5.out ⟨_, _, _, _, _, _, HO5.out⟩
            · have HE := As.mk (HE0.out.trans (if_pos hlk))
              go_wp2_with fail
              go_ret
              exact MutPost.of HE.out HG.out HK.out HO.out
      · by_cases hx4 : (r.kind == 4) = true
        · have HE := As.mk (show applyE s r = prepE s r by unfold applyE; rw [if_neg hx1]; rw [if_neg hx2]; rw [if_neg hx3]; rw [if_pos hx4])
          have hk1 : (r.kind == 1) = false := by simpa using hx1
          have hk2 : (r.kind == 2) = false := by simpa using hx2
          have hk3 : (r.kind == 3) = false := by simpa using hx3
          have hk4 := hx4
          go_wp2_with fail
          refine (prepareS_c w0 _ sb s HG.out HO.out HN.out.1 r AI cI AN cN HI.out HIN.out HLE.out.1 HLE.out.2).mono ?_
          rintro e0 w2 ⟨rfl, h2, hk, h3⟩
          have H3 := As.mk (And.intro h2 (And.intro (HK.out.trans hk) h3))
          clear h2 hk h3
          go_wp2_with fail
          go_ret
          rw [HE.out]
          exact ⟨rfl, H3.out.1, H3.out.2.1, H3.out.2.2⟩
        · by_cases hx5 : (r.kind == 5) = true
          · have HE := As.mk (show applyE s r = commitE s r by unfold applyE; rw [if_neg hx1]; rw [if_neg hx2]; rw [if_neg hx3]; rw [if_neg hx4]; rw [if_pos hx5])
            have hk1 : (r.kind == 1) = false := by simpa using hx1
            have hk2 : (r.kind == 2) = false := by simpa using hx2
            have hk3 : (r.kind == 3) = false := by simpa using hx3
            have hk4 : (r.kind == 4) = false := by simpa using hx4
            have hk5 := hx5
            go_wp2_with fail
            refine (commitS_c w0 _ sb s HG.out HO.out HN.out.2 r AI cI AN cN HI.out HIN.out HLE.out.1 HLE.out.2).mono ?_
            rintro e0 w2 ⟨rfl, h2, hk, h3⟩
            have H3 := As.mk (And.intro h2 (And.intro (HK.out.trans hk) h3))
            clear h2 hk h3
            go_wp2_with fail
            go_ret
            rw [HE.out]
            exact ⟨rfl, H3.out.1, H3.out.2.1, H3.out.2.2⟩
          · by_cases hx6 : (r.kind == 6) = true
            · have HE := As.mk (show applyE s r = doneE s r by unfold applyE; rw [if_neg hx1]; rw [if_neg hx2]; rw [if_neg hx3]; rw [if_neg hx4]; rw [if_neg hx5]; rw [if_pos hx6])
              have hk1 : (r.kind == 1) = false := by simpa using hx1
              have hk2 : (r.kind == 2) = false := by simpa using hx2
              have hk3 : (r.kind == 3) = false := by simpa using hx3
              have hk4 : (r.kind == 4) = false := by simpa using hx4
              have hk5 : (r.kind == 5) = false := by simpa using hx5
              have hk6 := hx6
              go_wp2_with fail
              refine (done_c w0 _ sb s HG.out HO.out HN.out.1 HC.out r AI cI AN cN ).mono ?_
              rintro e0 w2 ⟨rfl, h2, hk, h3⟩
              have H3 := As.mk (And.intro h2 (And.intro (HK.out.trans hk) h3))
              clear h2 hk h3
              go_wp2_with fail
              go_ret
              rw [HE.out]
              exact ⟨rfl, H3.out.1, H3.out.2.1, H3.out.2.2⟩
            · by_cases hx7 : (r.kind == 7) = true
              · have HE := As.mk (show applyE s r = endE s r by unfold applyE; rw [if_neg hx1]; rw [if_neg hx2]; rw [if_neg hx3]; rw [if_neg hx4]; rw [if_neg hx5]; rw [if_neg hx6]; rw [if_pos hx7])
                have hk1 : (r.kind == 1) = false := by simpa using hx1
                have hk2 : (r.kind == 2) = false := by simpa using hx2
                have hk3 : (r.kind == 3) = false := by simpa using hx3
                have hk4 : (r.kind == 4) = false := by simpa using hx4
                have hk5 : (r.kind == 5) = false := by simpa using hx5
                have hk6 : (r.kind == 6) = false := by simpa using hx6
                have hk7 := hx7
                go_wp2_with fail
                refine (endS_c w0 _ sb s HG.out HO.out  r AI cI AN cN ).mono ?_
                rintro e0 w2 ⟨rfl, h2, hk, h3⟩
                have H3 := As.mk (And.intro h2 (And.intro (HK.out.trans hk) h3))
                clear h2 hk h3
                go_wp2_with fail
                go_ret
                rw [HE.out]
                exact ⟨rfl, H3.out.1, H3.out.2.1, H3.out.2.2⟩
              · by_cases hx8 : (r.kind == 8) = true
                · have HE := As.mk (show applyE s r = outE s r by unfold applyE; rw [if_neg hx1]; rw [if_neg hx2]; rw [if_neg hx3]; rw [if_neg hx4]; rw [if_neg hx5]; rw [if_neg hx6]; rw [if_neg hx7]; rw [if_pos hx8])
                  have hk1 : (r.kind == 1) = false := by simpa using hx1
                  have hk2 : (r.kind == 2) = false := by simpa using hx2
                  have hk3 : (r.kind == 3) = false := by simpa using hx3
                  have hk4 : (r.kind == 4) = false := by simpa using hx4
                  have hk5 : (r.kind == 5) = false := by simpa using hx5
                  have hk6 : (r.kind == 6) = false := by simpa using hx6
                  have hk7 : (r.kind == 7) = false := by simpa using hx7
                  have hk8 := hx8
                  go_wp2_with fail
                  refine (outS_c w0 _ sb s HG.out HO.out  r AI cI AN cN ).mono ?_
                  rintro e0 w2 ⟨rfl, h2, hk, h3⟩
                  have H3 := As.mk (And.intro h2 (And.intro (HK.out.trans hk) h3))
                  clear h2 hk h3
                  go_wp2_with fail
                  go_ret
                  rw [HE.out]
                  exact ⟨rfl, H3.out.1, H3.out.2.1, H3.out.2.2⟩
                · by_cases hx9 : (r.kind == 9) = true
                  · have HE := As.mk (show applyE s r = inE s r by unfold applyE; rw [if_neg hx1]; rw [if_neg hx2]; rw [if_neg hx3]; rw [if_neg hx4]; rw [if_neg hx5]; rw [if_neg hx6]; rw [if_neg hx7]; rw [if_neg hx8]; rw [if_pos hx9])
                    have hk1 : (r.kind == 1) = false := by simpa using hx1
                    have hk2 : (r.kind == 2) = false := by simpa using hx2
                    have hk3 : (r.kind == 3) = false := by simpa using hx3
                    have hk4 : (r.kind == 4) = false := by simpa using hx4
                    have hk5 : (r.kind == 5) = false := by simpa using hx5
                    have hk6 : (r.kind == 6) = false := by simpa using hx6
                    have hk7 : (r.kind == 7) = false := by simpa using hx7
                    have hk8 : (r.kind == 8) = false := by simpa using hx8
                    have hk9 := hx9
                    go_wp2_with fail
                    refine (inS_c w0 _ sb s HG.out HO.out  r AI cI AN cN ).mono ?_
                    rintro e0 w2 ⟨rfl, h2, hk, h3⟩
                    have H3 := As.mk (And.intro h2 (And.intro (HK.out.trans hk) h3))
                    clear h2 hk h3
                    go_wp2_with fail
                    go_ret
                    rw [HE.out]
                    exact ⟨rfl, H3.out.1, H3.out.2.1, H3.out.2.2⟩
                  · by_cases hx10 : (r.kind == 10) = true
                    · have HE := As.mk (show applyE s r = goneE s r by unfold applyE; rw [if_neg hx1]; rw [if_neg hx2]; rw [if_neg hx3]; rw [if_neg hx4]; rw [if_neg hx5]; rw [if_neg hx6]; rw [if_neg hx7]; rw [if_neg hx8]; rw [if_neg hx9]; rw [if_pos hx10])
                      have hk1 : (r.kind == 1) = false := by simpa using hx1
                      have hk2 : (r.kind == 2) = false := by simpa using hx2
                      have hk3 : (r.kind == 3) = false := by simpa using hx3
                      have hk4 : (r.kind == 4) = false := by simpa using hx4
                      have hk5 : (r.kind == 5) = false := by simpa using hx5
                      have hk6 : (r.kind == 6) = false := by simpa using hx6
                      have hk7 : (r.kind == 7) = false := by simpa using hx7
                      have hk8 : (r.kind == 8) = false := by simpa using hx8
                      have hk9 : (r.kind == 9) = false := by simpa using hx9
                      have hk10 := hx10
                      go_wp2_with fail
                      refine (goneS_c w0 _ sb s HG.out HO.out  r AI cI AN cN ).mono ?_
                      rintro e0 w2 ⟨rfl, h2, hk, h3⟩
                      have H3 := As.mk (And.intro h2 (And.intro (HK.out.trans hk) h3))
                      clear h2 hk h3
                      go_wp2_with fail
                      go_ret
                      rw [HE.out]
                      exact ⟨rfl, H3.out.1, H3.out.2.1, H3.out.2.2⟩
                    · by_cases hx11 : (r.kind == 11) = true
                      · have HE := As.mk (show applyE s r = pastE s r by unfold applyE; rw [if_neg hx1]; rw [if_neg hx2]; rw [if_neg hx3]; rw [if_neg hx4]; rw [if_neg hx5]; rw [if_neg hx6]; rw [if_neg hx7]; rw [if_neg hx8]; rw [if_neg hx9]; rw [if_neg hx10]; rw [if_pos hx11])
                        have hk1 : (r.kind == 1) = false := by simpa using hx1
                        have hk2 : (r.kind == 2) = false := by simpa using hx2
                        have hk3 : (r.kind == 3) = false := by simpa using hx3
                        have hk4 : (r.kind == 4) = false := by simpa using hx4
                        have hk5 : (r.kind == 5) = false := by simpa using hx5
                        have hk6 : (r.kind == 6) = false := by simpa using hx6
                        have hk7 : (r.kind == 7) = false := by simpa using hx7
                        have hk8 : (r.kind == 8) = false := by simpa using hx8
                        have hk9 : (r.kind == 9) = false := by simpa using hx9
                        have hk10 : (r.kind == 10) = false := by simpa using hx10
                        have hk11 := hx11
                        go_wp2_with fail
                        refine (past_c w0 _ sb s HG.out HO.out HN.out.1 r AI cI AN cN ).mono ?_
                        rintro e0 w2 ⟨rfl, h2, hk, h3⟩
                        have H3 := As.mk (And.intro h2 (And.intro (HK.out.trans hk) h3))
                        clear h2 hk h3
                        go_wp2_with fail
                        go_ret
                        rw [HE.out]
                        exact ⟨rfl, H3.out.1, H3.out.2.1, H3.out.2.2⟩
                      · have HE := As.mk (show applyE s r = (0, s) by unfold applyE; rw [if_neg hx1]; rw [if_neg hx2]; rw [if_neg hx3]; rw [if_neg hx4]; rw [if_neg hx5]; rw [if_neg hx6]; rw [if_neg hx7]; rw [if_neg hx8]; rw [if_neg hx9]; rw [if_neg hx10]; rw [if_neg hx11])
                        have hk1 : (r.kind == 1) = false := by simpa using hx1
                        have hk2 : (r.kind == 2) = false := by simpa using hx2
                        have hk3 : (r.kind == 3) = false := by simpa using hx3
                        have hk4 : (r.kind == 4) = false := by simpa using hx4
                        have hk5 : (r.kind == 5) = false := by simpa using hx5
                        have hk6 : (r.kind == 6) = false := by simpa using hx6
                        have hk7 : (r.kind == 7) = false := by simpa using hx7
                        have hk8 : (r.kind == 8) = false := by simpa using hx8
                        have hk9 : (r.kind == 9) = false := by simpa using hx9
                        have hk10 : (r.kind == 10) = false := by simpa using hx10
                        have hk11 : (r.kind == 11) = false := by simpa using hx11
                        go_wp2_with fail
                        go_ret
                        exact MutPost.of HE.out HG.out HK.out HO.out
end Go.Proofs.Ytdmkijdbldcdiaa
