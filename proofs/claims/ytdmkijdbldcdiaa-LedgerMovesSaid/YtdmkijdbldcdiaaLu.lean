/- Past, done, commit and end: what records do to a state of the call's own. -/
import Derived.Test.YtdmkijdbldcdiaaLt
namespace Go.Proofs.Ytdmkijdbldcdiaa
open Go.RowKit
set_option linter.unusedVariables false
set_option linter.unusedSimpArgs false
set_option maxRecDepth 100000

/-- A record. -/
structure PRec where
  kind : Int
  tid : PTid
  items : List PIt
  nodes : List Int
  node : Int
  count : Int
  num : Int
  cell : Int
  st : Int
  hop : Int
  ver : Int
  val : Int
  yes : Bool
def reCells (r : PRec) (AI : Option Addr) (cI : Nat) (AN : Option Addr) (cN : Nat) : Array Value := #[.int .i64 r.kind, .int .i64 r.tid.n, .int .i64 r.tid.e, .int .i64 r.tid.s, .slice AI r.items.length cI, .slice AN r.nodes.length cN, .int .i64 r.node, .int .i64 r.count, .int .i64 r.num, .int .i64 r.cell, .int .i64 r.st, .int .i64 r.hop, .int .i64 r.ver, .int .i64 r.val, .bool r.yes]
def pastE (s : PSt) (r : PRec) : Int × PSt := if knownB s r.tid = true then (9, s) else if freshE s r.tid = 0 then (0, decS s r.tid r.yes) else (freshE s r.tid, s)
theorem MutPost.of {w0 w w' : World} {sb : Nat} {q : Int × PSt} {a : Int} {s' : PSt} (h1 : q = (a, s')) (h2 : w0.grownBy w' none) (hk : Keeps sb w w') (h3 : StO w' w0.heap.size sb s') : MutPost w0 w sb (.int .i64 q.1) q.2 (.returned (.int .i64 a)) w' := by
  subst h1
  exact ⟨rfl, h2, hk, h3⟩
set_option maxHeartbeats 3200000 in
theorem past_c (w0 w : World) (sb : Nat) (s : PSt) (hg : w0.grownBy w none) (hs : StO w w0.heap.size sb s) (hn : s.prepared.length + s.decided.length ≤ 1000) (r : PRec) (AI : Option Addr) (cI : Nat) (AN : Option Addr) (cN : Nat) :
    Calls Try.prog 60 #[.pointer (some ⟨sb, 0, none⟩), .agg (reCells r AI cI AN cN)] w (MutPost w0 w sb (.int .i64 (pastE s r).1) (pastE s r).2) := by
  have HGA := gr_alloc (gr_refl w none) (.cells (reCells r AI cI AN cN) 43)
  have HG := As.mk (gr_then hg HGA (.inl rfl))
  have HO := As.mk (hs.grown HGA)
  have HK := As.mk (Keeps.none (sb := sb) HGA)
  have HT := As.mk (Blk.new w 43 (reCells r AI cI AN cN))
  have HN := As.mk hn
  have hd := hs.grown HGA
  clear hs hg HGA hn
  unfold reCells at *
  go_enter Try.func60, Try.ntmps60
  go_wp2_with fail
  generalize w.alloc (.cells #[.int .i64 r.kind, .int .i64 r.tid.n, .int .i64 r.tid.e, .int .i64 r.tid.s, .slice AI r.items.length cI, .slice AN r.nodes.length cN, .int .i64 r.node, .int .i64 r.count, .int .i64 r.num, .int .i64 r.cell, .int .i64 r.st, .int .i64 r.hop, .int .i64 r.ver, .int .i64 r.val, .bool r.yes] 43) = W at *
  generalize w.heap.size = gt at *
  obtain ⟨vP, vQ, vD, vC, hB, h⟩ := hd.toP
  obtain ⟨A1, c1, rfl⟩ := h.pl.len
  obtain ⟨A2, c2, rfl⟩ := h.pr.len
  obtain ⟨A3, c3, rfl⟩ := h.de.len
  obtain ⟨A4, c4, rfl⟩ := h.cm.len
  have HB := As.mk hB
  have HR := As.mk h
  unfold stCells at HB
  clear hd hB h
  refine wp_region_noPanic ?_
  refine wp_region_held_drew (S := fun w' => Blk w' sb 32 #[.int .i64 s.node, .int .i64 s.nodes, .int .i64 s.cells, .int .i64 s.epoch, .slice A1 s.places.length c1, .slice A2 s.prepared.length c2, .slice A3 s.decided.length c3, .slice A4 s.commits.length c4] ∧ w'.cell? ⟨gt, 1, none⟩ = some (.int .i64 r.tid.n) ∧ w'.cell? ⟨gt, 2, none⟩ = some (.int .i64 r.tid.e) ∧ w'.cell? ⟨gt, 3, none⟩ = some (.int .i64 r.tid.s)) (by kernel_rfl) (⟨HB.out.drew, HT.out.cell 1, HT.out.cell 2, HT.out.cell 3⟩) (fun hS => ?_)
  refine wpAnyH_take (i := 0) (v := ?va1) rfl (by kernel_rfl) (by kernel_rfl) (by kernel_rfl) (fun _ _ _ h => h) (Or.inl ⟨by rfl, ?ya1⟩) hS ?ra1
  case ya1 => (intro w0 _; go_simp; try with_reducible rfl)
  try simp only [yA, yB, yC, Act.put, yD, yE, yF]
  refine wpAnyH_take (i := 1) (v := ?va2) rfl (by kernel_rfl) (by kernel_rfl) (by kernel_rfl) (fun _ _ _ h => h) (Or.inl ⟨by rfl, ?ya2⟩) hS ?ra2
  case ya2 => (intro w0 _; go_simp; try with_reducible rfl)
  try simp only [yA, yB, yC, Act.put, yD, yE, yF]
  refine wpAnyH_take (i := 2) (v := ?va3) rfl (by kernel_rfl) (by kernel_rfl) (by kernel_rfl) (fun _ _ _ h => h) (Or.inl ⟨by rfl, ?ya3⟩) hS ?ra3
  case ya3 => (intro w0 hS0; (try simp only [] at hS0); obtain ⟨hS0_0, hS0_1, hS0_2, hS0_3⟩ := hS0; have d0 := hS0_0.cell 0; have d1 := hS0_0.cell 1; have d2 := hS0_0.cell 2; have d3 := hS0_0.cell 3; have d4 := hS0_0.cell 4; have d5 := hS0_0.cell 5; have d6 := hS0_0.cell 6; have d7 := hS0_0.cell 7; simp only [List.getElem?_toArray, List.getElem?_cons_zero, List.getElem?_cons_succ] at d0 d1 d2 d3 d4 d5 d6 d7; go_simp; try with_reducible rfl)
  try simp only [yA, yB, yC, Act.put, yD, yE, yF]
  refine wpAnyH_take (i := 3) (v := ?va4) rfl (by kernel_rfl) (by kernel_rfl) (by kernel_rfl) (fun _ _ _ h => h) (Or.inl ⟨by rfl, ?ya4⟩) hS ?ra4
  case ya4 => (intro w0 _; go_simp; try with_reducible rfl)
  try simp only [yA, yB, yC, Act.put, yD, yE, yF]
  refine wpAnyH_take (i := 4) (v := ?va5) rfl (by kernel_rfl) (by kernel_rfl) (by kernel_rfl) (fun _ _ _ h => h) (Or.inl ⟨by rfl, ?ya5⟩) hS ?ra5
  case ya5 => (intro w0 hS0; (try simp only [] at hS0); obtain ⟨hS0_0, hS0_1, hS0_2, hS0_3⟩ := hS0; go_simp; try with_reducible rfl)
  try simp only [yA, yB, yC, Act.put, yD, yE, yF]
  refine wpAnyH_ready (rs := [5]) (by kernel_rfl) (by simp) (AllReadyH.cons (i := 5) rfl (fun K hK => ?_) AllReadyH.nil)
  go_simp
  refine (known_c _ s _ _ _ _ (HR.out.grown (gr_drew (gr_refl _ none))) r.tid _ rfl).mono ?_
  rintro e0 w1 ⟨rfl, hg1⟩
  replace HB := As.mk (HB.out.drew.grown hg1 (by simp))
  replace HT := As.mk (HT.out.drew.grown hg1 (by simp))
  replace HO := As.mk (HO.out.drew.grown hg1)
  replace HG := As.mk (gr_then (gr_drew HG.out) hg1 (.inl rfl))
  replace HK := As.mk (HK.out.trans (.none (gr_then (gr_drew (gr_refl _ none)) hg1 (.inl rfl))))
  clear hg1
  go_simp
  refine hK.out _ _ (⟨HB.out, HT.out.cell 1, HT.out.cell 2, HT.out.cell 3⟩) (fun hS => ?_)
  clear hK K
  try simp only [yA, yB, yC, Act.put, yD, yE, yF]
  refine wpAnyH_done (by kernel_rfl) ?_ _
  refine NoPanic.normal ?_
  try simp only [Exit.then]
  clear hS HB HR
  cases hk : knownB s r.tid
  · have HE0 := As.mk (show pastE s r = if freshE s r.tid = 0 then (0, decS s r.tid r.yes) else (freshE s r.tid, s) by unfold pastE; rw [hk]; rfl)
    clear hk
    obtain ⟨t0, t1, t2, t3, t4, t5, t6, t7, t8, t9, t10, t11, t12, t13, t14⟩ := (HT.out).c15
    go_wp2_with fail
    clear t0 t1 t2 t3 t4 t5 t6 t7 t8 t9 t10 t11 t12 t13 t14
    refine (fresh_c _ sb s HO.out.toP (by have := HN.out; omega) r.tid _ rfl).mono ?_
    rintro e0 w2 ⟨rfl, hg1⟩
    replace HT := As.mk (HT.out.grown hg1 (by simp))
    replace HO := As.mk (HO.out.grown hg1)
    replace HG := As.mk (gr_then HG.out hg1 (.inl rfl))
    replace HK := As.mk (HK.out.trans (.none hg1))
    clear hg1
    by_cases hf : freshE s r.tid = 0
    · have HE := As.mk (HE0.out.trans (if_pos hf))
      rw [hf]
      clear hf HE0
      obtain ⟨t0, t1, t2, t3, t4, t5, t6, t7, t8, t9, t10, t11, t12, t13, t14⟩ := (HT.out).c15
      go_wp2_with fail
      clear t0 t1 t2 t3 t4 t5 t6 t7 t8 t9 t10 t11 t12 t13 t14
      refine (decide_c w0 _ sb s HG.out HO.out (by have := HN.out; omega) r.tid r.yes).mono ?_
      rintro e0 w3 ⟨rfl, h2, hk, h3⟩
      have H3 := As.mk (And.intro h2 (And.intro (HK.out.trans hk) h3))
      clear h2 hk h3
      go_wp2_with fail
      go_ret
      exact MutPost.of HE.out H3.out.1 H3.out.2.1 H3.out.2.2
    · have HE := As.mk (HE0.out.trans (if_neg hf))
      clear HE0
      go_wp2_with fail
      go_ret
      exact MutPost.of HE.out HG.out HK.out HO.out
  · have HE := As.mk (show pastE s r = (9, s) by unfold pastE; rw [if_pos hk])
    clear hk
    go_wp2_with fail
    go_ret
    exact MutPost.of HE.out HG.out HK.out HO.out
end Go.Proofs.Ytdmkijdbldcdiaa
