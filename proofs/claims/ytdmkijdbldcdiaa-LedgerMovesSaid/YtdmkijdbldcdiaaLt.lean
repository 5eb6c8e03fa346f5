/- Decide, fresh and write: methods on a state of the call's own. -/
import Derived.Test.YtdmkijdbldcdiaaLq
import Derived.Test.YtdmkijdbldcdiaaNrh
namespace Go.Proofs.Ytdmkijdbldcdiaa
open Go.RowKit
set_option linter.unusedVariables false
set_option linter.unusedSimpArgs false
set_option maxRecDepth 100000

def PPl.setF (p : PPl) (i : Nat) (v : Int) : PPl := match i with
  | 0 => { p with st := v }
  | 1 => { p with hop := v }
  | 2 => { p with to_ := v }
  | 3 => { p with ver := v }
  | _ => { p with val := v }
theorem plCells_setF (p : PPl) (i : Nat) (hi : i < 5) (v : Int) : plCells (p.setF i v) = (plCells p).set i (.int .i64 v) := by
  match i, hi with
  | 0, _ => rfl
  | 1, _ => rfl
  | 2, _ => rfl
  | 3, _ => rfl
  | 4, _ => rfl
theorem flat_set {α : Type} (f : α → List Value) (s : Nat) (hf : ∀ x, (f x).length = s) (l : List α) (j : Nat) (hj : j < l.length) (i : Nat) (hi : i < s) (u : Value) (y : α) (hy : f y = (f (l[j]'hj)).set i u) :
    (l.flatMap f).set (j * s + i) u = (l.set j y).flatMap f := by
  induction l generalizing j with
  | nil => simp at hj
  | cons x l ih =>
    cases j with
    | zero =>
      simp only [List.set_cons_zero, List.flatMap_cons, Nat.zero_mul, Nat.zero_add]
      simp only [List.getElem_cons_zero] at hy
      rw [List.set_append_left _ _ (by rw [hf]; exact hi), hy]
    | succ j =>
      simp only [List.length_cons] at hj
      have := ih j (by omega) hy
      simp only [List.set_cons_succ, List.flatMap_cons]
      rw [List.set_append_right _ _ (by rw [hf, Nat.succ_mul]; omega), hf, show (j + 1) * s + i - s = j * s + i by rw [Nat.succ_mul]; omega, this]
section
variable {w w' : World} {B sb : Nat} {s : PSt} {vP vQ vD vC : Value} {qs : List QPr} {cs : List QCm}
theorem OwnSt.cellP {g n cap : Nat} (h : OwnSt w B sb s (.slice (some ⟨g, 0, none⟩) n cap) vQ vD vC qs cs) (j : Nat) (hj : j < s.places.length) (i : Nat) (hi : i < 5) (v : Int) :
    OwnSt (w.setCell ⟨g, j * 5 + i, none⟩ (.int .i64 v)) B sb { s with places := s.places.set j ((s.places[j]'hj).setF i v) } (.slice (some ⟨g, 0, none⟩) n cap) vQ vD vC qs cs := by
  obtain ⟨A1, c1, e⟩ := own_shape h.pl
  injection e with e1 e2 e3
  subst e1 e2 e3
  have h1 := own_set h.pl (j * 5 + i) (by omega) (.int .i64 v)
  rw [flat_set plCells 5 (fun _ => rfl) _ j hj i hi _ _ (plCells_setF _ i hi v)] at h1
  exact h.setP (w' := w.setCell ⟨g, j * 5 + i, none⟩ (.int .i64 v)) (gr_set (gr_refl w _) (a := ⟨g, j * 5 + i, none⟩) (.inl rfl) _) (ps := s.places.set j ((s.places[j]'hj).setF i v)) (List.length_set ..) (by rw [List.length_set]; exact h1)
theorem OwnSt.atP {g n cap : Nat} (h : OwnSt w B sb s (.slice (some ⟨g, 0, none⟩) n cap) vQ vD vC qs cs) (j : Nat) (p : PPl) (hj : s.places[j]? = some p) (i : Nat) (u : Value) (hu : (plCells p)[i]? = some u) :
    w.cell? ⟨g, j * 5 + i, none⟩ = some u ∧ w.frozen? ⟨g, j * 5 + i, none⟩ = false := by
  obtain ⟨A1, c1, e⟩ := own_shape h.pl
  injection e with e1 e2 e3
  subst e1 e2 e3
  exact ⟨own_cellAt h.pl (j * 5 + i) _ (flat_at plCells 5 (fun _ => rfl) s.places j p hj i u hu), own_freeAt h.pl _⟩
end
theorem own_lo {w : World} {base : Nat} {e : TypeId} {size n : Nat} {v : Value} {xs : List Value} (h : w.ownsRow base e size v n xs) : ∀ k, v.ownBlock = some k → base ≤ k := by
  intro k hk
  rcases h.2 with ⟨rfl, _⟩ | ⟨g, cap, cur, rfl, hb, _⟩
  · cases hk
  · injection hk with hk
    subst hk
    exact hb
def decS (s : PSt) (t : PTid) (y : Bool) : PSt := { s with decided := insT (fun x : PDe => x.tid) s.decided ⟨t, y⟩ }
theorem insT_len {α : Type} (f : α → PTid) (l : List α) (d : α) : (insT f l d).length = l.length + 1 := by
  have := posT_le f l (f d)
  unfold insT
  rw [List.length_append, List.length_cons, List.length_take, List.length_drop]
  omega
set_option maxHeartbeats 3200000 in
theorem decide_c (w0 w : World) (sb : Nat) (s : PSt) (hg : w0.grownBy w none) (hs : StO w w0.heap.size sb s) (hl : s.decided.length ≤ 1000) (t : PTid) (yes : Bool) :
    Calls Try.prog 81 #[.pointer (some ⟨sb, 0, none⟩), .agg #[.int .i64 t.n, .int .i64 t.e, .int .i64 t.s], .bool yes] w (MutPost w0 w sb (.tuple #[]) (decS s t yes)) := by
  obtain ⟨vP, vQ, vD, vC, qs, cs, hO⟩ := hs
  have hlo := hO.lo
  have HGA := gr_alloc (gr_refl w none) (.cells #[.int .i64 t.n, .int .i64 t.e, .int .i64 t.s] 39)
  have HO := As.mk (hO.grown HGA)
  have HG := As.mk (gr_then hg HGA (.inl rfl))
  have HK := As.mk (Keeps.none (sb := sb) HGA)
  have HT := As.mk (Blk.new w 39 #[.int .i64 t.n, .int .i64 t.e, .int .i64 t.s])
  have HL := As.mk hl
  clear hg hO hl HGA
  go_enter Try.func81, Try.ntmps81
  go_wp2_with fail
  generalize w.alloc (.cells #[.int .i64 t.n, .int .i64 t.e, .int .i64 t.s] 39) = W at *
  generalize w.heap.size = gt at *
  refine wp_region_noPanic ?_
  refine wp_region_D (S := fun w' => Blk w' sb 32 (stCells s vP vQ vD vC) ∧ Blk w' gt 39 #[.int .i64 t.n, .int .i64 t.e, .int .i64 t.s]) 11 (by kernel_rfl) (⟨HO.out.blk.drew, HT.out.drew⟩) (fun hS => ?_)
  refine wpAnyD_take (i := 0) (v := ?va1) rfl rfl (by kernel_rfl) (by kernel_rfl) (by kernel_rfl) (by kernel_rfl) (fun _ _ _ h => h) (Or.inl ⟨by rfl, ?ya1⟩) hS ?ra1
  case ya1 => (intro w0 _; go_simp; try with_reducible rfl)
  try simp only [yA, yB, yC, Act.put, yD, yE, yF]
  refine wpAnyD_take (i := 1) (v := ?va2) rfl rfl (by kernel_rfl) (by kernel_rfl) (by kernel_rfl) (by kernel_rfl) (fun _ _ _ h => h) (Or.inl ⟨by rfl, ?ya2⟩) hS ?ra2
  case ya2 => (intro w0 _; go_simp; try with_reducible rfl)
  try simp only [yA, yB, yC, Act.put, yD, yE, yF]
  refine wpAnyD_take (i := 2) (v := ?va3) rfl rfl (by kernel_rfl) (by kernel_rfl) (by kernel_rfl) (by kernel_rfl) (fun _ _ _ h => h) (Or.inl ⟨by rfl, ?ya3⟩) hS ?ra3
  case ya3 => (intro w0 _; go_simp; try with_reducible rfl)
  try simp only [yA, yB, yC, Act.put, yD, yE, yF]
  refine wpAnyD_take (i := 3) (v := ?va4) rfl rfl (by kernel_rfl) (by kernel_rfl) (by kernel_rfl) (by kernel_rfl) (fun _ _ _ h => h) (Or.inl ⟨by rfl, ?ya4⟩) hS ?ra4
  case ya4 => (intro w0 _; go_simp; try with_reducible rfl)
  try simp only [yA, yB, yC, Act.put, yD, yE, yF]
  refine wpAnyD_take (i := 4) (v := ?va5) rfl rfl (by kernel_rfl) (by kernel_rfl) (by kernel_rfl) (by kernel_rfl) (fun _ _ _ h => h) (Or.inl ⟨by rfl, ?ya5⟩) hS ?ra5
  case ya5 => (intro w0 hS0; (try simp only [] at hS0); obtain ⟨hS0_0, hS0_1⟩ := hS0; have d6 := hS0_0.cell 6; simp only [stCells, List.getElem?_toArray, List.getElem?_cons_zero, List.getElem?_cons_succ] at d6; go_simp; try with_reducible rfl)
  try simp only [yA, yB, yC, Act.put, yD, yE, yF]
  refine wpAnyD_take (i := 5) (v := ?va6) rfl rfl (by kernel_rfl) (by kernel_rfl) (by kernel_rfl) (by kernel_rfl) (fun _ _ _ h => h) (Or.inl ⟨by rfl, ?ya6⟩) hS ?ra6
  case ya6 => (intro w0 hS0; (try simp only [] at hS0); obtain ⟨hS0_0, hS0_1⟩ := hS0; have d0 := hS0_1.cell 0; have d1 := hS0_1.cell 1; have d2 := hS0_1.cell 2; simp only [List.getElem?_toArray, List.getElem?_cons_zero, List.getElem?_cons_succ] at d0 d1 d2; go_simp; try with_reducible rfl)
  try simp only [yA, yB, yC, Act.put, yD, yE, yF]
  refine wpAnyD_take (i := 6) (v := ?va7) rfl rfl (by kernel_rfl) (by kernel_rfl) (by kernel_rfl) (by kernel_rfl) (fun _ _ _ h => h) (Or.inl ⟨by rfl, ?ya7⟩) hS ?ra7
  case ya7 => (intro w0 _; go_simp; try with_reducible rfl)
  try simp only [yA, yB, yC, Act.put, yD, yE, yF]
  refine wpAnyD_take (i := 7) (v := ?va8) rfl rfl (by kernel_rfl) (by kernel_rfl) (by kernel_rfl) (by kernel_rfl) (fun _ _ _ h => h) (Or.inl ⟨by rfl, ?ya8⟩) hS ?ra8
  case ya8 => (intro w0 _; go_simp; try with_reducible rfl)
  try simp only [yA, yB, yC, Act.put, yD, yE, yF]
  refine wpAnyD_ready (rs := [8]) (by kernel_rfl) (by simp) (AllReadyD.cons (i := 8) rfl (fun K hK => ?_) AllReadyD.nil)
  go_simp
  refine (linsertDe_c _ w0.heap.size (by have := HG.out.size; simpa using this) vD s.decided HO.out.drew.de HL.out ⟨t, yes⟩).mono ?_
  rintro e0 w1 ⟨v', rfl, h1, h2, h3⟩
  obtain ⟨Av, cv, rfl⟩ := own_shape h1
  have hvn := own_ne HO.out.drew.blk HO.out.drew.de (by decide)
  have HB1 := As.mk (HO.out.drew.blk.grown h2 hvn)
  have HT1 := As.mk (HT.out.drew.grown h2 (own_ne HT.out.drew HO.out.drew.de (by decide)))
  have HO1 := As.mk (HO.out.drew.setD h2 (ds' := insT (fun x : PDe => x.tid) s.decided ⟨t, yes⟩) (by rw [insT_len]; exact h1))
  have HG1 := As.mk (gr_set (gr_then (gr_drew HG.out) h2 (.inr (.inr (own_lo HO.out.de)))) (a := ⟨sb, 6, none⟩) (.inr hlo) (.slice Av (s.decided.length + 1) cv))
  have HK1 := As.mk (((HK.out.trans (.none (gr_drew (gr_refl _ none)))).trans (.own HO.out.drew.de (by decide) h2)).trans (.set HB1.out (by decide) 6 (.slice Av (s.decided.length + 1) cv)))
  clear h1 h2 h3 hvn
  go_simp
  refine hK.out _ _ (fun _ => ⟨HB1.out, HT1.out⟩) (fun hS' => ?_)
  replace hS := hS' (by decide)
  clear hS'
  clear hK K
  try simp only [yA, yB, yC, Act.put, yD, yE, yF]
  refine wpAnyD_ready (rs := [9]) (by kernel_rfl) (by simp) (AllReadyD.cons (i := 9) rfl (fun K hK => ?_) AllReadyD.nil)
  go_simp
  refine hK.out _ _ (fun _ => hS) (fun hS' => ?_)
  replace hS := hS' (by decide)
  clear hS'
  clear hK K
  try simp only [yA, yB, yC, Act.put, yD, yE, yF]
  refine wpAnyD_take (i := 10) (v := ?va11) rfl rfl (by kernel_rfl) (by kernel_rfl) (by kernel_rfl) (by kernel_rfl) (fun _ _ _ h => h) (Or.inl ⟨by rfl, ?ya11⟩) hS ?ra11
  case ya11 => (intro w0 _; go_simp; try with_reducible rfl)
  try simp only [yA, yB, yC, Act.put, yD, yE, yF]
  refine wpAnyD_ready (rs := [11]) (by kernel_rfl) (by simp) (AllReadyD.cons (i := 11) rfl (fun K hK => ?_) AllReadyD.nil)
  have q6 := HB1.out.cell 6
  have f6 := HB1.out.free 6
  simp only [stCells, List.getElem?_toArray, List.getElem?_cons_zero, List.getElem?_cons_succ] at q6
  go_simp
  refine hK.out _ _ (fun h => absurd rfl h) (fun _ => ?_)
  clear hK K
  try simp only [yA, yB, yC, Act.put, yD, yE, yF]
  refine wpAnyD_done (by kernel_rfl) ?_ _
  refine NoPanic.normal ?_
  try simp only [Exit.then]
  go_wp2_with fail
  first | go_end0 | go_ret
  exact ⟨rfl, HG1.out, HK1.out, _, _, _, _, _, _, HO1.out⟩
def freshE (s : PSt) (t : PTid) : Int := if s.nodes < t.n then 1 else if roomB s = true then 0 else 6
set_option maxHeartbeats 1600000 in
theorem fresh_c (w : World) (sb : Nat) (s : PSt) (hs : StP w sb s) (hn : s.prepared.length + s.decided.length ≤ 100000) (t : PTid) (q : Int) (hq : freshE s t = q) :
    Calls Try.prog 82 #[.pointer (some ⟨sb, 0, none⟩), .agg #[.int .i64 t.n, .int .i64 t.e, .int .i64 t.s]] w fun e w' => e = .returned (.int .i64 q) ∧ w.grownBy w' none := by
  subst hq
  obtain ⟨vP, vQ, vD, vC, hB, h⟩ := hs.h
  have HGA := gr_alloc (gr_refl w none) (.cells #[.int .i64 t.n, .int .i64 t.e, .int .i64 t.s] 39)
  have HG := As.mk HGA
  have HB := As.mk (hB.grown HGA (by simp))
  have HR := As.mk (h.grown HGA)
  have HT := As.mk (Blk.new w 39 #[.int .i64 t.n, .int .i64 t.e, .int .i64 t.s])
  have HN := As.mk hn
  clear hs hB h HGA hn
  go_enter Try.func82, Try.ntmps82
  go_wp2_with fail
  generalize w.alloc (.cells #[.int .i64 t.n, .int .i64 t.e, .int .i64 t.s] 39) = W at *
  generalize w.heap.size = gt at *
  unfold stCells at HB
  refine wp_region_noPanic ?_
  refine wp_region_held_drew (S := fun w' => w'.cell? ⟨sb, 1, none⟩ = some (.int .i64 s.nodes) ∧ w'.cell? ⟨gt, 0, none⟩ = some (.int .i64 t.n)) (by kernel_rfl) (⟨HB.out.cell 1, HT.out.cell 0⟩) (fun hS => ?_)
  refine wpAnyH_take (i := 0) (v := ?va1) rfl (by kernel_rfl) (by kernel_rfl) (by kernel_rfl) (fun _ _ _ h => h) (Or.inl ⟨by rfl, ?ya1⟩) hS ?ra1
  case ya1 => (intro w0 _; go_simp; try with_reducible rfl)
  try simp only [yA, yB, yC, Act.put, yD, yE, yF]
  refine wpAnyH_take (i := 1) (v := ?va2) rfl (by kernel_rfl) (by kernel_rfl) (by kernel_rfl) (fun _ _ _ h => h) (Or.inl ⟨by rfl, ?ya2⟩) hS ?ra2
  case ya2 => (intro w0 hS0; (try simp only [] at hS0); obtain ⟨hS0_0, hS0_1⟩ := hS0; go_simp; try with_reducible rfl)
  try simp only [yA, yB, yC, Act.put, yD, yE, yF]
  refine wpAnyH_take (i := 2) (v := ?va3) rfl (by kernel_rfl) (by kernel_rfl) (by kernel_rfl) (fun _ _ _ h => h) (Or.inl ⟨by rfl, ?ya3⟩) hS ?ra3
  case ya3 => (intro w0 _; go_simp; try with_reducible rfl)
  try simp only [yA, yB, yC, Act.put, yD, yE, yF]
  refine wpAnyH_take (i := 3) (v := ?va4) rfl (by kernel_rfl) (by kernel_rfl) (by kernel_rfl) (fun _ _ _ h => h) (Or.inl ⟨by rfl, ?ya4⟩) hS ?ra4
  case ya4 => (intro w0 _; go_simp; try with_reducible rfl)
  try simp only [yA, yB, yC, Act.put, yD, yE, yF]
  refine wpAnyH_take (i := 4) (v := ?va5) rfl (by kernel_rfl) (by kernel_rfl) (by kernel_rfl) (fun _ _ _ h => h) (Or.inl ⟨by rfl, ?ya5⟩) hS ?ra5
  case ya5 => (intro w0 _; go_simp; try with_reducible rfl)
  try simp only [yA, yB, yC, Act.put, yD, yE, yF]
  refine wpAnyH_take (i := 5) (v := ?va6) rfl (by kernel_rfl) (by kernel_rfl) (by kernel_rfl) (fun _ _ _ h => h) (Or.inl ⟨by rfl, ?ya6⟩) hS ?ra6
  case ya6 => (intro w0 hS0; (try simp only [] at hS0); obtain ⟨hS0_0, hS0_1⟩ := hS0; go_simp; try with_reducible rfl)
  try simp only [yA, yB, yC, Act.put, yD, yE, yF]
  refine wpAnyH_take (i := 6) (v := ?va7) rfl (by kernel_rfl) (by kernel_rfl) (by kernel_rfl) (fun _ _ _ h => h) (Or.inl ⟨by rfl, ?ya7⟩) hS ?ra7
  case ya7 => (intro w0 _; go_simp; try with_reducible rfl)
  try simp only [yA, yB, yC, Act.put, yD, yE, yF]
  refine wpAnyH_take (i := 7) (v := ?va8) rfl (by kernel_rfl) (by kernel_rfl) (by kernel_rfl) (fun _ _ _ h => h) (Or.inl ⟨by rfl, ?ya8⟩) hS ?ra8
  case ya8 => (intro w0 _; go_simp; try with_reducible rfl)
  try simp only [yA, yB, yC, Act.put, yD, yE, yF]
  refine wpAnyH_done (by kernel_rfl) ?_ _
  refine NoPanic.normal ?_
  try simp only [Exit.then]
  clear hS
  replace HB := As.mk HB.out.drew
  replace HR := As.mk (HR.out.grown (gr_drew (gr_refl _ none)))
  replace HG := As.mk (gr_drew HG.out)
  by_cases h1 : s.nodes < t.n
  · have HE := As.mk (show freshE s t = 1 by unfold freshE; rw [if_pos h1])
    go_wp2_with fail
    go_ret
    exact ⟨retI HE.out, HG.out⟩
  · have d0 := HB.out.cell 0
    have d1 := HB.out.cell 1
    have d2 := HB.out.cell 2
    have d3 := HB.out.cell 3
    have d4 := HB.out.cell 4
    have d5 := HB.out.cell 5
    have d6 := HB.out.cell 6
    have d7 := HB.out.cell 7
    simp only [List.getElem?_toArray, List.getElem?_cons_zero, List.getElem?_cons_succ] at d0 d1 d2 d3 d4 d5 d6 d7
    have HE0 := As.mk (show freshE s t = if roomB s = true then 0 else 6 by unfold freshE; rw [if_neg h1])
    go_wp2_with fail
    clear d0 d1 d2 d3 d4 d5 d6 d7
    refine (room_c _ s _ _ _ _ HR.out HN.out _ rfl).mono ?_
    rintro e0 w1 ⟨rfl, g1⟩
    replace HG := As.mk (gr_then HG.out g1 (.inl rfl))
    clear g1
    cases hr : roomB s
    · have HE := As.mk (show freshE s t = 6 by rw [HE0.out, hr]; rfl)
      go_wp2_with fail
      go_ret
      exact ⟨retI HE.out, HG.out⟩
    · have HE := As.mk (show freshE s t = 0 by rw [HE0.out, hr]; rfl)
      go_wp2_with fail
      go_ret
      exact ⟨retI HE.out, HG.out⟩
/-- What an item writes. -/
def updP (ps : List PPl) (x : PIt) : List PPl := if x.wr = true then (match ps[x.c.toNat]? with | some p => ps.set x.c.toNat ((p.setF 3 (IntKind.i64.wrap (p.ver + 1))).setF 4 x.nw) | none => ps) else ps
theorem updP_len (ps : List PPl) (x : PIt) : (updP ps x).length = ps.length := by
  unfold updP
  split
  · split <;> simp
  · rfl
theorem foldP_len (l : List PIt) (ps : List PPl) : (l.foldl updP ps).length = ps.length := by
  induction l generalizing ps with
  | nil => rfl
  | cons x l ih => rw [List.foldl_cons, ih, updP_len]
set_option maxHeartbeats 6400000 in
theorem write_c (w0 w : World) (sb : Nat) (s : PSt) (hg : w0.grownBy w none) (hs : StO w w0.heap.size sb s) (v : Value) (l : List PIt) (hv : TArr ItE 5 66 w v l) (hC : ∀ x ∈ l, 0 ≤ x.c ∧ x.c < s.places.length) :
    Calls Try.prog 79 #[.pointer (some ⟨sb, 0, none⟩), v] w (MutPost w0 w sb (.tuple #[]) { s with places := l.foldl updP s.places }) := by
  obtain ⟨A, c_, rfl⟩ := hv.1.len
  have hl := hv.1.le
  have HG0 := As.mk hg
  have HS0 := As.mk hs
  have HV0 := As.mk hv
  have HC := As.mk hC
  clear hg hs hv hC
  go_enter Try.func79, Try.ntmps79
  go_wp2_with fail
  go_loopw [8] (fun i wr => ∃ k : Nat, k ≤ l.length ∧ i = .int .i64 k ∧ As (w0.grownBy wr none ∧ Keeps sb w wr ∧ StO wr w0.heap.size sb { s with places := (l.take k).foldl updP s.places } ∧ TArr ItE 5 66 wr (.slice A l.length c_) l)) (fun i _ => l.length - (intOf i).toNat)
  case atStart => exact ⟨0, Nat.zero_le _, rfl, ⟨HG0.out, .refl w, HS0.out, HV0.out⟩⟩
  case round =>
    obtain ⟨k, hk, rfl, HL⟩ := hrel
    clear HG0 HS0 HV0
    by_cases hlt : k < l.length
    · have hltI : (k : Int) < (l.length : Int) := by omega
      have hk0 : (0 : Int) ≤ (k : Int) := by omega
      obtain ⟨b, o, cs, rfl, hE, hcs, hcell⟩ := HL.out.2.2.2.1.at_ k l[k] (List.getElem?_eq_getElem hlt)
      obtain rfl := hE
      have c0 : wr.cell? ⟨b, o + k * 5, none⟩ = _ := hcell 0 _ rfl
      have c1 := hcell 1 _ rfl
      have c2 := hcell 2 _ rfl
      have c3 := hcell 3 _ rfl
      have c4 := hcell 4 _ rfl
      have HX := As.mk (HC.out _ (List.getElem_mem hlt))
      have HS := As.mk (show (l.take (k + 1)).foldl updP s.places = updP ((l.take k).foldl updP s.places) (l[k]'hlt) by rw [List.take_succ_eq_append_getElem hlt, List.foldl_append]; rfl)
      have HLN := As.mk (foldP_len (l.take k) s.places)
      clear hcell hcs
      generalize l[k]'hlt = x at *
      generalize (l.take k).foldl updP s.places = ps at *
      obtain ⟨xc, xv, xa, xw, xn⟩ := x
      dsimp only at *
      obtain ⟨j, rfl⟩ : ∃ j : Nat, xc = (j : Int) := ⟨xc.toNat, by have := HX.out.1; omega⟩
      have hga := gr_alloc (gr_refl wr none) (.cells #[.int .i64 (j : Int), .int .i64 xv, .int .i64 xa, .bool xw, .int .i64 xn] 66)
      have HGX := As.mk (gr_then HL.out.1 hga (.inl rfl))
      have HBX := As.mk (Blk.new wr 66 #[.int .i64 (j : Int), .int .i64 xv, .int .i64 xa, .bool xw, .int .i64 xn])
      have HOX := As.mk (HL.out.2.2.1.grown hga)
      have HVX := As.mk (HL.out.2.2.2.step hga (fun _ _ h => h) (fun g e => by cases e))
      have HKX := As.mk (HL.out.2.1.trans (.none hga))
      clear HL hga
      cases xw
      · rw [show updP ps ⟨(j : Int), xv, xa, false, xn⟩ = ps from rfl] at HS
        go_wp2_with fail
        go_roundw
        case measure => simp [intOf]; omega
        case rel => exact ⟨k + 1, by omega, by go_num, ⟨HGX.out, HKX.out, by rw [HS.out]; exact HOX.out, HVX.out⟩⟩
      · go_wp2_with fail
        clear c0 c1 c2 c3 c4
        generalize wr.alloc (.cells #[.int .i64 (j : Int), .int .i64 xv, .int .i64 xa, .bool true, .int .i64 xn] 66) = WX at *
        generalize wr.heap.size = gx at *
        have hj : j < ps.length := by have := HX.out.2; have := HLN.out; omega
        have hj0 : (0 : Int) ≤ (j : Int) := by omega
        have hjI : (j : Int) < (ps.length : Int) := by omega
        have hd := HOX.out
        obtain ⟨vP, vQ, vD, vC, qs, cs, hO⟩ := hd
        obtain ⟨g, cap, rfl⟩ := own_some hO.pl (by simpa using (by omega : 0 < ps.length))
        dsimp only at hO
        have hle : ps.length ≤ cap ∧ cap ≤ 9223372036854775807 := by
          obtain ⟨_, _, _, _, h1, h2⟩ := own_whole hO.pl
          exact ⟨h1, by simp only [maxLen] at h2; omega⟩
        have HP := As.mk (show updP ps ⟨(j : Int), xv, xa, true, xn⟩ = ps.set j (((ps[j]'hj).setF 3 (IntKind.i64.wrap ((ps[j]'hj).ver + 1))).setF 4 xn) by unfold updP; rw [if_pos rfl]; simp only [Int.toNat_natCast]; rw [List.getElem?_eq_getElem hj])
        have p3 := hO.atP j _ (List.getElem?_eq_getElem hj) 3 _ rfl
        have hO1 : OwnSt _ w0.heap.size sb { s with places := ps.set j ((ps[j]'hj).setF 3 (IntKind.i64.wrap ((ps[j]'hj).ver + 1))) } _ _ _ _ _ _ := hO.drew.cellP j hj 3 (by omega) (IntKind.i64.wrap ((ps[j]'hj).ver + 1))
        have p4 := hO.atP j _ (List.getElem?_eq_getElem hj) 4 _ rfl
        have hO2 := hO1.drew.cellP j (by simpa using hj) 4 (by omega) xn
        have hgx : gx ≠ g := fun e => (own_ne HBX.out hO.pl (by decide)) (by rw [e]; rfl)
        have HBY := As.mk (HBX.out.drew.far hgx (.int .i64 (IntKind.i64.wrap ((ps[j]'hj).ver + 1))) (a := ⟨g, j * 5 + 3, none⟩))
        have hlo : w0.heap.size ≤ g := own_lo hO.pl g rfl
        have HGY := As.mk (gr_set (gr_drew (gr_set (gr_drew HGX.out) (a := ⟨g, j * 5 + 3, none⟩) (.inr hlo) (.int .i64 (IntKind.i64.wrap ((ps[j]'hj).ver + 1))))) (a := ⟨g, j * 5 + 4, none⟩) (.inr hlo) (.int .i64 xn))
        have hni : ∀ cs, ¬ Blk WX g 66 cs := own_typed hO.pl (by decide) g rfl
        have HVY := As.mk (HVX.out.step (gr_set (gr_drew (gr_set (gr_drew (gr_refl WX (some g))) (a := ⟨g, j * 5 + 3, none⟩) (.inl rfl) (.int .i64 (IntKind.i64.wrap ((ps[j]'hj).ver + 1))))) (a := ⟨g, j * 5 + 4, none⟩) (.inl rfl) (.int .i64 xn)) (fun _ _ h => h) (fun k e cs => by injection e with e; subst e; exact hni cs))
        have HKY := As.mk (HKX.out.trans (.own hO.pl (by decide) (gr_set (gr_drew (gr_set (gr_drew (gr_refl WX (some g))) (a := ⟨g, j * 5 + 3, none⟩) (.inl rfl) (.int .i64 (IntKind.i64.wrap ((ps[j]'hj).ver + 1))))) (a := ⟨g, j * 5 + 4, none⟩) (.inl rfl) (.int .i64 xn))))
        clear hni hgx
        have HO := As.mk hO
        have HO1 := As.mk hO1
        have HO2 := As.mk (show OwnSt _ w0.heap.size sb { s with places := updP ps ⟨(j : Int), xv, xa, true, xn⟩ } _ _ _ _ _ _ by rw [HP.out]; simpa [PPl.setF] using hO2)
        clear hO hO1 hO2 HP
        generalize ps[j]'hj = p at *
        generalize hver : IntKind.i64.wrap (p.ver + 1) = ver1 at *
        refine wp_region_noPanic ?_
        refine wp_region_D (S := fun w' => Blk w' sb 32 (stCells { s with places := ps } (.slice (some ⟨g, 0, none⟩) ps.length cap) vQ vD vC) ∧ w'.cell? ⟨gx, 0, none⟩ = some (.int .i64 (j : Int)) ∧ w'.cell? ⟨g, j * 5 + 3, none⟩ = some (.int .i64 p.ver)) 12 (by kernel_rfl) (⟨HO.out.blk.drew, HBX.out.cell 0, p3.1⟩) (fun hS => ?_)
        refine wpAnyD_take (i := 0) (v := ?va1) rfl rfl (by kernel_rfl) (by kernel_rfl) (by kernel_rfl) (by kernel_rfl) (fun _ _ _ h => h) (Or.inl ⟨by rfl, ?ya1⟩) hS ?ra1
        case ya1 => (intro w0 _; go_simp; try with_reducible rfl)
        try simp only [yA, yB, yC, Act.put, yD, yE, yF]
        refine wpAnyD_take (i := 1) (v := ?va2) rfl rfl (by kernel_rfl) (by kernel_rfl) (by kernel_rfl) (by kernel_rfl) (fun _ _ _ h => h) (Or.inl ⟨by rfl, ?ya2⟩) hS ?ra2
        case ya2 => (intro w0 _; go_simp; try with_reducible rfl)
        try simp only [yA, yB, yC, Act.put, yD, yE, yF]
        refine wpAnyD_take (i := 2) (v := ?va3) rfl rfl (by kernel_rfl) (by kernel_rfl) (by kernel_rfl) (by kernel_rfl) (fun _ _ _ h => h) (Or.inl ⟨by rfl, ?ya3⟩) hS ?ra3
        case ya3 => (intro w0 _; go_simp; try with_reducible rfl)
        try simp only [yA, yB, yC, Act.put, yD, yE, yF]
        refine wpAnyD_take (i := 3) (v := ?va4) rfl rfl (by kernel_rfl) (by kernel_rfl) (by kernel_rfl) (by kernel_rfl) (fun _ _ _ h => h) (Or.inl ⟨by rfl, ?ya4⟩) hS ?ra4
        case ya4 => (intro w0 hS0; (try simp only [] at hS0); obtain ⟨hS0_0, hS0_1, hS0_2⟩ := hS0; have d4 := hS0_0.cell 4; simp only [stCells, List.getElem?_toArray, List.getElem?_cons_zero, List.getElem?_cons_succ] at d4; go_simp; try with_reducible rfl)
        try simp only [yA, yB, yC, Act.put, yD, yE, yF]
        refine wpAnyD_take (i := 4) (v := ?va5) rfl rfl (by kernel_rfl) (by kernel_rfl) (by kernel_rfl) (by kernel_rfl) (fun _ _ _ h => h) (Or.inl ⟨by rfl, ?ya5⟩) hS ?ra5
        case ya5 => (intro w0 _; go_simp; try with_reducible rfl)
        try simp only [yA, yB, yC, Act.put, yD, yE, yF]
        refine wpAnyD_take (i := 5) (v := ?va6) rfl rfl (by kernel_rfl) (by kernel_rfl) (by kernel_rfl) (by kernel_rfl) (fun _ _ _ h => h) (Or.inl ⟨by rfl, ?ya6⟩) hS ?ra6
        case ya6 => (intro w0 hS0; (try simp only [] at hS0); obtain ⟨hS0_0, hS0_1, hS0_2⟩ := hS0; go_simp; try with_reducible rfl)
        try simp only [yA, yB, yC, Act.put, yD, yE, yF]
        refine wpAnyD_take (i := 6) (v := ?va7) rfl rfl (by kernel_rfl) (by kernel_rfl) (by kernel_rfl) (by kernel_rfl) (fun _ _ _ h => h) (Or.inl ⟨by rfl, ?ya7⟩) hS ?ra7
        case ya7 => (intro w0 _; go_simp; try with_reducible rfl)
        try simp only [yA, yB, yC, Act.put, yD, yE, yF]
        refine wpAnyD_take (i := 7) (v := ?va8) rfl rfl (by kernel_rfl) (by kernel_rfl) (by kernel_rfl) (by kernel_rfl) (fun _ _ _ h => h) (Or.inl ⟨by rfl, ?ya8⟩) hS ?ra8
        case ya8 => (intro w0 _; go_simp; try with_reducible rfl)
        try simp only [yA, yB, yC, Act.put, yD, yE, yF]
        refine wpAnyD_take (i := 8) (v := ?va9) rfl rfl (by kernel_rfl) (by kernel_rfl) (by kernel_rfl) (by kernel_rfl) (fun _ _ _ h => h) (Or.inl ⟨by rfl, ?ya9⟩) hS ?ra9
        case ya9 => (intro w0 hS0; (try simp only [] at hS0); obtain ⟨hS0_0, hS0_1, hS0_2⟩ := hS0; go_simp; try with_reducible rfl)
        try simp only [yA, yB, yC, Act.put, yD, yE, yF]
        refine wpAnyD_take (i := 9) (v := ?va10) rfl rfl (by kernel_rfl) (by kernel_rfl) (by kernel_rfl) (by kernel_rfl) (fun _ _ _ h => h) (Or.inl ⟨by rfl, ?ya10⟩) hS ?ra10
        case ya10 => (intro w0 _; go_simp; try with_reducible rfl)
        try simp only [yA, yB, yC, Act.put, yD, yE, yF]
        refine wpAnyD_ready (rs := [10]) (by kernel_rfl) (by simp) (AllReadyD.cons (i := 10) rfl (fun K hK => ?_) AllReadyD.nil)
        go_simp
        refine hK.out _ _ (fun _ => hS) (fun hS' => ?_)
        replace hS := hS' (by decide)
        clear hS'
        clear hK K
        try simp only [yA, yB, yC, Act.put, yD, yE, yF]
        refine wpAnyD_take (i := 11) (v := ?va12) rfl rfl (by kernel_rfl) (by kernel_rfl) (by kernel_rfl) (by kernel_rfl) (fun _ _ _ h => h) (Or.inl ⟨by rfl, ?ya12⟩) hS ?ra12
        case ya12 => (intro w0 _; go_simp; try with_reducible rfl)
        try simp only [yA, yB, yC, Act.put, yD, yE, yF]
        refine wpAnyD_ready (rs := [12]) (by kernel_rfl) (by simp) (AllReadyD.cons (i := 12) rfl (fun K hK => ?_) AllReadyD.nil)
        have p3' : WX.drew.cell? ⟨g, j * 5 + 3, none⟩ = _ := p3.1
        have f3' : WX.drew.frozen? ⟨g, j * 5 + 3, none⟩ = _ := p3.2
        go_simp
        refine hK.out _ _ (fun h => absurd rfl h) (fun _ => ?_)
        clear hK K
        try simp only [yA, yB, yC, Act.put, yD, yE, yF]
        refine wpAnyD_done (by kernel_rfl) ?_ _
        refine NoPanic.normal ?_
        try simp only [Exit.then]
        go_wp2_with fail
        clear hS
        refine wp_region_noPanic ?_
        refine wp_region_D (S := fun w' => Blk w' sb 32 (stCells { s with places := ps } (.slice (some ⟨g, 0, none⟩) ps.length cap) vQ vD vC) ∧ w'.cell? ⟨gx, 0, none⟩ = some (.int .i64 (j : Int)) ∧ w'.cell? ⟨gx, 4, none⟩ = some (.int .i64 xn)) 10 (by kernel_rfl) (⟨HO1.out.blk.drew, HBY.out.cell 0, HBY.out.cell 4⟩) (fun hS => ?_)
        refine wpAnyD_take (i := 0) (v := ?vb1) rfl rfl (by kernel_rfl) (by kernel_rfl) (by kernel_rfl) (by kernel_rfl) (fun _ _ _ h => h) (Or.inl ⟨by rfl, ?yb1⟩) hS ?rb1
        case yb1 => (intro w0 _; go_simp; try with_reducible rfl)
        try simp only [yA, yB, yC, Act.put, yD, yE, yF]
        refine wpAnyD_take (i := 1) (v := ?vb2) rfl rfl (by kernel_rfl) (by kernel_rfl) (by kernel_rfl) (by kernel_rfl) (fun _ _ _ h => h) (Or.inl ⟨by rfl, ?yb2⟩) hS ?rb2
        case yb2 => (intro w0 _; go_simp; try with_reducible rfl)
        try simp only [yA, yB, yC, Act.put, yD, yE, yF]
        refine wpAnyD_take (i := 2) (v := ?vb3) rfl rfl (by kernel_rfl) (by kernel_rfl) (by kernel_rfl) (by kernel_rfl) (fun _ _ _ h => h) (Or.inl ⟨by rfl, ?yb3⟩) hS ?rb3
        case yb3 => (intro w0 _; go_simp; try with_reducible rfl)
        try simp only [yA, yB, yC, Act.put, yD, yE, yF]
        refine wpAnyD_take (i := 3) (v := ?vb4) rfl rfl (by kernel_rfl) (by kernel_rfl) (by kernel_rfl) (by kernel_rfl) (fun _ _ _ h => h) (Or.inl ⟨by rfl, ?yb4⟩) hS ?rb4
        case yb4 => (intro w0 hS0; (try simp only [] at hS0); obtain ⟨hS0_0, hS0_1, hS0_2⟩ := hS0; have d4 := hS0_0.cell 4; simp only [stCells, List.getElem?_toArray, List.getElem?_cons_zero, List.getElem?_cons_succ] at d4; go_simp; try with_reducible rfl)
        try simp only [yA, yB, yC, Act.put, yD, yE, yF]
        refine wpAnyD_take (i := 4) (v := ?vb5) rfl rfl (by kernel_rfl) (by kernel_rfl) (by kernel_rfl) (by kernel_rfl) (fun _ _ _ h => h) (Or.inl ⟨by rfl, ?yb5⟩) hS ?rb5
        case yb5 => (intro w0 _; go_simp; try with_reducible rfl)
        try simp only [yA, yB, yC, Act.put, yD, yE, yF]
        refine wpAnyD_take (i := 5) (v := ?vb6) rfl rfl (by kernel_rfl) (by kernel_rfl) (by kernel_rfl) (by kernel_rfl) (fun _ _ _ h => h) (Or.inl ⟨by rfl, ?yb6⟩) hS ?rb6
        case yb6 => (intro w0 hS0; (try simp only [] at hS0); obtain ⟨hS0_0, hS0_1, hS0_2⟩ := hS0; go_simp; try with_reducible rfl)
        try simp only [yA, yB, yC, Act.put, yD, yE, yF]
        refine wpAnyD_take (i := 6) (v := ?vb7) rfl rfl (by kernel_rfl) (by kernel_rfl) (by kernel_rfl) (by kernel_rfl) (fun _ _ _ h => h) (Or.inl ⟨by rfl, ?yb7⟩) hS ?rb7
        case yb7 => (intro w0 _; go_simp; try with_reducible rfl)
        try simp only [yA, yB, yC, Act.put, yD, yE, yF]
        refine wpAnyD_take (i := 7) (v := ?vb8) rfl rfl (by kernel_rfl) (by kernel_rfl) (by kernel_rfl) (by kernel_rfl) (fun _ _ _ h => h) (Or.inl ⟨by rfl, ?yb8⟩) hS ?rb8
        case yb8 => (intro w0 hS0; (try simp only [] at hS0); obtain ⟨hS0_0, hS0_1, hS0_2⟩ := hS0; go_simp; try with_reducible rfl)
        try simp only [yA, yB, yC, Act.put, yD, yE, yF]
        refine wpAnyD_ready (rs := [8]) (by kernel_rfl) (by simp) (AllReadyD.cons (i := 8) rfl (fun K hK => ?_) AllReadyD.nil)
        go_simp
        refine hK.out _ _ (fun _ => hS) (fun hS' => ?_)
        replace hS := hS' (by decide)
        clear hS'
        clear hK K
        try simp only [yA, yB, yC, Act.put, yD, yE, yF]
        refine wpAnyD_take (i := 9) (v := ?vb10) rfl rfl (by kernel_rfl) (by kernel_rfl) (by kernel_rfl) (by kernel_rfl) (fun _ _ _ h => h) (Or.inl ⟨by rfl, ?yb10⟩) hS ?rb10
        case yb10 => (intro w0 _; go_simp; try with_reducible rfl)
        try simp only [yA, yB, yC, Act.put, yD, yE, yF]
        refine wpAnyD_ready (rs := [10]) (by kernel_rfl) (by simp) (AllReadyD.cons (i := 10) rfl (fun K hK => ?_) AllReadyD.nil)
        have p4' := p4.1
        have f4' := p4.2
        go_simp
        refine hK.out _ _ (fun h => absurd rfl h) (fun _ => ?_)
        clear hK K
        try simp only [yA, yB, yC, Act.put, yD, yE, yF]
        refine wpAnyD_done (by kernel_rfl) ?_ _
        refine NoPanic.normal ?_
        try simp only [Exit.then]
        go_wp2_with fail
        go_roundw
        case measure => simp [intOf]; omega
        case rel => exact ⟨k + 1, by omega, by go_num, ⟨HGY.out, HKY.out, by rw [HS.out]; exact ⟨_, _, _, _, _, _, HO2.out⟩, HVY.out⟩⟩
    · obtain rfl : k = l.length := by omega
      rw [List.take_of_length_le (Nat.le_refl _)] at HL
      go_wp2_with fail
      first | go_end0 | go_ret
      exact ⟨rfl, HL.out.1, HL.out.2.1, HL.out.2.2.1⟩
end Go.Proofs.Ytdmkijdbldcdiaa
