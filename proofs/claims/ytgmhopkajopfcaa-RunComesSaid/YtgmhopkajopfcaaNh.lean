/- The walks of a nest's written, Value. -/
import Derived.Test.YtgmhopkajopfcaaNg
namespace Go.Proofs.Ytgmhopkajopfcaa
open Go.RowKit Go.Shelf
set_option linter.unusedVariables false
attribute [local go_sem] Oper.semAt_some

/-- What was written last, by the innermost level that wrote it. -/
def wrF (lv : Lv) (c : Int) : Option Int := lv.reverse.findSome? fun p => p.2 c
def wrV (o : Option Int) : Value := .tuple #[.int .i64 (o.getD 0), .bool o.isSome]
theorem find_at {α : Type} (f : α → Option Int) : ∀ (l : List α) (k : Nat) (u : Int), (∀ j, j < k → ∀ x, l[j]? = some x → f x = none) → (∀ x, l[k]? = some x → f x = some u) → k < l.length → l.findSome? f = some u
  | [], k, u, _, _, h => by simp at h
  | x :: l, 0, u, _, h2, _ => by rw [List.findSome?_cons, h2 x rfl]
  | x :: l, k + 1, u, h1, h2, h => by
    rw [List.findSome?_cons, h1 0 (by omega) x rfl]
    exact find_at f l k u (fun j hj y hy => h1 (j + 1) (by omega) y (by simpa using hy)) (fun y hy => h2 y (by simpa using hy)) (by simpa using h)
theorem find_no {α : Type} (f : α → Option Int) : ∀ (l : List α), (∀ x ∈ l, f x = none) → l.findSome? f = none
  | [], _ => rfl
  | x :: l, h => by rw [List.findSome?_cons, h x (List.mem_cons_self ..)]; exact find_no f l (fun y hy => h y (List.mem_cons_of_mem _ hy))
theorem mem_revs {n : Nat} : ∀ {k : Nat}, k ≤ n → ∀ i : Fin n, i ∈ revs n k ↔ n - k ≤ i.1
  | 0, _, i => by simp [revs]
  | k + 1, h, i => by
    rw [revs_succ (by omega), List.mem_append, mem_revs (by omega), List.mem_singleton]
    constructor
    · rintro (q | q)
      · omega
      · rw [q]; dsimp only; omega
    · intro q
      by_cases e : n - k ≤ i.1
      · exact .inl e
      · exact .inr (Fin.ext (by dsimp only; omega))
def fAt (lv : Lv) (i : Nat) (c : Int) : Option Int := (lv[i]?.getD (0, fun _ => none)).2 c
theorem wr_all {lv : Lv} {c : Int} (h : ∀ i, i < lv.length → fAt lv i c = none) : wrF lv c = none := by
  refine find_no _ _ fun x hx => ?_
  rw [List.mem_reverse] at hx
  obtain ⟨i, hi, rfl⟩ := List.mem_iff_getElem.1 hx
  have := h i hi
  unfold fAt at this
  rw [List.getElem?_eq_getElem hi] at this
  exact this
theorem wr_at {lv : Lv} {c u : Int} {i : Nat} (hi : i < lv.length) (h : ∀ j, i < j → j < lv.length → fAt lv j c = none) (hu : fAt lv i c = some u) : wrF lv c = some u := by
  have at_ : ∀ j x, lv.reverse[j]? = some x → j < lv.length ∧ x.2 c = fAt lv (lv.length - 1 - j) c := by
    intro j x hx
    have hj : j < lv.length := by have := (List.getElem?_eq_some_iff.1 hx).1; simpa using this
    refine ⟨hj, ?_⟩
    rw [List.getElem?_reverse hj] at hx
    unfold fAt
    rw [hx]
    rfl
  refine find_at _ _ (lv.length - 1 - i) u (fun j hj x hx => ?_) (fun x hx => ?_) (by rw [List.length_reverse]; omega)
  · obtain ⟨h1, h2⟩ := at_ j x hx
    rw [h2]
    exact h _ (by omega) (by omega)
  · obtain ⟨h1, h2⟩ := at_ _ x hx
    rw [h2, show lv.length - 1 - (lv.length - 1 - i) = i by omega]
    exact hu
set_option maxRecDepth 100000 in
set_option maxHeartbeats 2000000 in
theorem written_in (F : Fence) (n : Nat) (h32 : F.fn 46) (h37 : F.fn 63) (h41 : F.fn 79) (hro : F.round = none) (hn : 3 ≤ n)
    {w : World} {B nb rb : Nat} {v : Value} {bs : List Nat} {rd : Rd} {lv : Lv} (h : NestW w B nb rb v bs rd lv) (hl : lv.length ≤ 1000000) (h0 : 0 < lv.length) (c : Int) (hc : K64 c) :
    CallsIn F n Try.prog 46 #[NP nb, .int .i64 c] w fun e W' => e = .returned (wrV (wrF lv c)) ∧ Below w.heap.size w W' := by
  have h1 : 1 ≤ n := by omega
  obtain ⟨g, cp, rfl⟩ := own_some h.row (by rw [h.len]; exact h0)
  have c1 : (((w.alloc (.cells #[.int .i64 c] 3)).alloc (.cells #[.int .i64 0] 3)).alloc (.cells #[.bool false] 4)).cell? ⟨nb, 1, none⟩ = some (.slice (some ⟨g, 0, none⟩) bs.length cp) := (((h.blk.alloc _).alloc _).alloc _).cell 1
  have HN := As.mk h
  have HC := As.mk hc
  clear h hc
  unfold NP
  refine callsIn_of_wp_marks Try.func46 rfl h32 ?_ hro
  simp only [Try.ntmps46, List.size_toArray, List.length_cons, List.length_nil, Nat.reduceAdd, Nat.reduceSub, Array.replicate_succ, Array.replicate_zero, List.push_toArray, List.append_toArray, List.nil_append, List.cons_append]
  gi_wp2_with (gi_at_call 63; refine (back_in F (n - 1) h37 hro _ _ _ _).mono ?_; rintro e w' ⟨rfl, rfl⟩)
  have HW0 := HN.out.same (w' := (((w.alloc (.cells #[.int .i64 c] 3)).alloc (.cells #[.int .i64 0] 3)).alloc (.cells #[.bool false] 4)).alloc (.cells #[.slice (some ⟨g, 0, none⟩) bs.length cp] 82)) (by simp; omega)
    (fun k hk => by have := (HN.out.fp k hk).2; exact (gr_alloc (gr_alloc (gr_alloc (gr_alloc (gr_refl w none) _) _) _) _).block k this (by simp))
  have hBc := (((Blk.new w 3 #[.int .i64 c]).alloc (.cells #[.int .i64 0] 3)).alloc (.cells #[.bool false] 4)).alloc (.cells #[.slice (some ⟨g, 0, none⟩) bs.length cp] 82)
  have hBr := ((Blk.new (w.alloc (.cells #[.int .i64 c] 3)) 3 #[.int .i64 0]).alloc (.cells #[.bool false] 4)).alloc (.cells #[.slice (some ⟨g, 0, none⟩) bs.length cp] 82)
  have hBo := (Blk.new ((w.alloc (.cells #[.int .i64 c] 3)).alloc (.cells #[.int .i64 0] 3)) 4 #[.bool false]).alloc (.cells #[.slice (some ⟨g, 0, none⟩) bs.length cp] 82)
  have hBs := Blk.new (((w.alloc (.cells #[.int .i64 c] 3)).alloc (.cells #[.int .i64 0] 3)).alloc (.cells #[.bool false] 4)) 82 #[.slice (some ⟨g, 0, none⟩) bs.length cp]
  have hbw := gr_below (gr_alloc (gr_alloc (gr_alloc (gr_alloc (gr_refl w none) (.cells #[.int .i64 c] 3)) (.cells #[.int .i64 0] 3)) (.cells #[.bool false] 4)) (.cells #[.slice (some ⟨g, 0, none⟩) bs.length cp] 82))
  simp only [World.size_alloc] at hBr hBo hBs
  have hs0 : ((((w.alloc (.cells #[.int .i64 c] 3)).alloc (.cells #[.int .i64 0] 3)).alloc (.cells #[.bool false] 4)).alloc (.cells #[.slice (some ⟨g, 0, none⟩) bs.length cp] 82)).heap.size = w.heap.size + 4 := by simp
  generalize (((w.alloc (.cells #[.int .i64 c] 3)).alloc (.cells #[.int .i64 0] 3)).alloc (.cells #[.bool false] 4)).alloc (.cells #[.slice (some ⟨g, 0, none⟩) bs.length cp] 82) = W0 at *
  have hlen := HW0.len
  have hnf : ∀ k, fpN nb rb (.slice (some ⟨g, 0, none⟩) bs.length cp) bs k → k < w.heap.size := fun k hk => (HN.out.fp k hk).2
  have hgl : g < w.heap.size := hnf g (.inr (.inr (.inr rfl)))
  have hmaps : ∀ i : Fin bs.length, ∃ n', MapF elLev W0 (bs.getD i.1 0) n' (fAt lv i.1) ∧ bs.getD i.1 0 < w.heap.size := fun i => by
    have hi : i.1 < lv.length := by rw [← hlen]; exact i.2
    have e1 : bs[i.1]? = some (bs.getD i.1 0) := by rw [List.getElem?_eq_getElem i.2]; simp
    have e2 : fAt lv i.1 = lv[i.1].2 := by funext x; unfold fAt; rw [List.getElem?_eq_getElem hi]; rfl
    refine ⟨lv[i.1].1, ?_, hnf _ (.inr (.inr (.inl (List.mem_of_getElem? e1))))⟩
    rw [e2]
    exact HW0.maps i.1 _ _ e1 (List.getElem?_eq_getElem hi)
  have hcells : ∀ j, j < bs.length → W0.cell? ⟨g, j, none⟩ = some (.map (some (bs.getD j 0))) := fun j hj => own_cellAt HW0.row j _ (by rw [List.getElem?_map, List.getElem?_eq_getElem hj]; simp [hj])
  clear HN c1
  refine wpIn_rangeFunc_ownF hro h1 (gf := 79) (lb := #[.pointer (some ⟨w.heap.size + 1 + 1 + 1, 0, none⟩)]) rfl h41 (enters_of Try.func79 (by kernel_rfl) rfl)
    (back_stops F (n - 1) h41 hro (by omega) (w.heap.size + 1 + 1 + 1) W0.heap.size g cp bs (by omega) W0 (by omega) (by omega) (Nat.le_refl _) (hBs.cell 0) hcells) belowK_t (belowK_b (Nat.le_refl _)) (Below.refl _ _) (fun _ => rfl)
    (fun pre W => ((∀ i ∈ pre, fAt lv i.1 c = none) ∧ W.cell? ⟨w.heap.size + 1, 0, none⟩ = some (.int .i64 0) ∧ W.frozen? ⟨w.heap.size + 1, 0, none⟩ = false ∧ W.cell? ⟨w.heap.size + 1 + 1, 0, none⟩ = some (.bool false) ∧ W.frozen? ⟨w.heap.size + 1 + 1, 0, none⟩ = false) ∧ Below W0.heap.size W0 W)
    (fun cd pre W => (cd = .ret ∧ ∃ pre0 x u, pre = pre0 ++ [x] ∧ (∀ i ∈ pre0, fAt lv i.1 c = none) ∧ fAt lv x.1 c = some u ∧ W.cell? ⟨w.heap.size + 1, 0, none⟩ = some (.int .i64 u) ∧ W.cell? ⟨w.heap.size + 1 + 1, 0, none⟩ = some (.bool true)) ∧ Below w.heap.size w W)
    (OwnFrom.and (Own.from (fun s A B row hs hg hr => ⟨hs.1, cell_kept hs.2.1 hg hr, (frozen_kept hs.2.1 hg hr).trans hs.2.2.1, cell_kept hs.2.2.2.1 hg hr, (frozen_kept hs.2.2.2.1 hg hr).trans hs.2.2.2.2⟩) _) (ownFrom_below (Nat.le_refl _) (Nat.le_refl _)))
    (fun cd => OwnFrom.and (Own.from (fun s A B row hs hg hr => by
      obtain ⟨e, pre0, x, u, h1, h2, h3, h4, h5⟩ := hs
      exact ⟨e, pre0, x, u, h1, h2, h3, cell_kept h4 hg hr, cell_kept h5 hg hr⟩) _) (ownFrom_below (Nat.le_refl _) (by omega)))
    ⟨⟨by simp, hBr.cell 0, hBr.free 0, hBo.cell 0, hBo.free 0⟩, Below.refl _ _⟩
    (fun x => { tmps := #[.pointer (some ⟨nb, 0, none⟩), .int .i64 c, undef, .pointer (some ⟨w.heap.size, 0, none⟩), .pointer (some ⟨w.heap.size + 1, 0, none⟩), .pointer (some ⟨w.heap.size + 1 + 1, 0, none⟩), undef, .map (some (bs.getD x.1 0)), undef, undef, .pointer (some ⟨nb, 0, none⟩), .pointer (some ⟨nb, 0, none⟩), .pointer (some ⟨nb, 1, none⟩), .slice (some ⟨g, 0, none⟩) bs.length cp, .func (.func 79) #[] #[.pointer (some ⟨w.heap.size + 1 + 1 + 1, 0, none⟩)], .int .i64 (x.1 : Int), .map (some (bs.getD x.1 0)), undef, undef, undef, undef, undef, undef, undef, undef], defers := [] }) ?assign ?body ?done ?stop
  case assign =>
    intro l x W K hK
    clear hlen
    unfold mapAt
    generalize bs.getD x.1 0 = mb at *
    gi_wp2
    exact hK
  case body =>
    rintro l pre x W ⟨⟨hp, hc1, hf1, hc2, hf2⟩, hB⟩ _
    have hcc : W.cell? ⟨w.heap.size, 0, none⟩ = some (.int .i64 c) := (hB.cell (p := ⟨w.heap.size, 0, none⟩) (by show w.heap.size < _; omega)).trans (hBc.cell 0)
    obtain ⟨nn, hm, hml⟩ := hmaps x
    have hm' : MapF elLev W (bs.getD x.1 0) nn (fAt lv x.1) := by
      obtain ⟨D, ⟨es, cl, hq, r⟩, h2⟩ := hm
      exact ⟨D, ⟨es, cl, (hB.block _ (by omega)).trans hq, r⟩, h2⟩
    cases ho : fAt lv x.1 c with
    | none =>
      have hrun : (Instr.lookup 81 (.map (some (bs.getD x.1 0))) (.int .i64 c) true).run Try.prog W = .ok (.tuple #[.int .i64 0, .bool false]) W := hm'.run2 HC.out ho
      clear hm hm' hmaps hcells
      generalize bs.getD x.1 0 = mb at *
      gi_wp2
      exact ⟨KeepsOthers.refl _, Below.refl _ _, ⟨fun i hi => (List.mem_append.1 hi).elim (hp i) (fun e => by rw [List.mem_singleton.1 e]; exact ho), hc1, hf1, hc2, hf2⟩, hB⟩
    | some u =>
      have hrun : (Instr.lookup 81 (.map (some (bs.getD x.1 0))) (.int .i64 c) true).run Try.prog W = .ok (.tuple #[.int .i64 u, .bool true]) W := hm'.run2 HC.out ho
      clear hm hm' hmaps hcells
      generalize bs.getD x.1 0 = mb at *
      gi_wp2
      exact ⟨(KeepsOthers.setCell _ _ _).trans (KeepsOthers.setCell _ _ _), ⟨rfl, pre, x, u, rfl, hp, ho, (World.cell?_setCell_far _ _ _ _ (by simp)).trans (World.cell?_setCell_same' _ _ _ (by rw [hc1]; rfl)), World.cell?_setCell_same' _ _ _ (by rw [World.cell?_setCell_far _ _ _ _ (by simp), hc2]; rfl)⟩, ((hbw.trans (hB.mono (by omega))).setCell (p := ⟨w.heap.size + 1, 0, none⟩) (by simp) _).setCell (p := ⟨w.heap.size + 1 + 1, 0, none⟩) (by simp; omega) _⟩
  case done =>
    rintro D ys W hD rfl ⟨⟨hp, hc1, hf1, hc2, hf2⟩, hB⟩ hK
    have hw : wrF lv c = none := wr_all fun i hi => hp ⟨i, by omega⟩ ((mem_revs (Nat.le_refl _) _).2 (by simp))
    gi_wp2
    have hK' := ((KeepsOthers.setCell W ⟨w.heap.size + 1, 0, none⟩ (.int .i64 0)).trans (KeepsOthers.setCell _ ⟨w.heap.size + 1 + 1, 0, none⟩ (.bool false))).same D _ hK rfl
    refine ⟨by simp, .inl ⟨_, _, rfl, run_takeDeferred hK', ?_⟩⟩
    have hc5 := cell_kept ((World.cell?_setCell_far _ ⟨w.heap.size + 1 + 1, 0, none⟩ ⟨w.heap.size + 1, 0, none⟩ (.bool false) (by simp)).trans (World.cell?_setCell_same' W ⟨w.heap.size + 1, 0, none⟩ (.int .i64 0) (by rw [hc1]; rfl))) (grownBy_putObj' _ D (.deferred none)) (fun r e => by cases e; exact ⟨_, hK', rfl⟩)
    have hc6 := cell_kept (World.cell?_setCell_same' (W.setCell ⟨w.heap.size + 1, 0, none⟩ (.int .i64 0)) ⟨w.heap.size + 1 + 1, 0, none⟩ (.bool false) (by rw [World.cell?_setCell_far _ _ _ _ (by simp), hc2]; rfl)) (grownBy_putObj' _ D (.deferred none)) (fun r e => by cases e; exact ⟨_, hK', rfl⟩)
    refine ⟨.tuple #[.int .i64 0, .bool false], ?_, by rw [hw]; rfl, (((hbw.trans (hB.mono (by omega))).setCell (p := ⟨w.heap.size + 1, 0, none⟩) (by simp) _).setCell (p := ⟨w.heap.size + 1 + 1, 0, none⟩) (by simp; omega) _).trans (belowK_b (w := w) (Nat.le_refl _) _ D _ _ (by omega) hK' rfl rfl)⟩
    simp [results, Try.f46, go_sem, hc5, hc6]
  case stop =>
    rintro D cd pre W hD ⟨k, hk, hpre⟩ ⟨⟨rfl, pre0, x, u, h2, h3, h4, h5, h6⟩, hB⟩ hK
    have hw : wrF lv c = some u := by
      rw [hpre] at h2
      have hk0 : k ≠ 0 := by rintro rfl; simp [revs] at h2
      obtain ⟨k', rfl⟩ : ∃ k', k = k' + 1 := ⟨k - 1, by omega⟩
      rw [revs_succ (by omega)] at h2
      obtain ⟨e1, e2⟩ := List.append_inj' h2 rfl
      have e3 : x = ⟨bs.length - 1 - k', by omega⟩ := by injection e2 with e2; exact e2.symm
      refine wr_at (i := x.1) (by have := x.2; omega) (fun j hj1 hj2 => h3 ⟨j, by omega⟩ ?_) h4
      rw [← e1, mem_revs (by omega)]
      rw [e3] at hj1
      dsimp only at hj1 ⊢
      omega
    gi_wp2
    refine ⟨by simp, .inl ⟨_, _, rfl, run_takeDeferred hK, ?_⟩⟩
    have hc5 := cell_kept h5 (grownBy_putObj' _ D (.deferred none)) (fun r e => by cases e; exact ⟨_, hK, rfl⟩)
    have hc6 := cell_kept h6 (grownBy_putObj' _ D (.deferred none)) (fun r e => by cases e; exact ⟨_, hK, rfl⟩)
    refine ⟨.tuple #[.int .i64 u, .bool true], ?_, by rw [hw]; rfl, hB.trans (belowK_b (w := w) (Nat.le_refl _) W D _ _ (by omega) hK rfl rfl)⟩
    simp [results, Try.f46, go_sem, hc5, hc6]
theorem written_c {w : World} {B nb : Nat} {Fp : Nat → Prop} {rd : Rd} {lv : Lv} (h : NestAt w B nb Fp rd lv) (hl : lv.length ≤ 1000000) (h0 : 0 < lv.length) (c : Int) (hc : K64 c) :
    Calls Try.prog 46 #[NP nb, .int .i64 c] w fun e W' => e = .returned (wrV (wrF lv c)) ∧ w.grownBy W' none := by
  obtain ⟨rb, v, bs, rfl, h⟩ := h
  refine ((callsIn_wide (n := 3)).1 (written_in Fence.wide 3 trivial trivial trivial rfl (by omega) h hl h0 c hc)).mono ?_
  rintro e w' ⟨he, hb⟩
  exact ⟨he, below_gr hb none⟩
end Go.Proofs.Ytgmhopkajopfcaa
