/- The walks of Plain and Same, over operations and over events. -/
import Derived.Test.YtmmgmdfhdhnmaaaEvs
import Derived.WalkSpells
namespace Go.Proofs.Ytmmgmdfhdhnmaaa
open Go.RowKit
set_option linter.unusedVariables false

/-- A slice that reads as a list, each element's cells telling it. -/
def Arr {α : Type} (E : World → α → List Value → Prop) (sz : Nat) (w : World) (v : Value) (xs : List α) : Prop :=
  ∃ A c, v = .slice A xs.length c ∧ (xs.length ≤ 9223372036854775807 ∧ xs.length ≤ c) ∧ (0 < xs.length → ∃ ad : Addr, A = some ad ∧ ad.spot = none ∧ ∀ j x, xs[j]? = some x → ∃ cs, E w x cs ∧ cs.length = sz ∧ ∀ i u, cs[i]? = some u → w.cell? ⟨ad.block, ad.off + j * sz + i, none⟩ = some u)
theorem Arr.at_ {α : Type} {E : World → α → List Value → Prop} {sz : Nat} {w : World} {A : Option Addr} {n c : Nat} {xs : List α} (h : Arr E sz w (.slice A n c) xs) (j : Nat) (x : α) (hx : xs[j]? = some x) :
    ∃ b o cs, A = some ⟨b, o, none⟩ ∧ E w x cs ∧ cs.length = sz ∧ ∀ i u, cs[i]? = some u → w.cell? ⟨b, o + j * sz + i, none⟩ = some u := by
  obtain ⟨A', c', he, hm, h⟩ := h
  obtain ⟨rfl, rfl, rfl⟩ : A = A' ∧ n = xs.length ∧ c = c' := by injection he with h1 h2 h3; exact ⟨h1, h2, h3⟩
  have hj : j < xs.length := (List.getElem?_eq_some_iff.1 hx).1
  obtain ⟨⟨b, o, sp⟩, rfl, hs, hh⟩ := h (by omega)
  dsimp only at hs
  subst hs
  obtain ⟨cs, h1, h2, h3⟩ := hh j x hx
  exact ⟨b, o, cs, rfl, h1, h2, h3⟩
theorem Arr.len {α : Type} {E : World → α → List Value → Prop} {sz : Nat} {w : World} {v : Value} {xs : List α} (h : Arr E sz w v xs) : ∃ A c, v = .slice A xs.length c := let ⟨A, c, e, _⟩ := h; ⟨A, c, e⟩
theorem Arr.le {α : Type} {E : World → α → List Value → Prop} {sz : Nat} {w : World} {v : Value} {xs : List α} (h : Arr E sz w v xs) : xs.length ≤ 9223372036854775807 := let ⟨A, c, _, hm, _⟩ := h; hm.1
theorem Arr.cap {α : Type} {E : World → α → List Value → Prop} {sz : Nat} {w : World} {A : Option Addr} {n c : Nat} {xs : List α} (h : Arr E sz w (.slice A n c) xs) : xs.length ≤ c := by
  obtain ⟨A', c', he, hm, h⟩ := h
  injection he with h1 h2 h3
  rw [h3]; exact hm.2
/-- What reads does so behind a step that turns no cell that was there. -/
theorem Arr.below {α : Type} {E : World → α → List Value → Prop} {sz : Nat} {w w' : World} {v : Value} {xs : List α} (h : Arr E sz w v xs) (hg : w.grownBy w' none) (hE : ∀ x cs, E w x cs → E w' x cs) : Arr E sz w' v xs := by
  obtain ⟨A, c, e, hm, hh⟩ := h
  refine ⟨A, c, e, hm, fun h0 => ?_⟩
  obtain ⟨ad, h1, h2, h3⟩ := hh h0
  refine ⟨ad, h1, h2, fun j x hx => ?_⟩
  obtain ⟨cs, g1, g2, g3⟩ := h3 j x hx
  exact ⟨cs, hE _ _ g1, g2, fun i u hu => hg.cell (g3 i u hu) (by simp)⟩
def OpE (w : World) (x : POp) (cs : List Value) : Prop := cs = [.int .i64 x.k, .int .i64 x.c, .int .i64 x.r, .int .i64 x.o, .int .i64 x.n]
def EvE (w : World) (x : PEv) (cs : List Value) : Prop := ∃ u, cs = [.int .i64 x.k, .int .i64 x.a, .int .i64 x.b, .int .i64 x.n, u] ∧ Arr OpE 5 w u x.ops

theorem opsCells_at (l : List POp) (j : Nat) (x : POp) (hx : l[j]? = some x) : ∀ i u, [Value.int .i64 x.k, .int .i64 x.c, .int .i64 x.r, .int .i64 x.o, .int .i64 x.n][i]? = some u → (opsCells l)[j * 5 + i]? = some u := by
  induction l generalizing j with
  | nil => simp at hx
  | cons y l ih =>
    intro i u hu
    have hi : i < 5 := by have := (List.getElem?_eq_some_iff.1 hu).1; simpa using this
    have e : opsCells (y :: l) = POp.cells y ++ opsCells l := rfl
    cases j with
    | zero =>
      simp at hx
      subst hx
      rw [e, List.getElem?_append_left (by simp [POp.cells]; omega)]
      simpa [POp.cells] using hu
    | succ j =>
      simp at hx
      rw [e, List.getElem?_append_right (by simp [POp.cells]; omega)]
      have := ih j hx i u hu
      rwa [show (j + 1) * 5 + i - (POp.cells y).length = j * 5 + i by simp [POp.cells]; omega]
theorem Arr.of_ops {w : World} {base : Nat} {e : TypeId} {v : Value} {l : List POp} (h : w.ownsRow base e 5 v l.length (opsCells l)) : Arr OpE 5 w v l := by
  rcases h.2 with ⟨rfl, h0⟩ | ⟨g, cap, cur, rfl, hb, hh, h1, h2, h3, h4⟩
  · obtain rfl : l = [] := List.eq_nil_of_length_eq_zero h0
    exact ⟨none, 0, rfl, by simp, fun h => by simp at h⟩
  · refine ⟨some ⟨g, 0, none⟩, cap, rfl, ⟨by simp only [maxLen] at h2; omega, h1⟩, fun _ => ⟨_, rfl, rfl, fun j x hx => ⟨_, rfl, rfl, fun i u hu => ?_⟩⟩⟩
    have hc := h.cells (g := g) rfl _ _ (opsCells_at l j x hx i u hu)
    rw [← hc]
    congr 1
    unfold Addr.add
    split
    · rename_i h0; simp [h0]
    · simp
theorem EvCellsT.at_ {tq : TypeId} {w : World} {base : Nat} : ∀ {es : List PEv} {xs : List Value}, EvCellsT tq w base es xs → ∀ j e, es[j]? = some e →
    ∃ u, w.ownsRow base tq 5 u e.ops.length (opsCells e.ops) ∧ ∀ i v, [Value.int .i64 e.k, .int .i64 e.a, .int .i64 e.b, .int .i64 e.n, u][i]? = some v → xs[j * 5 + i]? = some v
  | [], _, _, j, e, hj => by simp at hj
  | e0 :: es, _, ⟨u, rest, hx, h1, h2⟩, 0, e, hj => by
    simp at hj
    subst hj
    refine ⟨u, h1, fun i v hv => ?_⟩
    have hi : i < 5 := by have := (List.getElem?_eq_some_iff.1 hv).1; simpa using this
    rw [hx, Nat.zero_mul, Nat.zero_add]
    match i, hi with
    | 0, _ => simpa using hv
    | 1, _ => simpa using hv
    | 2, _ => simpa using hv
    | 3, _ => simpa using hv
    | 4, _ => simpa using hv
  | e0 :: es, _, ⟨u, rest, hx, h1, h2⟩, j + 1, e, hj => by
    simp at hj
    obtain ⟨u', g1, g2⟩ := EvCellsT.at_ h2 j e hj
    refine ⟨u', g1, fun i v hv => ?_⟩
    have := g2 i v hv
    rw [hx, show (j + 1) * 5 + i = j * 5 + i + 5 by omega]
    simpa using this
theorem Arr.of_evs {te tq : TypeId} {w : World} {base : Nat} {v : Value} {l : List PEv} (h : EvsOwnT te tq w base v l) : Arr EvE 5 w v l := by
  obtain ⟨xs, ho, hc⟩ := h
  rcases ho.2 with ⟨rfl, h0⟩ | ⟨g, cap, cur, rfl, hb, hh, h1, h2, h3, h4⟩
  · obtain rfl : l = [] := List.eq_nil_of_length_eq_zero h0
    exact ⟨none, 0, rfl, by simp, fun h => by simp at h⟩
  · refine ⟨some ⟨g, 0, none⟩, cap, rfl, ⟨by simp only [maxLen] at h2; omega, h1⟩, fun _ => ⟨_, rfl, rfl, fun j x hx => ?_⟩⟩
    obtain ⟨u, g1, g2⟩ := hc.at_ j x hx
    refine ⟨_, ⟨u, rfl, Arr.of_ops g1⟩, rfl, fun i v hv => ?_⟩
    have hc := ho.cells (g := g) rfl _ _ (g2 i v hv)
    rw [← hc]
    congr 1
    unfold Addr.add
    split
    · rename_i h0; simp [h0]
    · simp
theorem OpE.any {w w' : World} (x : POp) (cs : List Value) (h : OpE w x cs) : OpE w' x cs := h
theorem EvE.below {w w' : World} (hg : w.grownBy w' none) (x : PEv) (cs : List Value) (h : EvE w x cs) : EvE w' x cs := let ⟨u, h1, h2⟩ := h; ⟨u, h1, h2.below hg (fun _ _ => OpE.any _ _)⟩

theorem infoPOp : (Try.prog.info? 54).map (fun i => (i.zero, i.size, i.bytes)) = some (some (.agg #[.int .i64 0, .int .i64 0, .int .i64 0, .int .i64 0, .int .i64 0]), 5, 40) := by kernel_rfl
def Pl20Post (w : World) (base : Nat) (l : List POp) (e : Ending) (w' : World) : Prop := ∃ v, e = .returned v ∧ w'.ownsRow base 54 5 v l.length (opsCells l) ∧ w.grownBy w' none
set_option maxRecDepth 100000 in
set_option maxHeartbeats 3200000 in
theorem plain20_walk (v : Value) (l : List POp) (w : World) (base : Nat) (hbase : w.heap.size = base) (h : Arr OpE 5 w v l) (hl : l.length ≤ 100000000) :
    Calls Try.prog 18 #[v] w (Pl20Post w base l) := by
  obtain ⟨i0, hi, hz0, hz1, hz2⟩ := info_parts infoPOp
  obtain ⟨A, c, rfl⟩ := h.len
  have H := As.mk h
  have HB := As.mk hbase
  clear h
  go_enter Try.func18, Try.ntmps18
  go_wp2_with fail
  clear hbase
  go_loopw [3, 8] (fun o i wr => ∃ k : Nat, k ≤ l.length ∧ i = .int .i64 k ∧ As (wr.ownsRow base 54 5 o k (opsCells (l.take k)) ∧ w.grownBy wr none)) (fun _ i _ => l.length - (intOf i).toNat)
  case atStart => exact ⟨0, Nat.zero_le _, rfl, ⟨World.ownsRow_nil _ _ _ _, gr_refl _ _⟩⟩
  case round =>
    obtain ⟨k, hk, rfl, HL⟩ := hrel
    obtain ⟨A', c', rfl⟩ := own_shape HL.out.1
    by_cases hlt : k < l.length
    · have hltI : (k : Int) < (l.length : Int) := by omega
      have hk0 : (0 : Int) ≤ (k : Int) := by omega
      obtain ⟨b, o, cs, rfl, hE, hcs, hcell⟩ := H.out.at_ k l[k] (List.getElem?_eq_getElem hlt)
      obtain rfl := hE
      have c0 : wr.cell? ⟨b, o + k * 5, none⟩ = _ := HL.out.2.cell (hcell 0 _ rfl) (by simp)
      have c1 := HL.out.2.cell (hcell 1 _ rfl) (by simp)
      have c2 := HL.out.2.cell (hcell 2 _ rfl) (by simp)
      have c3 := HL.out.2.cell (hcell 3 _ rfl) (by simp)
      have c4 := HL.out.2.cell (hcell 4 _ rfl) (by simp)
      clear hcell hcs
      go_wp2_with (at_builtin; refine wpList_append_lies _ (by rfl) _ _ _ (by rfl) base 54 i0 _ 5 40 Try.underlying39 hi hz0 hz1 hz2 rfl (by omega) _ k _ (by rfl) ((HL.out.1.alloc _).alloc _) ⟨wr.heap.size + 1, 0, none⟩ 1 1 [.int .i64 (l[k]'hlt).k, .int .i64 (l[k]'hlt).c, .int .i64 (l[k]'hlt).r, .int .i64 (l[k]'hlt).o, .int .i64 (l[k]'hlt).n] (by rfl) (by rfl) (World.news_of_block (cs := #[.int .i64 (l[k]'hlt).k, .int .i64 (l[k]'hlt).c, .int .i64 (l[k]'hlt).r, .int .i64 (l[k]'hlt).o, .int .i64 (l[k]'hlt).n]) (t := 54) (fr := (0, 0)) (heap_alloc2_new wr _ _)) (by simp [Value.oneCell']) (by omega) (by simp only [maxLen]; omega) (by omega) (by have := HL.out.2.size; have := HB.out; simp; omega) (wr.heap.size + 2) (by simp) ?_; intro gg cap w5 hown1 hgrow hat hlt2)
      go_roundw
      case measure => simp [intOf]; omega
      case rel => exact ⟨k + 1, by omega, by go_num, ⟨by rw [List.take_succ_eq_append_getElem hlt, opsCells_snoc]; exact hown1, gr_then (gr_alloc (gr_alloc HL.out.2 _) _) hgrow (.inr (.inr (fun q hq => by have := HL.out.1.lt q hq; have := HB.out; omega)))⟩⟩
    · obtain rfl : k = l.length := by omega
      go_wp2
      go_ret
      have h1 := HL.out.1
      rw [List.take_of_length_le (Nat.le_refl _)] at h1
      exact ⟨_, rfl, h1, HL.out.2⟩
theorem infoPEv : (Try.prog.info? 41).map (fun i => (i.zero, i.size, i.bytes)) = some (some (.agg #[.int .i64 0, .int .i64 0, .int .i64 0, .int .i64 0, .slice none 0 0]), 5, 56) := by kernel_rfl
abbrev PEvs := EvsOwnT 41 54
theorem blk5 {w : World} {b : Nat} {t : TypeId} {v0 v1 v2 v3 v4 : Value} (h : Blk w b t #[v0, v1, v2, v3, v4]) : w.cell? ⟨b, 0, none⟩ = some v0 ∧ w.cell? ⟨b, 1, none⟩ = some v1 ∧ w.cell? ⟨b, 2, none⟩ = some v2 ∧ w.cell? ⟨b, 3, none⟩ = some v3 ∧ w.cell? ⟨b, 4, none⟩ = some v4 := ⟨h.cell 0, h.cell 1, h.cell 2, h.cell 3, h.cell 4⟩
theorem pl26_step {w0 W w5 : World} {base k : Nat} {l : List PEv} {v v' u : Value} {xs : List Value} {ev : PEv} {o : Obj} (hk : k < l.length) (he : l[k] = ev)
    (hown : w5.ownsRow base 41 5 v' (k + 1) (xs ++ [.int .i64 ev.k, .int .i64 ev.a, .int .i64 ev.b, .int .i64 ev.n, u])) (hg : (W.alloc o).grownBy w5 v.ownBlock)
    (h5 : W.ownsRow base 41 5 v k xs) (h6 : EvCellsT 54 W base (l.take k) xs) (h7 : w0.grownBy W none)
    (hu : W.ownsRow base 54 5 u ev.ops.length (opsCells ev.ops)) (hb : w0.heap.size = base) : PEvs w5 base v' (l.take (k + 1)) ∧ w0.grownBy w5 none := by
  rw [List.take_succ_eq_append_getElem hk, he]
  refine ⟨⟨xs ++ [.int .i64 ev.k, .int .i64 ev.a, .int .i64 ev.b, .int .i64 ev.n, u], by rw [List.length_append, List.length_take, Nat.min_eq_left (by omega)]; exact hown, ?_⟩, gr_then (gr_alloc h7 _) hg (.inr (.inr (fun q hq => by have := h5.lt q hq; omega)))⟩
  have h6' := (h6.grown (World.grownBy_alloc W o none) (by simp)).grown hg (own_row_type (h5.alloc o) (by decide))
  exact EvCellsT.snoc (own_grown (hu.alloc o) hg (own_types hu h5 (by decide))) h6'
def Pl26Post (w : World) (base : Nat) (l : List PEv) (e : Ending) (w' : World) : Prop := ∃ v, e = .returned v ∧ PEvs w' base v l ∧ w.grownBy w' none
set_option maxRecDepth 100000 in
set_option maxHeartbeats 3200000 in
theorem plain26_walk (v : Value) (l : List PEv) (w : World) (base : Nat) (hbase : w.heap.size = base) (h : Arr EvE 5 w v l) (hl : l.length ≤ 100000000) (hl2 : ∀ x ∈ l, x.ops.length ≤ 100000000) :
    Calls Try.prog 10 #[v] w (Pl26Post w base l) := by
  obtain ⟨i0, hi, hz0, hz1, hz2⟩ := info_parts infoPEv
  obtain ⟨A, c, rfl⟩ := h.len
  have H := As.mk h
  have HB := As.mk hbase
  have HL2 := As.mk hl2
  clear h hl2
  go_enter Try.func10, Try.ntmps10
  go_wp2_with fail
  clear hbase
  go_loopw [3, 8] (fun o i wr => ∃ k : Nat, k ≤ l.length ∧ i = .int .i64 k ∧ As (PEvs wr base o (l.take k) ∧ w.grownBy wr none)) (fun _ i _ => l.length - (intOf i).toNat)
  case atStart => exact ⟨0, Nat.zero_le _, rfl, ⟨⟨[], World.ownsRow_nil _ _ _ _, rfl⟩, gr_refl _ _⟩⟩
  case round =>
    obtain ⟨k, hk, rfl, HL⟩ := hrel
    obtain ⟨⟨xs, HO, HC⟩, HG⟩ := HL.out
    rw [List.length_take, Nat.min_eq_left hk] at HO
    obtain ⟨A', c', rfl⟩ := own_shape HO
    have D5 := As.mk HO
    have D6 := As.mk HC
    have D7 := As.mk HG
    clear HL HO HC
    by_cases hlt : k < l.length
    · have hltI : (k : Int) < (l.length : Int) := by omega
      have hk0 : (0 : Int) ≤ (k : Int) := by omega
      obtain ⟨b, o, cs, rfl, ⟨u, hE, hu⟩, hcs, hcell⟩ := H.out.at_ k l[k] (List.getElem?_eq_getElem hlt)
      subst hE
      have c0 : wr.cell? ⟨b, o + k * 5, none⟩ = _ := HG.cell (hcell 0 _ rfl) (by simp)
      have c1 := HG.cell (hcell 1 _ rfl) (by simp)
      have c2 := HG.cell (hcell 2 _ rfl) (by simp)
      have c3 := HG.cell (hcell 3 _ rfl) (by simp)
      have c4 := HG.cell (hcell 4 _ rfl) (by simp)
      have HU := As.mk (hu.below HG (fun _ _ => OpE.any _ _))
      have HL3 := As.mk (HL2.out _ (List.getElem_mem hlt))
      obtain ⟨A2, c2', rfl⟩ := hu.len
      clear hcell hcs hu HG
      generalize hev : l[k]'hlt = ev at *
      have HEV := As.mk hev
      clear hev
      go_wp2_with fail
      have F0 := As.mk (Blk.new wr 37 #[.int .i64 ev.k, .int .i64 ev.a, .int .i64 ev.b, .int .i64 ev.n, .slice A2 ev.ops.length c2'])
      have F5 := As.mk (D5.out.alloc (.cells #[.int .i64 ev.k, .int .i64 ev.a, .int .i64 ev.b, .int .i64 ev.n, .slice A2 ev.ops.length c2'] 37))
      have F6 := As.mk (D6.out.grown (World.grownBy_alloc wr (.cells #[.int .i64 ev.k, .int .i64 ev.a, .int .i64 ev.b, .int .i64 ev.n, .slice A2 ev.ops.length c2'] 37) none) (by simp))
      have F7 := As.mk (gr_alloc D7.out (.cells #[.int .i64 ev.k, .int .i64 ev.a, .int .i64 ev.b, .int .i64 ev.n, .slice A2 ev.ops.length c2'] 37))
      have F8 := As.mk (HU.out.below (World.grownBy_alloc wr (.cells #[.int .i64 ev.k, .int .i64 ev.a, .int .i64 ev.b, .int .i64 ev.n, .slice A2 ev.ops.length c2'] 37) none) (fun _ _ => OpE.any _ _))
      clear c0 c1 c2 c3 c4 D5 D6 D7 HU
      generalize wr.alloc (.cells #[.int .i64 ev.k, .int .i64 ev.a, .int .i64 ev.b, .int .i64 ev.n, .slice A2 ev.ops.length c2'] 37) = W at *
      generalize wr.heap.size = ge at *
      have e0 : W.cell? ⟨ge, 0, none⟩ = some (.int .i64 ev.k) := F0.out.cell 0
      have e1 : W.cell? ⟨ge, 1, none⟩ = some (.int .i64 ev.a) := F0.out.cell 1
      have e2 : W.cell? ⟨ge, 2, none⟩ = some (.int .i64 ev.b) := F0.out.cell 2
      have e3 : W.cell? ⟨ge, 3, none⟩ = some (.int .i64 ev.n) := F0.out.cell 3
      have e4 : W.cell? ⟨ge, 4, none⟩ = some (.slice A2 ev.ops.length c2') := F0.out.cell 4
      go_region_held3 (fun w' => w'.cell? ⟨ge, 0, none⟩ = some (.int .i64 ev.k) ∧ w'.cell? ⟨ge, 1, none⟩ = some (.int .i64 ev.a) ∧ w'.cell? ⟨ge, 2, none⟩ = some (.int .i64 ev.b) ∧ w'.cell? ⟨ge, 3, none⟩ = some (.int .i64 ev.n) ∧ w'.cell? ⟨ge, 4, none⟩ = some (.slice A2 ev.ops.length c2'))
        (first | with_reducible exact blk5 F0.out | with_reducible exact blk5 F0.out.drew | with_reducible exact blk5 (F0.out.alloc _) | with_reducible exact blk5 (F0.out.alloc _).drew | go_keep)
        (first
          | (go_at_call 18; refine (plain20_walk _ ev.ops _ _ rfl (F8.out.below (gr_drew (gr_refl W none)) (fun _ _ => OpE.any _ _)) HL3.out).mono ?_; rintro e w3 ⟨u3, rfl, hown, hg⟩
             have n0 := As.mk (F0.out.drew.grown hg (by simp)); have n5 := As.mk (own_grown (own_drew F5.out) hg (by cases (Value.slice A' k c').ownBlock <;> simp)); have n6 := As.mk ((F6.out.grown (gr_drew (gr_refl W none)) (by simp)).grown hg (by simp)); have n7 := As.mk (gr_then (gr_drew F7.out) hg (.inl rfl))
             have n8 := As.mk (own_mono (base := base) hown (by have := F7.out.size; have := HB.out; simp; omega))
             obtain ⟨A3, c3', rfl⟩ := own_shape hown
             clear hown hg F0 F5 F6 F7 F8 e0 e1 e2 e3 e4
             have F0 := n0; have F5 := n5; have F6 := n6; have F7 := n7; have F8 := n8
             clear n0 n5 n6 n7 n8)
          | (refine step_append_lies _ (by rfl) _ _ _ (by rfl) base 41 i0 _ 5 56 Try.underlying28 hi hz0 hz1 hz2 rfl (by omega) _ k xs (by rfl) (F5.out.alloc _) ⟨w3.heap.size, 0, none⟩ 1 1 [.int .i64 ev.k, .int .i64 ev.a, .int .i64 ev.b, .int .i64 ev.n, .slice A3 ev.ops.length c3'] (by rfl) (by rfl) (World.news_of_block (cs := #[.int .i64 ev.k, .int .i64 ev.a, .int .i64 ev.b, .int .i64 ev.n, .slice A3 ev.ops.length c3']) (t := 41) (fr := (0, 0)) (heap_alloc_new w3 _)) (by simp [Value.oneCell']) (by omega) (by simp only [maxLen]; omega) (by omega) (by have := F7.out.size; have := HB.out; simp; omega) (w3.heap.size + 1) (by simp) ?_; intro gg cap w5 hown1 hgrow hat hlt2
             have g0 := As.mk ((F0.out.alloc (.cells #[.int .i64 ev.k, .int .i64 ev.a, .int .i64 ev.b, .int .i64 ev.n, .slice A3 ev.ops.length c3'] 41)).grown hgrow (own_ne F0.out F5.out (by decide)))
             have HX := As.mk (pl26_step hlt HEV.out hown1 hgrow F5.out F6.out F7.out F8.out HB.out)
             clear F0 hown1 hgrow hat hlt2 F5 F6 F7 F8
             have F0 := g0
             clear g0))
      go_wp2_with fail
      go_roundw
      case measure => simp [intOf]; omega
      case rel => exact ⟨k + 1, by omega, by go_num, HX⟩
    · obtain rfl : k = l.length := by omega
      go_wp2
      go_ret
      exact ⟨_, rfl, ⟨xs, D5.out, by have := D6.out; rwa [List.take_of_length_le (Nat.le_refl _)] at this⟩, D7.out⟩
end Go.Proofs.Ytmmgmdfhdhnmaaa
