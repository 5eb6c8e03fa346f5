/- The walk of a nest's Items. -/
import Derived.Test.YtgmhopkajopfcaaNc
import Derived.Test.YtgmhopkajopfcaaAr
import Derived.Test.YtgmhopkajopfcaaNj
import Derived.Deep.AppendLies
namespace Go.Proofs.Ytgmhopkajopfcaa
open Go.RowKit Go.Maps
set_option linter.unusedVariables false
set_option linter.unusedSimpArgs false

structure PIt where
  c : Int
  v : Int
  a : Int
  wr : Bool
  nw : Int
def ItE (w : World) (x : PIt) (cs : List Value) : Prop := cs = [.int .i64 x.c, .int .i64 x.v, .int .i64 x.a, .bool x.wr, .int .i64 x.nw]
theorem ItE.any {w w' : World} (x : PIt) (cs : List Value) (h : ItE w x cs) : ItE w' x cs := h
def itCells (l : List PIt) : List Value := l.flatMap fun x => [.int .i64 x.c, .int .i64 x.v, .int .i64 x.a, .bool x.wr, .int .i64 x.nw]
theorem itCells_snoc (l : List PIt) (x : PIt) : itCells (l ++ [x]) = itCells l ++ [.int .i64 x.c, .int .i64 x.v, .int .i64 x.a, .bool x.wr, .int .i64 x.nw] := by
  simp [itCells]
theorem itCells_at (l : List PIt) (j : Nat) (x : PIt) (hx : l[j]? = some x) : ∀ i u, [Value.int .i64 x.c, .int .i64 x.v, .int .i64 x.a, .bool x.wr, .int .i64 x.nw][i]? = some u → (itCells l)[j * 5 + i]? = some u := by
  induction l generalizing j with
  | nil => simp at hx
  | cons y l ih =>
    intro i u hu
    have hi : i < 5 := by have := (List.getElem?_eq_some_iff.1 hu).1; simpa using this
    have e : itCells (y :: l) = [.int .i64 y.c, .int .i64 y.v, .int .i64 y.a, .bool y.wr, .int .i64 y.nw] ++ itCells l := rfl
    cases j with
    | zero =>
      simp at hx
      subst hx
      rw [e, List.getElem?_append_left (by simp; omega)]
      simpa using hu
    | succ j =>
      simp at hx
      rw [e, List.getElem?_append_right (by simp; omega)]
      have := ih j hx i u hu
      simp only [List.length_cons, List.length_nil]
      rw [← this]
      congr 1
      omega
theorem Arr.of_its {w : World} {base : Nat} {e : TypeId} {v : Value} {l : List PIt} (h : w.ownsRow base e 5 v l.length (itCells l)) : Arr ItE 5 w v l := by
  rcases h.2 with ⟨rfl, h0⟩ | ⟨g, cap, cur, rfl, hb, hh, h1, h2, h3, h4⟩
  · obtain rfl : l = [] := List.eq_nil_of_length_eq_zero h0
    exact ⟨none, 0, rfl, by simp, fun h => by simp at h⟩
  · refine ⟨some ⟨g, 0, none⟩, cap, rfl, ⟨by simp only [maxLen] at h2; omega, h1⟩, fun _ => ⟨_, rfl, rfl, fun j x hx => ⟨_, rfl, rfl, fun i u hu => ?_⟩⟩⟩
    have := own_cellAt h (j * 5 + i) u (itCells_at l j x hx i u hu)
    rw [← this]
    congr 1
    simp
theorem own_gr0 {w w' : World} {base : Nat} {e : TypeId} {size n : Nat} {v : Value} {xs : List Value} (h : w.ownsRow base e size v n xs) (hg : w.grownBy w' none) : w'.ownsRow base e size v n xs :=
  own_grown h hg (by rcases hv : v.ownBlock with _ | x; exact .inl rfl; exact .inr (by simp))
theorem size2 (w : World) (a b : Addr) (u v : Value) : ((w.setCell a u).setCell b v).heap.size = w.heap.size := by simp [World.setCell]
theorem infoItem : (Try.prog.info? 40).map (fun i => (i.zero, i.size, i.bytes)) = some (some (.agg #[.int .i64 0, .int .i64 0, .int .i64 0, .bool false, .int .i64 0]), 5, 40) := by kernel_rfl
/-- What Items has of a cell. -/
def itN (rd : Rd) (lv : Lv) (c : Int) : PIt := ⟨c, ((rd.2 c).getD (0, 0)).1, ((rd.2 c).getD (0, 0)).2, (wrF lv c).isSome, (wrF lv c).getD 0⟩
def itsN (rd : Rd) (lv : Lv) : List PIt := (keysF rd.2).map (itN rd lv)
theorem NVal.dom {rd : Rd} {lv : Lv} (h : NVal rd lv) : ∀ c, (rd.2 c).isSome = true → 0 ≤ c ∧ c < 16 := fun c hc => by
  obtain ⟨p, hp⟩ := Option.isSome_iff_exists.1 hc
  have := h.cell c p hp
  unfold cellOk at this
  simp at this
  omega
set_option maxRecDepth 100000 in
set_option maxHeartbeats 6400000 in
theorem items_c {w : World} {B nb : Nat} {F : Nat → Prop} {rd : Rd} {lv : Lv} (h : NestAt w B nb F rd lv) (hl : lv.length ≤ 1000000) (h0 : 0 < lv.length) (hv : NVal rd lv) :
    Calls Try.prog 28 #[NP nb] w fun e w' => (∃ v, e = .returned v ∧ w'.ownsRow w.heap.size 40 5 v (itsN rd lv).length (itCells (itsN rd lv))) ∧ w.grownBy w' none := by
  obtain ⟨i0, hi, hz0, hz1, hz2⟩ := info_parts infoItem
  have HI := As.mk (And.intro hi (And.intro hz0 (And.intro hz1 hz2)))
  clear hi hz0 hz1 hz2
  have hn16 : (keysF rd.2).length ≤ 16 := by
    unfold keysF
    refine Nat.le_trans (List.length_filter_le _ _) ?_
    simp
  have HN := As.mk (And.intro h (And.intro hl (And.intro h0 hv)))
  obtain ⟨rb, v, bs, hF, hW⟩ := h
  have c0 := hW.blk.cell 0
  have HR := As.mk hW.rmap
  have HBk := As.mk hW.blk
  clear hF hW hl h0 hv
  unfold NP
  go_enter Try.func28, Try.ntmps28
  go_wp2_with fail
  refine (keys_c rb w).mono ?_
  rintro e w1 ⟨rfl, rfl⟩
  go_wp2_with fail
  refine (sorted_c HR.out HN.out.2.2.2.dom).mono ?_
  rintro e w1 ⟨⟨sv, rfl, hown⟩, g1⟩
  obtain ⟨A, cap, rfl⟩ := own_shape hown
  have H1 := As.mk (And.intro hown g1)
  clear hown g1 c0
  obtain ⟨base, hbase⟩ : ∃ b, b = w1.heap.size := ⟨_, rfl⟩
  have HB := As.mk hbase
  clear hbase
  go_wp2_with fail
  go_loopw [3, 16] (fun o i wr => ∃ k : Nat, k ≤ (keysF rd.2).length ∧ i = .int .i64 k ∧ (∃ A' c', o = .slice A' k c') ∧ As (wr.ownsRow base 40 5 o k (itCells ((itsN rd lv).take k)) ∧ w1.grownBy wr none)) (fun _ i _ => (keysF rd.2).length - (Go.RowKit.intOf i).toNat)
  case atStart => exact ⟨0, Nat.zero_le _, rfl, ⟨_, _, rfl⟩, ⟨⟨by simp [itCells], .inl ⟨rfl, rfl⟩⟩, gr_refl _ _⟩⟩
  case round =>
    obtain ⟨k, hk, rfl, ⟨A', c', rfl⟩, HL⟩ := hrel
    by_cases hlt : k < (keysF rd.2).length
    · have hltI : (k : Int) < ((keysF rd.2).length : Int) := by omega
      have hk0 : (0 : Int) ≤ (k : Int) := by omega
      obtain ⟨ga, cap', hv⟩ := own_some H1.out.1 (by omega)
      injection hv with hv1 _ hv3
      subst hv1 hv3
      have hcI : (ivs (keysF rd.2))[k]? = some (.int .i64 (keysF rd.2)[k]) := by simp [ivs, List.getElem?_eq_getElem hlt]
      have d0 : wr.cell? ⟨ga, k, none⟩ = _ := HL.out.2.cell (own_cellAt H1.out.1 k _ hcI) (by simp)
      have hmem := mem_keysF.1 (List.getElem_mem hlt)
      have htk : (itsN rd lv).take (k + 1) = (itsN rd lv).take k ++ [itN rd lv (keysF rd.2)[k]] := by
        have hl2 : k < (itsN rd lv).length := by unfold itsN; simpa using hlt
        rw [List.take_succ_eq_append_getElem hl2]
        simp [itsN]
      generalize hc : (keysF rd.2)[k] = c at *
      obtain ⟨⟨hc0, hc1⟩, hc2⟩ := hmem
      obtain ⟨p, hp⟩ := Option.isSome_iff_exists.1 hc2
      obtain ⟨p1, p2⟩ := p
      have HG := As.mk (show w.grownBy wr none from H1.out.2.trans HL.out.2)
      have hrow := HG.out
      have e0 := hrow.cell (HBk.out.cell 0) (by simp)
      have HMr := As.mk (HR.out.kept hrow (by simp))
      have HP := As.mk (And.intro hp (show K64 c from ⟨by omega, by omega⟩))
      have HTK := As.mk htk
      clear hrow hc hp hc2 htk hcI
      go_wp2_with fail
      refine wp_region_noPanic ?_
      have HOd := As.mk (show wr.drew.ownsRow base 40 5 (.slice A' k c') k (itCells ((itsN rd lv).take k)) from HL.out.1)
      have HGd := As.mk (show w.grownBy wr.drew none from gr_drew HG.out)
      have HG1d := As.mk (show w1.grownBy wr.drew none from gr_drew HL.out.2)
      have HMd := As.mk (HR.out.kept HGd.out (by simp))
      have E0d := As.mk (HGd.out.cell (HBk.out.cell 0) (by simp))
      clear HL HG HMr e0
      have hfd0 : ∀ w : World, (Instr.field 87 (.agg #[.int .i64 p1, .int .i64 p2]) 0).run Try.prog w = .ok (.int .i64 p1) w := fun _ => by kernel_rfl
      have hfd1 : ∀ w : World, (Instr.field 87 (.agg #[.int .i64 p1, .int .i64 p2]) 1).run Try.prog w = .ok (.int .i64 p2) w := fun _ => by kernel_rfl
      refine wp_region_held_drew (S := fun w' => w'.cell? ⟨nb, 0, none⟩ = some (.map (some rb)) ∧ MapF elSeen w' rb rd.1 rd.2) (by kernel_rfl) ⟨E0d.out, HMd.out⟩ (fun _ => ?_)
      generalize wr.drew = W2 at *
      refine wpAnyH_take (i := 0) (v := ?v0) rfl (by kernel_rfl) (by kernel_rfl) (by kernel_rfl) (fun _ _ _ h => h) (Or.inl ⟨by rfl, ?y0⟩) ⟨E0d.out, HMd.out⟩ ?r0
      case y0 => (intro w0_ _; go_simp; try with_reducible rfl)
      try simp only [Act.put, List.setIfInBounds_toArray, List.set_cons_zero, List.set_cons_succ]
      refine wpAnyH_take (i := 1) (v := ?v1) rfl (by kernel_rfl) (by kernel_rfl) (by kernel_rfl) (fun _ _ _ h => h) (Or.inl ⟨by rfl, ?y1⟩) ⟨E0d.out, HMd.out⟩ ?r1
      case y1 => (intro w0_ _; go_simp; try with_reducible rfl)
      try simp only [Act.put, List.setIfInBounds_toArray, List.set_cons_zero, List.set_cons_succ]
      refine wpAnyH_take (i := 2) (v := ?v2) rfl (by kernel_rfl) (by kernel_rfl) (by kernel_rfl) (fun _ _ _ h => h) (Or.inl ⟨by rfl, ?y2⟩) ⟨E0d.out, HMd.out⟩ ?r2
      case y2 => (intro w0_ _; go_simp; try with_reducible rfl)
      try simp only [Act.put, List.setIfInBounds_toArray, List.set_cons_zero, List.set_cons_succ]
      refine wpAnyH_take (i := 3) (v := ?v3) rfl (by kernel_rfl) (by kernel_rfl) (by kernel_rfl) (fun _ _ _ h => h) (Or.inl ⟨by rfl, ?y3⟩) ⟨E0d.out, HMd.out⟩ ?r3
      case y3 => (intro w0_ _; go_simp; try with_reducible rfl)
      try simp only [Act.put, List.setIfInBounds_toArray, List.set_cons_zero, List.set_cons_succ]
      refine wpAnyH_take (i := 4) (v := ?v4) rfl (by kernel_rfl) (by kernel_rfl) (by kernel_rfl) (fun _ _ _ h => h) (Or.inl ⟨by rfl, ?y4⟩) ⟨E0d.out, HMd.out⟩ ?r4
      case y4 => (intro w0_ hs_; have hs1_ := hs_.1; go_simp; try with_reducible rfl)
      try simp only [Act.put, List.setIfInBounds_toArray, List.set_cons_zero, List.set_cons_succ]
      refine wpAnyH_take (i := 5) (v := ?v5) rfl (by kernel_rfl) (by kernel_rfl) (by kernel_rfl) (fun _ _ _ h => h) (Or.inl ⟨by rfl, ?y5⟩) ⟨E0d.out, HMd.out⟩ ?r5
      case y5 => (intro w0_ _; go_simp; try with_reducible rfl)
      try simp only [Act.put, List.setIfInBounds_toArray, List.set_cons_zero, List.set_cons_succ]
      refine wpAnyH_take (i := 6) (v := ?v6) rfl (by kernel_rfl) (by kernel_rfl) (by kernel_rfl) (fun _ _ _ h => h) (Or.inl ⟨by rfl, ?y6⟩) ⟨E0d.out, HMd.out⟩ ?r6
      case y6 => (intro w0_ hs_; have hrun_ : (Instr.lookup 79 (.map (some rb)) (.int .i64 c) false).run Try.prog w0_ = .ok (.agg #[.int .i64 p1, .int .i64 p2]) w0_ := hs_.2.run1 HP.out.2 HP.out.1; go_simp; try with_reducible rfl)
      try simp only [Act.put, List.setIfInBounds_toArray, List.set_cons_zero, List.set_cons_succ]
      refine wpAnyH_take (i := 7) (v := ?v7) rfl (by kernel_rfl) (by kernel_rfl) (by kernel_rfl) (fun _ _ _ h => h) (Or.inl ⟨by rfl, ?y7⟩) ⟨E0d.out, HMd.out⟩ ?r7
      case y7 => (intro w0_ _; go_simp; try with_reducible rfl)
      try simp only [Act.put, List.setIfInBounds_toArray, List.set_cons_zero, List.set_cons_succ]
      refine wpAnyH_take (i := 8) (v := ?v8) rfl (by kernel_rfl) (by kernel_rfl) (by kernel_rfl) (fun _ _ _ h => h) (Or.inl ⟨by rfl, ?y8⟩) ⟨E0d.out, HMd.out⟩ ?r8
      case y8 => (intro w0_ _; go_simp; try with_reducible rfl)
      try simp only [Act.put, List.setIfInBounds_toArray, List.set_cons_zero, List.set_cons_succ]
      refine wpAnyH_take (i := 9) (v := ?v9) rfl (by kernel_rfl) (by kernel_rfl) (by kernel_rfl) (fun _ _ _ h => h) (Or.inl ⟨by rfl, ?y9⟩) ⟨E0d.out, HMd.out⟩ ?r9
      case y9 => (intro w0_ _; go_simp; try with_reducible rfl)
      try simp only [Act.put, List.setIfInBounds_toArray, List.set_cons_zero, List.set_cons_succ]
      refine wpAnyH_take (i := 10) (v := ?v10) rfl (by kernel_rfl) (by kernel_rfl) (by kernel_rfl) (fun _ _ _ h => h) (Or.inl ⟨by rfl, ?y10⟩) ⟨E0d.out, HMd.out⟩ ?r10
      case y10 => (intro w0_ _; go_simp; try with_reducible rfl)
      try simp only [Act.put, List.setIfInBounds_toArray, List.set_cons_zero, List.set_cons_succ]
      refine wpAnyH_take (i := 11) (v := ?v11) rfl (by kernel_rfl) (by kernel_rfl) (by kernel_rfl) (fun _ _ _ h => h) (Or.inl ⟨by rfl, ?y11⟩) ⟨E0d.out, HMd.out⟩ ?r11
      case y11 => (intro w0_ hs_; have hs1_ := hs_.1; go_simp; try with_reducible rfl)
      try simp only [Act.put, List.setIfInBounds_toArray, List.set_cons_zero, List.set_cons_succ]
      refine wpAnyH_take (i := 12) (v := ?v12) rfl (by kernel_rfl) (by kernel_rfl) (by kernel_rfl) (fun _ _ _ h => h) (Or.inl ⟨by rfl, ?y12⟩) ⟨E0d.out, HMd.out⟩ ?r12
      case y12 => (intro w0_ _; go_simp; try with_reducible rfl)
      try simp only [Act.put, List.setIfInBounds_toArray, List.set_cons_zero, List.set_cons_succ]
      refine wpAnyH_take (i := 13) (v := ?v13) rfl (by kernel_rfl) (by kernel_rfl) (by kernel_rfl) (fun _ _ _ h => h) (Or.inl ⟨by rfl, ?y13⟩) ⟨E0d.out, HMd.out⟩ ?r13
      case y13 => (intro w0_ hs_; have hrun_ : (Instr.lookup 79 (.map (some rb)) (.int .i64 c) false).run Try.prog w0_ = .ok (.agg #[.int .i64 p1, .int .i64 p2]) w0_ := hs_.2.run1 HP.out.2 HP.out.1; go_simp; try with_reducible rfl)
      try simp only [Act.put, List.setIfInBounds_toArray, List.set_cons_zero, List.set_cons_succ]
      refine wpAnyH_take (i := 14) (v := ?v14) rfl (by kernel_rfl) (by kernel_rfl) (by kernel_rfl) (fun _ _ _ h => h) (Or.inl ⟨by rfl, ?y14⟩) ⟨E0d.out, HMd.out⟩ ?r14
      case y14 => (intro w0_ _; go_simp; try with_reducible rfl)
      try simp only [Act.put, List.setIfInBounds_toArray, List.set_cons_zero, List.set_cons_succ]
      refine wpAnyH_take (i := 15) (v := ?v15) rfl (by kernel_rfl) (by kernel_rfl) (by kernel_rfl) (fun _ _ _ h => h) (Or.inl ⟨by rfl, ?y15⟩) ⟨E0d.out, HMd.out⟩ ?r15
      case y15 => (intro w0_ _; go_simp; try with_reducible rfl)
      try simp only [Act.put, List.setIfInBounds_toArray, List.set_cons_zero, List.set_cons_succ]
      refine wpAnyH_ready (rs := [16]) (by kernel_rfl) (by simp) (AllReadyH.cons (i := 16) rfl (fun K hK => ?_) AllReadyH.nil)
      go_simp
      have hw2 : W2.heap.size < (W2.alloc (.cells #[.int .i64 0, .int .i64 0, .int .i64 0, .bool false, .int .i64 0] 40)).heap.size := by simp
      refine hK.out _ _ ⟨(((HBk.out.grown HGd.out (by simp)).alloc _).cell 0), HMd.out.alloc _⟩ (fun _ => ?_)
      clear hK K
      try simp only [Act.put, List.setIfInBounds_toArray, List.set_cons_zero, List.set_cons_succ]
      refine wpAnyH_ready (rs := [17]) (by kernel_rfl) (by simp) (AllReadyH.cons (i := 17) rfl (fun K hK => ?_) AllReadyH.nil)
      go_simp
      refine hK.out _ _ ⟨(((HBk.out.grown HGd.out (by simp)).alloc _).cell 0), HMd.out.alloc _⟩ (fun _ => ?_)
      clear hK K
      try simp only [Act.put, List.setIfInBounds_toArray, List.set_cons_zero, List.set_cons_succ]
      refine wpAnyH_done (by kernel_rfl) ?_ _
      refine NoPanic.normal ?_
      have HX := As.mk (And.intro (Blk.new W2 40 #[.int .i64 c, .int .i64 p1, .int .i64 p2, .bool false, .int .i64 0]) (And.intro (gr_alloc HGd.out (.cells #[.int .i64 c, .int .i64 p1, .int .i64 p2, .bool false, .int .i64 0] 40)) (And.intro (gr_alloc HG1d.out (.cells #[.int .i64 c, .int .i64 p1, .int .i64 p2, .bool false, .int .i64 0] 40)) (own_alloc' HOd.out (.cells #[.int .i64 c, .int .i64 p1, .int .i64 p2, .bool false, .int .i64 0] 40)))))
      have hbx : base ≤ W2.heap.size := by have := HG1d.out.size; have := HB.out; omega
      have hbo : ∀ q, (Value.slice A' k c').ownBlock = some q → q < W2.heap.size := fun q hq => (HOd.out.lt q hq).2
      have HBX := As.mk (And.intro hbx hbo)
      clear HOd HGd HG1d HMd E0d hw2 hbx hbo hfd0 hfd1
      generalize W2.alloc (.cells #[.int .i64 c, .int .i64 p1, .int .i64 p2, .bool false, .int .i64 0] 40) = W3 at *
      generalize W2.heap.size = gx at *
      go_wp2_with fail
      refine (written_c (HN.out.1.gr HX.out.2.1 (by simp)) HN.out.2.1 HN.out.2.2.1 c HP.out.2).mono ?_
      rintro e w5 ⟨rfl, g5⟩
      have H5 := As.mk (And.intro (HX.out.1.grown g5 (by simp)) (And.intro (HX.out.2.1.trans g5) (And.intro (HX.out.2.2.1.trans g5) (own_gr0 HX.out.2.2.2 g5))))
      clear g5 HX
      unfold wrV
      generalize hnw : (wrF lv c).getD 0 = nw at *
      generalize hws : (wrF lv c).isSome = ws at *
      have HIT : As (itN rd lv c = ⟨c, p1, p2, ws, nw⟩) := ⟨by unfold itN; rw [HP.out.1, hnw, hws]; rfl⟩
      clear hnw hws
      have f0 := H5.out.1.cell 0
      have f1 := H5.out.1.cell 1
      have f2 := H5.out.1.cell 2
      have f3 := H5.out.1.cell 3
      have f4 := H5.out.1.cell 4
      have r3 := H5.out.1.free 3
      have r4 := H5.out.1.free 4
      have hne5 : some gx ≠ (Value.slice A' k c').ownBlock := fun q => by have := HBX.out.2 gx q.symm; omega
      have hlt5 := H5.out.1.lt
      have H6 := As.mk (And.intro (own_far (own_far H5.out.2.2.2 (a := ⟨gx, 4, none⟩) hne5 (.int .i64 nw)) (a := ⟨gx, 3, none⟩) hne5 (.bool ws)) (And.intro (gr_set (gr_set H5.out.2.2.1 (a := ⟨gx, 4, none⟩) (.inr (show w1.heap.size ≤ gx by have := HBX.out.1; have := HB.out; omega)) (.int .i64 nw)) (a := ⟨gx, 3, none⟩) (.inr (show w1.heap.size ≤ gx by have := HBX.out.1; have := HB.out; omega)) (.bool ws)) (size2 w5 ⟨gx, 4, none⟩ ⟨gx, 3, none⟩ (.int .i64 nw) (.bool ws))))
      have HBW := As.mk (show base ≤ w5.heap.size by have := H5.out.2.2.1.size; have := HB.out; omega)
      go_wp2_with (at_builtin; refine wpList_append_lies _ (by rfl) _ _ _ (by rfl) base 40 i0 _ 5 40 Try.underlying37 HI.out.1 HI.out.2.1 HI.out.2.2.1 HI.out.2.2.2 rfl (by omega) _ k _ (by rfl) (own_alloc' H6.out.1 _) ⟨w5.heap.size, 0, none⟩ 1 1 [.int .i64 c, .int .i64 p1, .int .i64 p2, .bool ws, .int .i64 nw] (by rfl) (by rfl) (World.news_of_block (cs := #[.int .i64 c, .int .i64 p1, .int .i64 p2, .bool ws, .int .i64 nw]) (t := 40) (fr := (0, 0)) (by have := heap_alloc_new ((w5.setCell ⟨gx, 4, none⟩ (.int .i64 nw)).setCell ⟨gx, 3, none⟩ (.bool ws)) (.cells #[.int .i64 c, .int .i64 p1, .int .i64 p2, .bool ws, .int .i64 nw] 40); rw [H6.out.2.2] at this; exact this)) (by simp [Value.oneCell']) (by omega) (by simp only [maxLen]; omega) (by omega) (by have := HBW.out; simp; omega) (w5.heap.size + 1) (by simp) ?_; intro gg cap w8 hown1 hgrow hat hlt2)
      have H8 := As.mk (And.intro hown1 (gr_then (gr_alloc H6.out.2.1 _) hgrow (.inr (.inr (fun q hq => by have := (H6.out.1.lt q hq).1; have := HB.out; omega)))))
      clear hown1 hgrow hat hlt2
      go_wp2_with fail
      go_roundw
      case measure => simp [Go.RowKit.intOf]; omega
      case rel => exact ⟨k + 1, by omega, by simp, ⟨_, _, rfl⟩, ⟨by rw [HTK.out, HIT.out, itCells_snoc]; exact H8.out.1, H8.out.2⟩⟩
    · obtain rfl : k = (keysF rd.2).length := by omega
      have hl3 : (itsN rd lv).length = (keysF rd.2).length := by unfold itsN; simp
      have HO := HL.out.1
      rw [List.take_of_length_le (by omega)] at HO
      have HE := As.mk (And.intro (ownsRow_base_a HO (show w.heap.size ≤ base by have := H1.out.2.size; have := HB.out; omega)) (And.intro (H1.out.2.trans HL.out.2) hl3))
      clear HL HO
      go_wp2_with fail
      go_ret
      exact ⟨⟨_, rfl, by rw [HE.out.2.2]; exact HE.out.1⟩, HE.out.2.1⟩
end Go.Proofs.Ytgmhopkajopfcaa
