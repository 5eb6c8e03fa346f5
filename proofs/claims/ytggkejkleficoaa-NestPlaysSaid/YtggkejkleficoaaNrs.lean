/- The walk of the document's nest's Saw. -/
import Derived.Test.YtggkejkleficoaaNrb
import Derived.Test.YtggkejkleficoaaNrh
namespace Go.Proofs.Ytggkejkleficoaa
open Go.RowKit Go.Maps
set_option linter.unusedVariables false
set_option linter.unusedSimpArgs false

theorem itCells_app (l m : List PIt) : itCells (l ++ m) = itCells l ++ itCells m := by simp [itCells]
theorem itCells_len (l : List PIt) : (itCells l).length = l.length * 5 := by
  induction l with
  | nil => rfl
  | cons x l ih =>
    rw [show itCells (x :: l) = [.int .i64 x.c, .int .i64 x.v, .int .i64 x.a, .bool x.wr, .int .i64 x.nw] ++ itCells l from rfl, List.length_append, ih]
    simp
    omega
theorem itCells_take (l : List PIt) (k : Nat) (hk : k ≤ l.length) : itCells (l.take k) = (itCells l).take (k * 5) := by
  have e := itCells_app (l.take k) (l.drop k)
  rw [List.take_append_drop] at e
  have e2 : (itCells (l.take k)).length = k * 5 := by rw [itCells_len, List.length_take]; omega
  rw [e, ← e2, List.take_left]
theorem itCells_drop (l : List PIt) (k : Nat) (hk : k ≤ l.length) : itCells (l.drop k) = (itCells l).drop (k * 5) := by
  have e := itCells_app (l.take k) (l.drop k)
  rw [List.take_append_drop] at e
  have e2 : (itCells (l.take k)).length = k * 5 := by rw [itCells_len, List.length_take]; omega
  rw [e, ← e2, List.drop_left]
theorem srcTake {w : World} {B g cap : Nat} {Rs : List PIt} (h : w.ownsRow B 67 5 (.slice (some ⟨g, 0, none⟩) Rs.length cap) Rs.length (itCells Rs)) (k : Nat) (hk : k ≤ Rs.length) : SrcV w 5 (.slice (some ⟨g, 0, none⟩) k cap) k (itCells (Rs.take k)) := by
  have := own_cut h k hk
  rw [← itCells_take Rs k hk] at this
  exact own_src this (itCells_one _)
theorem srcDrop {w : World} {B g cap : Nat} {Rs : List PIt} (h : w.ownsRow B 67 5 (.slice (some ⟨g, 0, none⟩) Rs.length cap) Rs.length (itCells Rs)) (k : Nat) (hk : k ≤ Rs.length) :
    SrcV w 5 (.slice (if cap = k then some ⟨g, 0, none⟩ else some ⟨g, k * 5, none⟩) (Rs.length - k) (cap - k)) (Rs.length - k) (itCells (Rs.drop k)) := by
  by_cases e : cap = k
  · rw [if_pos e]
    have hn : Rs.length = k := by
      rcases h.2 with ⟨q, _⟩ | ⟨g', cap', cur, q, _, _, h1, _⟩
      · cases q
      · injection q with _ _ q
        subst q
        omega
    rw [← hn, List.drop_length, Nat.sub_self]
    exact .inr ⟨_, _, rfl, rfl, fun j u hj => by simp [itCells] at hj, fun u hu => by simp [itCells] at hu⟩
  · rw [if_neg e]
    refine .inr ⟨_, _, rfl, by rw [itCells_len, List.length_drop], fun j u hj => ?_, itCells_one _⟩
    rw [itCells_drop Rs k hk, List.getElem?_drop] at hj
    rw [Go.WideShapes.add_plain]
    exact own_cellAt h (k * 5 + j) u hj
/-- Where a reading goes in. -/
def insAt (Rs : List PIt) (c : Int) (k : Nat) : Prop := k ≤ Rs.length ∧ (∀ x ∈ Rs.take k, x.c < c) ∧ ∀ x, Rs[k]? = some x → ¬ x.c < c
set_option maxRecDepth 100000 in
set_option maxHeartbeats 12800000 in
theorem saw_r {w : World} {B rb : Nat} {G : Nat → Prop} {Rs : List PIt} {Ls : List (List PPr)} (h : RefAt w B rb G Rs Ls) (hB : B ≤ w.heap.size) (hl : Rs.length ≤ 100000) (c ver a : Int) (hc : 0 ≤ c ∧ c ≤ 15 ∧ 0 ≤ ver ∧ ver ≤ 1099511627776) (hno : ∀ x ∈ Rs, x.c ≠ c) :
    Calls Try.prog 18 #[NP rb, .int .i64 c, .int .i64 ver, .int .i64 a] w fun e w' => e = .returned (.int .i64 0) ∧ ∃ k G', insAt Rs c k ∧ RefAt w' B rb G' (Rs.take k ++ ⟨c, ver, a, false, 0⟩ :: Rs.drop k) Ls ∧ NG w w' G G' := by
  obtain ⟨i0, hi, hz0, hz1, hz2⟩ := info_parts infoItem
  have HI := As.mk (And.intro hi (And.intro hz0 (And.intro hz1 hz2)))
  clear hi hz0 hz1 hz2
  have HH := As.mk (And.intro h hB)
  have hc1 : ¬ c < 0 := by omega
  have hc2 : ¬ 15 < c := by omega
  have hc3 : ¬ ver < 0 := by omega
  have hc4 : ¬ 1099511627776 < ver := by omega
  have HNO := As.mk hno
  clear h hB hc hno
  unfold NP
  go_enter Try.func18, Try.ntmps18
  go_wp2_with fail
  refine (at_r HH.out.1 (by omega) c).mono ?_
  rintro e w1 ⟨⟨r, rfl, hA⟩, rfl⟩
  obtain rfl : r = -1 := by
    rcases hA with ⟨i, x, _, hi, hx⟩ | ⟨h1, _⟩
    · exact absurd hx (HNO.out x (List.mem_of_getElem? hi))
    · exact h1
  clear hA
  obtain ⟨v0, v1, vs, hW, hG, hlo⟩ := HH.out.1
  have c0 := hW.blk.cell 0
  obtain ⟨A, cap, rfl⟩ := own_shape hW.reads
  have hcap : Rs.length ≤ cap := by
    rcases hW.reads.2 with ⟨q, q2⟩ | ⟨g', cap', cur, q, _, _, h1, _⟩
    · omega
    · injection q with _ _ q
      subst q
      exact h1
  have HW := As.mk (And.intro hW hG)
  clear hW hG hlo
  go_wp2_with fail
  go_loopw [9] (fun i wr => ∃ k : Nat, k ≤ Rs.length ∧ i = .int .i64 k ∧ wr = w1 ∧ As (∀ x ∈ Rs.take k, x.c < c)) (fun i _ => Rs.length - (Go.RowKit.intOf i).toNat)
  case atStart => exact ⟨0, Nat.zero_le _, rfl, rfl, ⟨by simp⟩⟩
  case round =>
    obtain ⟨k, hk, rfl, rfl, HL⟩ := hrel
    by_cases hin : ∃ x, Rs[k]? = some x ∧ x.c < c
    · obtain ⟨x, hx, hxc⟩ := hin
      have hlt := (List.getElem?_eq_some_iff.1 hx).1
      have hltI : (k : Int) < (Rs.length : Int) := by omega
      have hk0 : (0 : Int) ≤ (k : Int) := by omega
      obtain ⟨g, cap', hv⟩ := own_some HW.out.1.reads (by omega)
      injection hv with hv1 _ hv3
      subst hv1 hv3
      have d0 : wr.cell? ⟨g, k * 5, none⟩ = some (.int .i64 x.c) := own_cellAt HW.out.1.reads (k * 5) _ (by have := itCells_at Rs k x hx 0 _ rfl; simpa using this)
      have HX := As.mk hx
      clear hx
      go_wp2_with fail
      go_roundw
      case measure => simp [Go.RowKit.intOf]; omega
      case rel =>
        refine ⟨k + 1, by omega, by simp, by trivial, ⟨fun y hy => ?_⟩⟩
        have e1 : Rs[k] = x := by have := HX.out; rw [List.getElem?_eq_getElem hlt] at this; exact Option.some.inj this
        rw [List.take_succ_eq_append_getElem hlt] at hy
        rcases List.mem_append.1 hy with hy | hy
        · exact HL.out y hy
        · simp at hy
          subst hy
          rw [e1]
          exact hxc
    · have HK : As (insAt Rs c k) := ⟨hk, HL.out, fun x hx q => hin ⟨x, hx, q⟩⟩
      by_cases hlt : k < Rs.length
      · have hltI : (k : Int) < (Rs.length : Int) := by omega
        have hk0 : (0 : Int) ≤ (k : Int) := by omega
        obtain ⟨g, cap', hv⟩ := own_some HW.out.1.reads (by omega)
        injection hv with hv1 _ hv3
        subst hv1 hv3
        have hx : Rs[k]? = some Rs[k] := List.getElem?_eq_getElem hlt
        have hxc : ¬ Rs[k].c < c := HK.out.2.2 _ hx
        have d0 : wr.cell? ⟨g, k * 5, none⟩ = some (.int .i64 Rs[k].c) := own_cellAt HW.out.1.reads (k * 5) _ (by have := itCells_at Rs k Rs[k] hx 0 _ rfl; simpa using this)
        generalize Rs[k] = x at *
        clear hx hin
        go_wp2_with fail
        refine wp_region_noPanic ?_
        refine wp_region_D (S := fun w' => w'.cell? ⟨rb, 0, none⟩ = some (.slice (some ⟨g, 0, none⟩) Rs.length cap)) 24 (by kernel_rfl) (HW.out.1.blk.cell 0) (fun _ => ?_)
        have HG := As.mk (show wr.grownBy wr.drew none from gr_drew (gr_refl _ _))
        have HS7 := As.mk (show ∀ {w' : World}, wr.grownBy w' none → w'.cell? ⟨rb, 0, none⟩ = some (.slice (some ⟨g, 0, none⟩) Rs.length cap) from fun hg => hg.cell (HW.out.1.blk.cell 0) (by simp))
        have hkc : (k : Int) ≤ (cap : Int) := by omega
        have hkn : (k : Int) ≤ (Rs.length : Int) := by omega
        have hnc : (Rs.length : Int) ≤ (cap : Int) := by omega
        generalize wr.drew = W7 at *
        refine wpAnyD_take (i := 0) (v := ?v0a) rfl rfl (by kernel_rfl) (by kernel_rfl) (by kernel_rfl) (by kernel_rfl) (fun _ _ _ h => h) (Or.inl ⟨by rfl, ?y0a⟩) (HS7.out HG.out) ?r0a
        case y0a => (intro w0_ hs_; go_simp; try with_reducible rfl)
        try simp only [List.getElem_toArray, List.getElem_cons_zero, List.getElem_cons_succ, Act.put, List.setIfInBounds_toArray, List.set_cons_zero, List.set_cons_succ]
        refine wpAnyD_take (i := 2) (v := ?v2a) rfl rfl (by kernel_rfl) (by kernel_rfl) (by kernel_rfl) (by kernel_rfl) (fun _ _ _ h => h) (Or.inl ⟨by rfl, ?y2a⟩) (HS7.out HG.out) ?r2a
        case y2a => (intro w0_ hs_; go_simp; try with_reducible rfl)
        try simp only [List.getElem_toArray, List.getElem_cons_zero, List.getElem_cons_succ, Act.put, List.setIfInBounds_toArray, List.set_cons_zero, List.set_cons_succ]
        refine wpAnyD_take (i := 3) (v := ?v3a) rfl rfl (by kernel_rfl) (by kernel_rfl) (by kernel_rfl) (by kernel_rfl) (fun _ _ _ h => h) (Or.inl ⟨by rfl, ?y3a⟩) (HS7.out HG.out) ?r3a
        case y3a => (intro w0_ hs_; go_simp; try with_reducible rfl)
        try simp only [List.getElem_toArray, List.getElem_cons_zero, List.getElem_cons_succ, Act.put, List.setIfInBounds_toArray, List.set_cons_zero, List.set_cons_succ]
        refine wpAnyD_take (i := 4) (v := ?v4a) rfl rfl (by kernel_rfl) (by kernel_rfl) (by kernel_rfl) (by kernel_rfl) (fun _ _ _ h => h) (Or.inl ⟨by rfl, ?y4a⟩) (HS7.out HG.out) ?r4a
        case y4a => (intro w0_ hs_; go_simp; try with_reducible rfl)
        try simp only [List.getElem_toArray, List.getElem_cons_zero, List.getElem_cons_succ, Act.put, List.setIfInBounds_toArray, List.set_cons_zero, List.set_cons_succ]
        refine wpAnyD_take (i := 5) (v := ?v5a) rfl rfl (by kernel_rfl) (by kernel_rfl) (by kernel_rfl) (by kernel_rfl) (fun _ _ _ h => h) (Or.inl ⟨by rfl, ?y5a⟩) (HS7.out HG.out) ?r5a
        case y5a => (intro w0_ hs_; go_simp; try with_reducible rfl)
        try simp only [List.getElem_toArray, List.getElem_cons_zero, List.getElem_cons_succ, Act.put, List.setIfInBounds_toArray, List.set_cons_zero, List.set_cons_succ]
        refine wpAnyD_take (i := 6) (v := ?v6a) rfl rfl (by kernel_rfl) (by kernel_rfl) (by kernel_rfl) (by kernel_rfl) (fun _ _ _ h => h) (Or.inl ⟨by rfl, ?y6a⟩) (HS7.out HG.out) ?r6a
        case y6a => (intro w0_ hs_; go_simp; try with_reducible rfl)
        try simp only [List.getElem_toArray, List.getElem_cons_zero, List.getElem_cons_succ, Act.put, List.setIfInBounds_toArray, List.set_cons_zero, List.set_cons_succ]
        refine wpAnyD_take (i := 7) (v := ?v7a) rfl rfl (by kernel_rfl) (by kernel_rfl) (by kernel_rfl) (by kernel_rfl) (fun _ _ _ h => h) (Or.inl ⟨by rfl, ?y7a⟩) (HS7.out HG.out) ?r7a
        case y7a => (intro w0_ hs_; go_simp; try with_reducible rfl)
        try simp only [List.getElem_toArray, List.getElem_cons_zero, List.getElem_cons_succ, Act.put, List.setIfInBounds_toArray, List.set_cons_zero, List.set_cons_succ]
        refine wpAnyD_take (i := 9) (v := ?v9a) rfl rfl (by kernel_rfl) (by kernel_rfl) (by kernel_rfl) (by kernel_rfl) (fun _ _ _ h => h) (Or.inl ⟨by rfl, ?y9a⟩) (HS7.out HG.out) ?r9a
        case y9a => (intro w0_ hs_; go_simp; try with_reducible rfl)
        try simp only [List.getElem_toArray, List.getElem_cons_zero, List.getElem_cons_succ, Act.put, List.setIfInBounds_toArray, List.set_cons_zero, List.set_cons_succ]
        refine wpAnyD_take (i := 10) (v := ?v10a) rfl rfl (by kernel_rfl) (by kernel_rfl) (by kernel_rfl) (by kernel_rfl) (fun _ _ _ h => h) (Or.inl ⟨by rfl, ?y10a⟩) (HS7.out HG.out) ?r10a
        case y10a => (intro w0_ hs_; go_simp; try with_reducible rfl)
        try simp only [List.getElem_toArray, List.getElem_cons_zero, List.getElem_cons_succ, Act.put, List.setIfInBounds_toArray, List.set_cons_zero, List.set_cons_succ]
        refine wpAnyD_take (i := 11) (v := ?v11a) rfl rfl (by kernel_rfl) (by kernel_rfl) (by kernel_rfl) (by kernel_rfl) (fun _ _ _ h => h) (Or.inl ⟨by rfl, ?y11a⟩) (HS7.out HG.out) ?r11a
        case y11a => (intro w0_ hs_; go_simp; try with_reducible rfl)
        try simp only [List.getElem_toArray, List.getElem_cons_zero, List.getElem_cons_succ, Act.put, List.setIfInBounds_toArray, List.set_cons_zero, List.set_cons_succ]
        refine wpAnyD_take (i := 12) (v := ?v12a) rfl rfl (by kernel_rfl) (by kernel_rfl) (by kernel_rfl) (by kernel_rfl) (fun _ _ _ h => h) (Or.inl ⟨by rfl, ?y12a⟩) (HS7.out HG.out) ?r12a
        case y12a => (intro w0_ hs_; go_simp; try with_reducible rfl)
        try simp only [List.getElem_toArray, List.getElem_cons_zero, List.getElem_cons_succ, Act.put, List.setIfInBounds_toArray, List.set_cons_zero, List.set_cons_succ]
        refine wpAnyD_take (i := 15) (v := ?v15a) rfl rfl (by kernel_rfl) (by kernel_rfl) (by kernel_rfl) (by kernel_rfl) (fun _ _ _ h => h) (Or.inl ⟨by rfl, ?y15a⟩) (HS7.out HG.out) ?r15a
        case y15a => (intro w0_ hs_; go_simp; try with_reducible rfl)
        try simp only [List.getElem_toArray, List.getElem_cons_zero, List.getElem_cons_succ, Act.put, List.setIfInBounds_toArray, List.set_cons_zero, List.set_cons_succ]
        refine wpAnyD_take (i := 16) (v := ?v16a) rfl rfl (by kernel_rfl) (by kernel_rfl) (by kernel_rfl) (by kernel_rfl) (fun _ _ _ h => h) (Or.inl ⟨by rfl, ?y16a⟩) (HS7.out HG.out) ?r16a
        case y16a => (intro w0_ hs_; go_simp; try with_reducible rfl)
        try simp only [List.getElem_toArray, List.getElem_cons_zero, List.getElem_cons_succ, Act.put, List.setIfInBounds_toArray, List.set_cons_zero, List.set_cons_succ]
        refine wpAnyD_take (i := 17) (v := ?v17a) rfl rfl (by kernel_rfl) (by kernel_rfl) (by kernel_rfl) (by kernel_rfl) (fun _ _ _ h => h) (Or.inl ⟨by rfl, ?y17a⟩) (HS7.out HG.out) ?r17a
        case y17a => (intro w0_ hs_; go_simp; try with_reducible rfl)
        try simp only [List.getElem_toArray, List.getElem_cons_zero, List.getElem_cons_succ, Act.put, List.setIfInBounds_toArray, List.set_cons_zero, List.set_cons_succ]
        refine wpAnyD_take (i := 18) (v := ?v18a) rfl rfl (by kernel_rfl) (by kernel_rfl) (by kernel_rfl) (by kernel_rfl) (fun _ _ _ h => h) (Or.inl ⟨by rfl, ?y18a⟩) (HS7.out HG.out) ?r18a
        case y18a => (intro w0_ hs_; go_simp; try with_reducible rfl)
        try simp only [List.getElem_toArray, List.getElem_cons_zero, List.getElem_cons_succ, Act.put, List.setIfInBounds_toArray, List.set_cons_zero, List.set_cons_succ]
        refine wpAnyD_take (i := 19) (v := ?v19a) rfl rfl (by kernel_rfl) (by kernel_rfl) (by kernel_rfl) (by kernel_rfl) (fun _ _ _ h => h) (Or.inl ⟨by rfl, ?y19a⟩) (HS7.out HG.out) ?r19a
        case y19a => (intro w0_ hs_; go_simp; try with_reducible rfl)
        try simp only [List.getElem_toArray, List.getElem_cons_zero, List.getElem_cons_succ, Act.put, List.setIfInBounds_toArray, List.set_cons_zero, List.set_cons_succ]
        refine wpAnyD_take (i := 20) (v := ?v20a) rfl rfl (by kernel_rfl) (by kernel_rfl) (by kernel_rfl) (by kernel_rfl) (fun _ _ _ h => h) (Or.inl ⟨by rfl, ?y20a⟩) (HS7.out HG.out) ?r20a
        case y20a => (intro w0_ hs_; go_simp; try with_reducible rfl)
        try simp only [List.getElem_toArray, List.getElem_cons_zero, List.getElem_cons_succ, Act.put, List.setIfInBounds_toArray, List.set_cons_zero, List.set_cons_succ]
        refine wpAnyD_ready (rs := [1, 13]) (by kernel_rfl) (by simp) (AllReadyD.cons (i := 1) rfl (fun K hK => ?f1a) (AllReadyD.cons (i := 13) rfl (fun K hK => ?f13a) AllReadyD.nil))
        case f1a =>
          go_simp
          have nE := As.mk (show (W7.alloc (.cells #[] 67)).ownsRow wr.heap.size 67 5 (.slice (some ⟨W7.heap.size, 0, none⟩) 0 0) 0 [] from ⟨rfl, .inr ⟨W7.heap.size, 0, #[], rfl, HG.out.size, heap_alloc_new W7 _, Nat.le_refl _, by simp only [maxLen]; omega, rfl, rfl⟩⟩)
          have nG := As.mk (gr_alloc HG.out (.cells #[] 67))
          clear HG
          have HG := nG
          have HE := nE
          clear nG nE
          refine hK.out _ _ (fun _ => HS7.out HG.out) (fun _ => ?_)
          clear hK K
          try simp only [List.getElem_toArray, List.getElem_cons_zero, List.getElem_cons_succ, Act.put, List.setIfInBounds_toArray, List.set_cons_zero, List.set_cons_succ]
          have hlt1 := As.mk (show W7.heap.size < (W7.alloc (.cells #[] 67)).heap.size by simp)
          generalize W7.alloc (.cells #[] 67) = V1_ at *
          generalize W7.heap.size = ge at *
          refine wpAnyD_ready (rs := [8, 13]) (by kernel_rfl) (by simp) (AllReadyD.cons (i := 8) rfl (fun K hK => ?f8a1_) (AllReadyD.cons (i := 13) rfl (fun K hK => ?f13a1_) AllReadyD.nil))
          case f8a1_ =>
            refine step_append_any rfl _ _ _ rfl wr.heap.size 67 i0 _ 5 40 Try.underlying43 HI.out.1 HI.out.2.1 HI.out.2.2.1 HI.out.2.2.2 rfl (by omega) (.slice (some ⟨ge, 0, none⟩) 0 0) 0 [] rfl HE.out (.slice (some ⟨g, 0, none⟩) k cap) k (itCells (Rs.take k)) rfl (srcTake (own_gr0 HW.out.1.reads HG.out) k hk) ⟨_, _, rfl⟩ (by simp only [maxLen]; omega) (by omega) HG.out.size ?_
            intro va1_8_ V1_8_ hva hga _ hsm
            rw [Nat.zero_add, List.nil_append] at hva
            rw [Nat.zero_add] at hsm
            obtain ⟨q1_8_, r1_8_, rfl⟩ := hsm
            have nG := As.mk (gr_then HG.out hga (.inr (.inr (fun q hq => (HE.out.lt q hq).1))))
            clear HG
            have HG := nG
            clear nG hga
            have HA := As.mk hva
            clear HE hva
            refine hK.out _ _ (fun _ => HS7.out HG.out) (fun _ => ?_)
            clear hK K
            try simp only [List.getElem_toArray, List.getElem_cons_zero, List.getElem_cons_succ, Act.put, List.setIfInBounds_toArray, List.set_cons_zero, List.set_cons_succ]
            refine wpAnyD_ready (rs := [13]) (by kernel_rfl) (by simp) (AllReadyD.cons (i := 13) rfl (fun K hK => ?_) AllReadyD.nil)
            go_simp
            have nN := As.mk (Blk.new V1_8_ 67 #[.int .i64 c, .int .i64 ver, .int .i64 a, .bool false, .int .i64 0])
            have nG := As.mk (gr_alloc HG.out (.cells #[.int .i64 c, .int .i64 ver, .int .i64 a, .bool false, .int .i64 0] 67))
            have nA := As.mk (own_alloc' HA.out (.cells #[.int .i64 c, .int .i64 ver, .int .i64 a, .bool false, .int .i64 0] 67))
            clear HA
            have HA := nA
            clear nA
            clear HG
            have HG := nG
            have HN := nN
            clear nG nN
            refine hK.out _ _ (fun _ => HS7.out HG.out) (fun _ => ?_)
            clear hK K
            try simp only [List.getElem_toArray, List.getElem_cons_zero, List.getElem_cons_succ, Act.put, List.setIfInBounds_toArray, List.set_cons_zero, List.set_cons_succ]
            have hlt13 := As.mk (show V1_8_.heap.size < (V1_8_.alloc (.cells #[.int .i64 c, .int .i64 ver, .int .i64 a, .bool false, .int .i64 0] 67)).heap.size by simp)
            generalize V1_8_.alloc (.cells #[.int .i64 c, .int .i64 ver, .int .i64 a, .bool false, .int .i64 0] 67) = V1_8_13_ at *
            generalize V1_8_.heap.size = gn at *
            refine wpAnyD_ready (rs := [14]) (by kernel_rfl) (by simp) (AllReadyD.cons (i := 14) rfl (fun K hK => ?_) AllReadyD.nil)
            refine step_append_any rfl _ _ _ rfl wr.heap.size 67 i0 _ 5 40 Try.underlying43 HI.out.1 HI.out.2.1 HI.out.2.2.1 HI.out.2.2.2 rfl (by omega) (.slice (some ⟨q1_8_, 0, none⟩) k r1_8_) k (itCells (Rs.take k)) rfl HA.out (.slice (some ⟨gn, 0, none⟩) 1 1) 1 [.int .i64 c, .int .i64 ver, .int .i64 a, .bool false, .int .i64 0] rfl (.inr ⟨⟨gn, 0, none⟩, 1, rfl, rfl, World.news_of_block (cs := #[.int .i64 c, .int .i64 ver, .int .i64 a, .bool false, .int .i64 0]) (t := 67) (fr := (0, 0)) HN.out, by simp [Value.oneCell']⟩) ⟨_, _, rfl⟩ (by simp only [maxLen]; omega) (by omega) HG.out.size ?_
            intro va1_8_13_14_ V1_8_13_14_ hva hga _ hsm
            obtain ⟨q1_8_13_14_, r1_8_13_14_, rfl⟩ := hsm
            have nG := As.mk (gr_then HG.out hga (.inr (.inr (fun q hq => (HA.out.lt q hq).1))))
            clear HG
            have HG := nG
            clear nG hga
            have HB2 := As.mk hva
            clear HA HN hva
            refine hK.out _ _ (fun _ => HS7.out HG.out) (fun _ => ?_)
            clear hK K
            try simp only [List.getElem_toArray, List.getElem_cons_zero, List.getElem_cons_succ, Act.put, List.setIfInBounds_toArray, List.set_cons_zero, List.set_cons_succ]
            refine wpAnyD_ready (rs := [21]) (by kernel_rfl) (by simp) (AllReadyD.cons (i := 21) rfl (fun K hK => ?_) AllReadyD.nil)
            refine step_append_any rfl _ _ _ rfl wr.heap.size 67 i0 _ 5 40 Try.underlying43 HI.out.1 HI.out.2.1 HI.out.2.2.1 HI.out.2.2.2 rfl (by omega) (.slice (some ⟨q1_8_13_14_, 0, none⟩) (k + 1) r1_8_13_14_) (k + 1) (itCells (Rs.take k) ++ [.int .i64 c, .int .i64 ver, .int .i64 a, .bool false, .int .i64 0]) rfl HB2.out (.slice (if cap = k then some ⟨g, 0, none⟩ else some ⟨g, k * 5, none⟩) (Rs.length - k) (cap - k)) (Rs.length - k) (itCells (Rs.drop k)) rfl (srcDrop (own_gr0 HW.out.1.reads HG.out) k hk) ⟨_, _, rfl⟩ (by simp only [maxLen]; omega) (by omega) HG.out.size ?_
            intro va1_8_13_14_21_ V1_8_13_14_21_ hva hga _ hsm
            obtain ⟨q1_8_13_14_21_, r1_8_13_14_21_, rfl⟩ := hsm
            have nG := As.mk (gr_then HG.out hga (.inr (.inr (fun q hq => (HB2.out.lt q hq).1))))
            clear HG
            have HG := nG
            clear nG hga
            have HF3 := As.mk (show V1_8_13_14_21_.ownsRow wr.heap.size 67 5 (.slice (some ⟨q1_8_13_14_21_, 0, none⟩) (k + 1 + (Rs.length - k)) r1_8_13_14_21_) (Rs.take k ++ [⟨c, ver, a, false, 0⟩] ++ Rs.drop k : List PIt).length (itCells (Rs.take k ++ [⟨c, ver, a, false, 0⟩] ++ Rs.drop k)) from by
              have e1 : (Rs.take k ++ [⟨c, ver, a, false, 0⟩] ++ Rs.drop k : List PIt).length = k + 1 + (Rs.length - k) := by simp [List.length_take]; omega
              rw [e1, itCells_app, itCells_snoc]
              exact hva)
            clear HB2 hva
            refine hK.out _ _ (fun _ => HS7.out HG.out) (fun _ => ?_)
            clear hK K
            try simp only [List.getElem_toArray, List.getElem_cons_zero, List.getElem_cons_succ, Act.put, List.setIfInBounds_toArray, List.set_cons_zero, List.set_cons_succ]
            refine wpAnyD_ready (rs := [22]) (by kernel_rfl) (by simp) (AllReadyD.cons (i := 22) rfl (fun K hK => ?_) AllReadyD.nil)
            go_simp
            refine hK.out _ _ (fun _ => HS7.out HG.out) (fun _ => ?_)
            clear hK K
            try simp only [List.getElem_toArray, List.getElem_cons_zero, List.getElem_cons_succ, Act.put, List.setIfInBounds_toArray, List.set_cons_zero, List.set_cons_succ]
            refine wpAnyD_ready (rs := [23]) (by kernel_rfl) (by simp) (AllReadyD.cons (i := 23) rfl (fun K hK => ?_) AllReadyD.nil)
            go_simp
            refine hK.out _ _ (fun _ => HS7.out HG.out) (fun _ => ?_)
            clear hK K
            try simp only [List.getElem_toArray, List.getElem_cons_zero, List.getElem_cons_succ, Act.put, List.setIfInBounds_toArray, List.set_cons_zero, List.set_cons_succ]
            refine wpAnyD_ready (rs := [24]) (by kernel_rfl) (by simp) (AllReadyD.cons (i := 24) rfl (fun K hK => ?_) AllReadyD.nil)
            have hc24 := HS7.out HG.out
            have hf24 := (HW.out.1.blk.grown HG.out (by simp)).free 0
            go_simp
            have hp0 := RefW.put0 (Rs' := Rs.take k ++ [⟨c, ver, a, false, 0⟩] ++ Rs.drop k) HH.out.1 HW.out.1 HW.out.2 HH.out.2 HG.out HF3.out
            obtain ⟨G', hR', hN', -⟩ := hp0
            have HF := As.mk (And.intro hR' hN')
            clear hR' hN' hc24 hf24
            refine hK.out _ _ (fun h => absurd rfl h) (fun _ => ?_)
            clear hK K
            try simp only [List.getElem_toArray, List.getElem_cons_zero, List.getElem_cons_succ, Act.put, List.setIfInBounds_toArray, List.set_cons_zero, List.set_cons_succ]
            refine wpAnyD_done (by kernel_rfl) ?_ _
            refine NoPanic.normal ?_
            go_wp2_with fail
            all_goals (go_ret; first | exact ⟨rfl, k, HK.out, G', (by simpa using HF.out.1), HF.out.2⟩ | exact ⟨rfl, k, G', HK.out, (by simpa using HF.out.1), HF.out.2⟩)
          case f13a1_ =>
            go_simp
            have nN := As.mk (Blk.new V1_ 67 #[.int .i64 c, .int .i64 ver, .int .i64 a, .bool false, .int .i64 0])
            have nG := As.mk (gr_alloc HG.out (.cells #[.int .i64 c, .int .i64 ver, .int .i64 a, .bool false, .int .i64 0] 67))
            have nE := As.mk (own_alloc' HE.out (.cells #[.int .i64 c, .int .i64 ver, .int .i64 a, .bool false, .int .i64 0] 67))
            clear HE
            have HE := nE
            clear nE
            clear HG
            have HG := nG
            have HN := nN
            clear nG nN
            refine hK.out _ _ (fun _ => HS7.out HG.out) (fun _ => ?_)
            clear hK K
            try simp only [List.getElem_toArray, List.getElem_cons_zero, List.getElem_cons_succ, Act.put, List.setIfInBounds_toArray, List.set_cons_zero, List.set_cons_succ]
            have hne13 := As.mk (show some V1_.heap.size ≠ (Value.slice (some ⟨ge, 0, none⟩) 0 0).ownBlock from fun q => by have := hlt1.out; have q : V1_.heap.size = ge := Option.some.inj q; omega)
            have hlt13 := As.mk (show V1_.heap.size < (V1_.alloc (.cells #[.int .i64 c, .int .i64 ver, .int .i64 a, .bool false, .int .i64 0] 67)).heap.size by simp)
            generalize V1_.alloc (.cells #[.int .i64 c, .int .i64 ver, .int .i64 a, .bool false, .int .i64 0] 67) = V1_13_ at *
            generalize V1_.heap.size = gn at *
            refine wpAnyD_ready (rs := [8]) (by kernel_rfl) (by simp) (AllReadyD.cons (i := 8) rfl (fun K hK => ?_) AllReadyD.nil)
            refine step_append_any rfl _ _ _ rfl wr.heap.size 67 i0 _ 5 40 Try.underlying43 HI.out.1 HI.out.2.1 HI.out.2.2.1 HI.out.2.2.2 rfl (by omega) (.slice (some ⟨ge, 0, none⟩) 0 0) 0 [] rfl HE.out (.slice (some ⟨g, 0, none⟩) k cap) k (itCells (Rs.take k)) rfl (srcTake (own_gr0 HW.out.1.reads HG.out) k hk) ⟨_, _, rfl⟩ (by simp only [maxLen]; omega) (by omega) HG.out.size ?_
            intro va1_13_8_ V1_13_8_ hva hga _ hsm
            rw [Nat.zero_add, List.nil_append] at hva
            rw [Nat.zero_add] at hsm
            obtain ⟨q1_13_8_, r1_13_8_, rfl⟩ := hsm
            have nG := As.mk (gr_then HG.out hga (.inr (.inr (fun q hq => (HE.out.lt q hq).1))))
            have nN := As.mk (HN.out.grown hga (fun q => hne13.out q))
            clear HN
            have HN := nN
            clear nN
            clear HG
            have HG := nG
            clear nG hga
            have HA := As.mk hva
            clear HE hva
            refine hK.out _ _ (fun _ => HS7.out HG.out) (fun _ => ?_)
            clear hK K
            try simp only [List.getElem_toArray, List.getElem_cons_zero, List.getElem_cons_succ, Act.put, List.setIfInBounds_toArray, List.set_cons_zero, List.set_cons_succ]
            refine wpAnyD_ready (rs := [14]) (by kernel_rfl) (by simp) (AllReadyD.cons (i := 14) rfl (fun K hK => ?_) AllReadyD.nil)
            refine step_append_any rfl _ _ _ rfl wr.heap.size 67 i0 _ 5 40 Try.underlying43 HI.out.1 HI.out.2.1 HI.out.2.2.1 HI.out.2.2.2 rfl (by omega) (.slice (some ⟨q1_13_8_, 0, none⟩) k r1_13_8_) k (itCells (Rs.take k)) rfl HA.out (.slice (some ⟨gn, 0, none⟩) 1 1) 1 [.int .i64 c, .int .i64 ver, .int .i64 a, .bool false, .int .i64 0] rfl (.inr ⟨⟨gn, 0, none⟩, 1, rfl, rfl, World.news_of_block (cs := #[.int .i64 c, .int .i64 ver, .int .i64 a, .bool false, .int .i64 0]) (t := 67) (fr := (0, 0)) HN.out, by simp [Value.oneCell']⟩) ⟨_, _, rfl⟩ (by simp only [maxLen]; omega) (by omega) HG.out.size ?_
            intro va1_13_8_14_ V1_13_8_14_ hva hga _ hsm
            obtain ⟨q1_13_8_14_, r1_13_8_14_, rfl⟩ := hsm
            have nG := As.mk (gr_then HG.out hga (.inr (.inr (fun q hq => (HA.out.lt q hq).1))))
            clear HG
            have HG := nG
            clear nG hga
            have HB2 := As.mk hva
            clear HA HN hva
            refine hK.out _ _ (fun _ => HS7.out HG.out) (fun _ => ?_)
            clear hK K
            try simp only [List.getElem_toArray, List.getElem_cons_zero, List.getElem_cons_succ, Act.put, List.setIfInBounds_toArray, List.set_cons_zero, List.set_cons_succ]
            refine wpAnyD_ready (rs := [21]) (by kernel_rfl) (by simp) (AllReadyD.cons (i := 21) rfl (fun K hK => ?_) AllReadyD.nil)
            refine step_append_any rfl _ _ _ rfl wr.heap.size 67 i0 _ 5 40 Try.underlying43 HI.out.1 HI.out.2.1 HI.out.2.2.1 HI.out.2.2.2 rfl (by omega) (.slice (some ⟨q1_13_8_14_, 0, none⟩) (k + 1) r1_13_8_14_) (k + 1) (itCells (Rs.take k) ++ [.int .i64 c, .int .i64 ver, .int .i64 a, .bool false, .int .i64 0]) rfl HB2.out (.slice (if cap = k then some ⟨g, 0, none⟩ else some ⟨g, k * 5, none⟩) (Rs.length - k) (cap - k)) (Rs.length - k) (itCells (Rs.drop k)) rfl (srcDrop (own_gr0 HW.out.1.reads HG.out) k hk) ⟨_, _, rfl⟩ (by simp only [maxLen]; omega) (by omega) HG.out.size ?_
            intro va1_13_8_14_21_ V1_13_8_14_21_ hva hga _ hsm
            obtain ⟨q1_13_8_14_21_, r1_13_8_14_21_, rfl⟩ := hsm
            have nG := As.mk (gr_then HG.out hga (.inr (.inr (fun q hq => (HB2.out.lt q hq).1))))
            clear HG
            have HG := nG
            clear nG hga
            have HF3 := As.mk (show V1_13_8_14_21_.ownsRow wr.heap.size 67 5 (.slice (some ⟨q1_13_8_14_21_, 0, none⟩) (k + 1 + (Rs.length - k)) r1_13_8_14_21_) (Rs.take k ++ [⟨c, ver, a, false, 0⟩] ++ Rs.drop k : List PIt).length (itCells (Rs.take k ++ [⟨c, ver, a, false, 0⟩] ++ Rs.drop k)) from by
              have e1 : (Rs.take k ++ [⟨c, ver, a, false, 0⟩] ++ Rs.drop k : List PIt).length = k + 1 + (Rs.length - k) := by simp [List.length_take]; omega
              rw [e1, itCells_app, itCells_snoc]
              exact hva)
            clear HB2 hva
            refine hK.out _ _ (fun _ => HS7.out HG.out) (fun _ => ?_)
            clear hK K
            try simp only [List.getElem_toArray, List.getElem_cons_zero, List.getElem_cons_succ, Act.put, List.setIfInBounds_toArray, List.set_cons_zero, List.set_cons_succ]
            refine wpAnyD_ready (rs := [22]) (by kernel_rfl) (by simp) (AllReadyD.cons (i := 22) rfl (fun K hK => ?_) AllReadyD.nil)
            go_simp
            refine hK.out _ _ (fun _ => HS7.out HG.out) (fun _ => ?_)
            clear hK K
            try simp only [List.getElem_toArray, List.getElem_cons_zero, List.getElem_cons_succ, Act.put, List.setIfInBounds_toArray, List.set_cons_zero, List.set_cons_succ]
            refine wpAnyD_ready (rs := [23]) (by kernel_rfl) (by simp) (AllReadyD.cons (i := 23) rfl (fun K hK => ?_) AllReadyD.nil)
            go_simp
            refine hK.out _ _ (fun _ => HS7.out HG.out) (fun _ => ?_)
            clear hK K
            try simp only [List.getElem_toArray, List.getElem_cons_zero, List.getElem_cons_succ, Act.put, List.setIfInBounds_toArray, List.set_cons_zero, List.set_cons_succ]
            refine wpAnyD_ready (rs := [24]) (by kernel_rfl) (by simp) (AllReadyD.cons (i := 24) rfl (fun K hK => ?_) AllReadyD.nil)
            have hc24 := HS7.out HG.out
            have hf24 := (HW.out.1.blk.grown HG.out (by simp)).free 0
            go_simp
            have hp0 := RefW.put0 (Rs' := Rs.take k ++ [⟨c, ver, a, false, 0⟩] ++ Rs.drop k) HH.out.1 HW.out.1 HW.out.2 HH.out.2 HG.out HF3.out
            obtain ⟨G', hR', hN', -⟩ := hp0
            have HF := As.mk (And.intro hR' hN')
            clear hR' hN' hc24 hf24
            refine hK.out _ _ (fun h => absurd rfl h) (fun _ => ?_)
            clear hK K
            try simp only [List.getElem_toArray, List.getElem_cons_zero, List.getElem_cons_succ, Act.put, List.setIfInBounds_toArray, List.set_cons_zero, List.set_cons_succ]
            refine wpAnyD_done (by kernel_rfl) ?_ _
            refine NoPanic.normal ?_
            go_wp2_with fail
            all_goals (go_ret; first | exact ⟨rfl, k, HK.out, G', (by simpa using HF.out.1), HF.out.2⟩ | exact ⟨rfl, k, G', HK.out, (by simpa using HF.out.1), HF.out.2⟩)
        case f13a =>
          go_simp
          have nN := As.mk (Blk.new W7 67 #[.int .i64 c, .int .i64 ver, .int .i64 a, .bool false, .int .i64 0])
          have nG := As.mk (gr_alloc HG.out (.cells #[.int .i64 c, .int .i64 ver, .int .i64 a, .bool false, .int .i64 0] 67))
          clear HG
          have HG := nG
          have HN := nN
          clear nG nN
          refine hK.out _ _ (fun _ => HS7.out HG.out) (fun _ => ?_)
          clear hK K
          try simp only [List.getElem_toArray, List.getElem_cons_zero, List.getElem_cons_succ, Act.put, List.setIfInBounds_toArray, List.set_cons_zero, List.set_cons_succ]
          have hlt13 := As.mk (show W7.heap.size < (W7.alloc (.cells #[.int .i64 c, .int .i64 ver, .int .i64 a, .bool false, .int .i64 0] 67)).heap.size by simp)
          generalize W7.alloc (.cells #[.int .i64 c, .int .i64 ver, .int .i64 a, .bool false, .int .i64 0] 67) = V13_ at *
          generalize W7.heap.size = gn at *
          refine wpAnyD_ready (rs := [1]) (by kernel_rfl) (by simp) (AllReadyD.cons (i := 1) rfl (fun K hK => ?_) AllReadyD.nil)
          go_simp
          have nE := As.mk (show (V13_.alloc (.cells #[] 67)).ownsRow wr.heap.size 67 5 (.slice (some ⟨V13_.heap.size, 0, none⟩) 0 0) 0 [] from ⟨rfl, .inr ⟨V13_.heap.size, 0, #[], rfl, HG.out.size, heap_alloc_new V13_ _, Nat.le_refl _, by simp only [maxLen]; omega, rfl, rfl⟩⟩)
          have nG := As.mk (gr_alloc HG.out (.cells #[] 67))
          have nN := As.mk (HN.out.alloc (.cells #[] 67))
          clear HN
          have HN := nN
          clear nN
          clear HG
          have HG := nG
          have HE := nE
          clear nG nE
          refine hK.out _ _ (fun _ => HS7.out HG.out) (fun _ => ?_)
          clear hK K
          try simp only [List.getElem_toArray, List.getElem_cons_zero, List.getElem_cons_succ, Act.put, List.setIfInBounds_toArray, List.set_cons_zero, List.set_cons_succ]
          have hne13 := As.mk (show some gn ≠ (Value.slice (some ⟨V13_.heap.size, 0, none⟩) 0 0).ownBlock from fun q => by have := hlt13.out; have q : gn = V13_.heap.size := Option.some.inj q; omega)
          have hlt1 := As.mk (show V13_.heap.size < (V13_.alloc (.cells #[] 67)).heap.size by simp)
          generalize V13_.alloc (.cells #[] 67) = V13_1_ at *
          generalize V13_.heap.size = ge at *
          refine wpAnyD_ready (rs := [8]) (by kernel_rfl) (by simp) (AllReadyD.cons (i := 8) rfl (fun K hK => ?_) AllReadyD.nil)
          refine step_append_any rfl _ _ _ rfl wr.heap.size 67 i0 _ 5 40 Try.underlying43 HI.out.1 HI.out.2.1 HI.out.2.2.1 HI.out.2.2.2 rfl (by omega) (.slice (some ⟨ge, 0, none⟩) 0 0) 0 [] rfl HE.out (.slice (some ⟨g, 0, none⟩) k cap) k (itCells (Rs.take k)) rfl (srcTake (own_gr0 HW.out.1.reads HG.out) k hk) ⟨_, _, rfl⟩ (by simp only [maxLen]; omega) (by omega) HG.out.size ?_
          intro va13_1_8_ V13_1_8_ hva hga _ hsm
          rw [Nat.zero_add, List.nil_append] at hva
          rw [Nat.zero_add] at hsm
          obtain ⟨q13_1_8_, r13_1_8_, rfl⟩ := hsm
          have nG := As.mk (gr_then HG.out hga (.inr (.inr (fun q hq => (HE.out.lt q hq).1))))
          have nN := As.mk (HN.out.grown hga (fun q => hne13.out q))
          clear HN
          have HN := nN
          clear nN
          clear HG
          have HG := nG
          clear nG hga
          have HA := As.mk hva
          clear HE hva
          refine hK.out _ _ (fun _ => HS7.out HG.out) (fun _ => ?_)
          clear hK K
          try simp only [List.getElem_toArray, List.getElem_cons_zero, List.getElem_cons_succ, Act.put, List.setIfInBounds_toArray, List.set_cons_zero, List.set_cons_succ]
          refine wpAnyD_ready (rs := [14]) (by kernel_rfl) (by simp) (AllReadyD.cons (i := 14) rfl (fun K hK => ?_) AllReadyD.nil)
          refine step_append_any rfl _ _ _ rfl wr.heap.size 67 i0 _ 5 40 Try.underlying43 HI.out.1 HI.out.2.1 HI.out.2.2.1 HI.out.2.2.2 rfl (by omega) (.slice (some ⟨q13_1_8_, 0, none⟩) k r13_1_8_) k (itCells (Rs.take k)) rfl HA.out (.slice (some ⟨gn, 0, none⟩) 1 1) 1 [.int .i64 c, .int .i64 ver, .int .i64 a, .bool false, .int .i64 0] rfl (.inr ⟨⟨gn, 0, none⟩, 1, rfl, rfl, World.news_of_block (cs := #[.int .i64 c, .int .i64 ver, .int .i64 a, .bool false, .int .i64 0]) (t := 67) (fr := (0, 0)) HN.out, by simp [Value.oneCell']⟩) ⟨_, _, rfl⟩ (by simp only [maxLen]; omega) (by omega) HG.out.size ?_
          intro va13_1_8_14_ V13_1_8_14_ hva hga _ hsm
          obtain ⟨q13_1_8_14_, r13_1_8_14_, rfl⟩ := hsm
          have nG := As.mk (gr_then HG.out hga (.inr (.inr (fun q hq => (HA.out.lt q hq).1))))
          clear HG
          have HG := nG
          clear nG hga
          have HB2 := As.mk hva
          clear HA HN hva
          refine hK.out _ _ (fun _ => HS7.out HG.out) (fun _ => ?_)
          clear hK K
          try simp only [List.getElem_toArray, List.getElem_cons_zero, List.getElem_cons_succ, Act.put, List.setIfInBounds_toArray, List.set_cons_zero, List.set_cons_succ]
          refine wpAnyD_ready (rs := [21]) (by kernel_rfl) (by simp) (AllReadyD.cons (i := 21) rfl (fun K hK => ?_) AllReadyD.nil)
          refine step_append_any rfl _ _ _ rfl wr.heap.size 67 i0 _ 5 40 Try.underlying43 HI.out.1 HI.out.2.1 HI.out.2.2.1 HI.out.2.2.2 rfl (by omega) (.slice (some ⟨q13_1_8_14_, 0, none⟩) (k + 1) r13_1_8_14_) (k + 1) (itCells (Rs.take k) ++ [.int .i64 c, .int .i64 ver, .int .i64 a, .bool false, .int .i64 0]) rfl HB2.out (.slice (if cap = k then some ⟨g, 0, none⟩ else some ⟨g, k * 5, none⟩) (Rs.length - k) (cap - k)) (Rs.length - k) (itCells (Rs.drop k)) rfl (srcDrop (own_gr0 HW.out.1.reads HG.out) k hk) ⟨_, _, rfl⟩ (by simp only [maxLen]; omega) (by omega) HG.out.size ?_
          intro va13_1_8_14_21_ V13_1_8_14_21_ hva hga _ hsm
          obtain ⟨q13_1_8_14_21_, r13_1_8_14_21_, rfl⟩ := hsm
          have nG := As.mk (gr_then HG.out hga (.inr (.inr (fun q hq => (HB2.out.lt q hq).1))))
          clear HG
          have HG := nG
          clear nG hga
          have HF3 := As.mk (show V13_1_8_14_21_.ownsRow wr.heap.size 67 5 (.slice (some ⟨q13_1_8_14_21_, 0, none⟩) (k + 1 + (Rs.length - k)) r13_1_8_14_21_) (Rs.take k ++ [⟨c, ver, a, false, 0⟩] ++ Rs.drop k : List PIt).length (itCells (Rs.take k ++ [⟨c, ver, a, false, 0⟩] ++ Rs.drop k)) from by
            have e1 : (Rs.take k ++ [⟨c, ver, a, false, 0⟩] ++ Rs.drop k : List PIt).length = k + 1 + (Rs.length - k) := by simp [List.length_take]; omega
            rw [e1, itCells_app, itCells_snoc]
            exact hva)
          clear HB2 hva
          refine hK.out _ _ (fun _ => HS7.out HG.out) (fun _ => ?_)
          clear hK K
          try simp only [List.getElem_toArray, List.getElem_cons_zero, List.getElem_cons_succ, Act.put, List.setIfInBounds_toArray, List.set_cons_zero, List.set_cons_succ]
          refine wpAnyD_ready (rs := [22]) (by kernel_rfl) (by simp) (AllReadyD.cons (i := 22) rfl (fun K hK => ?_) AllReadyD.nil)
          go_simp
          refine hK.out _ _ (fun _ => HS7.out HG.out) (fun _ => ?_)
          clear hK K
          try simp only [List.getElem_toArray, List.getElem_cons_zero, List.getElem_cons_succ, Act.put, List.setIfInBounds_toArray, List.set_cons_zero, List.set_cons_succ]
          refine wpAnyD_ready (rs := [23]) (by kernel_rfl) (by simp) (AllReadyD.cons (i := 23) rfl (fun K hK => ?_) AllReadyD.nil)
          go_simp
          refine hK.out _ _ (fun _ => HS7.out HG.out) (fun _ => ?_)
          clear hK K
          try simp only [List.getElem_toArray, List.getElem_cons_zero, List.getElem_cons_succ, Act.put, List.setIfInBounds_toArray, List.set_cons_zero, List.set_cons_succ]
          refine wpAnyD_ready (rs := [24]) (by kernel_rfl) (by simp) (AllReadyD.cons (i := 24) rfl (fun K hK => ?_) AllReadyD.nil)
          have hc24 := HS7.out HG.out
          have hf24 := (HW.out.1.blk.grown HG.out (by simp)).free 0
          go_simp
          have hp0 := RefW.put0 (Rs' := Rs.take k ++ [⟨c, ver, a, false, 0⟩] ++ Rs.drop k) HH.out.1 HW.out.1 HW.out.2 HH.out.2 HG.out HF3.out
          obtain ⟨G', hR', hN', -⟩ := hp0
          have HF := As.mk (And.intro hR' hN')
          clear hR' hN' hc24 hf24
          refine hK.out _ _ (fun h => absurd rfl h) (fun _ => ?_)
          clear hK K
          try simp only [List.getElem_toArray, List.getElem_cons_zero, List.getElem_cons_succ, Act.put, List.setIfInBounds_toArray, List.set_cons_zero, List.set_cons_succ]
          refine wpAnyD_done (by kernel_rfl) ?_ _
          refine NoPanic.normal ?_
          go_wp2_with fail
          all_goals (go_ret; first | exact ⟨rfl, k, HK.out, G', (by simpa using HF.out.1), HF.out.2⟩ | exact ⟨rfl, k, G', HK.out, (by simpa using HF.out.1), HF.out.2⟩)
      · have hkeq : k = Rs.length := by omega
        have hltI : ¬ (k : Int) < (Rs.length : Int) := by omega
        have hk0 : (0 : Int) ≤ (k : Int) := by omega
        clear hin
        have hvv : (∃ g, A = some ⟨g, 0, none⟩) ∨ (A = none ∧ Rs.length = 0 ∧ cap = 0) := by
          rcases HW.out.1.reads.2 with ⟨q, q2⟩ | ⟨g', cap', cur, q, _⟩
          · injection q with q1 q3 q4
            exact .inr ⟨q1, q2, q4⟩
          · injection q with q _ _
            exact .inl ⟨g', q⟩
        rcases hvv with ⟨g, rfl⟩ | ⟨rfl, hn0, rfl⟩
        · have hkeq' := As.mk hkeq
          clear hkeq
          go_wp2_with fail
          refine wp_region_noPanic ?_
          refine wp_region_D (S := fun w' => w'.cell? ⟨rb, 0, none⟩ = some (.slice (some ⟨g, 0, none⟩) Rs.length cap)) 24 (by kernel_rfl) (HW.out.1.blk.cell 0) (fun _ => ?_)
          have HG := As.mk (show wr.grownBy wr.drew none from gr_drew (gr_refl _ _))
          have HS7 := As.mk (show ∀ {w' : World}, wr.grownBy w' none → w'.cell? ⟨rb, 0, none⟩ = some (.slice (some ⟨g, 0, none⟩) Rs.length cap) from fun hg => hg.cell (HW.out.1.blk.cell 0) (by simp))
          have hkc : (k : Int) ≤ (cap : Int) := by omega
          have hkn : (k : Int) ≤ (Rs.length : Int) := by omega
          have hnc : (Rs.length : Int) ≤ (cap : Int) := by omega
          generalize wr.drew = W7 at *
          refine wpAnyD_take (i := 0) (v := ?v0b) rfl rfl (by kernel_rfl) (by kernel_rfl) (by kernel_rfl) (by kernel_rfl) (fun _ _ _ h => h) (Or.inl ⟨by rfl, ?y0b⟩) (HS7.out HG.out) ?r0b
          case y0b => (intro w0_ hs_; go_simp; try with_reducible rfl)
          try simp only [List.getElem_toArray, List.getElem_cons_zero, List.getElem_cons_succ, Act.put, List.setIfInBounds_toArray, List.set_cons_zero, List.set_cons_succ]
          refine wpAnyD_take (i := 2) (v := ?v2b) rfl rfl (by kernel_rfl) (by kernel_rfl) (by kernel_rfl) (by kernel_rfl) (fun _ _ _ h => h) (Or.inl ⟨by rfl, ?y2b⟩) (HS7.out HG.out) ?r2b
          case y2b => (intro w0_ hs_; go_simp; try with_reducible rfl)
          try simp only [List.getElem_toArray, List.getElem_cons_zero, List.getElem_cons_succ, Act.put, List.setIfInBounds_toArray, List.set_cons_zero, List.set_cons_succ]
          refine wpAnyD_take (i := 3) (v := ?v3b) rfl rfl (by kernel_rfl) (by kernel_rfl) (by kernel_rfl) (by kernel_rfl) (fun _ _ _ h => h) (Or.inl ⟨by rfl, ?y3b⟩) (HS7.out HG.out) ?r3b
          case y3b => (intro w0_ hs_; go_simp; try with_reducible rfl)
          try simp only [List.getElem_toArray, List.getElem_cons_zero, List.getElem_cons_succ, Act.put, List.setIfInBounds_toArray, List.set_cons_zero, List.set_cons_succ]
          refine wpAnyD_take (i := 4) (v := ?v4b) rfl rfl (by kernel_rfl) (by kernel_rfl) (by kernel_rfl) (by kernel_rfl) (fun _ _ _ h => h) (Or.inl ⟨by rfl, ?y4b⟩) (HS7.out HG.out) ?r4b
          case y4b => (intro w0_ hs_; go_simp; try with_reducible rfl)
          try simp only [List.getElem_toArray, List.getElem_cons_zero, List.getElem_cons_succ, Act.put, List.setIfInBounds_toArray, List.set_cons_zero, List.set_cons_succ]
          refine wpAnyD_take (i := 5) (v := ?v5b) rfl rfl (by kernel_rfl) (by kernel_rfl) (by kernel_rfl) (by kernel_rfl) (fun _ _ _ h => h) (Or.inl ⟨by rfl, ?y5b⟩) (HS7.out HG.out) ?r5b
          case y5b => (intro w0_ hs_; go_simp; try with_reducible rfl)
          try simp only [List.getElem_toArray, List.getElem_cons_zero, List.getElem_cons_succ, Act.put, List.setIfInBounds_toArray, List.set_cons_zero, List.set_cons_succ]
          refine wpAnyD_take (i := 6) (v := ?v6b) rfl rfl (by kernel_rfl) (by kernel_rfl) (by kernel_rfl) (by kernel_rfl) (fun _ _ _ h => h) (Or.inl ⟨by rfl, ?y6b⟩) (HS7.out HG.out) ?r6b
          case y6b => (intro w0_ hs_; go_simp; try with_reducible rfl)
          try simp only [List.getElem_toArray, List.getElem_cons_zero, List.getElem_cons_succ, Act.put, List.setIfInBounds_toArray, List.set_cons_zero, List.set_cons_succ]
          refine wpAnyD_take (i := 7) (v := ?v7b) rfl rfl (by kernel_rfl) (by kernel_rfl) (by kernel_rfl) (by kernel_rfl) (fun _ _ _ h => h) (Or.inl ⟨by rfl, ?y7b⟩) (HS7.out HG.out) ?r7b
          case y7b => (intro w0_ hs_; go_simp; try with_reducible rfl)
          try simp only [List.getElem_toArray, List.getElem_cons_zero, List.getElem_cons_succ, Act.put, List.setIfInBounds_toArray, List.set_cons_zero, List.set_cons_succ]
          refine wpAnyD_take (i := 9) (v := ?v9b) rfl rfl (by kernel_rfl) (by kernel_rfl) (by kernel_rfl) (by kernel_rfl) (fun _ _ _ h => h) (Or.inl ⟨by rfl, ?y9b⟩) (HS7.out HG.out) ?r9b
          case y9b => (intro w0_ hs_; go_simp; try with_reducible rfl)
          try simp only [List.getElem_toArray, List.getElem_cons_zero, List.getElem_cons_succ, Act.put, List.setIfInBounds_toArray, List.set_cons_zero, List.set_cons_succ]
          refine wpAnyD_take (i := 10) (v := ?v10b) rfl rfl (by kernel_rfl) (by kernel_rfl) (by kernel_rfl) (by kernel_rfl) (fun _ _ _ h => h) (Or.inl ⟨by rfl, ?y10b⟩) (HS7.out HG.out) ?r10b
          case y10b => (intro w0_ hs_; go_simp; try with_reducible rfl)
          try simp only [List.getElem_toArray, List.getElem_cons_zero, List.getElem_cons_succ, Act.put, List.setIfInBounds_toArray, List.set_cons_zero, List.set_cons_succ]
          refine wpAnyD_take (i := 11) (v := ?v11b) rfl rfl (by kernel_rfl) (by kernel_rfl) (by kernel_rfl) (by kernel_rfl) (fun _ _ _ h => h) (Or.inl ⟨by rfl, ?y11b⟩) (HS7.out HG.out) ?r11b
          case y11b => (intro w0_ hs_; go_simp; try with_reducible rfl)
          try simp only [List.getElem_toArray, List.getElem_cons_zero, List.getElem_cons_succ, Act.put, List.setIfInBounds_toArray, List.set_cons_zero, List.set_cons_succ]
          refine wpAnyD_take (i := 12) (v := ?v12b) rfl rfl (by kernel_rfl) (by kernel_rfl) (by kernel_rfl) (by kernel_rfl) (fun _ _ _ h => h) (Or.inl ⟨by rfl, ?y12b⟩) (HS7.out HG.out) ?r12b
          case y12b => (intro w0_ hs_; go_simp; try with_reducible rfl)
          try simp only [List.getElem_toArray, List.getElem_cons_zero, List.getElem_cons_succ, Act.put, List.setIfInBounds_toArray, List.set_cons_zero, List.set_cons_succ]
          refine wpAnyD_take (i := 15) (v := ?v15b) rfl rfl (by kernel_rfl) (by kernel_rfl) (by kernel_rfl) (by kernel_rfl) (fun _ _ _ h => h) (Or.inl ⟨by rfl, ?y15b⟩) (HS7.out HG.out) ?r15b
          case y15b => (intro w0_ hs_; go_simp; try with_reducible rfl)
          try simp only [List.getElem_toArray, List.getElem_cons_zero, List.getElem_cons_succ, Act.put, List.setIfInBounds_toArray, List.set_cons_zero, List.set_cons_succ]
          refine wpAnyD_take (i := 16) (v := ?v16b) rfl rfl (by kernel_rfl) (by kernel_rfl) (by kernel_rfl) (by kernel_rfl) (fun _ _ _ h => h) (Or.inl ⟨by rfl, ?y16b⟩) (HS7.out HG.out) ?r16b
          case y16b => (intro w0_ hs_; go_simp; try with_reducible rfl)
          try simp only [List.getElem_toArray, List.getElem_cons_zero, List.getElem_cons_succ, Act.put, List.setIfInBounds_toArray, List.set_cons_zero, List.set_cons_succ]
          refine wpAnyD_take (i := 17) (v := ?v17b) rfl rfl (by kernel_rfl) (by kernel_rfl) (by kernel_rfl) (by kernel_rfl) (fun _ _ _ h => h) (Or.inl ⟨by rfl, ?y17b⟩) (HS7.out HG.out) ?r17b
          case y17b => (intro w0_ hs_; go_simp; try with_reducible rfl)
          try simp only [List.getElem_toArray, List.getElem_cons_zero, List.getElem_cons_succ, Act.put, List.setIfInBounds_toArray, List.set_cons_zero, List.set_cons_succ]
          refine wpAnyD_take (i := 18) (v := ?v18b) rfl rfl (by kernel_rfl) (by kernel_rfl) (by kernel_rfl) (by kernel_rfl) (fun _ _ _ h => h) (Or.inl ⟨by rfl, ?y18b⟩) (HS7.out HG.out) ?r18b
          case y18b => (intro w0_ hs_; go_simp; try with_reducible rfl)
          try simp only [List.getElem_toArray, List.getElem_cons_zero, List.getElem_cons_succ, Act.put, List.setIfInBounds_toArray, List.set_cons_zero, List.set_cons_succ]
          refine wpAnyD_take (i := 19) (v := ?v19b) rfl rfl (by kernel_rfl) (by kernel_rfl) (by kernel_rfl) (by kernel_rfl) (fun _ _ _ h => h) (Or.inl ⟨by rfl, ?y19b⟩) (HS7.out HG.out) ?r19b
          case y19b => (intro w0_ hs_; go_simp; try with_reducible rfl)
          try simp only [List.getElem_toArray, List.getElem_cons_zero, List.getElem_cons_succ, Act.put, List.setIfInBounds_toArray, List.set_cons_zero, List.set_cons_succ]
          refine wpAnyD_take (i := 20) (v := ?v20b) rfl rfl (by kernel_rfl) (by kernel_rfl) (by kernel_rfl) (by kernel_rfl) (fun _ _ _ h => h) (Or.inl ⟨by rfl, ?y20b⟩) (HS7.out HG.out) ?r20b
          case y20b => (intro w0_ hs_; go_simp; try with_reducible rfl)
          try simp only [List.getElem_toArray, List.getElem_cons_zero, List.getElem_cons_succ, Act.put, List.setIfInBounds_toArray, List.set_cons_zero, List.set_cons_succ]
          refine wpAnyD_ready (rs := [1, 13]) (by kernel_rfl) (by simp) (AllReadyD.cons (i := 1) rfl (fun K hK => ?f1b) (AllReadyD.cons (i := 13) rfl (fun K hK => ?f13b) AllReadyD.nil))
          case f1b =>
            go_simp
            have nE := As.mk (show (W7.alloc (.cells #[] 67)).ownsRow wr.heap.size 67 5 (.slice (some ⟨W7.heap.size, 0, none⟩) 0 0) 0 [] from ⟨rfl, .inr ⟨W7.heap.size, 0, #[], rfl, HG.out.size, heap_alloc_new W7 _, Nat.le_refl _, by simp only [maxLen]; omega, rfl, rfl⟩⟩)
            have nG := As.mk (gr_alloc HG.out (.cells #[] 67))
            clear HG
            have HG := nG
            have HE := nE
            clear nG nE
            refine hK.out _ _ (fun _ => HS7.out HG.out) (fun _ => ?_)
            clear hK K
            try simp only [List.getElem_toArray, List.getElem_cons_zero, List.getElem_cons_succ, Act.put, List.setIfInBounds_toArray, List.set_cons_zero, List.set_cons_succ]
            have hlt1 := As.mk (show W7.heap.size < (W7.alloc (.cells #[] 67)).heap.size by simp)
            generalize W7.alloc (.cells #[] 67) = V1_ at *
            generalize W7.heap.size = ge at *
            refine wpAnyD_ready (rs := [8, 13]) (by kernel_rfl) (by simp) (AllReadyD.cons (i := 8) rfl (fun K hK => ?f8b1_) (AllReadyD.cons (i := 13) rfl (fun K hK => ?f13b1_) AllReadyD.nil))
            case f8b1_ =>
              refine step_append_any rfl _ _ _ rfl wr.heap.size 67 i0 _ 5 40 Try.underlying43 HI.out.1 HI.out.2.1 HI.out.2.2.1 HI.out.2.2.2 rfl (by omega) (.slice (some ⟨ge, 0, none⟩) 0 0) 0 [] rfl HE.out (.slice (some ⟨g, 0, none⟩) k cap) k (itCells (Rs.take k)) rfl (srcTake (own_gr0 HW.out.1.reads HG.out) k hk) ⟨_, _, rfl⟩ (by simp only [maxLen]; omega) (by omega) HG.out.size ?_
              intro va1_8_ V1_8_ hva hga _ hsm
              rw [Nat.zero_add, List.nil_append] at hva
              rw [Nat.zero_add] at hsm
              obtain ⟨q1_8_, r1_8_, rfl⟩ := hsm
              have nG := As.mk (gr_then HG.out hga (.inr (.inr (fun q hq => (HE.out.lt q hq).1))))
              clear HG
              have HG := nG
              clear nG hga
              have HA := As.mk hva
              clear HE hva
              refine hK.out _ _ (fun _ => HS7.out HG.out) (fun _ => ?_)
              clear hK K
              try simp only [List.getElem_toArray, List.getElem_cons_zero, List.getElem_cons_succ, Act.put, List.setIfInBounds_toArray, List.set_cons_zero, List.set_cons_succ]
              refine wpAnyD_ready (rs := [13]) (by kernel_rfl) (by simp) (AllReadyD.cons (i := 13) rfl (fun K hK => ?_) AllReadyD.nil)
              go_simp
              have nN := As.mk (Blk.new V1_8_ 67 #[.int .i64 c, .int .i64 ver, .int .i64 a, .bool false, .int .i64 0])
              have nG := As.mk (gr_alloc HG.out (.cells #[.int .i64 c, .int .i64 ver, .int .i64 a, .bool false, .int .i64 0] 67))
              have nA := As.mk (own_alloc' HA.out (.cells #[.int .i64 c, .int .i64 ver, .int .i64 a, .bool false, .int .i64 0] 67))
              clear HA
              have HA := nA
              clear nA
              clear HG
              have HG := nG
              have HN := nN
              clear nG nN
              refine hK.out _ _ (fun _ => HS7.out HG.out) (fun _ => ?_)
              clear hK K
              try simp only [List.getElem_toArray, List.getElem_cons_zero, List.getElem_cons_succ, Act.put, List.setIfInBounds_toArray, List.set_cons_zero, List.set_cons_succ]
              have hlt13 := As.mk (show V1_8_.heap.size < (V1_8_.alloc (.cells #[.int .i64 c, .int .i64 ver, .int .i64 a, .bool false, .int .i64 0] 67)).heap.size by simp)
              generalize V1_8_.alloc (.cells #[.int .i64 c, .int .i64 ver, .int .i64 a, .bool false, .int .i64 0] 67) = V1_8_13_ at *
              generalize V1_8_.heap.size = gn at *
              refine wpAnyD_ready (rs := [14]) (by kernel_rfl) (by simp) (AllReadyD.cons (i := 14) rfl (fun K hK => ?_) AllReadyD.nil)
              refine step_append_any rfl _ _ _ rfl wr.heap.size 67 i0 _ 5 40 Try.underlying43 HI.out.1 HI.out.2.1 HI.out.2.2.1 HI.out.2.2.2 rfl (by omega) (.slice (some ⟨q1_8_, 0, none⟩) k r1_8_) k (itCells (Rs.take k)) rfl HA.out (.slice (some ⟨gn, 0, none⟩) 1 1) 1 [.int .i64 c, .int .i64 ver, .int .i64 a, .bool false, .int .i64 0] rfl (.inr ⟨⟨gn, 0, none⟩, 1, rfl, rfl, World.news_of_block (cs := #[.int .i64 c, .int .i64 ver, .int .i64 a, .bool false, .int .i64 0]) (t := 67) (fr := (0, 0)) HN.out, by simp [Value.oneCell']⟩) ⟨_, _, rfl⟩ (by simp only [maxLen]; omega) (by omega) HG.out.size ?_
              intro va1_8_13_14_ V1_8_13_14_ hva hga _ hsm
              obtain ⟨q1_8_13_14_, r1_8_13_14_, rfl⟩ := hsm
              have nG := As.mk (gr_then HG.out hga (.inr (.inr (fun q hq => (HA.out.lt q hq).1))))
              clear HG
              have HG := nG
              clear nG hga
              have HB2 := As.mk hva
              clear HA HN hva
              refine hK.out _ _ (fun _ => HS7.out HG.out) (fun _ => ?_)
              clear hK K
              try simp only [List.getElem_toArray, List.getElem_cons_zero, List.getElem_cons_succ, Act.put, List.setIfInBounds_toArray, List.set_cons_zero, List.set_cons_succ]
              refine wpAnyD_ready (rs := [21]) (by kernel_rfl) (by simp) (AllReadyD.cons (i := 21) rfl (fun K hK => ?_) AllReadyD.nil)
              refine step_append_any rfl _ _ _ rfl wr.heap.size 67 i0 _ 5 40 Try.underlying43 HI.out.1 HI.out.2.1 HI.out.2.2.1 HI.out.2.2.2 rfl (by omega) (.slice (some ⟨q1_8_13_14_, 0, none⟩) (k + 1) r1_8_13_14_) (k + 1) (itCells (Rs.take k) ++ [.int .i64 c, .int .i64 ver, .int .i64 a, .bool false, .int .i64 0]) rfl HB2.out (.slice (if cap = k then some ⟨g, 0, none⟩ else some ⟨g, k * 5, none⟩) (Rs.length - k) (cap - k)) (Rs.length - k) (itCells (Rs.drop k)) rfl (srcDrop (own_gr0 HW.out.1.reads HG.out) k hk) ⟨_, _, rfl⟩ (by simp only [maxLen]; omega) (by omega) HG.out.size ?_
              intro va1_8_13_14_21_ V1_8_13_14_21_ hva hga _ hsm
              obtain ⟨q1_8_13_14_21_, r1_8_13_14_21_, rfl⟩ := hsm
              have nG := As.mk (gr_then HG.out hga (.inr (.inr (fun q hq => (HB2.out.lt q hq).1))))
              clear HG
              have HG := nG
              clear nG hga
              have HF3 := As.mk (show V1_8_13_14_21_.ownsRow wr.heap.size 67 5 (.slice (some ⟨q1_8_13_14_21_, 0, none⟩) (k + 1 + (Rs.length - k)) r1_8_13_14_21_) (Rs.take k ++ [⟨c, ver, a, false, 0⟩] ++ Rs.drop k : List PIt).length (itCells (Rs.take k ++ [⟨c, ver, a, false, 0⟩] ++ Rs.drop k)) from by
                have e1 : (Rs.take k ++ [⟨c, ver, a, false, 0⟩] ++ Rs.drop k : List PIt).length = k + 1 + (Rs.length - k) := by simp [List.length_take]; omega
                rw [e1, itCells_app, itCells_snoc]
                exact hva)
              clear HB2 hva
              refine hK.out _ _ (fun _ => HS7.out HG.out) (fun _ => ?_)
              clear hK K
              try simp only [List.getElem_toArray, List.getElem_cons_zero, List.getElem_cons_succ, Act.put, List.setIfInBounds_toArray, List.set_cons_zero, List.set_cons_succ]
              refine wpAnyD_ready (rs := [22]) (by kernel_rfl) (by simp) (AllReadyD.cons (i := 22) rfl (fun K hK => ?_) AllReadyD.nil)
              go_simp
              refine hK.out _ _ (fun _ => HS7.out HG.out) (fun _ => ?_)
              clear hK K
              try simp only [List.getElem_toArray, List.getElem_cons_zero, List.getElem_cons_succ, Act.put, List.setIfInBounds_toArray, List.set_cons_zero, List.set_cons_succ]
              refine wpAnyD_ready (rs := [23]) (by kernel_rfl) (by simp) (AllReadyD.cons (i := 23) rfl (fun K hK => ?_) AllReadyD.nil)
              go_simp
              refine hK.out _ _ (fun _ => HS7.out HG.out) (fun _ => ?_)
              clear hK K
              try simp only [List.getElem_toArray, List.getElem_cons_zero, List.getElem_cons_succ, Act.put, List.setIfInBounds_toArray, List.set_cons_zero, List.set_cons_succ]
              refine wpAnyD_ready (rs := [24]) (by kernel_rfl) (by simp) (AllReadyD.cons (i := 24) rfl (fun K hK => ?_) AllReadyD.nil)
              have hc24 := HS7.out HG.out
              have hf24 := (HW.out.1.blk.grown HG.out (by simp)).free 0
              go_simp
              have hp0 := RefW.put0 (Rs' := Rs.take k ++ [⟨c, ver, a, false, 0⟩] ++ Rs.drop k) HH.out.1 HW.out.1 HW.out.2 HH.out.2 HG.out HF3.out
              obtain ⟨G', hR', hN', -⟩ := hp0
              have HF := As.mk (And.intro hR' hN')
              clear hR' hN' hc24 hf24
              refine hK.out _ _ (fun h => absurd rfl h) (fun _ => ?_)
              clear hK K
              try simp only [List.getElem_toArray, List.getElem_cons_zero, List.getElem_cons_succ, Act.put, List.setIfInBounds_toArray, List.set_cons_zero, List.set_cons_succ]
              refine wpAnyD_done (by kernel_rfl) ?_ _
              refine NoPanic.normal ?_
              go_wp2_with fail
              all_goals (go_ret; first | exact ⟨rfl, k, HK.out, G', (by simpa using HF.out.1), HF.out.2⟩ | exact ⟨rfl, k, G', HK.out, (by simpa using HF.out.1), HF.out.2⟩)
            case f13b1_ =>
              go_simp
              have nN := As.mk (Blk.new V1_ 67 #[.int .i64 c, .int .i64 ver, .int .i64 a, .bool false, .int .i64 0])
              have nG := As.mk (gr_alloc HG.out (.cells #[.int .i64 c, .int .i64 ver, .int .i64 a, .bool false, .int .i64 0] 67))
              have nE := As.mk (own_alloc' HE.out (.cells #[.int .i64 c, .int .i64 ver, .int .i64 a, .bool false, .int .i64 0] 67))
              clear HE
              have HE := nE
              clear nE
              clear HG
              have HG := nG
              have HN := nN
              clear nG nN
              refine hK.out _ _ (fun _ => HS7.out HG.out) (fun _ => ?_)
              clear hK K
              try simp only [List.getElem_toArray, List.getElem_cons_zero, List.getElem_cons_succ, Act.put, List.setIfInBounds_toArray, List.set_cons_zero, List.set_cons_succ]
              have hne13 := As.mk (show some V1_.heap.size ≠ (Value.slice (some ⟨ge, 0, none⟩) 0 0).ownBlock from fun q => by have := hlt1.out; have q : V1_.heap.size = ge := Option.some.inj q; omega)
              have hlt13 := As.mk (show V1_.heap.size < (V1_.alloc (.cells #[.int .i64 c, .int .i64 ver, .int .i64 a, .bool false, .int .i64 0] 67)).heap.size by simp)
              generalize V1_.alloc (.cells #[.int .i64 c, .int .i64 ver, .int .i64 a, .bool false, .int .i64 0] 67) = V1_13_ at *
              generalize V1_.heap.size = gn at *
              refine wpAnyD_ready (rs := [8]) (by kernel_rfl) (by simp) (AllReadyD.cons (i := 8) rfl (fun K hK => ?_) AllReadyD.nil)
              refine step_append_any rfl _ _ _ rfl wr.heap.size 67 i0 _ 5 40 Try.underlying43 HI.out.1 HI.out.2.1 HI.out.2.2.1 HI.out.2.2.2 rfl (by omega) (.slice (some ⟨ge, 0, none⟩) 0 0) 0 [] rfl HE.out (.slice (some ⟨g, 0, none⟩) k cap) k (itCells (Rs.take k)) rfl (srcTake (own_gr0 HW.out.1.reads HG.out) k hk) ⟨_, _, rfl⟩ (by simp only [maxLen]; omega) (by omega) HG.out.size ?_
              intro va1_13_8_ V1_13_8_ hva hga _ hsm
              rw [Nat.zero_add, List.nil_append] at hva
              rw [Nat.zero_add] at hsm
              obtain ⟨q1_13_8_, r1_13_8_, rfl⟩ := hsm
              have nG := As.mk (gr_then HG.out hga (.inr (.inr (fun q hq => (HE.out.lt q hq).1))))
              have nN := As.mk (HN.out.grown hga (fun q => hne13.out q))
              clear HN
              have HN := nN
              clear nN
              clear HG
              have HG := nG
              clear nG hga
              have HA := As.mk hva
              clear HE hva
              refine hK.out _ _ (fun _ => HS7.out HG.out) (fun _ => ?_)
              clear hK K
              try simp only [List.getElem_toArray, List.getElem_cons_zero, List.getElem_cons_succ, Act.put, List.setIfInBounds_toArray, List.set_cons_zero, List.set_cons_succ]
              refine wpAnyD_ready (rs := [14]) (by kernel_rfl) (by simp) (AllReadyD.cons (i := 14) rfl (fun K hK => ?_) AllReadyD.nil)
              refine step_append_any rfl _ _ _ rfl wr.heap.size 67 i0 _ 5 40 Try.underlying43 HI.out.1 HI.out.2.1 HI.out.2.2.1 HI.out.2.2.2 rfl (by omega) (.slice (some ⟨q1_13_8_, 0, none⟩) k r1_13_8_) k (itCells (Rs.take k)) rfl HA.out (.slice (some ⟨gn, 0, none⟩) 1 1) 1 [.int .i64 c, .int .i64 ver, .int .i64 a, .bool false, .int .i64 0] rfl (.inr ⟨⟨gn, 0, none⟩, 1, rfl, rfl, World.news_of_block (cs := #[.int .i64 c, .int .i64 ver, .int .i64 a, .bool false, .int .i64 0]) (t := 67) (fr := (0, 0)) HN.out, by simp [Value.oneCell']⟩) ⟨_, _, rfl⟩ (by simp only [maxLen]; omega) (by omega) HG.out.size ?_
              intro va1_13_8_14_ V1_13_8_14_ hva hga _ hsm
              obtain ⟨q1_13_8_14_, r1_13_8_14_, rfl⟩ := hsm
              have nG := As.mk (gr_then HG.out hga (.inr (.inr (fun q hq => (HA.out.lt q hq).1))))
              clear HG
              have HG := nG
              clear nG hga
              have HB2 := As.mk hva
              clear HA HN hva
              refine hK.out _ _ (fun _ => HS7.out HG.out) (fun _ => ?_)
              clear hK K
              try simp only [List.getElem_toArray, List.getElem_cons_zero, List.getElem_cons_succ, Act.put, List.setIfInBounds_toArray, List.set_cons_zero, List.set_cons_succ]
              refine wpAnyD_ready (rs := [21]) (by kernel_rfl) (by simp) (AllReadyD.cons (i := 21) rfl (fun K hK => ?_) AllReadyD.nil)
              refine step_append_any rfl _ _ _ rfl wr.heap.size 67 i0 _ 5 40 Try.underlying43 HI.out.1 HI.out.2.1 HI.out.2.2.1 HI.out.2.2.2 rfl (by omega) (.slice (some ⟨q1_13_8_14_, 0, none⟩) (k + 1) r1_13_8_14_) (k + 1) (itCells (Rs.take k) ++ [.int .i64 c, .int .i64 ver, .int .i64 a, .bool false, .int .i64 0]) rfl HB2.out (.slice (if cap = k then some ⟨g, 0, none⟩ else some ⟨g, k * 5, none⟩) (Rs.length - k) (cap - k)) (Rs.length - k) (itCells (Rs.drop k)) rfl (srcDrop (own_gr0 HW.out.1.reads HG.out) k hk) ⟨_, _, rfl⟩ (by simp only [maxLen]; omega) (by omega) HG.out.size ?_
              intro va1_13_8_14_21_ V1_13_8_14_21_ hva hga _ hsm
              obtain ⟨q1_13_8_14_21_, r1_13_8_14_21_, rfl⟩ := hsm
              have nG := As.mk (gr_then HG.out hga (.inr (.inr (fun q hq => (HB2.out.lt q hq).1))))
              clear HG
              have HG := nG
              clear nG hga
              have HF3 := As.mk (show V1_13_8_14_21_.ownsRow wr.heap.size 67 5 (.slice (some ⟨q1_13_8_14_21_, 0, none⟩) (k + 1 + (Rs.length - k)) r1_13_8_14_21_) (Rs.take k ++ [⟨c, ver, a, false, 0⟩] ++ Rs.drop k : List PIt).length (itCells (Rs.take k ++ [⟨c, ver, a, false, 0⟩] ++ Rs.drop k)) from by
                have e1 : (Rs.take k ++ [⟨c, ver, a, false, 0⟩] ++ Rs.drop k : List PIt).length = k + 1 + (Rs.length - k) := by simp [List.length_take]; omega
                rw [e1, itCells_app, itCells_snoc]
                exact hva)
              clear HB2 hva
              refine hK.out _ _ (fun _ => HS7.out HG.out) (fun _ => ?_)
              clear hK K
              try simp only [List.getElem_toArray, List.getElem_cons_zero, List.getElem_cons_succ, Act.put, List.setIfInBounds_toArray, List.set_cons_zero, List.set_cons_succ]
              refine wpAnyD_ready (rs := [22]) (by kernel_rfl) (by simp) (AllReadyD.cons (i := 22) rfl (fun K hK => ?_) AllReadyD.nil)
              go_simp
              refine hK.out _ _ (fun _ => HS7.out HG.out) (fun _ => ?_)
              clear hK K
              try simp only [List.getElem_toArray, List.getElem_cons_zero, List.getElem_cons_succ, Act.put, List.setIfInBounds_toArray, List.set_cons_zero, List.set_cons_succ]
              refine wpAnyD_ready (rs := [23]) (by kernel_rfl) (by simp) (AllReadyD.cons (i := 23) rfl (fun K hK => ?_) AllReadyD.nil)
              go_simp
              refine hK.out _ _ (fun _ => HS7.out HG.out) (fun _ => ?_)
              clear hK K
              try simp only [List.getElem_toArray, List.getElem_cons_zero, List.getElem_cons_succ, Act.put, List.setIfInBounds_toArray, List.set_cons_zero, List.set_cons_succ]
              refine wpAnyD_ready (rs := [24]) (by kernel_rfl) (by simp) (AllReadyD.cons (i := 24) rfl (fun K hK => ?_) AllReadyD.nil)
              have hc24 := HS7.out HG.out
              have hf24 := (HW.out.1.blk.grown HG.out (by simp)).free 0
              go_simp
              have hp0 := RefW.put0 (Rs' := Rs.take k ++ [⟨c, ver, a, false, 0⟩] ++ Rs.drop k) HH.out.1 HW.out.1 HW.out.2 HH.out.2 HG.out HF3.out
              obtain ⟨G', hR', hN', -⟩ := hp0
              have HF := As.mk (And.intro hR' hN')
              clear hR' hN' hc24 hf24
              refine hK.out _ _ (fun h => absurd rfl h) (fun _ => ?_)
              clear hK K
              try simp only [List.getElem_toArray, List.getElem_cons_zero, List.getElem_cons_succ, Act.put, List.setIfInBounds_toArray, List.set_cons_zero, List.set_cons_succ]
              refine wpAnyD_done (by kernel_rfl) ?_ _
              refine NoPanic.normal ?_
              go_wp2_with fail
              all_goals (go_ret; first | exact ⟨rfl, k, HK.out, G', (by simpa using HF.out.1), HF.out.2⟩ | exact ⟨rfl, k, G', HK.out, (by simpa using HF.out.1), HF.out.2⟩)
          case f13b =>
            go_simp
            have nN := As.mk (Blk.new W7 67 #[.int .i64 c, .int .i64 ver, .int .i64 a, .bool false, .int .i64 0])
            have nG := As.mk (gr_alloc HG.out (.cells #[.int .i64 c, .int .i64 ver, .int .i64 a, .bool false, .int .i64 0] 67))
            clear HG
            have HG := nG
            have HN := nN
            clear nG nN
            refine hK.out _ _ (fun _ => HS7.out HG.out) (fun _ => ?_)
            clear hK K
            try simp only [List.getElem_toArray, List.getElem_cons_zero, List.getElem_cons_succ, Act.put, List.setIfInBounds_toArray, List.set_cons_zero, List.set_cons_succ]
            have hlt13 := As.mk (show W7.heap.size < (W7.alloc (.cells #[.int .i64 c, .int .i64 ver, .int .i64 a, .bool false, .int .i64 0] 67)).heap.size by simp)
            generalize W7.alloc (.cells #[.int .i64 c, .int .i64 ver, .int .i64 a, .bool false, .int .i64 0] 67) = V13_ at *
            generalize W7.heap.size = gn at *
            refine wpAnyD_ready (rs := [1]) (by kernel_rfl) (by simp) (AllReadyD.cons (i := 1) rfl (fun K hK => ?_) AllReadyD.nil)
            go_simp
            have nE := As.mk (show (V13_.alloc (.cells #[] 67)).ownsRow wr.heap.size 67 5 (.slice (some ⟨V13_.heap.size, 0, none⟩) 0 0) 0 [] from ⟨rfl, .inr ⟨V13_.heap.size, 0, #[], rfl, HG.out.size, heap_alloc_new V13_ _, Nat.le_refl _, by simp only [maxLen]; omega, rfl, rfl⟩⟩)
            have nG := As.mk (gr_alloc HG.out (.cells #[] 67))
            have nN := As.mk (HN.out.alloc (.cells #[] 67))
            clear HN
            have HN := nN
            clear nN
            clear HG
            have HG := nG
            have HE := nE
            clear nG nE
            refine hK.out _ _ (fun _ => HS7.out HG.out) (fun _ => ?_)
            clear hK K
            try simp only [List.getElem_toArray, List.getElem_cons_zero, List.getElem_cons_succ, Act.put, List.setIfInBounds_toArray, List.set_cons_zero, List.set_cons_succ]
            have hne13 := As.mk (show some gn ≠ (Value.slice (some ⟨V13_.heap.size, 0, none⟩) 0 0).ownBlock from fun q => by have := hlt13.out; have q : gn = V13_.heap.size := Option.some.inj q; omega)
            have hlt1 := As.mk (show V13_.heap.size < (V13_.alloc (.cells #[] 67)).heap.size by simp)
            generalize V13_.alloc (.cells #[] 67) = V13_1_ at *
            generalize V13_.heap.size = ge at *
            refine wpAnyD_ready (rs := [8]) (by kernel_rfl) (by simp) (AllReadyD.cons (i := 8) rfl (fun K hK => ?_) AllReadyD.nil)
            refine step_append_any rfl _ _ _ rfl wr.heap.size 67 i0 _ 5 40 Try.underlying43 HI.out.1 HI.out.2.1 HI.out.2.2.1 HI.out.2.2.2 rfl (by omega) (.slice (some ⟨ge, 0, none⟩) 0 0) 0 [] rfl HE.out (.slice (some ⟨g, 0, none⟩) k cap) k (itCells (Rs.take k)) rfl (srcTake (own_gr0 HW.out.1.reads HG.out) k hk) ⟨_, _, rfl⟩ (by simp only [maxLen]; omega) (by omega) HG.out.size ?_
            intro va13_1_8_ V13_1_8_ hva hga _ hsm
            rw [Nat.zero_add, List.nil_append] at hva
            rw [Nat.zero_add] at hsm
            obtain ⟨q13_1_8_, r13_1_8_, rfl⟩ := hsm
            have nG := As.mk (gr_then HG.out hga (.inr (.inr (fun q hq => (HE.out.lt q hq).1))))
            have nN := As.mk (HN.out.grown hga (fun q => hne13.out q))
            clear HN
            have HN := nN
            clear nN
            clear HG
            have HG := nG
            clear nG hga
            have HA := As.mk hva
            clear HE hva
            refine hK.out _ _ (fun _ => HS7.out HG.out) (fun _ => ?_)
            clear hK K
            try simp only [List.getElem_toArray, List.getElem_cons_zero, List.getElem_cons_succ, Act.put, List.setIfInBounds_toArray, List.set_cons_zero, List.set_cons_succ]
            refine wpAnyD_ready (rs := [14]) (by kernel_rfl) (by simp) (AllReadyD.cons (i := 14) rfl (fun K hK => ?_) AllReadyD.nil)
            refine step_append_any rfl _ _ _ rfl wr.heap.size 67 i0 _ 5 40 Try.underlying43 HI.out.1 HI.out.2.1 HI.out.2.2.1 HI.out.2.2.2 rfl (by omega) (.slice (some ⟨q13_1_8_, 0, none⟩) k r13_1_8_) k (itCells (Rs.take k)) rfl HA.out (.slice (some ⟨gn, 0, none⟩) 1 1) 1 [.int .i64 c, .int .i64 ver, .int .i64 a, .bool false, .int .i64 0] rfl (.inr ⟨⟨gn, 0, none⟩, 1, rfl, rfl, World.news_of_block (cs := #[.int .i64 c, .int .i64 ver, .int .i64 a, .bool false, .int .i64 0]) (t := 67) (fr := (0, 0)) HN.out, by simp [Value.oneCell']⟩) ⟨_, _, rfl⟩ (by simp only [maxLen]; omega) (by omega) HG.out.size ?_
            intro va13_1_8_14_ V13_1_8_14_ hva hga _ hsm
            obtain ⟨q13_1_8_14_, r13_1_8_14_, rfl⟩ := hsm
            have nG := As.mk (gr_then HG.out hga (.inr (.inr (fun q hq => (HA.out.lt q hq).1))))
            clear HG
            have HG := nG
            clear nG hga
            have HB2 := As.mk hva
            clear HA HN hva
            refine hK.out _ _ (fun _ => HS7.out HG.out) (fun _ => ?_)
            clear hK K
            try simp only [List.getElem_toArray, List.getElem_cons_zero, List.getElem_cons_succ, Act.put, List.setIfInBounds_toArray, List.set_cons_zero, List.set_cons_succ]
            refine wpAnyD_ready (rs := [21]) (by kernel_rfl) (by simp) (AllReadyD.cons (i := 21) rfl (fun K hK => ?_) AllReadyD.nil)
            refine step_append_any rfl _ _ _ rfl wr.heap.size 67 i0 _ 5 40 Try.underlying43 HI.out.1 HI.out.2.1 HI.out.2.2.1 HI.out.2.2.2 rfl (by omega) (.slice (some ⟨q13_1_8_14_, 0, none⟩) (k + 1) r13_1_8_14_) (k + 1) (itCells (Rs.take k) ++ [.int .i64 c, .int .i64 ver, .int .i64 a, .bool false, .int .i64 0]) rfl HB2.out (.slice (if cap = k then some ⟨g, 0, none⟩ else some ⟨g, k * 5, none⟩) (Rs.length - k) (cap - k)) (Rs.length - k) (itCells (Rs.drop k)) rfl (srcDrop (own_gr0 HW.out.1.reads HG.out) k hk) ⟨_, _, rfl⟩ (by simp only [maxLen]; omega) (by omega) HG.out.size ?_
            intro va13_1_8_14_21_ V13_1_8_14_21_ hva hga _ hsm
            obtain ⟨q13_1_8_14_21_, r13_1_8_14_21_, rfl⟩ := hsm
            have nG := As.mk (gr_then HG.out hga (.inr (.inr (fun q hq => (HB2.out.lt q hq).1))))
            clear HG
            have HG := nG
            clear nG hga
            have HF3 := As.mk (show V13_1_8_14_21_.ownsRow wr.heap.size 67 5 (.slice (some ⟨q13_1_8_14_21_, 0, none⟩) (k + 1 + (Rs.length - k)) r13_1_8_14_21_) (Rs.take k ++ [⟨c, ver, a, false, 0⟩] ++ Rs.drop k : List PIt).length (itCells (Rs.take k ++ [⟨c, ver, a, false, 0⟩] ++ Rs.drop k)) from by
              have e1 : (Rs.take k ++ [⟨c, ver, a, false, 0⟩] ++ Rs.drop k : List PIt).length = k + 1 + (Rs.length - k) := by simp [List.length_take]; omega
              rw [e1, itCells_app, itCells_snoc]
              exact hva)
            clear HB2 hva
            refine hK.out _ _ (fun _ => HS7.out HG.out) (fun _ => ?_)
            clear hK K
            try simp only [List.getElem_toArray, List.getElem_cons_zero, List.getElem_cons_succ, Act.put, List.setIfInBounds_toArray, List.set_cons_zero, List.set_cons_succ]
            refine wpAnyD_ready (rs := [22]) (by kernel_rfl) (by simp) (AllReadyD.cons (i := 22) rfl (fun K hK => ?_) AllReadyD.nil)
            go_simp
            refine hK.out _ _ (fun _ => HS7.out HG.out) (fun _ => ?_)
            clear hK K
            try simp only [List.getElem_toArray, List.getElem_cons_zero, List.getElem_cons_succ, Act.put, List.setIfInBounds_toArray, List.set_cons_zero, List.set_cons_succ]
            refine wpAnyD_ready (rs := [23]) (by kernel_rfl) (by simp) (AllReadyD.cons (i := 23) rfl (fun K hK => ?_) AllReadyD.nil)
            go_simp
            refine hK.out _ _ (fun _ => HS7.out HG.out) (fun _ => ?_)
            clear hK K
            try simp only [List.getElem_toArray, List.getElem_cons_zero, List.getElem_cons_succ, Act.put, List.setIfInBounds_toArray, List.set_cons_zero, List.set_cons_succ]
            refine wpAnyD_ready (rs := [24]) (by kernel_rfl) (by simp) (AllReadyD.cons (i := 24) rfl (fun K hK => ?_) AllReadyD.nil)
            have hc24 := HS7.out HG.out
            have hf24 := (HW.out.1.blk.grown HG.out (by simp)).free 0
            go_simp
            have hp0 := RefW.put0 (Rs' := Rs.take k ++ [⟨c, ver, a, false, 0⟩] ++ Rs.drop k) HH.out.1 HW.out.1 HW.out.2 HH.out.2 HG.out HF3.out
            obtain ⟨G', hR', hN', -⟩ := hp0
            have HF := As.mk (And.intro hR' hN')
            clear hR' hN' hc24 hf24
            refine hK.out _ _ (fun h => absurd rfl h) (fun _ => ?_)
            clear hK K
            try simp only [List.getElem_toArray, List.getElem_cons_zero, List.getElem_cons_succ, Act.put, List.setIfInBounds_toArray, List.set_cons_zero, List.set_cons_succ]
            refine wpAnyD_done (by kernel_rfl) ?_ _
            refine NoPanic.normal ?_
            go_wp2_with fail
            all_goals (go_ret; first | exact ⟨rfl, k, HK.out, G', (by simpa using HF.out.1), HF.out.2⟩ | exact ⟨rfl, k, G', HK.out, (by simpa using HF.out.1), HF.out.2⟩)
        · obtain rfl : Rs = [] := List.eq_nil_of_length_eq_zero hn0
          obtain rfl : k = 0 := hkeq
          clear hltI hk0 hlt hcap hl
          go_wp2_with fail
          refine wp_region_noPanic ?_
          refine wp_region_D (S := fun w' => w'.cell? ⟨rb, 0, none⟩ = some (.slice none 0 0)) 24 (by kernel_rfl) (HW.out.1.blk.cell 0) (fun _ => ?_)
          have HG := As.mk (show wr.grownBy wr.drew none from gr_drew (gr_refl _ _))
          have HS7 := As.mk (show ∀ {w' : World}, wr.grownBy w' none → w'.cell? ⟨rb, 0, none⟩ = some (.slice none 0 0) from fun hg => hg.cell (HW.out.1.blk.cell 0) (by simp))
          generalize wr.drew = W7 at *
          refine wpAnyD_take (i := 0) (v := ?v0c) rfl rfl (by kernel_rfl) (by kernel_rfl) (by kernel_rfl) (by kernel_rfl) (fun _ _ _ h => h) (Or.inl ⟨by rfl, ?y0c⟩) (HS7.out HG.out) ?r0c
          case y0c => (intro w0_ hs_; go_simp; try with_reducible rfl)
          try simp only [List.getElem_toArray, List.getElem_cons_zero, List.getElem_cons_succ, Act.put, List.setIfInBounds_toArray, List.set_cons_zero, List.set_cons_succ]
          refine wpAnyD_take (i := 2) (v := ?v2c) rfl rfl (by kernel_rfl) (by kernel_rfl) (by kernel_rfl) (by kernel_rfl) (fun _ _ _ h => h) (Or.inl ⟨by rfl, ?y2c⟩) (HS7.out HG.out) ?r2c
          case y2c => (intro w0_ hs_; go_simp; try with_reducible rfl)
          try simp only [List.getElem_toArray, List.getElem_cons_zero, List.getElem_cons_succ, Act.put, List.setIfInBounds_toArray, List.set_cons_zero, List.set_cons_succ]
          refine wpAnyD_take (i := 3) (v := ?v3c) rfl rfl (by kernel_rfl) (by kernel_rfl) (by kernel_rfl) (by kernel_rfl) (fun _ _ _ h => h) (Or.inl ⟨by rfl, ?y3c⟩) (HS7.out HG.out) ?r3c
          case y3c => (intro w0_ hs_; go_simp; try with_reducible rfl)
          try simp only [List.getElem_toArray, List.getElem_cons_zero, List.getElem_cons_succ, Act.put, List.setIfInBounds_toArray, List.set_cons_zero, List.set_cons_succ]
          refine wpAnyD_take (i := 4) (v := ?v4c) rfl rfl (by kernel_rfl) (by kernel_rfl) (by kernel_rfl) (by kernel_rfl) (fun _ _ _ h => h) (Or.inl ⟨by rfl, ?y4c⟩) (HS7.out HG.out) ?r4c
          case y4c => (intro w0_ hs_; go_simp; try with_reducible rfl)
          try simp only [List.getElem_toArray, List.getElem_cons_zero, List.getElem_cons_succ, Act.put, List.setIfInBounds_toArray, List.set_cons_zero, List.set_cons_succ]
          refine wpAnyD_take (i := 5) (v := ?v5c) rfl rfl (by kernel_rfl) (by kernel_rfl) (by kernel_rfl) (by kernel_rfl) (fun _ _ _ h => h) (Or.inl ⟨by rfl, ?y5c⟩) (HS7.out HG.out) ?r5c
          case y5c => (intro w0_ hs_; go_simp; try with_reducible rfl)
          try simp only [List.getElem_toArray, List.getElem_cons_zero, List.getElem_cons_succ, Act.put, List.setIfInBounds_toArray, List.set_cons_zero, List.set_cons_succ]
          refine wpAnyD_take (i := 6) (v := ?v6c) rfl rfl (by kernel_rfl) (by kernel_rfl) (by kernel_rfl) (by kernel_rfl) (fun _ _ _ h => h) (Or.inl ⟨by rfl, ?y6c⟩) (HS7.out HG.out) ?r6c
          case y6c => (intro w0_ hs_; go_simp; try with_reducible rfl)
          try simp only [List.getElem_toArray, List.getElem_cons_zero, List.getElem_cons_succ, Act.put, List.setIfInBounds_toArray, List.set_cons_zero, List.set_cons_succ]
          refine wpAnyD_take (i := 7) (v := ?v7c) rfl rfl (by kernel_rfl) (by kernel_rfl) (by kernel_rfl) (by kernel_rfl) (fun _ _ _ h => h) (Or.inl ⟨by rfl, ?y7c⟩) (HS7.out HG.out) ?r7c
          case y7c => (intro w0_ hs_; go_simp; try with_reducible rfl)
          try simp only [List.getElem_toArray, List.getElem_cons_zero, List.getElem_cons_succ, Act.put, List.setIfInBounds_toArray, List.set_cons_zero, List.set_cons_succ]
          refine wpAnyD_take (i := 9) (v := ?v9c) rfl rfl (by kernel_rfl) (by kernel_rfl) (by kernel_rfl) (by kernel_rfl) (fun _ _ _ h => h) (Or.inl ⟨by rfl, ?y9c⟩) (HS7.out HG.out) ?r9c
          case y9c => (intro w0_ hs_; go_simp; try with_reducible rfl)
          try simp only [List.getElem_toArray, List.getElem_cons_zero, List.getElem_cons_succ, Act.put, List.setIfInBounds_toArray, List.set_cons_zero, List.set_cons_succ]
          refine wpAnyD_take (i := 10) (v := ?v10c) rfl rfl (by kernel_rfl) (by kernel_rfl) (by kernel_rfl) (by kernel_rfl) (fun _ _ _ h => h) (Or.inl ⟨by rfl, ?y10c⟩) (HS7.out HG.out) ?r10c
          case y10c => (intro w0_ hs_; go_simp; try with_reducible rfl)
          try simp only [List.getElem_toArray, List.getElem_cons_zero, List.getElem_cons_succ, Act.put, List.setIfInBounds_toArray, List.set_cons_zero, List.set_cons_succ]
          refine wpAnyD_take (i := 11) (v := ?v11c) rfl rfl (by kernel_rfl) (by kernel_rfl) (by kernel_rfl) (by kernel_rfl) (fun _ _ _ h => h) (Or.inl ⟨by rfl, ?y11c⟩) (HS7.out HG.out) ?r11c
          case y11c => (intro w0_ hs_; go_simp; try with_reducible rfl)
          try simp only [List.getElem_toArray, List.getElem_cons_zero, List.getElem_cons_succ, Act.put, List.setIfInBounds_toArray, List.set_cons_zero, List.set_cons_succ]
          refine wpAnyD_take (i := 12) (v := ?v12c) rfl rfl (by kernel_rfl) (by kernel_rfl) (by kernel_rfl) (by kernel_rfl) (fun _ _ _ h => h) (Or.inl ⟨by rfl, ?y12c⟩) (HS7.out HG.out) ?r12c
          case y12c => (intro w0_ hs_; go_simp; try with_reducible rfl)
          try simp only [List.getElem_toArray, List.getElem_cons_zero, List.getElem_cons_succ, Act.put, List.setIfInBounds_toArray, List.set_cons_zero, List.set_cons_succ]
          refine wpAnyD_take (i := 15) (v := ?v15c) rfl rfl (by kernel_rfl) (by kernel_rfl) (by kernel_rfl) (by kernel_rfl) (fun _ _ _ h => h) (Or.inl ⟨by rfl, ?y15c⟩) (HS7.out HG.out) ?r15c
          case y15c => (intro w0_ hs_; go_simp; try with_reducible rfl)
          try simp only [List.getElem_toArray, List.getElem_cons_zero, List.getElem_cons_succ, Act.put, List.setIfInBounds_toArray, List.set_cons_zero, List.set_cons_succ]
          refine wpAnyD_take (i := 16) (v := ?v16c) rfl rfl (by kernel_rfl) (by kernel_rfl) (by kernel_rfl) (by kernel_rfl) (fun _ _ _ h => h) (Or.inl ⟨by rfl, ?y16c⟩) (HS7.out HG.out) ?r16c
          case y16c => (intro w0_ hs_; go_simp; try with_reducible rfl)
          try simp only [List.getElem_toArray, List.getElem_cons_zero, List.getElem_cons_succ, Act.put, List.setIfInBounds_toArray, List.set_cons_zero, List.set_cons_succ]
          refine wpAnyD_take (i := 17) (v := ?v17c) rfl rfl (by kernel_rfl) (by kernel_rfl) (by kernel_rfl) (by kernel_rfl) (fun _ _ _ h => h) (Or.inl ⟨by rfl, ?y17c⟩) (HS7.out HG.out) ?r17c
          case y17c => (intro w0_ hs_; go_simp; try with_reducible rfl)
          try simp only [List.getElem_toArray, List.getElem_cons_zero, List.getElem_cons_succ, Act.put, List.setIfInBounds_toArray, List.set_cons_zero, List.set_cons_succ]
          refine wpAnyD_take (i := 18) (v := ?v18c) rfl rfl (by kernel_rfl) (by kernel_rfl) (by kernel_rfl) (by kernel_rfl) (fun _ _ _ h => h) (Or.inl ⟨by rfl, ?y18c⟩) (HS7.out HG.out) ?r18c
          case y18c => (intro w0_ hs_; go_simp; try with_reducible rfl)
          try simp only [List.getElem_toArray, List.getElem_cons_zero, List.getElem_cons_succ, Act.put, List.setIfInBounds_toArray, List.set_cons_zero, List.set_cons_succ]
          refine wpAnyD_take (i := 19) (v := ?v19c) rfl rfl (by kernel_rfl) (by kernel_rfl) (by kernel_rfl) (by kernel_rfl) (fun _ _ _ h => h) (Or.inl ⟨by rfl, ?y19c⟩) (HS7.out HG.out) ?r19c
          case y19c => (intro w0_ hs_; go_simp; try with_reducible rfl)
          try simp only [List.getElem_toArray, List.getElem_cons_zero, List.getElem_cons_succ, Act.put, List.setIfInBounds_toArray, List.set_cons_zero, List.set_cons_succ]
          refine wpAnyD_take (i := 20) (v := ?v20c) rfl rfl (by kernel_rfl) (by kernel_rfl) (by kernel_rfl) (by kernel_rfl) (fun _ _ _ h => h) (Or.inl ⟨by rfl, ?y20c⟩) (HS7.out HG.out) ?r20c
          case y20c => (intro w0_ hs_; go_simp; try with_reducible rfl)
          try simp only [List.getElem_toArray, List.getElem_cons_zero, List.getElem_cons_succ, Act.put, List.setIfInBounds_toArray, List.set_cons_zero, List.set_cons_succ]
          refine wpAnyD_ready (rs := [1, 13]) (by kernel_rfl) (by simp) (AllReadyD.cons (i := 1) rfl (fun K hK => ?f1c) (AllReadyD.cons (i := 13) rfl (fun K hK => ?f13c) AllReadyD.nil))
          case f1c =>
            go_simp
            have nE := As.mk (show (W7.alloc (.cells #[] 67)).ownsRow wr.heap.size 67 5 (.slice (some ⟨W7.heap.size, 0, none⟩) 0 0) 0 [] from ⟨rfl, .inr ⟨W7.heap.size, 0, #[], rfl, HG.out.size, heap_alloc_new W7 _, Nat.le_refl _, by simp only [maxLen]; omega, rfl, rfl⟩⟩)
            have nG := As.mk (gr_alloc HG.out (.cells #[] 67))
            clear HG
            have HG := nG
            have HE := nE
            clear nG nE
            refine hK.out _ _ (fun _ => HS7.out HG.out) (fun _ => ?_)
            clear hK K
            try simp only [List.getElem_toArray, List.getElem_cons_zero, List.getElem_cons_succ, Act.put, List.setIfInBounds_toArray, List.set_cons_zero, List.set_cons_succ]
            have hlt1 := As.mk (show W7.heap.size < (W7.alloc (.cells #[] 67)).heap.size by simp)
            generalize W7.alloc (.cells #[] 67) = V1_ at *
            generalize W7.heap.size = ge at *
            refine wpAnyD_ready (rs := [8, 13]) (by kernel_rfl) (by simp) (AllReadyD.cons (i := 8) rfl (fun K hK => ?f8c1_) (AllReadyD.cons (i := 13) rfl (fun K hK => ?f13c1_) AllReadyD.nil))
            case f8c1_ =>
              refine step_append_any rfl _ _ _ rfl wr.heap.size 67 i0 _ 5 40 Try.underlying43 HI.out.1 HI.out.2.1 HI.out.2.2.1 HI.out.2.2.2 rfl (by omega) (.slice (some ⟨ge, 0, none⟩) 0 0) 0 [] rfl HE.out (.slice none 0 0) 0 (itCells (([] : List PIt).take 0)) rfl (.inl ⟨rfl, rfl, rfl⟩) ⟨_, _, rfl⟩ (by simp only [maxLen]; omega) (by omega) HG.out.size ?_
              intro va1_8_ V1_8_ hva hga _ hsm
              rw [Nat.zero_add, List.nil_append] at hva
              rw [Nat.zero_add] at hsm
              obtain ⟨q1_8_, r1_8_, rfl⟩ := hsm
              have nG := As.mk (gr_then HG.out hga (.inr (.inr (fun q hq => (HE.out.lt q hq).1))))
              clear HG
              have HG := nG
              clear nG hga
              have HA := As.mk hva
              clear HE hva
              refine hK.out _ _ (fun _ => HS7.out HG.out) (fun _ => ?_)
              clear hK K
              try simp only [List.getElem_toArray, List.getElem_cons_zero, List.getElem_cons_succ, Act.put, List.setIfInBounds_toArray, List.set_cons_zero, List.set_cons_succ]
              refine wpAnyD_ready (rs := [13]) (by kernel_rfl) (by simp) (AllReadyD.cons (i := 13) rfl (fun K hK => ?_) AllReadyD.nil)
              go_simp
              have nN := As.mk (Blk.new V1_8_ 67 #[.int .i64 c, .int .i64 ver, .int .i64 a, .bool false, .int .i64 0])
              have nG := As.mk (gr_alloc HG.out (.cells #[.int .i64 c, .int .i64 ver, .int .i64 a, .bool false, .int .i64 0] 67))
              have nA := As.mk (own_alloc' HA.out (.cells #[.int .i64 c, .int .i64 ver, .int .i64 a, .bool false, .int .i64 0] 67))
              clear HA
              have HA := nA
              clear nA
              clear HG
              have HG := nG
              have HN := nN
              clear nG nN
              refine hK.out _ _ (fun _ => HS7.out HG.out) (fun _ => ?_)
              clear hK K
              try simp only [List.getElem_toArray, List.getElem_cons_zero, List.getElem_cons_succ, Act.put, List.setIfInBounds_toArray, List.set_cons_zero, List.set_cons_succ]
              have hlt13 := As.mk (show V1_8_.heap.size < (V1_8_.alloc (.cells #[.int .i64 c, .int .i64 ver, .int .i64 a, .bool false, .int .i64 0] 67)).heap.size by simp)
              generalize V1_8_.alloc (.cells #[.int .i64 c, .int .i64 ver, .int .i64 a, .bool false, .int .i64 0] 67) = V1_8_13_ at *
              generalize V1_8_.heap.size = gn at *
              refine wpAnyD_ready (rs := [14]) (by kernel_rfl) (by simp) (AllReadyD.cons (i := 14) rfl (fun K hK => ?_) AllReadyD.nil)
              refine step_append_any rfl _ _ _ rfl wr.heap.size 67 i0 _ 5 40 Try.underlying43 HI.out.1 HI.out.2.1 HI.out.2.2.1 HI.out.2.2.2 rfl (by omega) (.slice (some ⟨q1_8_, 0, none⟩) 0 r1_8_) 0 (itCells (([] : List PIt).take 0)) rfl HA.out (.slice (some ⟨gn, 0, none⟩) 1 1) 1 [.int .i64 c, .int .i64 ver, .int .i64 a, .bool false, .int .i64 0] rfl (.inr ⟨⟨gn, 0, none⟩, 1, rfl, rfl, World.news_of_block (cs := #[.int .i64 c, .int .i64 ver, .int .i64 a, .bool false, .int .i64 0]) (t := 67) (fr := (0, 0)) HN.out, by simp [Value.oneCell']⟩) ⟨_, _, rfl⟩ (by simp only [maxLen]; omega) (by omega) HG.out.size ?_
              intro va1_8_13_14_ V1_8_13_14_ hva hga _ hsm
              obtain ⟨q1_8_13_14_, r1_8_13_14_, rfl⟩ := hsm
              have nG := As.mk (gr_then HG.out hga (.inr (.inr (fun q hq => (HA.out.lt q hq).1))))
              clear HG
              have HG := nG
              clear nG hga
              have HB2 := As.mk hva
              clear HA HN hva
              refine hK.out _ _ (fun _ => HS7.out HG.out) (fun _ => ?_)
              clear hK K
              try simp only [List.getElem_toArray, List.getElem_cons_zero, List.getElem_cons_succ, Act.put, List.setIfInBounds_toArray, List.set_cons_zero, List.set_cons_succ]
              refine wpAnyD_ready (rs := [21]) (by kernel_rfl) (by simp) (AllReadyD.cons (i := 21) rfl (fun K hK => ?_) AllReadyD.nil)
              refine step_append_any rfl _ _ _ rfl wr.heap.size 67 i0 _ 5 40 Try.underlying43 HI.out.1 HI.out.2.1 HI.out.2.2.1 HI.out.2.2.2 rfl (by omega) (.slice (some ⟨q1_8_13_14_, 0, none⟩) (0 + 1) r1_8_13_14_) (0 + 1) (itCells (([] : List PIt).take 0) ++ [.int .i64 c, .int .i64 ver, .int .i64 a, .bool false, .int .i64 0]) rfl HB2.out (.slice none 0 0) (([] : List PIt).length - 0) (itCells (([] : List PIt).drop 0)) rfl (.inl ⟨rfl, rfl, rfl⟩) ⟨_, _, rfl⟩ (by simp only [maxLen]; omega) (by omega) HG.out.size ?_
              intro va1_8_13_14_21_ V1_8_13_14_21_ hva hga _ hsm
              obtain ⟨q1_8_13_14_21_, r1_8_13_14_21_, rfl⟩ := hsm
              have nG := As.mk (gr_then HG.out hga (.inr (.inr (fun q hq => (HB2.out.lt q hq).1))))
              clear HG
              have HG := nG
              clear nG hga
              have HF3 := As.mk (show V1_8_13_14_21_.ownsRow wr.heap.size 67 5 (.slice (some ⟨q1_8_13_14_21_, 0, none⟩) (0 + 1 + (([] : List PIt).length - 0)) r1_8_13_14_21_) (([] : List PIt).take 0 ++ [⟨c, ver, a, false, 0⟩] ++ ([] : List PIt).drop 0 : List PIt).length (itCells (([] : List PIt).take 0 ++ [⟨c, ver, a, false, 0⟩] ++ ([] : List PIt).drop 0)) from by
                have e1 : (([] : List PIt).take 0 ++ [⟨c, ver, a, false, 0⟩] ++ ([] : List PIt).drop 0 : List PIt).length = 0 + 1 + (([] : List PIt).length - 0) := rfl
                rw [e1, itCells_app, itCells_snoc]
                exact hva)
              clear HB2 hva
              refine hK.out _ _ (fun _ => HS7.out HG.out) (fun _ => ?_)
              clear hK K
              try simp only [List.getElem_toArray, List.getElem_cons_zero, List.getElem_cons_succ, Act.put, List.setIfInBounds_toArray, List.set_cons_zero, List.set_cons_succ]
              refine wpAnyD_ready (rs := [22]) (by kernel_rfl) (by simp) (AllReadyD.cons (i := 22) rfl (fun K hK => ?_) AllReadyD.nil)
              go_simp
              refine hK.out _ _ (fun _ => HS7.out HG.out) (fun _ => ?_)
              clear hK K
              try simp only [List.getElem_toArray, List.getElem_cons_zero, List.getElem_cons_succ, Act.put, List.setIfInBounds_toArray, List.set_cons_zero, List.set_cons_succ]
              refine wpAnyD_ready (rs := [23]) (by kernel_rfl) (by simp) (AllReadyD.cons (i := 23) rfl (fun K hK => ?_) AllReadyD.nil)
              go_simp
              refine hK.out _ _ (fun _ => HS7.out HG.out) (fun _ => ?_)
              clear hK K
              try simp only [List.getElem_toArray, List.getElem_cons_zero, List.getElem_cons_succ, Act.put, List.setIfInBounds_toArray, List.set_cons_zero, List.set_cons_succ]
              refine wpAnyD_ready (rs := [24]) (by kernel_rfl) (by simp) (AllReadyD.cons (i := 24) rfl (fun K hK => ?_) AllReadyD.nil)
              have hc24 := HS7.out HG.out
              have hf24 := (HW.out.1.blk.grown HG.out (by simp)).free 0
              go_simp
              have hp0 := RefW.put0 (Rs' := ([] : List PIt).take 0 ++ [⟨c, ver, a, false, 0⟩] ++ ([] : List PIt).drop 0) HH.out.1 HW.out.1 HW.out.2 HH.out.2 HG.out HF3.out
              obtain ⟨G', hR', hN', -⟩ := hp0
              have HF := As.mk (And.intro hR' hN')
              clear hR' hN' hc24 hf24
              refine hK.out _ _ (fun h => absurd rfl h) (fun _ => ?_)
              clear hK K
              try simp only [List.getElem_toArray, List.getElem_cons_zero, List.getElem_cons_succ, Act.put, List.setIfInBounds_toArray, List.set_cons_zero, List.set_cons_succ]
              refine wpAnyD_done (by kernel_rfl) ?_ _
              refine NoPanic.normal ?_
              go_wp2_with fail
              all_goals (go_ret; first | exact ⟨rfl, 0, HK.out, G', (by simpa using HF.out.1), HF.out.2⟩ | exact ⟨rfl, 0, G', HK.out, (by simpa using HF.out.1), HF.out.2⟩)
            case f13c1_ =>
              go_simp
              have nN := As.mk (Blk.new V1_ 67 #[.int .i64 c, .int .i64 ver, .int .i64 a, .bool false, .int .i64 0])
              have nG := As.mk (gr_alloc HG.out (.cells #[.int .i64 c, .int .i64 ver, .int .i64 a, .bool false, .int .i64 0] 67))
              have nE := As.mk (own_alloc' HE.out (.cells #[.int .i64 c, .int .i64 ver, .int .i64 a, .bool false, .int .i64 0] 67))
              clear HE
              have HE := nE
              clear nE
              clear HG
              have HG := nG
              have HN := nN
              clear nG nN
              refine hK.out _ _ (fun _ => HS7.out HG.out) (fun _ => ?_)
              clear hK K
              try simp only [List.getElem_toArray, List.getElem_cons_zero, List.getElem_cons_succ, Act.put, List.setIfInBounds_toArray, List.set_cons_zero, List.set_cons_succ]
              have hne13 := As.mk (show some V1_.heap.size ≠ (Value.slice (some ⟨ge, 0, none⟩) 0 0).ownBlock from fun q => by have := hlt1.out; have q : V1_.heap.size = ge := Option.some.inj q; omega)
              have hlt13 := As.mk (show V1_.heap.size < (V1_.alloc (.cells #[.int .i64 c, .int .i64 ver, .int .i64 a, .bool false, .int .i64 0] 67)).heap.size by simp)
              generalize V1_.alloc (.cells #[.int .i64 c, .int .i64 ver, .int .i64 a, .bool false, .int .i64 0] 67) = V1_13_ at *
              generalize V1_.heap.size = gn at *
              refine wpAnyD_ready (rs := [8]) (by kernel_rfl) (by simp) (AllReadyD.cons (i := 8) rfl (fun K hK => ?_) AllReadyD.nil)
              refine step_append_any rfl _ _ _ rfl wr.heap.size 67 i0 _ 5 40 Try.underlying43 HI.out.1 HI.out.2.1 HI.out.2.2.1 HI.out.2.2.2 rfl (by omega) (.slice (some ⟨ge, 0, none⟩) 0 0) 0 [] rfl HE.out (.slice none 0 0) 0 (itCells (([] : List PIt).take 0)) rfl (.inl ⟨rfl, rfl, rfl⟩) ⟨_, _, rfl⟩ (by simp only [maxLen]; omega) (by omega) HG.out.size ?_
              intro va1_13_8_ V1_13_8_ hva hga _ hsm
              rw [Nat.zero_add, List.nil_append] at hva
              rw [Nat.zero_add] at hsm
              obtain ⟨q1_13_8_, r1_13_8_, rfl⟩ := hsm
              have nG := As.mk (gr_then HG.out hga (.inr (.inr (fun q hq => (HE.out.lt q hq).1))))
              have nN := As.mk (HN.out.grown hga (fun q => hne13.out q))
              clear HN
              have HN := nN
              clear nN
              clear HG
              have HG := nG
              clear nG hga
              have HA := As.mk hva
              clear HE hva
              refine hK.out _ _ (fun _ => HS7.out HG.out) (fun _ => ?_)
              clear hK K
              try simp only [List.getElem_toArray, List.getElem_cons_zero, List.getElem_cons_succ, Act.put, List.setIfInBounds_toArray, List.set_cons_zero, List.set_cons_succ]
              refine wpAnyD_ready (rs := [14]) (by kernel_rfl) (by simp) (AllReadyD.cons (i := 14) rfl (fun K hK => ?_) AllReadyD.nil)
              refine step_append_any rfl _ _ _ rfl wr.heap.size 67 i0 _ 5 40 Try.underlying43 HI.out.1 HI.out.2.1 HI.out.2.2.1 HI.out.2.2.2 rfl (by omega) (.slice (some ⟨q1_13_8_, 0, none⟩) 0 r1_13_8_) 0 (itCells (([] : List PIt).take 0)) rfl HA.out (.slice (some ⟨gn, 0, none⟩) 1 1) 1 [.int .i64 c, .int .i64 ver, .int .i64 a, .bool false, .int .i64 0] rfl (.inr ⟨⟨gn, 0, none⟩, 1, rfl, rfl, World.news_of_block (cs := #[.int .i64 c, .int .i64 ver, .int .i64 a, .bool false, .int .i64 0]) (t := 67) (fr := (0, 0)) HN.out, by simp [Value.oneCell']⟩) ⟨_, _, rfl⟩ (by simp only [maxLen]; omega) (by omega) HG.out.size ?_
              intro va1_13_8_14_ V1_13_8_14_ hva hga _ hsm
              obtain ⟨q1_13_8_14_, r1_13_8_14_, rfl⟩ := hsm
              have nG := As.mk (gr_then HG.out hga (.inr (.inr (fun q hq => (HA.out.lt q hq).1))))
              clear HG
              have HG := nG
              clear nG hga
              have HB2 := As.mk hva
              clear HA HN hva
              refine hK.out _ _ (fun _ => HS7.out HG.out) (fun _ => ?_)
              clear hK K
              try simp only [List.getElem_toArray, List.getElem_cons_zero, List.getElem_cons_succ, Act.put, List.setIfInBounds_toArray, List.set_cons_zero, List.set_cons_succ]
              refine wpAnyD_ready (rs := [21]) (by kernel_rfl) (by simp) (AllReadyD.cons (i := 21) rfl (fun K hK => ?_) AllReadyD.nil)
              refine step_append_any rfl _ _ _ rfl wr.heap.size 67 i0 _ 5 40 Try.underlying43 HI.out.1 HI.out.2.1 HI.out.2.2.1 HI.out.2.2.2 rfl (by omega) (.slice (some ⟨q1_13_8_14_, 0, none⟩) (0 + 1) r1_13_8_14_) (0 + 1) (itCells (([] : List PIt).take 0) ++ [.int .i64 c, .int .i64 ver, .int .i64 a, .bool false, .int .i64 0]) rfl HB2.out (.slice none 0 0) (([] : List PIt).length - 0) (itCells (([] : List PIt).drop 0)) rfl (.inl ⟨rfl, rfl, rfl⟩) ⟨_, _, rfl⟩ (by simp only [maxLen]; omega) (by omega) HG.out.size ?_
              intro va1_13_8_14_21_ V1_13_8_14_21_ hva hga _ hsm
              obtain ⟨q1_13_8_14_21_, r1_13_8_14_21_, rfl⟩ := hsm
              have nG := As.mk (gr_then HG.out hga (.inr (.inr (fun q hq => (HB2.out.lt q hq).1))))
              clear HG
              have HG := nG
              clear nG hga
              have HF3 := As.mk (show V1_13_8_14_21_.ownsRow wr.heap.size 67 5 (.slice (some ⟨q1_13_8_14_21_, 0, none⟩) (0 + 1 + (([] : List PIt).length - 0)) r1_13_8_14_21_) (([] : List PIt).take 0 ++ [⟨c, ver, a, false, 0⟩] ++ ([] : List PIt).drop 0 : List PIt).length (itCells (([] : List PIt).take 0 ++ [⟨c, ver, a, false, 0⟩] ++ ([] : List PIt).drop 0)) from by
                have e1 : (([] : List PIt).take 0 ++ [⟨c, ver, a, false, 0⟩] ++ ([] : List PIt).drop 0 : List PIt).length = 0 + 1 + (([] : List PIt).length - 0) := rfl
                rw [e1, itCells_app, itCells_snoc]
                exact hva)
              clear HB2 hva
              refine hK.out _ _ (fun _ => HS7.out HG.out) (fun _ => ?_)
              clear hK K
              try simp only [List.getElem_toArray, List.getElem_cons_zero, List.getElem_cons_succ, Act.put, List.setIfInBounds_toArray, List.set_cons_zero, List.set_cons_succ]
              refine wpAnyD_ready (rs := [22]) (by kernel_rfl) (by simp) (AllReadyD.cons (i := 22) rfl (fun K hK => ?_) AllReadyD.nil)
              go_simp
              refine hK.out _ _ (fun _ => HS7.out HG.out) (fun _ => ?_)
              clear hK K
              try simp only [List.getElem_toArray, List.getElem_cons_zero, List.getElem_cons_succ, Act.put, List.setIfInBounds_toArray, List.set_cons_zero, List.set_cons_succ]
              refine wpAnyD_ready (rs := [23]) (by kernel_rfl) (by simp) (AllReadyD.cons (i := 23) rfl (fun K hK => ?_) AllReadyD.nil)
              go_simp
              refine hK.out _ _ (fun _ => HS7.out HG.out) (fun _ => ?_)
              clear hK K
              try simp only [List.getElem_toArray, List.getElem_cons_zero, List.getElem_cons_succ, Act.put, List.setIfInBounds_toArray, List.set_cons_zero, List.set_cons_succ]
              refine wpAnyD_ready (rs := [24]) (by kernel_rfl) (by simp) (AllReadyD.cons (i := 24) rfl (fun K hK => ?_) AllReadyD.nil)
              have hc24 := HS7.out HG.out
              have hf24 := (HW.out.1.blk.grown HG.out (by simp)).free 0
              go_simp
              have hp0 := RefW.put0 (Rs' := ([] : List PIt).take 0 ++ [⟨c, ver, a, false, 0⟩] ++ ([] : List PIt).drop 0) HH.out.1 HW.out.1 HW.out.2 HH.out.2 HG.out HF3.out
              obtain ⟨G', hR', hN', -⟩ := hp0
              have HF := As.mk (And.intro hR' hN')
              clear hR' hN' hc24 hf24
              refine hK.out _ _ (fun h => absurd rfl h) (fun _ => ?_)
              clear hK K
              try simp only [List.getElem_toArray, List.getElem_cons_zero, List.getElem_cons_succ, Act.put, List.setIfInBounds_toArray, List.set_cons_zero, List.set_cons_succ]
              refine wpAnyD_done (by kernel_rfl) ?_ _
              refine NoPanic.normal ?_
              go_wp2_with fail
              all_goals (go_ret; first | exact ⟨rfl, 0, HK.out, G', (by simpa using HF.out.1), HF.out.2⟩ | exact ⟨rfl, 0, G', HK.out, (by simpa using HF.out.1), HF.out.2⟩)
          case f13c =>
            go_simp
            have nN := As.mk (Blk.new W7 67 #[.int .i64 c, .int .i64 ver, .int .i64 a, .bool false, .int .i64 0])
            have nG := As.mk (gr_alloc HG.out (.cells #[.int .i64 c, .int .i64 ver, .int .i64 a, .bool false, .int .i64 0] 67))
            clear HG
            have HG := nG
            have HN := nN
            clear nG nN
            refine hK.out _ _ (fun _ => HS7.out HG.out) (fun _ => ?_)
            clear hK K
            try simp only [List.getElem_toArray, List.getElem_cons_zero, List.getElem_cons_succ, Act.put, List.setIfInBounds_toArray, List.set_cons_zero, List.set_cons_succ]
            have hlt13 := As.mk (show W7.heap.size < (W7.alloc (.cells #[.int .i64 c, .int .i64 ver, .int .i64 a, .bool false, .int .i64 0] 67)).heap.size by simp)
            generalize W7.alloc (.cells #[.int .i64 c, .int .i64 ver, .int .i64 a, .bool false, .int .i64 0] 67) = V13_ at *
            generalize W7.heap.size = gn at *
            refine wpAnyD_ready (rs := [1]) (by kernel_rfl) (by simp) (AllReadyD.cons (i := 1) rfl (fun K hK => ?_) AllReadyD.nil)
            go_simp
            have nE := As.mk (show (V13_.alloc (.cells #[] 67)).ownsRow wr.heap.size 67 5 (.slice (some ⟨V13_.heap.size, 0, none⟩) 0 0) 0 [] from ⟨rfl, .inr ⟨V13_.heap.size, 0, #[], rfl, HG.out.size, heap_alloc_new V13_ _, Nat.le_refl _, by simp only [maxLen]; omega, rfl, rfl⟩⟩)
            have nG := As.mk (gr_alloc HG.out (.cells #[] 67))
            have nN := As.mk (HN.out.alloc (.cells #[] 67))
            clear HN
            have HN := nN
            clear nN
            clear HG
            have HG := nG
            have HE := nE
            clear nG nE
            refine hK.out _ _ (fun _ => HS7.out HG.out) (fun _ => ?_)
            clear hK K
            try simp only [List.getElem_toArray, List.getElem_cons_zero, List.getElem_cons_succ, Act.put, List.setIfInBounds_toArray, List.set_cons_zero, List.set_cons_succ]
            have hne13 := As.mk (show some gn ≠ (Value.slice (some ⟨V13_.heap.size, 0, none⟩) 0 0).ownBlock from fun q => by have := hlt13.out; have q : gn = V13_.heap.size := Option.some.inj q; omega)
            have hlt1 := As.mk (show V13_.heap.size < (V13_.alloc (.cells #[] 67)).heap.size by simp)
            generalize V13_.alloc (.cells #[] 67) = V13_1_ at *
            generalize V13_.heap.size = ge at *
            refine wpAnyD_ready (rs := [8]) (by kernel_rfl) (by simp) (AllReadyD.cons (i := 8) rfl (fun K hK => ?_) AllReadyD.nil)
            refine step_append_any rfl _ _ _ rfl wr.heap.size 67 i0 _ 5 40 Try.underlying43 HI.out.1 HI.out.2.1 HI.out.2.2.1 HI.out.2.2.2 rfl (by omega) (.slice (some ⟨ge, 0, none⟩) 0 0) 0 [] rfl HE.out (.slice none 0 0) 0 (itCells (([] : List PIt).take 0)) rfl (.inl ⟨rfl, rfl, rfl⟩) ⟨_, _, rfl⟩ (by simp only [maxLen]; omega) (by omega) HG.out.size ?_
            intro va13_1_8_ V13_1_8_ hva hga _ hsm
            rw [Nat.zero_add, List.nil_append] at hva
            rw [Nat.zero_add] at hsm
            obtain ⟨q13_1_8_, r13_1_8_, rfl⟩ := hsm
            have nG := As.mk (gr_then HG.out hga (.inr (.inr (fun q hq => (HE.out.lt q hq).1))))
            have nN := As.mk (HN.out.grown hga (fun q => hne13.out q))
            clear HN
            have HN := nN
            clear nN
            clear HG
            have HG := nG
            clear nG hga
            have HA := As.mk hva
            clear HE hva
            refine hK.out _ _ (fun _ => HS7.out HG.out) (fun _ => ?_)
            clear hK K
            try simp only [List.getElem_toArray, List.getElem_cons_zero, List.getElem_cons_succ, Act.put, List.setIfInBounds_toArray, List.set_cons_zero, List.set_cons_succ]
            refine wpAnyD_ready (rs := [14]) (by kernel_rfl) (by simp) (AllReadyD.cons (i := 14) rfl (fun K hK => ?_) AllReadyD.nil)
            refine step_append_any rfl _ _ _ rfl wr.heap.size 67 i0 _ 5 40 Try.underlying43 HI.out.1 HI.out.2.1 HI.out.2.2.1 HI.out.2.2.2 rfl (by omega) (.slice (some ⟨q13_1_8_, 0, none⟩) 0 r13_1_8_) 0 (itCells (([] : List PIt).take 0)) rfl HA.out (.slice (some ⟨gn, 0, none⟩) 1 1) 1 [.int .i64 c, .int .i64 ver, .int .i64 a, .bool false, .int .i64 0] rfl (.inr ⟨⟨gn, 0, none⟩, 1, rfl, rfl, World.news_of_block (cs := #[.int .i64 c, .int .i64 ver, .int .i64 a, .bool false, .int .i64 0]) (t := 67) (fr := (0, 0)) HN.out, by simp [Value.oneCell']⟩) ⟨_, _, rfl⟩ (by simp only [maxLen]; omega) (by omega) HG.out.size ?_
            intro va13_1_8_14_ V13_1_8_14_ hva hga _ hsm
            obtain ⟨q13_1_8_14_, r13_1_8_14_, rfl⟩ := hsm
            have nG := As.mk (gr_then HG.out hga (.inr (.inr (fun q hq => (HA.out.lt q hq).1))))
            clear HG
            have HG := nG
            clear nG hga
            have HB2 := As.mk hva
            clear HA HN hva
            refine hK.out _ _ (fun _ => HS7.out HG.out) (fun _ => ?_)
            clear hK K
            try simp only [List.getElem_toArray, List.getElem_cons_zero, List.getElem_cons_succ, Act.put, List.setIfInBounds_toArray, List.set_cons_zero, List.set_cons_succ]
            refine wpAnyD_ready (rs := [21]) (by kernel_rfl) (by simp) (AllReadyD.cons (i := 21) rfl (fun K hK => ?_) AllReadyD.nil)
            refine step_append_any rfl _ _ _ rfl wr.heap.size 67 i0 _ 5 40 Try.underlying43 HI.out.1 HI.out.2.1 HI.out.2.2.1 HI.out.2.2.2 rfl (by omega) (.slice (some ⟨q13_1_8_14_, 0, none⟩) (0 + 1) r13_1_8_14_) (0 + 1) (itCells (([] : List PIt).take 0) ++ [.int .i64 c, .int .i64 ver, .int .i64 a, .bool false, .int .i64 0]) rfl HB2.out (.slice none 0 0) (([] : List PIt).length - 0) (itCells (([] : List PIt).drop 0)) rfl (.inl ⟨rfl, rfl, rfl⟩) ⟨_, _, rfl⟩ (by simp only [maxLen]; omega) (by omega) HG.out.size ?_
            intro va13_1_8_14_21_ V13_1_8_14_21_ hva hga _ hsm
            obtain ⟨q13_1_8_14_21_, r13_1_8_14_21_, rfl⟩ := hsm
            have nG := As.mk (gr_then HG.out hga (.inr (.inr (fun q hq => (HB2.out.lt q hq).1))))
            clear HG
            have HG := nG
            clear nG hga
            have HF3 := As.mk (show V13_1_8_14_21_.ownsRow wr.heap.size 67 5 (.slice (some ⟨q13_1_8_14_21_, 0, none⟩) (0 + 1 + (([] : List PIt).length - 0)) r13_1_8_14_21_) (([] : List PIt).take 0 ++ [⟨c, ver, a, false, 0⟩] ++ ([] : List PIt).drop 0 : List PIt).length (itCells (([] : List PIt).take 0 ++ [⟨c, ver, a, false, 0⟩] ++ ([] : List PIt).drop 0)) from by
              have e1 : (([] : List PIt).take 0 ++ [⟨c, ver, a, false, 0⟩] ++ ([] : List PIt).drop 0 : List PIt).length = 0 + 1 + (([] : List PIt).length - 0) := rfl
              rw [e1, itCells_app, itCells_snoc]
              exact hva)
            clear HB2 hva
            refine hK.out _ _ (fun _ => HS7.out HG.out) (fun _ => ?_)
            clear hK K
            try simp only [List.getElem_toArray, List.getElem_cons_zero, List.getElem_cons_succ, Act.put, List.setIfInBounds_toArray, List.set_cons_zero, List.set_cons_succ]
            refine wpAnyD_ready (rs := [22]) (by kernel_rfl) (by simp) (AllReadyD.cons (i := 22) rfl (fun K hK => ?_) AllReadyD.nil)
            go_simp
            refine hK.out _ _ (fun _ => HS7.out HG.out) (fun _ => ?_)
            clear hK K
            try simp only [List.getElem_toArray, List.getElem_cons_zero, List.getElem_cons_succ, Act.put, List.setIfInBounds_toArray, List.set_cons_zero, List.set_cons_succ]
            refine wpAnyD_ready (rs := [23]) (by kernel_rfl) (by simp) (AllReadyD.cons (i := 23) rfl (fun K hK => ?_) AllReadyD.nil)
            go_simp
            refine hK.out _ _ (fun _ => HS7.out HG.out) (fun _ => ?_)
            clear hK K
            try simp only [List.getElem_toArray, List.getElem_cons_zero, List.getElem_cons_succ, Act.put, List.setIfInBounds_toArray, List.set_cons_zero, List.set_cons_succ]
            refine wpAnyD_ready (rs := [24]) (by kernel_rfl) (by simp) (AllReadyD.cons (i := 24) rfl (fun K hK => ?_) AllReadyD.nil)
            have hc24 := HS7.out HG.out
            have hf24 := (HW.out.1.blk.grown HG.out (by simp)).free 0
            go_simp
            have hp0 := RefW.put0 (Rs' := ([] : List PIt).take 0 ++ [⟨c, ver, a, false, 0⟩] ++ ([] : List PIt).drop 0) HH.out.1 HW.out.1 HW.out.2 HH.out.2 HG.out HF3.out
            obtain ⟨G', hR', hN', -⟩ := hp0
            have HF := As.mk (And.intro hR' hN')
            clear hR' hN' hc24 hf24
            refine hK.out _ _ (fun h => absurd rfl h) (fun _ => ?_)
            clear hK K
            try simp only [List.getElem_toArray, List.getElem_cons_zero, List.getElem_cons_succ, Act.put, List.setIfInBounds_toArray, List.set_cons_zero, List.set_cons_succ]
            refine wpAnyD_done (by kernel_rfl) ?_ _
            refine NoPanic.normal ?_
            go_wp2_with fail
            all_goals (go_ret; first | exact ⟨rfl, 0, HK.out, G', (by simpa using HF.out.1), HF.out.2⟩ | exact ⟨rfl, 0, G', HK.out, (by simpa using HF.out.1), HF.out.2⟩)
end Go.Proofs.Ytggkejkleficoaa
