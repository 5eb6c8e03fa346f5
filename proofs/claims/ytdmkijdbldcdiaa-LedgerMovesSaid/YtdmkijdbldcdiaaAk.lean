/- The walks of item.right and item.RightItems. -/
import Derived.Test.YtdmkijdbldcdiaaAj
import Derived.Deep.RegionHeld3
import Derived.Deep.RegionLaw
import Derived.IntWalk
namespace Go.Proofs.Ytdmkijdbldcdiaa
open Go.RowKit
set_option linter.unusedVariables false
set_option linter.unusedSimpArgs false

structure PIt where
  c : Int
  v : Int
  a : Int
  wr : Bool
  nw : Int
def ItE (w : World) (x : PIt) (cs : List Value) : Prop := cs = [.int .i64 x.c, .int .i64 x.v, .int .i64 x.a, .bool x.wr, .int .i64 x.nw]
theorem ItE.any {w w' : World} (x : PIt) (cs : List Value) (h : ItE w x cs) : ItE w' x cs := h
def itemV (x : PIt) : Value := .agg #[.int .i64 x.c, .int .i64 x.v, .int .i64 x.a, .bool x.wr, .int .i64 x.nw]
def itemOk (x : PIt) : Bool := inR x.c 0 15 && (inR x.v 0 1099511627775 && (x.wr || decide (x.nw = 0)))
set_option maxRecDepth 100000 in
set_option maxHeartbeats 3200000 in
theorem right_c (w : World) (x : PIt) (r : Bool) (hr : itemOk x = r) :
    Calls Try.prog 69 #[itemV x] w fun e w' => e = .returned (.bool r) ∧ w.grownBy w' none := by
  obtain ⟨c, v, a, wr, nw⟩ := x
  have HB := As.mk (Blk.new w 66 #[.int .i64 c, .int .i64 v, .int .i64 a, .bool wr, .int .i64 nw])
  have HG := As.mk (gr_alloc (gr_refl w none) (.cells #[.int .i64 c, .int .i64 v, .int .i64 a, .bool wr, .int .i64 nw] 66))
  have HR := As.mk hr
  unfold itemOk at HR
  unfold itemV
  dsimp only at HR ⊢
  clear hr
  go_enter Try.func69, Try.ntmps69
  go_wp2_with fail
  have HZ := As.mk (show w.heap.size + 1 = (w.alloc (.cells #[.int .i64 c, .int .i64 v, .int .i64 a, .bool wr, .int .i64 nw] 66)).heap.size by simp)
  generalize w.alloc (.cells #[.int .i64 c, .int .i64 v, .int .i64 a, .bool wr, .int .i64 nw] 66) = W at *
  generalize w.heap.size = g at *
  refine (in_c _ _ [c] (Arr.newI W [c] (by simp) HZ.out) 0 15 (inR c 0 15) (by simp)).mono ?_
  rintro e1 w1 ⟨rfl, g1⟩
  have HW := As.mk ((gr_alloc (gr_refl W none) _).trans g1)
  have HB1 := As.mk (HB.out.grown HW.out (by simp))
  have f1 := HB1.out.cell 1
  clear g1
  cases hn : inR c 0 15
  · rw [hn] at HR
    go_wp2_with fail
    go_ret
    exact ⟨by rw [← HR.out]; rfl, HG.out.trans HW.out⟩
  · rw [hn] at HR
    go_wp2_with fail
    refine (in_c _ _ [v] (Arr.newI w1 [v] (by simp) rfl) 0 1099511627775 (inR v 0 1099511627775) (by simp)).mono ?_
    rintro e2 w2 ⟨rfl, g2⟩
    have HW2 := As.mk ((gr_alloc (gr_refl w1 none) _).trans g2)
    have HB2 := As.mk (HB1.out.grown HW2.out (by simp))
    clear g2
    have f3 := HB2.out.cell 3
    have f4 := HB2.out.cell 4
    rw [Bool.true_and] at HR
    have HX := As.mk ((HG.out.trans HW.out).trans HW2.out)
    clear HG HW HW2
    cases hv : inR v 0 1099511627775
    · rw [hv] at HR
      go_wp2_with fail
      go_ret
      exact ⟨by rw [← HR.out]; rfl, HX.out⟩
    · rw [hv, Bool.true_and] at HR
      cases wr
      · rw [Bool.false_or] at HR
        cases r
        · have h0 : ¬ nw = 0 := by simpa using HR.out
          go_wp2_with fail
          go_ret
          exact ⟨by simp [h0], HX.out⟩
        · have h0 : nw = 0 := by simpa using HR.out
          subst h0
          go_wp2_with fail
          go_ret
          exact ⟨by simp, HX.out⟩
      · go_wp2_with fail
        go_ret
        exact ⟨by rw [← HR.out]; rfl, HX.out⟩
/-- Is the i-th item right, and behind the one ahead of it? -/
def goodAt (l : List PIt) (i : Nat) : Bool := match l[i]? with
  | some x => itemOk x && (match i with | 0 => true | j + 1 => match l[j]? with | some y => decide (y.c < x.c) | none => true)
  | none => true
def goodTo (l : List PIt) (k : Nat) : Bool := (List.range k).all (goodAt l)
def itemsOk (l : List PIt) : Bool := goodTo l l.length && decide (0 < l.length)
theorem goodTo_succ (l : List PIt) (k : Nat) : goodTo l (k + 1) = (goodTo l k && goodAt l k) := by
  unfold goodTo
  rw [List.range_succ, List.all_append]
  simp
theorem goodTo_bad {l : List PIt} {k : Nat} (hk : k < l.length) (h : goodAt l k = false) : itemsOk l = false := by
  unfold itemsOk goodTo
  rw [Bool.and_eq_false_iff]
  left
  rw [List.all_eq_false]
  exact ⟨k, List.mem_range.2 hk, by simp [h]⟩
set_option maxRecDepth 100000 in
set_option maxHeartbeats 3200000 in
theorem rightItems_c (w : World) (vl : Value) (l : List PIt) (h : Arr ItE 5 w vl l) (r : Bool) (hr : itemsOk l = r) :
    Calls Try.prog 50 #[vl] w fun e w' => e = .returned (.bool r) ∧ w.grownBy w' none := by
  subst hr
  obtain ⟨A, c, rfl⟩ := h.len
  have hl := h.le
  have H := As.mk h
  clear h
  go_enter Try.func50, Try.ntmps50
  go_wp2_with fail
  go_loopw [7] (fun i wr => ∃ k : Nat, k ≤ l.length ∧ i = .int .i64 k ∧ As (goodTo l k = true ∧ w.grownBy wr none)) (fun i _ => l.length - (intOf i).toNat)
  case atStart => exact ⟨0, Nat.zero_le _, rfl, ⟨rfl, gr_refl _ _⟩⟩
  case round =>
    obtain ⟨k, hk, rfl, HL⟩ := hrel
    by_cases hlt : k < l.length
    · have hltI : (k : Int) < (l.length : Int) := by omega
      have hk0 : (0 : Int) ≤ (k : Int) := by omega
      obtain ⟨b, o, cs, rfl, hE, hcs, hcell⟩ := H.out.at_ k l[k] (List.getElem?_eq_getElem hlt)
      obtain rfl := hE
      have hgr := HL.out.2
      have c0 : wr.cell? ⟨b, o + k * 5, none⟩ = _ := hgr.cell (hcell 0 _ rfl) (by simp)
      have c1 := hgr.cell (hcell 1 _ rfl) (by simp)
      have c2 := hgr.cell (hcell 2 _ rfl) (by simp)
      have c3 := hgr.cell (hcell 3 _ rfl) (by simp)
      have c4 := hgr.cell (hcell 4 _ rfl) (by simp)
      have HX := As.mk (show l[k]? = some (l[k]'hlt) from List.getElem?_eq_getElem hlt)
      have HGS := As.mk (goodTo_succ l k)
      clear hcell hcs
      generalize l[k]'hlt = x at *
      obtain ⟨xc, xv, xa, xw, xn⟩ := x
      dsimp only at *
      go_wp2_with fail
      have HB := As.mk (Blk.new wr 66 #[.int .i64 xc, .int .i64 xv, .int .i64 xa, .bool xw, .int .i64 xn])
      have HG := As.mk (gr_alloc hgr (.cells #[.int .i64 xc, .int .i64 xv, .int .i64 xa, .bool xw, .int .i64 xn] 66))
      clear c0 c1 c2 c3 c4
      have HZ := As.mk (show wr.heap.size + 1 = (wr.alloc (.cells #[.int .i64 xc, .int .i64 xv, .int .i64 xa, .bool xw, .int .i64 xn] 66)).heap.size by simp)
      generalize wr.alloc (.cells #[.int .i64 xc, .int .i64 xv, .int .i64 xa, .bool xw, .int .i64 xn] 66) = W at *
      generalize wr.heap.size = g at *
      cases hn : itemOk ⟨xc, xv, xa, xw, xn⟩
      · have HN := As.mk (show goodAt l k = false by unfold goodAt; rw [HX.out]; simp [hn])
        have HI := As.mk (show (Value.agg #[.int .i64 xc, .int .i64 xv, .int .i64 xa, .bool xw, .int .i64 xn]) = itemV ⟨xc, xv, xa, xw, xn⟩ from rfl)
        refine wp_region_noPanic ?_
        refine wp_region_held_drew (S := fun w' => w'.cell? ⟨g, 0, none⟩ = some (.int .i64 xc) ∧ w'.cell? ⟨g, 1, none⟩ = some (.int .i64 xv) ∧ w'.cell? ⟨g, 2, none⟩ = some (.int .i64 xa) ∧ w'.cell? ⟨g, 3, none⟩ = some (.bool xw) ∧ w'.cell? ⟨g, 4, none⟩ = some (.int .i64 xn)) (by kernel_rfl) (⟨HB.out.cell 0, HB.out.cell 1, HB.out.cell 2, HB.out.cell 3, HB.out.cell 4⟩) (fun hS => ?_)
        refine wpAnyH_take (i := 0) (v := ?va1) rfl (by kernel_rfl) (by kernel_rfl) (by kernel_rfl) (fun _ _ _ h => h) (Or.inl ⟨by rfl, ?ya1⟩) hS ?ra1
        case ya1 => (intro w0 hS0; (try simp only [] at hS0); obtain ⟨hS0_0, hS0_1, hS0_2, hS0_3, hS0_4⟩ := hS0; go_simp; try with_reducible rfl)
        try simp only [yA, yB, yC, Act.put, yD, yE, yF]
        refine wpAnyH_ready (rs := [1]) (by kernel_rfl) (by simp) (AllReadyH.cons (i := 1) rfl (fun K hK => ?_) AllReadyH.nil)
        go_simp
        rw [HI.out]
        refine (right_c _ _ _ hn).mono ?_
        rintro e0 w1 ⟨rfl, hg⟩
        replace HB := As.mk (HB.out.drew.grown hg (by simp))
        replace HG := As.mk (gr_then (gr_drew HG.out) hg (.inl rfl))
        clear hg
        go_simp
        refine hK.out _ _ (⟨HB.out.cell 0, HB.out.cell 1, HB.out.cell 2, HB.out.cell 3, HB.out.cell 4⟩) (fun hS => ?_)
        clear hK K
        try simp only [yA, yB, yC, Act.put, yD, yE, yF]
        refine wpAnyH_take (i := 2) (v := ?va3) rfl (by kernel_rfl) (by kernel_rfl) (by kernel_rfl) (fun _ _ _ h => h) (Or.inl ⟨by rfl, ?ya3⟩) hS ?ra3
        case ya3 => (intro w0 _; go_simp; try with_reducible rfl)
        try simp only [yA, yB, yC, Act.put, yD, yE, yF]
        refine wpAnyH_take (i := 3) (v := ?va4) rfl (by kernel_rfl) (by kernel_rfl) (by kernel_rfl) (fun _ _ _ h => h) (Or.inl ⟨by rfl, ?ya4⟩) hS ?ra4
        case ya4 => (intro w0 _; go_simp; try with_reducible rfl)
        try simp only [yA, yB, yC, Act.put, yD, yE, yF]
        refine wpAnyH_take (i := 4) (v := undef) rfl (by kernel_rfl) (by kernel_rfl) (by kernel_rfl) (fun _ _ _ h => h) (Or.inr ⟨by kernel_rfl, rfl⟩) hS ?_
        try simp only [yA, yB, yC, Act.put, yD, yE, yF]
        refine wpAnyH_take (i := 5) (v := undef) rfl (by kernel_rfl) (by kernel_rfl) (by kernel_rfl) (fun _ _ _ h => h) (Or.inr ⟨by kernel_rfl, rfl⟩) hS ?_
        try simp only [yA, yB, yC, Act.put, yD, yE, yF]
        refine wpAnyH_take (i := 6) (v := undef) rfl (by kernel_rfl) (by kernel_rfl) (by kernel_rfl) (fun _ _ _ h => h) (Or.inr ⟨by kernel_rfl, rfl⟩) hS ?_
        try simp only [yA, yB, yC, Act.put, yD, yE, yF]
        refine wpAnyH_take (i := 7) (v := undef) rfl (by kernel_rfl) (by kernel_rfl) (by kernel_rfl) (fun _ _ _ h => h) (Or.inr ⟨by kernel_rfl, rfl⟩) hS ?_
        try simp only [yA, yB, yC, Act.put, yD, yE, yF]
        refine wpAnyH_take (i := 8) (v := undef) rfl (by kernel_rfl) (by kernel_rfl) (by kernel_rfl) (fun _ _ _ h => h) (Or.inr ⟨by kernel_rfl, rfl⟩) hS ?_
        try simp only [yA, yB, yC, Act.put, yD, yE, yF]
        refine wpAnyH_take (i := 9) (v := undef) rfl (by kernel_rfl) (by kernel_rfl) (by kernel_rfl) (fun _ _ _ h => h) (Or.inr ⟨by kernel_rfl, rfl⟩) hS ?_
        try simp only [yA, yB, yC, Act.put, yD, yE, yF]
        refine wpAnyH_take (i := 10) (v := undef) rfl (by kernel_rfl) (by kernel_rfl) (by kernel_rfl) (fun _ _ _ h => h) (Or.inr ⟨by kernel_rfl, rfl⟩) hS ?_
        try simp only [yA, yB, yC, Act.put, yD, yE, yF]
        refine wpAnyH_take (i := 11) (v := undef) rfl (by kernel_rfl) (by kernel_rfl) (by kernel_rfl) (fun _ _ _ h => h) (Or.inr ⟨by kernel_rfl, rfl⟩) hS ?_
        try simp only [yA, yB, yC, Act.put, yD, yE, yF]
        refine wpAnyH_take (i := 12) (v := undef) rfl (by kernel_rfl) (by kernel_rfl) (by kernel_rfl) (fun _ _ _ h => h) (Or.inr ⟨by kernel_rfl, rfl⟩) hS ?_
        try simp only [yA, yB, yC, Act.put, yD, yE, yF]
        refine wpAnyH_take (i := 13) (v := undef) rfl (by kernel_rfl) (by kernel_rfl) (by kernel_rfl) (fun _ _ _ h => h) (Or.inr ⟨by kernel_rfl, rfl⟩) hS ?_
        try simp only [yA, yB, yC, Act.put, yD, yE, yF]
        refine wpAnyH_take (i := 14) (v := undef) rfl (by kernel_rfl) (by kernel_rfl) (by kernel_rfl) (fun _ _ _ h => h) (Or.inr ⟨by kernel_rfl, rfl⟩) hS ?_
        try simp only [yA, yB, yC, Act.put, yD, yE, yF]
        refine wpAnyH_take (i := 15) (v := undef) rfl (by kernel_rfl) (by kernel_rfl) (by kernel_rfl) (fun _ _ _ h => h) (Or.inr ⟨by kernel_rfl, rfl⟩) hS ?_
        try simp only [yA, yB, yC, Act.put, yD, yE, yF]
        refine wpAnyH_take (i := 16) (v := undef) rfl (by kernel_rfl) (by kernel_rfl) (by kernel_rfl) (fun _ _ _ h => h) (Or.inr ⟨by kernel_rfl, rfl⟩) hS ?_
        try simp only [yA, yB, yC, Act.put, yD, yE, yF]
        refine wpAnyH_take (i := 17) (v := ?va18) rfl (by kernel_rfl) (by kernel_rfl) (by kernel_rfl) (fun _ _ _ h => h) (Or.inl ⟨by rfl, ?ya18⟩) hS ?ra18
        case ya18 => (intro w0 _; go_simp; try with_reducible rfl)
        try simp only [yA, yB, yC, Act.put, yD, yE, yF]
        refine wpAnyH_done (by kernel_rfl) ?_ _
        refine NoPanic.normal ?_
        try simp only [Exit.then]
        go_wp2_with fail
        go_ret
        exact ⟨by rw [goodTo_bad hlt HN.out]; rfl, HG.out⟩
      · have HI := As.mk (show (Value.agg #[.int .i64 xc, .int .i64 xv, .int .i64 xa, .bool xw, .int .i64 xn]) = itemV ⟨xc, xv, xa, xw, xn⟩ from rfl)
        rcases k with _ | j
        · have HN := As.mk (show goodAt l 0 = true by unfold goodAt; rw [HX.out]; simp [hn])
          refine wp_region_noPanic ?_
          refine wp_region_held_drew (S := fun w' => w'.cell? ⟨g, 0, none⟩ = some (.int .i64 xc) ∧ w'.cell? ⟨g, 1, none⟩ = some (.int .i64 xv) ∧ w'.cell? ⟨g, 2, none⟩ = some (.int .i64 xa) ∧ w'.cell? ⟨g, 3, none⟩ = some (.bool xw) ∧ w'.cell? ⟨g, 4, none⟩ = some (.int .i64 xn)) (by kernel_rfl) (⟨HB.out.cell 0, HB.out.cell 1, HB.out.cell 2, HB.out.cell 3, HB.out.cell 4⟩) (fun hS => ?_)
          refine wpAnyH_take (i := 0) (v := ?vb1) rfl (by kernel_rfl) (by kernel_rfl) (by kernel_rfl) (fun _ _ _ h => h) (Or.inl ⟨by rfl, ?yb1⟩) hS ?rb1
          case yb1 => (intro w0 hS0; (try simp only [] at hS0); obtain ⟨hS0_0, hS0_1, hS0_2, hS0_3, hS0_4⟩ := hS0; go_simp; try with_reducible rfl)
          try simp only [yA, yB, yC, Act.put, yD, yE, yF]
          refine wpAnyH_ready (rs := [1]) (by kernel_rfl) (by simp) (AllReadyH.cons (i := 1) rfl (fun K hK => ?_) AllReadyH.nil)
          go_simp
          rw [HI.out]
          refine (right_c _ _ _ hn).mono ?_
          rintro e0 w1 ⟨rfl, hg⟩
          replace HB := As.mk (HB.out.drew.grown hg (by simp))
          replace HG := As.mk (gr_then (gr_drew HG.out) hg (.inl rfl))
          clear hg
          go_simp
          refine hK.out _ _ (⟨HB.out.cell 0, HB.out.cell 1, HB.out.cell 2, HB.out.cell 3, HB.out.cell 4⟩) (fun hS => ?_)
          clear hK K
          try simp only [yA, yB, yC, Act.put, yD, yE, yF]
          refine wpAnyH_take (i := 2) (v := ?vb3) rfl (by kernel_rfl) (by kernel_rfl) (by kernel_rfl) (fun _ _ _ h => h) (Or.inl ⟨by rfl, ?yb3⟩) hS ?rb3
          case yb3 => (intro w0 _; go_simp; try with_reducible rfl)
          try simp only [yA, yB, yC, Act.put, yD, yE, yF]
          refine wpAnyH_take (i := 3) (v := ?vb4) rfl (by kernel_rfl) (by kernel_rfl) (by kernel_rfl) (fun _ _ _ h => h) (Or.inl ⟨by rfl, ?yb4⟩) hS ?rb4
          case yb4 => (intro w0 _; go_simp; try with_reducible rfl)
          try simp only [yA, yB, yC, Act.put, yD, yE, yF]
          refine wpAnyH_take (i := 4) (v := ?vb5) rfl (by kernel_rfl) (by kernel_rfl) (by kernel_rfl) (fun _ _ _ h => h) (Or.inl ⟨by rfl, ?yb5⟩) hS ?rb5
          case yb5 => (intro w0 _; go_simp; try with_reducible rfl)
          try simp only [yA, yB, yC, Act.put, yD, yE, yF]
          refine wpAnyH_take (i := 5) (v := ?vb6) rfl (by kernel_rfl) (by kernel_rfl) (by kernel_rfl) (fun _ _ _ h => h) (Or.inl ⟨by rfl, ?yb6⟩) hS ?rb6
          case yb6 => (intro w0 _; go_simp; try with_reducible rfl)
          try simp only [yA, yB, yC, Act.put, yD, yE, yF]
          refine wpAnyH_take (i := 6) (v := ?vb7) rfl (by kernel_rfl) (by kernel_rfl) (by kernel_rfl) (fun _ _ _ h => h) (Or.inl ⟨by rfl, ?yb7⟩) hS ?rb7
          case yb7 => (intro w0 _; go_simp; try with_reducible rfl)
          try simp only [yA, yB, yC, Act.put, yD, yE, yF]
          refine wpAnyH_take (i := 7) (v := undef) rfl (by kernel_rfl) (by kernel_rfl) (by kernel_rfl) (fun _ _ _ h => h) (Or.inr ⟨by kernel_rfl, rfl⟩) hS ?_
          try simp only [yA, yB, yC, Act.put, yD, yE, yF]
          refine wpAnyH_take (i := 8) (v := undef) rfl (by kernel_rfl) (by kernel_rfl) (by kernel_rfl) (fun _ _ _ h => h) (Or.inr ⟨by kernel_rfl, rfl⟩) hS ?_
          try simp only [yA, yB, yC, Act.put, yD, yE, yF]
          refine wpAnyH_take (i := 9) (v := undef) rfl (by kernel_rfl) (by kernel_rfl) (by kernel_rfl) (fun _ _ _ h => h) (Or.inr ⟨by kernel_rfl, rfl⟩) hS ?_
          try simp only [yA, yB, yC, Act.put, yD, yE, yF]
          refine wpAnyH_take (i := 10) (v := undef) rfl (by kernel_rfl) (by kernel_rfl) (by kernel_rfl) (fun _ _ _ h => h) (Or.inr ⟨by kernel_rfl, rfl⟩) hS ?_
          try simp only [yA, yB, yC, Act.put, yD, yE, yF]
          refine wpAnyH_take (i := 11) (v := undef) rfl (by kernel_rfl) (by kernel_rfl) (by kernel_rfl) (fun _ _ _ h => h) (Or.inr ⟨by kernel_rfl, rfl⟩) hS ?_
          try simp only [yA, yB, yC, Act.put, yD, yE, yF]
          refine wpAnyH_take (i := 12) (v := undef) rfl (by kernel_rfl) (by kernel_rfl) (by kernel_rfl) (fun _ _ _ h => h) (Or.inr ⟨by kernel_rfl, rfl⟩) hS ?_
          try simp only [yA, yB, yC, Act.put, yD, yE, yF]
          refine wpAnyH_take (i := 13) (v := undef) rfl (by kernel_rfl) (by kernel_rfl) (by kernel_rfl) (fun _ _ _ h => h) (Or.inr ⟨by kernel_rfl, rfl⟩) hS ?_
          try simp only [yA, yB, yC, Act.put, yD, yE, yF]
          refine wpAnyH_take (i := 14) (v := undef) rfl (by kernel_rfl) (by kernel_rfl) (by kernel_rfl) (fun _ _ _ h => h) (Or.inr ⟨by kernel_rfl, rfl⟩) hS ?_
          try simp only [yA, yB, yC, Act.put, yD, yE, yF]
          refine wpAnyH_take (i := 15) (v := undef) rfl (by kernel_rfl) (by kernel_rfl) (by kernel_rfl) (fun _ _ _ h => h) (Or.inr ⟨by kernel_rfl, rfl⟩) hS ?_
          try simp only [yA, yB, yC, Act.put, yD, yE, yF]
          refine wpAnyH_take (i := 16) (v := ?vb17) rfl (by kernel_rfl) (by kernel_rfl) (by kernel_rfl) (fun _ _ _ h => h) (Or.inl ⟨by rfl, ?yb17⟩) hS ?rb17
          case yb17 => (intro w0 _; go_simp; try with_reducible rfl)
          try simp only [yA, yB, yC, Act.put, yD, yE, yF]
          refine wpAnyH_take (i := 17) (v := ?vb18) rfl (by kernel_rfl) (by kernel_rfl) (by kernel_rfl) (fun _ _ _ h => h) (Or.inl ⟨by rfl, ?yb18⟩) hS ?rb18
          case yb18 => (intro w0 _; go_simp; try with_reducible rfl)
          try simp only [yA, yB, yC, Act.put, yD, yE, yF]
          refine wpAnyH_done (by kernel_rfl) ?_ _
          refine NoPanic.normal ?_
          try simp only [Exit.then]
          go_wp2_with fail
          go_roundw
          case measure => simp [intOf]; omega
          case rel => exact ⟨1, by omega, by go_num, ⟨by rw [HGS.out, HN.out, HL.out.1]; rfl, HG.out⟩⟩
        · have hj : j < l.length := by omega
          have hjI : (j : Int) < (l.length : Int) := by omega
          have hj0 : (0 : Int) ≤ (j : Int) := by omega
          obtain ⟨b', o', cs', hA, hE', hcs', hcell'⟩ := H.out.at_ j l[j] (List.getElem?_eq_getElem hj)
          obtain ⟨rfl, rfl⟩ : b = b' ∧ o = o' := by injection hA with hA; injection hA with h1 h2; exact ⟨h1, h2⟩
          obtain rfl := hE'
          have HC := As.mk (show w.cell? ⟨b, o + j * 5, none⟩ = _ from hcell' 0 _ rfl)
          have HXj := As.mk (show l[j]? = some (l[j]'hj) from List.getElem?_eq_getElem hj)
          clear hcell' hcs' hA
          generalize l[j]'hj = y at *
          have hw : IntKind.i64.wrap (j : Int) = (j : Int) := IntWalk.i64_in _ (by omega)
          cases hc : decide (y.c < xc)
          · have HN := As.mk (show goodAt l (j + 1) = false by unfold goodAt; rw [HX.out]; simp only [HXj.out, hc, Bool.and_false])
            have hcc : xc ≤ y.c := by simpa using hc
            clear hc
            refine wp_region_noPanic ?_
            refine wp_region_held_drew (S := fun w' => w'.cell? ⟨g, 0, none⟩ = some (.int .i64 xc) ∧ w'.cell? ⟨g, 1, none⟩ = some (.int .i64 xv) ∧ w'.cell? ⟨g, 2, none⟩ = some (.int .i64 xa) ∧ w'.cell? ⟨g, 3, none⟩ = some (.bool xw) ∧ w'.cell? ⟨g, 4, none⟩ = some (.int .i64 xn) ∧ w'.cell? ⟨b, o + j * 5, none⟩ = some (.int .i64 y.c)) (by kernel_rfl) (⟨HB.out.cell 0, HB.out.cell 1, HB.out.cell 2, HB.out.cell 3, HB.out.cell 4, HG.out.cell HC.out (by simp)⟩) (fun hS => ?_)
            refine wpAnyH_take (i := 0) (v := ?vc1) rfl (by kernel_rfl) (by kernel_rfl) (by kernel_rfl) (fun _ _ _ h => h) (Or.inl ⟨by rfl, ?yc1⟩) hS ?rc1
            case yc1 => (intro w0 hS0; (try simp only [] at hS0); obtain ⟨hS0_0, hS0_1, hS0_2, hS0_3, hS0_4, hS0_5⟩ := hS0; go_simp; try with_reducible rfl)
            try simp only [yA, yB, yC, Act.put, yD, yE, yF]
            refine wpAnyH_ready (rs := [1]) (by kernel_rfl) (by simp) (AllReadyH.cons (i := 1) rfl (fun K hK => ?_) AllReadyH.nil)
            go_simp
            rw [HI.out]
            refine (right_c _ _ _ hn).mono ?_
            rintro e0 w1 ⟨rfl, hg⟩
            replace HB := As.mk (HB.out.drew.grown hg (by simp))
            replace HG := As.mk (gr_then (gr_drew HG.out) hg (.inl rfl))
            clear hg
            go_simp
            refine hK.out _ _ (⟨HB.out.cell 0, HB.out.cell 1, HB.out.cell 2, HB.out.cell 3, HB.out.cell 4, HG.out.cell HC.out (by simp)⟩) (fun hS => ?_)
            clear hK K
            try simp only [yA, yB, yC, Act.put, yD, yE, yF]
            refine wpAnyH_take (i := 2) (v := ?vc3) rfl (by kernel_rfl) (by kernel_rfl) (by kernel_rfl) (fun _ _ _ h => h) (Or.inl ⟨by rfl, ?yc3⟩) hS ?rc3
            case yc3 => (intro w0 _; go_simp; try with_reducible rfl)
            try simp only [yA, yB, yC, Act.put, yD, yE, yF]
            refine wpAnyH_take (i := 3) (v := ?vc4) rfl (by kernel_rfl) (by kernel_rfl) (by kernel_rfl) (fun _ _ _ h => h) (Or.inl ⟨by rfl, ?yc4⟩) hS ?rc4
            case yc4 => (intro w0 _; go_simp; try with_reducible rfl)
            try simp only [yA, yB, yC, Act.put, yD, yE, yF]
            refine wpAnyH_take (i := 4) (v := ?vc5) rfl (by kernel_rfl) (by kernel_rfl) (by kernel_rfl) (fun _ _ _ h => h) (Or.inl ⟨by rfl, ?yc5⟩) hS ?rc5
            case yc5 => (intro w0 _; go_simp; try with_reducible rfl)
            try simp only [yA, yB, yC, Act.put, yD, yE, yF]
            refine wpAnyH_take (i := 5) (v := ?vc6) rfl (by kernel_rfl) (by kernel_rfl) (by kernel_rfl) (fun _ _ _ h => h) (Or.inl ⟨by rfl, ?yc6⟩) hS ?rc6
            case yc6 => (intro w0 _; go_simp; try with_reducible rfl)
            try simp only [yA, yB, yC, Act.put, yD, yE, yF]
            refine wpAnyH_take (i := 6) (v := ?vc7) rfl (by kernel_rfl) (by kernel_rfl) (by kernel_rfl) (fun _ _ _ h => h) (Or.inl ⟨by rfl, ?yc7⟩) hS ?rc7
            case yc7 => (intro w0 _; go_simp; try with_reducible rfl)
            try simp only [yA, yB, yC, Act.put, yD, yE, yF]
            refine wpAnyH_take (i := 7) (v := ?vc8) rfl (by kernel_rfl) (by kernel_rfl) (by kernel_rfl) (fun _ _ _ h => h) (Or.inl ⟨by rfl, ?yc8⟩) hS ?rc8
            case yc8 => (intro w0 _; go_simp; try with_reducible rfl)
            try simp only [yA, yB, yC, Act.put, yD, yE, yF]
            refine wpAnyH_take (i := 8) (v := ?vc9) rfl (by kernel_rfl) (by kernel_rfl) (by kernel_rfl) (fun _ _ _ h => h) (Or.inl ⟨by rfl, ?yc9⟩) hS ?rc9
            case yc9 => (intro w0 _; go_simp; try with_reducible rfl)
            try simp only [yA, yB, yC, Act.put, yD, yE, yF]
            refine wpAnyH_take (i := 9) (v := ?vc10) rfl (by kernel_rfl) (by kernel_rfl) (by kernel_rfl) (fun _ _ _ h => h) (Or.inl ⟨by rfl, ?yc10⟩) hS ?rc10
            case yc10 => (intro w0 _; go_simp; try with_reducible rfl)
            try simp only [yA, yB, yC, Act.put, yD, yE, yF]
            refine wpAnyH_take (i := 10) (v := ?vc11) rfl (by kernel_rfl) (by kernel_rfl) (by kernel_rfl) (fun _ _ _ h => h) (Or.inl ⟨by rfl, ?yc11⟩) hS ?rc11
            case yc11 => (intro w0 _; go_simp; try with_reducible rfl)
            try simp only [yA, yB, yC, Act.put, yD, yE, yF]
            refine wpAnyH_take (i := 11) (v := ?vc12) rfl (by kernel_rfl) (by kernel_rfl) (by kernel_rfl) (fun _ _ _ h => h) (Or.inl ⟨by rfl, ?yc12⟩) hS ?rc12
            case yc12 => (intro w0 _; go_simp; try with_reducible rfl)
            try simp only [yA, yB, yC, Act.put, yD, yE, yF]
            refine wpAnyH_take (i := 12) (v := ?vc13) rfl (by kernel_rfl) (by kernel_rfl) (by kernel_rfl) (fun _ _ _ h => h) (Or.inl ⟨by rfl, ?yc13⟩) hS ?rc13
            case yc13 => (intro w0 hS0; (try simp only [] at hS0); obtain ⟨hS0_0, hS0_1, hS0_2, hS0_3, hS0_4, hS0_5⟩ := hS0; go_simp; try with_reducible rfl)
            try simp only [yA, yB, yC, Act.put, yD, yE, yF]
            refine wpAnyH_take (i := 13) (v := ?vc14) rfl (by kernel_rfl) (by kernel_rfl) (by kernel_rfl) (fun _ _ _ h => h) (Or.inl ⟨by rfl, ?yc14⟩) hS ?rc14
            case yc14 => (intro w0 _; go_simp; try with_reducible rfl)
            try simp only [yA, yB, yC, Act.put, yD, yE, yF]
            refine wpAnyH_take (i := 14) (v := ?vc15) rfl (by kernel_rfl) (by kernel_rfl) (by kernel_rfl) (fun _ _ _ h => h) (Or.inl ⟨by rfl, ?yc15⟩) hS ?rc15
            case yc15 => (intro w0 hS0; (try simp only [] at hS0); obtain ⟨hS0_0, hS0_1, hS0_2, hS0_3, hS0_4, hS0_5⟩ := hS0; go_simp; try with_reducible rfl)
            try simp only [yA, yB, yC, Act.put, yD, yE, yF]
            refine wpAnyH_take (i := 15) (v := ?vc16) rfl (by kernel_rfl) (by kernel_rfl) (by kernel_rfl) (fun _ _ _ h => h) (Or.inl ⟨by rfl, ?yc16⟩) hS ?rc16
            case yc16 => (intro w0 _; go_simp; try with_reducible rfl)
            try simp only [yA, yB, yC, Act.put, yD, yE, yF]
            refine wpAnyH_take (i := 16) (v := ?vc17) rfl (by kernel_rfl) (by kernel_rfl) (by kernel_rfl) (fun _ _ _ h => h) (Or.inl ⟨by rfl, ?yc17⟩) hS ?rc17
            case yc17 => (intro w0 _; go_simp; try with_reducible rfl)
            try simp only [yA, yB, yC, Act.put, yD, yE, yF]
            refine wpAnyH_take (i := 17) (v := ?vc18) rfl (by kernel_rfl) (by kernel_rfl) (by kernel_rfl) (fun _ _ _ h => h) (Or.inl ⟨by rfl, ?yc18⟩) hS ?rc18
            case yc18 => (intro w0 _; go_simp; try with_reducible rfl)
            try simp only [yA, yB, yC, Act.put, yD, yE, yF]
            refine wpAnyH_done (by kernel_rfl) ?_ _
            refine NoPanic.normal ?_
            try simp only [Exit.then]
            go_wp2_with fail
            go_ret
            exact ⟨by rw [goodTo_bad hlt HN.out]; rfl, HG.out⟩
          · have HN := As.mk (show goodAt l (j + 1) = true by unfold goodAt; rw [HX.out]; simp only [HXj.out, hc, hn, Bool.and_true])
            have hcc : ¬ xc ≤ y.c := by simpa using hc
            clear hc
            refine wp_region_noPanic ?_
            refine wp_region_held_drew (S := fun w' => w'.cell? ⟨g, 0, none⟩ = some (.int .i64 xc) ∧ w'.cell? ⟨g, 1, none⟩ = some (.int .i64 xv) ∧ w'.cell? ⟨g, 2, none⟩ = some (.int .i64 xa) ∧ w'.cell? ⟨g, 3, none⟩ = some (.bool xw) ∧ w'.cell? ⟨g, 4, none⟩ = some (.int .i64 xn) ∧ w'.cell? ⟨b, o + j * 5, none⟩ = some (.int .i64 y.c)) (by kernel_rfl) (⟨HB.out.cell 0, HB.out.cell 1, HB.out.cell 2, HB.out.cell 3, HB.out.cell 4, HG.out.cell HC.out (by simp)⟩) (fun hS => ?_)
            refine wpAnyH_take (i := 0) (v := ?vd1) rfl (by kernel_rfl) (by kernel_rfl) (by kernel_rfl) (fun _ _ _ h => h) (Or.inl ⟨by rfl, ?yd1⟩) hS ?rd1
            case yd1 => (intro w0 hS0; (try simp only [] at hS0); obtain ⟨hS0_0, hS0_1, hS0_2, hS0_3, hS0_4, hS0_5⟩ := hS0; go_simp; try with_reducible rfl)
            try simp only [yA, yB, yC, Act.put, yD, yE, yF]
            refine wpAnyH_ready (rs := [1]) (by kernel_rfl) (by simp) (AllReadyH.cons (i := 1) rfl (fun K hK => ?_) AllReadyH.nil)
            go_simp
            rw [HI.out]
            refine (right_c _ _ _ hn).mono ?_
            rintro e0 w1 ⟨rfl, hg⟩
            replace HB := As.mk (HB.out.drew.grown hg (by simp))
            replace HG := As.mk (gr_then (gr_drew HG.out) hg (.inl rfl))
            clear hg
            go_simp
            refine hK.out _ _ (⟨HB.out.cell 0, HB.out.cell 1, HB.out.cell 2, HB.out.cell 3, HB.out.cell 4, HG.out.cell HC.out (by simp)⟩) (fun hS => ?_)
            clear hK K
            try simp only [yA, yB, yC, Act.put, yD, yE, yF]
            refine wpAnyH_take (i := 2) (v := ?vd3) rfl (by kernel_rfl) (by kernel_rfl) (by kernel_rfl) (fun _ _ _ h => h) (Or.inl ⟨by rfl, ?yd3⟩) hS ?rd3
            case yd3 => (intro w0 _; go_simp; try with_reducible rfl)
            try simp only [yA, yB, yC, Act.put, yD, yE, yF]
            refine wpAnyH_take (i := 3) (v := ?vd4) rfl (by kernel_rfl) (by kernel_rfl) (by kernel_rfl) (fun _ _ _ h => h) (Or.inl ⟨by rfl, ?yd4⟩) hS ?rd4
            case yd4 => (intro w0 _; go_simp; try with_reducible rfl)
            try simp only [yA, yB, yC, Act.put, yD, yE, yF]
            refine wpAnyH_take (i := 4) (v := ?vd5) rfl (by kernel_rfl) (by kernel_rfl) (by kernel_rfl) (fun _ _ _ h => h) (Or.inl ⟨by rfl, ?yd5⟩) hS ?rd5
            case yd5 => (intro w0 _; go_simp; try with_reducible rfl)
            try simp only [yA, yB, yC, Act.put, yD, yE, yF]
            refine wpAnyH_take (i := 5) (v := ?vd6) rfl (by kernel_rfl) (by kernel_rfl) (by kernel_rfl) (fun _ _ _ h => h) (Or.inl ⟨by rfl, ?yd6⟩) hS ?rd6
            case yd6 => (intro w0 _; go_simp; try with_reducible rfl)
            try simp only [yA, yB, yC, Act.put, yD, yE, yF]
            refine wpAnyH_take (i := 6) (v := ?vd7) rfl (by kernel_rfl) (by kernel_rfl) (by kernel_rfl) (fun _ _ _ h => h) (Or.inl ⟨by rfl, ?yd7⟩) hS ?rd7
            case yd7 => (intro w0 _; go_simp; try with_reducible rfl)
            try simp only [yA, yB, yC, Act.put, yD, yE, yF]
            refine wpAnyH_take (i := 7) (v := ?vd8) rfl (by kernel_rfl) (by kernel_rfl) (by kernel_rfl) (fun _ _ _ h => h) (Or.inl ⟨by rfl, ?yd8⟩) hS ?rd8
            case yd8 => (intro w0 _; go_simp; try with_reducible rfl)
            try simp only [yA, yB, yC, Act.put, yD, yE, yF]
            refine wpAnyH_take (i := 8) (v := ?vd9) rfl (by kernel_rfl) (by kernel_rfl) (by kernel_rfl) (fun _ _ _ h => h) (Or.inl ⟨by rfl, ?yd9⟩) hS ?rd9
            case yd9 => (intro w0 _; go_simp; try with_reducible rfl)
            try simp only [yA, yB, yC, Act.put, yD, yE, yF]
            refine wpAnyH_take (i := 9) (v := ?vd10) rfl (by kernel_rfl) (by kernel_rfl) (by kernel_rfl) (fun _ _ _ h => h) (Or.inl ⟨by rfl, ?yd10⟩) hS ?rd10
            case yd10 => (intro w0 _; go_simp; try with_reducible rfl)
            try simp only [yA, yB, yC, Act.put, yD, yE, yF]
            refine wpAnyH_take (i := 10) (v := ?vd11) rfl (by kernel_rfl) (by kernel_rfl) (by kernel_rfl) (fun _ _ _ h => h) (Or.inl ⟨by rfl, ?yd11⟩) hS ?rd11
            case yd11 => (intro w0 _; go_simp; try with_reducible rfl)
            try simp only [yA, yB, yC, Act.put, yD, yE, yF]
            refine wpAnyH_take (i := 11) (v := ?vd12) rfl (by kernel_rfl) (by kernel_rfl) (by kernel_rfl) (fun _ _ _ h => h) (Or.inl ⟨by rfl, ?yd12⟩) hS ?rd12
            case yd12 => (intro w0 _; go_simp; try with_reducible rfl)
            try simp only [yA, yB, yC, Act.put, yD, yE, yF]
            refine wpAnyH_take (i := 12) (v := ?vd13) rfl (by kernel_rfl) (by kernel_rfl) (by kernel_rfl) (fun _ _ _ h => h) (Or.inl ⟨by rfl, ?yd13⟩) hS ?rd13
            case yd13 => (intro w0 hS0; (try simp only [] at hS0); obtain ⟨hS0_0, hS0_1, hS0_2, hS0_3, hS0_4, hS0_5⟩ := hS0; go_simp; try with_reducible rfl)
            try simp only [yA, yB, yC, Act.put, yD, yE, yF]
            refine wpAnyH_take (i := 13) (v := ?vd14) rfl (by kernel_rfl) (by kernel_rfl) (by kernel_rfl) (fun _ _ _ h => h) (Or.inl ⟨by rfl, ?yd14⟩) hS ?rd14
            case yd14 => (intro w0 _; go_simp; try with_reducible rfl)
            try simp only [yA, yB, yC, Act.put, yD, yE, yF]
            refine wpAnyH_take (i := 14) (v := ?vd15) rfl (by kernel_rfl) (by kernel_rfl) (by kernel_rfl) (fun _ _ _ h => h) (Or.inl ⟨by rfl, ?yd15⟩) hS ?rd15
            case yd15 => (intro w0 hS0; (try simp only [] at hS0); obtain ⟨hS0_0, hS0_1, hS0_2, hS0_3, hS0_4, hS0_5⟩ := hS0; go_simp; try with_reducible rfl)
            try simp only [yA, yB, yC, Act.put, yD, yE, yF]
            refine wpAnyH_take (i := 15) (v := ?vd16) rfl (by kernel_rfl) (by kernel_rfl) (by kernel_rfl) (fun _ _ _ h => h) (Or.inl ⟨by rfl, ?yd16⟩) hS ?rd16
            case yd16 => (intro w0 _; go_simp; try with_reducible rfl)
            try simp only [yA, yB, yC, Act.put, yD, yE, yF]
            refine wpAnyH_take (i := 16) (v := ?vd17) rfl (by kernel_rfl) (by kernel_rfl) (by kernel_rfl) (fun _ _ _ h => h) (Or.inl ⟨by rfl, ?yd17⟩) hS ?rd17
            case yd17 => (intro w0 _; go_simp; try with_reducible rfl)
            try simp only [yA, yB, yC, Act.put, yD, yE, yF]
            refine wpAnyH_take (i := 17) (v := ?vd18) rfl (by kernel_rfl) (by kernel_rfl) (by kernel_rfl) (fun _ _ _ h => h) (Or.inl ⟨by rfl, ?yd18⟩) hS ?rd18
            case yd18 => (intro w0 _; go_simp; try with_reducible rfl)
            try simp only [yA, yB, yC, Act.put, yD, yE, yF]
            refine wpAnyH_done (by kernel_rfl) ?_ _
            refine NoPanic.normal ?_
            try simp only [Exit.then]
            go_wp2_with fail
            go_roundw
            case measure => simp [intOf]; omega
            case rel => exact ⟨j + 2, by omega, by go_num, ⟨by rw [HGS.out, HN.out, HL.out.1]; rfl, HG.out⟩⟩
    · obtain rfl : k = l.length := by omega
      have HY := As.mk HL.out
      clear HL
      go_wp2_with fail
      go_ret
      refine ⟨?_, HY.out.2⟩
      unfold itemsOk
      rw [HY.out.1]
      simp
end Go.Proofs.Ytdmkijdbldcdiaa
