/- The walks of in, placed, rightCell, bare and Right. (Printed by wip/gen/gen_md.py.) -/
import Derived.Test.YtdmkijdbldcdiaaMc
import Derived.Test.YtdmkijdbldcdiaaMq
namespace Go.Proofs.Ytdmkijdbldcdiaa
open Go.RowKit
set_option linter.unusedVariables false
set_option linter.unusedSimpArgs false
set_option maxRecDepth 100000

theorem rin_c (w : World) (n lo hi : Int) (r : Bool) (hr : inR n lo hi = r) : Calls Try.prog 47 #[.int .i64 n, .int .i64 lo, .int .i64 hi] w fun e w' => e = .returned (.bool r) ∧ w' = w := by
  subst hr
  unfold inR
  by_cases a : lo ≤ n
  · by_cases b : n ≤ hi
    · go_enter Try.func47, Try.ntmps47
      go_wp2_with fail
      go_ret
      exact ⟨by simp [a, b], rfl⟩
    · go_enter Try.func47, Try.ntmps47
      go_wp2_with fail
      go_ret
      exact ⟨by simp [a, b], rfl⟩
  · go_enter Try.func47, Try.ntmps47
    go_wp2_with fail
    go_ret
    have a' : decide (lo ≤ n) = false := decide_eq_false (by omega)
    exact ⟨by rw [a']; rfl, rfl⟩
def placedB (r : PRec) (least : Int) : Bool := inR r.cell 0 15 && inR r.hop least 1099511627776
theorem placed_c (w : World) (r : PRec) (AI : Option Addr) (cI : Nat) (AN : Option Addr) (cN : Nat) (least : Int) (b : Bool) (hb : placedB r least = b) :
    Calls Try.prog 52 #[.agg (reCells r AI cI AN cN), .int .i64 least] w fun e w' => e = .returned (.bool b) ∧ w.grownBy w' none := by
  subst hb
  have HG := As.mk (gr_alloc (gr_refl w none) (.cells (reCells r AI cI AN cN) 43))
  unfold reCells at *
  go_enter Try.func52, Try.ntmps52
  go_wp2_with fail
  refine (rin_c _ r.cell 0 15 _ rfl).mono ?_
  rintro e w1 ⟨rfl, rfl⟩
  cases h1 : inR r.cell 0 15
  · have HE := As.mk (show placedB r least = false by unfold placedB; rw [h1]; rfl)
    go_wp2_with fail
    go_ret
    exact ⟨retB HE.out, HG.out⟩
  · have HE := As.mk (show placedB r least = inR r.hop least 1099511627776 by unfold placedB; rw [h1]; rfl)
    go_wp2_with fail
    refine (rin_c _ r.hop least 1099511627776 _ rfl).mono ?_
    rintro e w1 ⟨rfl, rfl⟩
    go_wp2_with fail
    go_ret
    exact ⟨retB HE.out, HG.out⟩
def rcellB (r : PRec) : Bool := (if r.st = 2 then inR r.node 1 16 else r.node == 0) && (placedB r 0 && (inR r.st 0 2 && inR r.ver 0 1099511627776))
set_option maxHeartbeats 1600000 in
theorem rightCell_c (w : World) (r : PRec) (AI : Option Addr) (cI : Nat) (AN : Option Addr) (cN : Nat) (b : Bool) (hb : rcellB r = b) :
    Calls Try.prog 48 #[.agg (reCells r AI cI AN cN)] w fun e w' => e = .returned (.bool b) ∧ w.grownBy w' none := by
  subst hb
  have HG := As.mk (gr_alloc (gr_refl w none) (.cells (reCells r AI cI AN cN) 43))
  have HT := As.mk (Blk.new w 43 (reCells r AI cI AN cN))
  unfold reCells at *
  go_enter Try.func48, Try.ntmps48
  by_cases hs : r.st = 2
  · have hs' : (r.st == 2) = true := by simpa using hs
    have HS := As.mk hs
    clear hs
    go_wp2_with fail
    refine (rin_c _ r.node 1 16 _ rfl).mono ?_
    rintro e w1 ⟨rfl, rfl⟩
    cases hok : inR r.node 1 16
    · have HE := As.mk (show rcellB r = false by unfold rcellB; rw [if_pos HS.out, hok]; rfl)
      go_wp2_with fail
      go_ret
      exact ⟨retB HE.out, HG.out⟩
    · have HE0 := As.mk (show rcellB r = (placedB r 0 && (inR r.st 0 2 && inR r.ver 0 1099511627776)) by unfold rcellB; rw [if_pos HS.out, hok]; rfl)
      go_wp2_with fail
      refine (placed_c _ r AI cI AN cN 0 _ rfl).mono ?_
      rintro e w1 ⟨rfl, hg1⟩
      replace HT := As.mk (HT.out.grown hg1 (by simp))
      replace HG := As.mk (gr_then HG.out hg1 (.inl rfl))
      clear hg1
      cases h1 : placedB r 0
      · have HE := As.mk (show rcellB r = false by rw [HE0.out, h1]; rfl)
        go_wp2_with fail
        go_ret
        exact ⟨retB HE.out, HG.out⟩
      · rw [h1, Bool.true_and] at HE0
        obtain ⟨t0, t1, t2, t3, t4, t5, t6, t7, t8, t9, t10, t11, t12, t13, t14⟩ := (HT.out).c15
        go_wp2_with fail
        clear t0 t1 t2 t3 t4 t5 t6 t7 t8 t9 t10 t11 t12 t13 t14
        refine (rin_c _ r.st 0 2 _ rfl).mono ?_
        rintro e w2 ⟨rfl, rfl⟩
        cases h2 : inR r.st 0 2
        · have HE := As.mk (show rcellB r = false by rw [HE0.out, h2]; rfl)
          go_wp2_with fail
          go_ret
          exact ⟨retB HE.out, HG.out⟩
        · rw [h2, Bool.true_and] at HE0
          obtain ⟨t0, t1, t2, t3, t4, t5, t6, t7, t8, t9, t10, t11, t12, t13, t14⟩ := (HT.out).c15
          go_wp2_with fail
          clear t0 t1 t2 t3 t4 t5 t6 t7 t8 t9 t10 t11 t12 t13 t14
          refine (rin_c _ r.ver 0 1099511627776 _ rfl).mono ?_
          rintro e w2 ⟨rfl, rfl⟩
          go_wp2_with fail
          go_ret
          exact ⟨retB HE0.out, HG.out⟩
  · have hs' : (r.st == 2) = false := by simpa using hs
    have HS := As.mk hs
    clear hs
    cases hok : (r.node == 0)
    · have HE := As.mk (show rcellB r = false by unfold rcellB; rw [if_neg HS.out, hok]; rfl)
      go_wp2_with fail
      go_ret
      exact ⟨retB HE.out, HG.out⟩
    · have HE0 := As.mk (show rcellB r = (placedB r 0 && (inR r.st 0 2 && inR r.ver 0 1099511627776)) by unfold rcellB; rw [if_neg HS.out, hok]; rfl)
      go_wp2_with fail
      refine (placed_c _ r AI cI AN cN 0 _ rfl).mono ?_
      rintro e w1 ⟨rfl, hg1⟩
      replace HT := As.mk (HT.out.grown hg1 (by simp))
      replace HG := As.mk (gr_then HG.out hg1 (.inl rfl))
      clear hg1
      cases h1 : placedB r 0
      · have HE := As.mk (show rcellB r = false by rw [HE0.out, h1]; rfl)
        go_wp2_with fail
        go_ret
        exact ⟨retB HE.out, HG.out⟩
      · rw [h1, Bool.true_and] at HE0
        obtain ⟨t0, t1, t2, t3, t4, t5, t6, t7, t8, t9, t10, t11, t12, t13, t14⟩ := (HT.out).c15
        go_wp2_with fail
        clear t0 t1 t2 t3 t4 t5 t6 t7 t8 t9 t10 t11 t12 t13 t14
        refine (rin_c _ r.st 0 2 _ rfl).mono ?_
        rintro e w2 ⟨rfl, rfl⟩
        cases h2 : inR r.st 0 2
        · have HE := As.mk (show rcellB r = false by rw [HE0.out, h2]; rfl)
          go_wp2_with fail
          go_ret
          exact ⟨retB HE.out, HG.out⟩
        · rw [h2, Bool.true_and] at HE0
          obtain ⟨t0, t1, t2, t3, t4, t5, t6, t7, t8, t9, t10, t11, t12, t13, t14⟩ := (HT.out).c15
          go_wp2_with fail
          clear t0 t1 t2 t3 t4 t5 t6 t7 t8 t9 t10 t11 t12 t13 t14
          refine (rin_c _ r.ver 0 1099511627776 _ rfl).mono ?_
          rintro e w2 ⟨rfl, rfl⟩
          go_wp2_with fail
          go_ret
          exact ⟨retB HE0.out, HG.out⟩
def bareX (x r : PRec) : Bool := decide (x.items.length = r.items.length) && (decide (x.nodes.length = r.nodes.length) && (eqT x.tid r.tid && ((x.yes == r.yes) &&
  (x.node == r.node && (x.count == r.count && (x.num == r.num && (x.cell == r.cell && (x.st == r.st && (x.hop == r.hop && (x.ver == r.ver && x.val == r.val))))))))))
def bareB (r : PRec) : Bool := bareX (plainR r) r
set_option maxHeartbeats 3200000 in
theorem bare_c (w : World) (r : PRec) (AI : Option Addr) (cI : Nat) (AN : Option Addr) (cN : Nat) (b : Bool) (hb : bareB r = b) :
    Calls Try.prog 46 #[.agg (reCells r AI cI AN cN)] w fun e w' => e = .returned (.bool b) ∧ w.grownBy w' none := by
  have HX := As.mk hb
  unfold bareB at HX
  have HG := As.mk (gr_alloc (gr_refl w none) (.cells (reCells r AI cI AN cN) 43))
  have HT := As.mk (Blk.new w 43 (reCells r AI cI AN cN))
  clear hb
  go_enter Try.func46, Try.ntmps46
  unfold reCells at HT HG ⊢
  go_wp2_with fail
  refine (plain_c _ r AI cI AN cN).mono ?_
  rintro e w1 ⟨⟨A1, c1, A2, c2, rfl⟩, hg1⟩
  replace HT := As.mk (HT.out.grown hg1 (by simp))
  replace HG := As.mk (gr_alloc (gr_then HG.out hg1 (.inl rfl)) (.cells (reCells (plainR r) A1 c1 A2 c2) 43))
  clear hg1
  generalize plainR r = x at *
  unfold reCells at HG ⊢
  generalize w.heap.size = gt at *
  obtain ⟨t0, t1, t2, t3, t4, t5, t6, t7, t8, t9, t10, t11, t12, t13, t14⟩ := (HT.out.alloc (.cells #[.int .i64 x.kind, .int .i64 x.tid.n, .int .i64 x.tid.e, .int .i64 x.tid.s, .slice A1 x.items.length c1, .slice A2 x.nodes.length c2, .int .i64 x.node, .int .i64 x.count, .int .i64 x.num, .int .i64 x.cell, .int .i64 x.st, .int .i64 x.hop, .int .i64 x.ver, .int .i64 x.val, .bool x.yes] 43)).c15
  obtain ⟨u0, u1, u2, u3, u4, u5, u6, u7, u8, u9, u10, u11, u12, u13, u14⟩ := (Blk.new w1 43 #[.int .i64 x.kind, .int .i64 x.tid.n, .int .i64 x.tid.e, .int .i64 x.tid.s, .slice A1 x.items.length c1, .slice A2 x.nodes.length c2, .int .i64 x.node, .int .i64 x.count, .int .i64 x.num, .int .i64 x.cell, .int .i64 x.st, .int .i64 x.hop, .int .i64 x.ver, .int .i64 x.val, .bool x.yes]).c15
  by_cases e1 : x.items.length = r.items.length
  · have e1I : (x.items.length : Int) = (r.items.length : Int) := by rw [e1]
    have e1B : ((x.items.length : Int) == (r.items.length : Int)) = true := by simpa using e1I
    have X1 := As.mk (show bareX x r = (decide (x.nodes.length = r.nodes.length) && (eqT x.tid r.tid && ((x.yes == r.yes) && (x.node == r.node && (x.count == r.count && (x.num == r.num && (x.cell == r.cell && (x.st == r.st && (x.hop == r.hop && (x.ver == r.ver && x.val == r.val)))))))))) by unfold bareX; rw [decide_eq_true e1]; rfl)
    clear e1
    by_cases e2 : x.nodes.length = r.nodes.length
    · have e2I : (x.nodes.length : Int) = (r.nodes.length : Int) := by rw [e2]
      have e2B : ((x.nodes.length : Int) == (r.nodes.length : Int)) = true := by simpa using e2I
      have X2 := As.mk (show bareX x r = (eqT x.tid r.tid && ((x.yes == r.yes) && (x.node == r.node && (x.count == r.count && (x.num == r.num && (x.cell == r.cell && (x.st == r.st && (x.hop == r.hop && (x.ver == r.ver && x.val == r.val))))))))) by rw [X1.out, decide_eq_true e2]; rfl)
      clear e2 X1
      unfold eqT at X2
      cases f1 : (x.tid.n == r.tid.n)
      · have HE := As.mk (show b = false by rw [← HX.out, X2.out, f1]; rfl)
        go_wp2_with fail
        go_ret
        exact ⟨retB HE.out, HG.out⟩
      · cases f2 : (x.tid.e == r.tid.e)
        · have HE := As.mk (show b = false by rw [← HX.out, X2.out, f1, f2]; rfl)
          go_wp2_with fail
          go_ret
          exact ⟨retB HE.out, HG.out⟩
        · cases f3 : (x.tid.s == r.tid.s)
          · have HE := As.mk (show b = false by rw [← HX.out, X2.out, f1, f2, f3]; rfl)
            go_wp2_with fail
            go_ret
            exact ⟨retB HE.out, HG.out⟩
          · cases f4 : (x.yes == r.yes)
            · have HE := As.mk (show b = false by rw [← HX.out, X2.out, f1, f2, f3, f4]; rfl)
              go_wp2_with fail
              go_ret
              exact ⟨retB HE.out, HG.out⟩
            · have v0 := ((HT.out.alloc (.cells #[.int .i64 x.kind, .int .i64 x.tid.n, .int .i64 x.tid.e, .int .i64 x.tid.s, .slice A1 x.items.length c1, .slice A2 x.nodes.length c2, .int .i64 x.node, .int .i64 x.count, .int .i64 x.num, .int .i64 x.cell, .int .i64 x.st, .int .i64 x.hop, .int .i64 x.ver, .int .i64 x.val, .bool x.yes] 43)).alloc (.cells #[.int .i64 x.node, .int .i64 x.count, .int .i64 x.num, .int .i64 x.cell, .int .i64 x.st, .int .i64 x.hop, .int .i64 x.ver, .int .i64 x.val] 118)).cell 0
              have v1 := ((HT.out.alloc (.cells #[.int .i64 x.kind, .int .i64 x.tid.n, .int .i64 x.tid.e, .int .i64 x.tid.s, .slice A1 x.items.length c1, .slice A2 x.nodes.length c2, .int .i64 x.node, .int .i64 x.count, .int .i64 x.num, .int .i64 x.cell, .int .i64 x.st, .int .i64 x.hop, .int .i64 x.ver, .int .i64 x.val, .bool x.yes] 43)).alloc (.cells #[.int .i64 x.node, .int .i64 x.count, .int .i64 x.num, .int .i64 x.cell, .int .i64 x.st, .int .i64 x.hop, .int .i64 x.ver, .int .i64 x.val] 118)).cell 1
              have v2 := ((HT.out.alloc (.cells #[.int .i64 x.kind, .int .i64 x.tid.n, .int .i64 x.tid.e, .int .i64 x.tid.s, .slice A1 x.items.length c1, .slice A2 x.nodes.length c2, .int .i64 x.node, .int .i64 x.count, .int .i64 x.num, .int .i64 x.cell, .int .i64 x.st, .int .i64 x.hop, .int .i64 x.ver, .int .i64 x.val, .bool x.yes] 43)).alloc (.cells #[.int .i64 x.node, .int .i64 x.count, .int .i64 x.num, .int .i64 x.cell, .int .i64 x.st, .int .i64 x.hop, .int .i64 x.ver, .int .i64 x.val] 118)).cell 2
              have v3 := ((HT.out.alloc (.cells #[.int .i64 x.kind, .int .i64 x.tid.n, .int .i64 x.tid.e, .int .i64 x.tid.s, .slice A1 x.items.length c1, .slice A2 x.nodes.length c2, .int .i64 x.node, .int .i64 x.count, .int .i64 x.num, .int .i64 x.cell, .int .i64 x.st, .int .i64 x.hop, .int .i64 x.ver, .int .i64 x.val, .bool x.yes] 43)).alloc (.cells #[.int .i64 x.node, .int .i64 x.count, .int .i64 x.num, .int .i64 x.cell, .int .i64 x.st, .int .i64 x.hop, .int .i64 x.ver, .int .i64 x.val] 118)).cell 3
              have v4 := ((HT.out.alloc (.cells #[.int .i64 x.kind, .int .i64 x.tid.n, .int .i64 x.tid.e, .int .i64 x.tid.s, .slice A1 x.items.length c1, .slice A2 x.nodes.length c2, .int .i64 x.node, .int .i64 x.count, .int .i64 x.num, .int .i64 x.cell, .int .i64 x.st, .int .i64 x.hop, .int .i64 x.ver, .int .i64 x.val, .bool x.yes] 43)).alloc (.cells #[.int .i64 x.node, .int .i64 x.count, .int .i64 x.num, .int .i64 x.cell, .int .i64 x.st, .int .i64 x.hop, .int .i64 x.ver, .int .i64 x.val] 118)).cell 4
              have v5 := ((HT.out.alloc (.cells #[.int .i64 x.kind, .int .i64 x.tid.n, .int .i64 x.tid.e, .int .i64 x.tid.s, .slice A1 x.items.length c1, .slice A2 x.nodes.length c2, .int .i64 x.node, .int .i64 x.count, .int .i64 x.num, .int .i64 x.cell, .int .i64 x.st, .int .i64 x.hop, .int .i64 x.ver, .int .i64 x.val, .bool x.yes] 43)).alloc (.cells #[.int .i64 x.node, .int .i64 x.count, .int .i64 x.num, .int .i64 x.cell, .int .i64 x.st, .int .i64 x.hop, .int .i64 x.ver, .int .i64 x.val] 118)).cell 5
              have v6 := ((HT.out.alloc (.cells #[.int .i64 x.kind, .int .i64 x.tid.n, .int .i64 x.tid.e, .int .i64 x.tid.s, .slice A1 x.items.length c1, .slice A2 x.nodes.length c2, .int .i64 x.node, .int .i64 x.count, .int .i64 x.num, .int .i64 x.cell, .int .i64 x.st, .int .i64 x.hop, .int .i64 x.ver, .int .i64 x.val, .bool x.yes] 43)).alloc (.cells #[.int .i64 x.node, .int .i64 x.count, .int .i64 x.num, .int .i64 x.cell, .int .i64 x.st, .int .i64 x.hop, .int .i64 x.ver, .int .i64 x.val] 118)).cell 6
              have v7 := ((HT.out.alloc (.cells #[.int .i64 x.kind, .int .i64 x.tid.n, .int .i64 x.tid.e, .int .i64 x.tid.s, .slice A1 x.items.length c1, .slice A2 x.nodes.length c2, .int .i64 x.node, .int .i64 x.count, .int .i64 x.num, .int .i64 x.cell, .int .i64 x.st, .int .i64 x.hop, .int .i64 x.ver, .int .i64 x.val, .bool x.yes] 43)).alloc (.cells #[.int .i64 x.node, .int .i64 x.count, .int .i64 x.num, .int .i64 x.cell, .int .i64 x.st, .int .i64 x.hop, .int .i64 x.ver, .int .i64 x.val] 118)).cell 7
              have v8 := ((HT.out.alloc (.cells #[.int .i64 x.kind, .int .i64 x.tid.n, .int .i64 x.tid.e, .int .i64 x.tid.s, .slice A1 x.items.length c1, .slice A2 x.nodes.length c2, .int .i64 x.node, .int .i64 x.count, .int .i64 x.num, .int .i64 x.cell, .int .i64 x.st, .int .i64 x.hop, .int .i64 x.ver, .int .i64 x.val, .bool x.yes] 43)).alloc (.cells #[.int .i64 x.node, .int .i64 x.count, .int .i64 x.num, .int .i64 x.cell, .int .i64 x.st, .int .i64 x.hop, .int .i64 x.ver, .int .i64 x.val] 118)).cell 8
              have v9 := ((HT.out.alloc (.cells #[.int .i64 x.kind, .int .i64 x.tid.n, .int .i64 x.tid.e, .int .i64 x.tid.s, .slice A1 x.items.length c1, .slice A2 x.nodes.length c2, .int .i64 x.node, .int .i64 x.count, .int .i64 x.num, .int .i64 x.cell, .int .i64 x.st, .int .i64 x.hop, .int .i64 x.ver, .int .i64 x.val, .bool x.yes] 43)).alloc (.cells #[.int .i64 x.node, .int .i64 x.count, .int .i64 x.num, .int .i64 x.cell, .int .i64 x.st, .int .i64 x.hop, .int .i64 x.ver, .int .i64 x.val] 118)).cell 9
              have v10 := ((HT.out.alloc (.cells #[.int .i64 x.kind, .int .i64 x.tid.n, .int .i64 x.tid.e, .int .i64 x.tid.s, .slice A1 x.items.length c1, .slice A2 x.nodes.length c2, .int .i64 x.node, .int .i64 x.count, .int .i64 x.num, .int .i64 x.cell, .int .i64 x.st, .int .i64 x.hop, .int .i64 x.ver, .int .i64 x.val, .bool x.yes] 43)).alloc (.cells #[.int .i64 x.node, .int .i64 x.count, .int .i64 x.num, .int .i64 x.cell, .int .i64 x.st, .int .i64 x.hop, .int .i64 x.ver, .int .i64 x.val] 118)).cell 10
              have v11 := ((HT.out.alloc (.cells #[.int .i64 x.kind, .int .i64 x.tid.n, .int .i64 x.tid.e, .int .i64 x.tid.s, .slice A1 x.items.length c1, .slice A2 x.nodes.length c2, .int .i64 x.node, .int .i64 x.count, .int .i64 x.num, .int .i64 x.cell, .int .i64 x.st, .int .i64 x.hop, .int .i64 x.ver, .int .i64 x.val, .bool x.yes] 43)).alloc (.cells #[.int .i64 x.node, .int .i64 x.count, .int .i64 x.num, .int .i64 x.cell, .int .i64 x.st, .int .i64 x.hop, .int .i64 x.ver, .int .i64 x.val] 118)).cell 11
              have v12 := ((HT.out.alloc (.cells #[.int .i64 x.kind, .int .i64 x.tid.n, .int .i64 x.tid.e, .int .i64 x.tid.s, .slice A1 x.items.length c1, .slice A2 x.nodes.length c2, .int .i64 x.node, .int .i64 x.count, .int .i64 x.num, .int .i64 x.cell, .int .i64 x.st, .int .i64 x.hop, .int .i64 x.ver, .int .i64 x.val, .bool x.yes] 43)).alloc (.cells #[.int .i64 x.node, .int .i64 x.count, .int .i64 x.num, .int .i64 x.cell, .int .i64 x.st, .int .i64 x.hop, .int .i64 x.ver, .int .i64 x.val] 118)).cell 12
              have v13 := ((HT.out.alloc (.cells #[.int .i64 x.kind, .int .i64 x.tid.n, .int .i64 x.tid.e, .int .i64 x.tid.s, .slice A1 x.items.length c1, .slice A2 x.nodes.length c2, .int .i64 x.node, .int .i64 x.count, .int .i64 x.num, .int .i64 x.cell, .int .i64 x.st, .int .i64 x.hop, .int .i64 x.ver, .int .i64 x.val, .bool x.yes] 43)).alloc (.cells #[.int .i64 x.node, .int .i64 x.count, .int .i64 x.num, .int .i64 x.cell, .int .i64 x.st, .int .i64 x.hop, .int .i64 x.ver, .int .i64 x.val] 118)).cell 13
              have v14 := ((HT.out.alloc (.cells #[.int .i64 x.kind, .int .i64 x.tid.n, .int .i64 x.tid.e, .int .i64 x.tid.s, .slice A1 x.items.length c1, .slice A2 x.nodes.length c2, .int .i64 x.node, .int .i64 x.count, .int .i64 x.num, .int .i64 x.cell, .int .i64 x.st, .int .i64 x.hop, .int .i64 x.ver, .int .i64 x.val, .bool x.yes] 43)).alloc (.cells #[.int .i64 x.node, .int .i64 x.count, .int .i64 x.num, .int .i64 x.cell, .int .i64 x.st, .int .i64 x.hop, .int .i64 x.ver, .int .i64 x.val] 118)).cell 14
              simp only [List.getElem?_toArray, List.getElem?_cons_zero, List.getElem?_cons_succ] at v0 v1 v2 v3 v4 v5 v6 v7 v8 v9 v10 v11 v12 v13 v14
              have hq8 := eqA8
              cases g0 : (x.node == r.node)
              · have HE := As.mk (show b = false by rw [← HX.out, X2.out, f1, f2, f3, f4, g0]; rfl)
                go_wp2_with fail
                go_ret
                exact ⟨retB HE.out, gr_alloc HG.out _⟩
              · cases g1 : (x.count == r.count)
                · have HE := As.mk (show b = false by rw [← HX.out, X2.out, f1, f2, f3, f4, g0, g1]; rfl)
                  go_wp2_with fail
                  go_ret
                  exact ⟨retB HE.out, gr_alloc HG.out _⟩
                · cases g2 : (x.num == r.num)
                  · have HE := As.mk (show b = false by rw [← HX.out, X2.out, f1, f2, f3, f4, g0, g1, g2]; rfl)
                    go_wp2_with fail
                    go_ret
                    exact ⟨retB HE.out, gr_alloc HG.out _⟩
                  · cases g3 : (x.cell == r.cell)
                    · have HE := As.mk (show b = false by rw [← HX.out, X2.out, f1, f2, f3, f4, g0, g1, g2, g3]; rfl)
                      go_wp2_with fail
                      go_ret
                      exact ⟨retB HE.out, gr_alloc HG.out _⟩
                    · cases g4 : (x.st == r.st)
                      · have HE := As.mk (show b = false by rw [← HX.out, X2.out, f1, f2, f3, f4, g0, g1, g2, g3, g4]; rfl)
                        go_wp2_with fail
                        go_ret
                        exact ⟨retB HE.out, gr_alloc HG.out _⟩
                      · cases g5 : (x.hop == r.hop)
                        · have HE := As.mk (show b = false by rw [← HX.out, X2.out, f1, f2, f3, f4, g0, g1, g2, g3, g4, g5]; rfl)
                          go_wp2_with fail
                          go_ret
                          exact ⟨retB HE.out, gr_alloc HG.out _⟩
                        · cases g6 : (x.ver == r.ver)
                          · have HE := As.mk (show b = false by rw [← HX.out, X2.out, f1, f2, f3, f4, g0, g1, g2, g3, g4, g5, g6]; rfl)
                            go_wp2_with fail
                            go_ret
                            exact ⟨retB HE.out, gr_alloc HG.out _⟩
                          · cases g7 : (x.val == r.val)
                            · have HE := As.mk (show b = false by rw [← HX.out, X2.out, f1, f2, f3, f4, g0, g1, g2, g3, g4, g5, g6, g7]; rfl)
                              go_wp2_with fail
                              go_ret
                              exact ⟨retB HE.out, gr_alloc HG.out _⟩
                            · have HE := As.mk (show b = true by rw [← HX.out, X2.out, f1, f2, f3, f4, g0, g1, g2, g3, g4, g5, g6, g7]; rfl)
                              go_wp2_with fail
                              go_ret
                              exact ⟨retB HE.out, gr_alloc HG.out _⟩
    · have e2I : ¬ (x.nodes.length : Int) = (r.nodes.length : Int) := by omega
      have e2B : ((x.nodes.length : Int) == (r.nodes.length : Int)) = false := by simpa using e2I
      have e2N : (x.nodes.length == r.nodes.length) = false := by simpa using e2
      have e2D : decide (x.nodes.length = r.nodes.length) = false := decide_eq_false e2
      have e2M : (x.nodes.length != r.nodes.length) = true := by simpa using e2
      have e2P : ((x.nodes.length : Int) != (r.nodes.length : Int)) = true := by simpa using e2I
      have HE := As.mk (show b = false by rw [← HX.out, X1.out, decide_eq_false e2]; rfl)
      go_wp2_with fail
      go_ret
      exact ⟨retB HE.out, HG.out⟩
  · have e1I : ¬ (x.items.length : Int) = (r.items.length : Int) := by omega
    have e1B : ((x.items.length : Int) == (r.items.length : Int)) = false := by simpa using e1I
    have e1N : (x.items.length == r.items.length) = false := by simpa using e1
    have e1D : decide (x.items.length = r.items.length) = false := decide_eq_false e1
    have e1M : (x.items.length != r.items.length) = true := by simpa using e1
    have e1P : ((x.items.length : Int) != (r.items.length : Int)) = true := by simpa using e1I
    have HE := As.mk (show b = false by rw [← HX.out]; unfold bareX; rw [decide_eq_false e1]; rfl)
    go_wp2_with fail
    go_ret
    exact ⟨retB HE.out, HG.out⟩
end Go.Proofs.Ytdmkijdbldcdiaa
