/- The walk of record.Right. (Printed by wip/gen/gen_mh.py.) -/
import Derived.Test.YtdmkijdbldcdiaaMr
namespace Go.Proofs.Ytdmkijdbldcdiaa
open Go.RowKit
set_option linter.unusedVariables false
set_option linter.unusedSimpArgs false
set_option maxRecDepth 100000

set_option maxHeartbeats 6400000 in
theorem recRight_c (w : World) (r : PRec) (AI : Option Addr) (cI : Nat) (AN : Option Addr) (cN : Nat) (hI : Arr ItE 5 w (.slice AI r.items.length cI) r.items) (hIn : Arr IE 1 w (.slice AN r.nodes.length cN) r.nodes) (b : Bool) (hb : rightR r = b) :
    Calls Try.prog 25 #[.agg (reCells r AI cI AN cN)] w fun e w' => e = .returned (.bool b) ∧ w.grownBy w' none := by
  subst hb
  have HG0 := As.mk (gr_alloc (gr_refl w none) (.cells (reCells r AI cI AN cN) 43))
  have HT := As.mk (Blk.new w 43 (reCells r AI cI AN cN))
  have HI := As.mk hI
  have HIN := As.mk hIn
  clear hI hIn
  unfold reCells at *
  go_enter Try.func25, Try.ntmps25
  go_wp2_with fail
  generalize w.alloc (.cells #[.int .i64 r.kind, .int .i64 r.tid.n, .int .i64 r.tid.e, .int .i64 r.tid.s, .slice AI r.items.length cI, .slice AN r.nodes.length cN, .int .i64 r.node, .int .i64 r.count, .int .i64 r.num, .int .i64 r.cell, .int .i64 r.st, .int .i64 r.hop, .int .i64 r.ver, .int .i64 r.val, .bool r.yes] 43) = W at *
  generalize w.heap.size = gt at *
  refine (bare_c _ r AI cI AN cN _ rfl).mono ?_
  rintro e w1 ⟨rfl, hg1⟩
  have HG1 := As.mk hg1
  replace HT := As.mk (HT.out.grown hg1 (by simp))
  clear hg1
  cases hbr : bareB r
  · have HE := As.mk (show rightR r = false by unfold rightR; rw [hbr]; rfl)
    go_wp2_with fail
    go_ret
    exact ⟨retB HE.out, gr_then HG0.out HG1.out (.inl rfl)⟩
  · cases hk1 : (r.kind == 1)
    · cases hk2 : (r.kind == 2)
      · cases hk3 : (r.kind == 3)
        · cases hk4 : (r.kind == 4)
          · cases hk5 : (r.kind == 5)
            · cases hk6 : (r.kind == 6)
              · cases hk7 : (r.kind == 7)
                · cases hk11 : (r.kind == 11)
                  · cases hk8 : (r.kind == 8)
                    · cases hk9 : (r.kind == 9)
                      · cases hk10 : (r.kind == 10)
                        · obtain ⟨t0, t1, t2, t3, t4, t5, t6, t7, t8, t9, t10, t11, t12, t13, t14⟩ := (HT.out).c15
                          have HE := As.mk (show rightR r = (r.kind == 12) by unfold rightR rightK; simp only [hbr, hk1, hk2, hk3, hk4, hk5, hk6, hk7, hk11, hk8, hk9, hk10, Bool.true_and, Bool.false_and, Bool.true_or, Bool.false_or, Bool.and_true, Bool.and_false, Bool.false_eq_true, if_true, if_false])
                          cases hk12 : (r.kind == 12)
                          · replace HE := As.mk (HE.out.trans hk12)
                            go_wp2_with fail
                            go_ret
                            exact ⟨retB HE.out, gr_then HG0.out HG1.out (.inl rfl)⟩
                          · replace HE := As.mk (HE.out.trans hk12)
                            go_wp2_with fail
                            go_ret
                            exact ⟨retB HE.out, gr_then HG0.out HG1.out (.inl rfl)⟩
                        · obtain ⟨t0, t1, t2, t3, t4, t5, t6, t7, t8, t9, t10, t11, t12, t13, t14⟩ := (HT.out).c15
                          go_wp2_with fail
                          clear t0 t1 t2 t3 t4 t5 t6 t7 t8 t9 t10 t11 t12 t13 t14
                          refine (placed_c _ r AI cI AN cN 1 _ rfl).mono ?_
                          rintro e w1 ⟨rfl, hg1⟩
                          replace HT := As.mk (HT.out.grown hg1 (by simp))
                          replace HG1 := As.mk (gr_then HG1.out hg1 (.inl rfl))
                          clear hg1
                          have HE := As.mk (show rightR r = placedB r 1 by unfold rightR rightK; simp only [hbr, hk1, hk2, hk3, hk4, hk5, hk6, hk7, hk11, hk8, hk9, hk10, Bool.true_and, Bool.false_and, Bool.true_or, Bool.false_or, Bool.and_true, Bool.and_false, Bool.false_eq_true, if_true, if_false])
                          go_wp2_with fail
                          go_ret
                          exact ⟨retB HE.out, gr_then HG0.out HG1.out (.inl rfl)⟩
                      · obtain ⟨t0, t1, t2, t3, t4, t5, t6, t7, t8, t9, t10, t11, t12, t13, t14⟩ := (HT.out).c15
                        go_wp2_with fail
                        clear t0 t1 t2 t3 t4 t5 t6 t7 t8 t9 t10 t11 t12 t13 t14
                        refine (placed_c _ r AI cI AN cN 1 _ rfl).mono ?_
                        rintro e w1 ⟨rfl, hg1⟩
                        replace HT := As.mk (HT.out.grown hg1 (by simp))
                        replace HG1 := As.mk (gr_then HG1.out hg1 (.inl rfl))
                        clear hg1
                        cases h0 : placedB r 1
                        · have HE := As.mk (show rightR r = false by unfold rightR rightK; simp only [hbr, hk1, hk2, hk3, hk4, hk5, hk6, hk7, hk11, hk8, hk9, h0, Bool.true_and, Bool.false_and, Bool.true_or, Bool.false_or, Bool.and_true, Bool.and_false, Bool.false_eq_true, if_true, if_false])
                          go_wp2_with fail
                          go_ret
                          exact ⟨retB HE.out, gr_then HG0.out HG1.out (.inl rfl)⟩
                        · obtain ⟨t0, t1, t2, t3, t4, t5, t6, t7, t8, t9, t10, t11, t12, t13, t14⟩ := (HT.out).c15
                          go_wp2_with fail
                          clear t0 t1 t2 t3 t4 t5 t6 t7 t8 t9 t10 t11 t12 t13 t14
                          refine (rin_c _ r.ver 0 1099511627776 _ rfl).mono ?_
                          rintro e w1 ⟨rfl, rfl⟩
                          have HE := As.mk (show rightR r = inR r.ver 0 1099511627776 by unfold rightR rightK; simp only [hbr, hk1, hk2, hk3, hk4, hk5, hk6, hk7, hk11, hk8, hk9, h0, Bool.true_and, Bool.false_and, Bool.true_or, Bool.false_or, Bool.and_true, Bool.and_false, Bool.false_eq_true, if_true, if_false])
                          go_wp2_with fail
                          go_ret
                          exact ⟨retB HE.out, gr_then HG0.out HG1.out (.inl rfl)⟩
                    · obtain ⟨t0, t1, t2, t3, t4, t5, t6, t7, t8, t9, t10, t11, t12, t13, t14⟩ := (HT.out).c15
                      go_wp2_with fail
                      clear t0 t1 t2 t3 t4 t5 t6 t7 t8 t9 t10 t11 t12 t13 t14
                      refine (placed_c _ r AI cI AN cN 1 _ rfl).mono ?_
                      rintro e w1 ⟨rfl, hg1⟩
                      replace HT := As.mk (HT.out.grown hg1 (by simp))
                      replace HG1 := As.mk (gr_then HG1.out hg1 (.inl rfl))
                      clear hg1
                      cases h0 : placedB r 1
                      · have HE := As.mk (show rightR r = false by unfold rightR rightK; simp only [hbr, hk1, hk2, hk3, hk4, hk5, hk6, hk7, hk11, hk8, h0, Bool.true_and, Bool.false_and, Bool.true_or, Bool.false_or, Bool.and_true, Bool.and_false, Bool.false_eq_true, if_true, if_false])
                        go_wp2_with fail
                        go_ret
                        exact ⟨retB HE.out, gr_then HG0.out HG1.out (.inl rfl)⟩
                      · obtain ⟨t0, t1, t2, t3, t4, t5, t6, t7, t8, t9, t10, t11, t12, t13, t14⟩ := (HT.out).c15
                        go_wp2_with fail
                        clear t0 t1 t2 t3 t4 t5 t6 t7 t8 t9 t10 t11 t12 t13 t14
                        refine (rin_c _ r.node 1 16 _ rfl).mono ?_
                        rintro e w1 ⟨rfl, rfl⟩
                        have HE := As.mk (show rightR r = inR r.node 1 16 by unfold rightR rightK; simp only [hbr, hk1, hk2, hk3, hk4, hk5, hk6, hk7, hk11, hk8, h0, Bool.true_and, Bool.false_and, Bool.true_or, Bool.false_or, Bool.and_true, Bool.and_false, Bool.false_eq_true, if_true, if_false])
                        go_wp2_with fail
                        go_ret
                        exact ⟨retB HE.out, gr_then HG0.out HG1.out (.inl rfl)⟩
                  · obtain ⟨t0, t1, t2, t3, t4, t5, t6, t7, t8, t9, t10, t11, t12, t13, t14⟩ := (HT.out).c15
                    go_wp2_with fail
                    clear t0 t1 t2 t3 t4 t5 t6 t7 t8 t9 t10 t11 t12 t13 t14
                    refine (rightTid_c _ r.tid _ rfl).mono ?_
                    rintro e w1 ⟨rfl, hg1⟩
                    replace HT := As.mk (HT.out.grown hg1 (by simp))
                    replace HG1 := As.mk (gr_then HG1.out hg1 (.inl rfl))
                    clear hg1
                    have HE := As.mk (show rightR r = tidOk r.tid by unfold rightR rightK; simp only [hbr, hk1, hk2, hk3, hk4, hk5, hk6, hk7, hk11, Bool.true_and, Bool.false_and, Bool.true_or, Bool.false_or, Bool.and_true, Bool.and_false, Bool.false_eq_true, if_true, if_false])
                    go_wp2_with fail
                    go_ret
                    exact ⟨retB HE.out, gr_then HG0.out HG1.out (.inl rfl)⟩
                · obtain ⟨t0, t1, t2, t3, t4, t5, t6, t7, t8, t9, t10, t11, t12, t13, t14⟩ := (HT.out).c15
                  go_wp2_with fail
                  clear t0 t1 t2 t3 t4 t5 t6 t7 t8 t9 t10 t11 t12 t13 t14
                  refine (rightTid_c _ r.tid _ rfl).mono ?_
                  rintro e w1 ⟨rfl, hg1⟩
                  replace HT := As.mk (HT.out.grown hg1 (by simp))
                  replace HG1 := As.mk (gr_then HG1.out hg1 (.inl rfl))
                  clear hg1
                  have HE := As.mk (show rightR r = tidOk r.tid by unfold rightR rightK; simp only [hbr, hk1, hk2, hk3, hk4, hk5, hk6, hk7, Bool.true_and, Bool.false_and, Bool.true_or, Bool.false_or, Bool.and_true, Bool.and_false, Bool.false_eq_true, if_true, if_false])
                  go_wp2_with fail
                  go_ret
                  exact ⟨retB HE.out, gr_then HG0.out HG1.out (.inl rfl)⟩
              · obtain ⟨t0, t1, t2, t3, t4, t5, t6, t7, t8, t9, t10, t11, t12, t13, t14⟩ := (HT.out).c15
                go_wp2_with fail
                clear t0 t1 t2 t3 t4 t5 t6 t7 t8 t9 t10 t11 t12 t13 t14
                refine (rightTid_c _ r.tid _ rfl).mono ?_
                rintro e w1 ⟨rfl, hg1⟩
                replace HT := As.mk (HT.out.grown hg1 (by simp))
                replace HG1 := As.mk (gr_then HG1.out hg1 (.inl rfl))
                clear hg1
                have HE := As.mk (show rightR r = tidOk r.tid by unfold rightR rightK; simp only [hbr, hk1, hk2, hk3, hk4, hk5, hk6, Bool.true_and, Bool.false_and, Bool.true_or, Bool.false_or, Bool.and_true, Bool.and_false, Bool.false_eq_true, if_true, if_false])
                go_wp2_with fail
                go_ret
                exact ⟨retB HE.out, gr_then HG0.out HG1.out (.inl rfl)⟩
            · obtain ⟨t0, t1, t2, t3, t4, t5, t6, t7, t8, t9, t10, t11, t12, t13, t14⟩ := (HT.out).c15
              go_wp2_with fail
              clear t0 t1 t2 t3 t4 t5 t6 t7 t8 t9 t10 t11 t12 t13 t14
              refine (rightTid_c _ r.tid _ rfl).mono ?_
              rintro e w1 ⟨rfl, hg1⟩
              replace HT := As.mk (HT.out.grown hg1 (by simp))
              replace HG1 := As.mk (gr_then HG1.out hg1 (.inl rfl))
              clear hg1
              cases h0 : tidOk r.tid
              · have HE := As.mk (show rightR r = false by unfold rightR rightK; simp only [hbr, hk1, hk2, hk3, hk4, hk5, h0, Bool.true_and, Bool.false_and, Bool.true_or, Bool.false_or, Bool.and_true, Bool.and_false, Bool.false_eq_true, if_true, if_false])
                go_wp2_with fail
                go_ret
                exact ⟨retB HE.out, gr_then HG0.out HG1.out (.inl rfl)⟩
              · by_cases hz : r.items.length = 0
                · have z1 : ((r.items.length : Int) == 0) = true := by simp [hz]
                  have z2 : (r.items.length == 0) = true := by simp [hz]
                  have z3 : decide (r.items.length = 0) = true := by simp [hz]
                  have z4 : r.items.isEmpty = true := by cases hq : r.items <;> simp_all
                  have z5 : decide ((r.items.length : Int) = 0) = true := by simp [hz]
                  have HZ := As.mk hz
                  have HZ0 : r.items = [] := List.eq_nil_of_length_eq_zero hz
                  have HZ1 := As.mk HZ0
                  clear hz HZ0
                  obtain ⟨t0, t1, t2, t3, t4, t5, t6, t7, t8, t9, t10, t11, t12, t13, t14⟩ := (HT.out).c15
                  go_wp2_with fail
                  clear t0 t1 t2 t3 t4 t5 t6 t7 t8 t9 t10 t11 t12 t13 t14
                  refine (rightNodes_c _ _ r.nodes (HIN.out.below (gr_then HG0.out HG1.out (.inl rfl)) (fun _ _ h => h)) _ rfl).mono ?_
                  rintro e w1 ⟨rfl, hg1⟩
                  replace HT := As.mk (HT.out.grown hg1 (by simp))
                  replace HG1 := As.mk (gr_then HG1.out hg1 (.inl rfl))
                  clear hg1
                  have HE := As.mk (show rightR r = nodesOk r.nodes by unfold rightR rightK; simp only [hbr, hk1, hk2, hk3, hk4, hk5, h0, decide_eq_true HZ.out, Bool.true_and, Bool.false_and, Bool.true_or, Bool.false_or, Bool.and_true, Bool.and_false, Bool.false_eq_true, if_true, if_false])
                  go_wp2_with fail
                  go_ret
                  exact ⟨retB HE.out, gr_then HG0.out HG1.out (.inl rfl)⟩
                · have z1 : ((r.items.length : Int) == 0) = false := by simp [hz]
                  have z2 : (r.items.length == 0) = false := by simp [hz]
                  have z3 : decide (r.items.length = 0) = false := by simp [hz]
                  have z4 : r.items.isEmpty = false := by cases hq : r.items <;> simp_all
                  have z5 : decide ((r.items.length : Int) = 0) = false := by simp [hz]
                  have HZ := As.mk hz
                  clear hz
                  obtain ⟨t0, t1, t2, t3, t4, t5, t6, t7, t8, t9, t10, t11, t12, t13, t14⟩ := (HT.out).c15
                  go_wp2_with fail
                  clear t0 t1 t2 t3 t4 t5 t6 t7 t8 t9 t10 t11 t12 t13 t14
                  refine (rightItems_c _ _ r.items (HI.out.below (gr_then HG0.out HG1.out (.inl rfl)) (fun _ _ h => h)) _ rfl).mono ?_
                  rintro e w1 ⟨rfl, hg1⟩
                  replace HT := As.mk (HT.out.grown hg1 (by simp))
                  replace HG1 := As.mk (gr_then HG1.out hg1 (.inl rfl))
                  clear hg1
                  cases h1 : itemsOk r.items
                  · have HE := As.mk (show rightR r = false by unfold rightR rightK; simp only [hbr, hk1, hk2, hk3, hk4, hk5, h0, decide_eq_false HZ.out, h1, Bool.true_and, Bool.false_and, Bool.true_or, Bool.false_or, Bool.and_true, Bool.and_false, Bool.false_eq_true, if_true, if_false])
                    go_wp2_with fail
                    go_ret
                    exact ⟨retB HE.out, gr_then HG0.out HG1.out (.inl rfl)⟩
                  · obtain ⟨t0, t1, t2, t3, t4, t5, t6, t7, t8, t9, t10, t11, t12, t13, t14⟩ := (HT.out).c15
                    go_wp2_with fail
                    clear t0 t1 t2 t3 t4 t5 t6 t7 t8 t9 t10 t11 t12 t13 t14
                    refine (rightNodes_c _ _ r.nodes (HIN.out.below (gr_then HG0.out HG1.out (.inl rfl)) (fun _ _ h => h)) _ rfl).mono ?_
                    rintro e w1 ⟨rfl, hg1⟩
                    replace HT := As.mk (HT.out.grown hg1 (by simp))
                    replace HG1 := As.mk (gr_then HG1.out hg1 (.inl rfl))
                    clear hg1
                    have HE := As.mk (show rightR r = nodesOk r.nodes by unfold rightR rightK; simp only [hbr, hk1, hk2, hk3, hk4, hk5, h0, decide_eq_false HZ.out, h1, Bool.true_and, Bool.false_and, Bool.true_or, Bool.false_or, Bool.and_true, Bool.and_false, Bool.false_eq_true, if_true, if_false])
                    go_wp2_with fail
                    go_ret
                    exact ⟨retB HE.out, gr_then HG0.out HG1.out (.inl rfl)⟩
          · obtain ⟨t0, t1, t2, t3, t4, t5, t6, t7, t8, t9, t10, t11, t12, t13, t14⟩ := (HT.out).c15
            go_wp2_with fail
            clear t0 t1 t2 t3 t4 t5 t6 t7 t8 t9 t10 t11 t12 t13 t14
            refine (rightTid_c _ r.tid _ rfl).mono ?_
            rintro e w1 ⟨rfl, hg1⟩
            replace HT := As.mk (HT.out.grown hg1 (by simp))
            replace HG1 := As.mk (gr_then HG1.out hg1 (.inl rfl))
            clear hg1
            cases h0 : tidOk r.tid
            · have HE := As.mk (show rightR r = false by unfold rightR rightK; simp only [hbr, hk1, hk2, hk3, hk4, h0, Bool.true_and, Bool.false_and, Bool.true_or, Bool.false_or, Bool.and_true, Bool.and_false, Bool.false_eq_true, if_true, if_false])
              go_wp2_with fail
              go_ret
              exact ⟨retB HE.out, gr_then HG0.out HG1.out (.inl rfl)⟩
            · obtain ⟨t0, t1, t2, t3, t4, t5, t6, t7, t8, t9, t10, t11, t12, t13, t14⟩ := (HT.out).c15
              go_wp2_with fail
              clear t0 t1 t2 t3 t4 t5 t6 t7 t8 t9 t10 t11 t12 t13 t14
              refine (rightItems_c _ _ r.items (HI.out.below (gr_then HG0.out HG1.out (.inl rfl)) (fun _ _ h => h)) _ rfl).mono ?_
              rintro e w1 ⟨rfl, hg1⟩
              replace HT := As.mk (HT.out.grown hg1 (by simp))
              replace HG1 := As.mk (gr_then HG1.out hg1 (.inl rfl))
              clear hg1
              cases h1 : itemsOk r.items
              · have HE := As.mk (show rightR r = false by unfold rightR rightK; simp only [hbr, hk1, hk2, hk3, hk4, h0, h1, Bool.true_and, Bool.false_and, Bool.true_or, Bool.false_or, Bool.and_true, Bool.and_false, Bool.false_eq_true, if_true, if_false])
                go_wp2_with fail
                go_ret
                exact ⟨retB HE.out, gr_then HG0.out HG1.out (.inl rfl)⟩
              · obtain ⟨t0, t1, t2, t3, t4, t5, t6, t7, t8, t9, t10, t11, t12, t13, t14⟩ := (HT.out).c15
                go_wp2_with fail
                clear t0 t1 t2 t3 t4 t5 t6 t7 t8 t9 t10 t11 t12 t13 t14
                refine (rightNodes_c _ _ r.nodes (HIN.out.below (gr_then HG0.out HG1.out (.inl rfl)) (fun _ _ h => h)) _ rfl).mono ?_
                rintro e w1 ⟨rfl, hg1⟩
                replace HT := As.mk (HT.out.grown hg1 (by simp))
                replace HG1 := As.mk (gr_then HG1.out hg1 (.inl rfl))
                clear hg1
                have HE := As.mk (show rightR r = nodesOk r.nodes by unfold rightR rightK; simp only [hbr, hk1, hk2, hk3, hk4, h0, h1, Bool.true_and, Bool.false_and, Bool.true_or, Bool.false_or, Bool.and_true, Bool.and_false, Bool.false_eq_true, if_true, if_false])
                go_wp2_with fail
                go_ret
                exact ⟨retB HE.out, gr_then HG0.out HG1.out (.inl rfl)⟩
        · obtain ⟨t0, t1, t2, t3, t4, t5, t6, t7, t8, t9, t10, t11, t12, t13, t14⟩ := (HT.out).c15
          go_wp2_with fail
          clear t0 t1 t2 t3 t4 t5 t6 t7 t8 t9 t10 t11 t12 t13 t14
          refine (rightCell_c _ r AI cI AN cN _ rfl).mono ?_
          rintro e w1 ⟨rfl, hg1⟩
          replace HT := As.mk (HT.out.grown hg1 (by simp))
          replace HG1 := As.mk (gr_then HG1.out hg1 (.inl rfl))
          clear hg1
          have HE := As.mk (show rightR r = rcellB r by unfold rightR rightK; simp only [hbr, hk1, hk2, hk3, Bool.true_and, Bool.false_and, Bool.true_or, Bool.false_or, Bool.and_true, Bool.and_false, Bool.false_eq_true, if_true, if_false])
          go_wp2_with fail
          go_ret
          exact ⟨retB HE.out, gr_then HG0.out HG1.out (.inl rfl)⟩
      · obtain ⟨t0, t1, t2, t3, t4, t5, t6, t7, t8, t9, t10, t11, t12, t13, t14⟩ := (HT.out).c15
        go_wp2_with fail
        clear t0 t1 t2 t3 t4 t5 t6 t7 t8 t9 t10 t11 t12 t13 t14
        refine (rin_c _ r.num 1 1099511627776 _ rfl).mono ?_
        rintro e w1 ⟨rfl, rfl⟩
        have HE := As.mk (show rightR r = inR r.num 1 1099511627776 by unfold rightR rightK; simp only [hbr, hk1, hk2, Bool.true_and, Bool.false_and, Bool.true_or, Bool.false_or, Bool.and_true, Bool.and_false, Bool.false_eq_true, if_true, if_false])
        go_wp2_with fail
        go_ret
        exact ⟨retB HE.out, gr_then HG0.out HG1.out (.inl rfl)⟩
    · obtain ⟨t0, t1, t2, t3, t4, t5, t6, t7, t8, t9, t10, t11, t12, t13, t14⟩ := (HT.out).c15
      go_wp2_with fail
      clear t0 t1 t2 t3 t4 t5 t6 t7 t8 t9 t10 t11 t12 t13 t14
      refine (rin_c _ r.count 1 16 _ rfl).mono ?_
      rintro e w1 ⟨rfl, rfl⟩
      cases h0 : inR r.count 1 16
      · have HE := As.mk (show rightR r = false by unfold rightR rightK; simp only [hbr, hk1, h0, Bool.true_and, Bool.false_and, Bool.true_or, Bool.false_or, Bool.and_true, Bool.and_false, Bool.false_eq_true, if_true, if_false])
        go_wp2_with fail
        go_ret
        exact ⟨retB HE.out, gr_then HG0.out HG1.out (.inl rfl)⟩
      · obtain ⟨t0, t1, t2, t3, t4, t5, t6, t7, t8, t9, t10, t11, t12, t13, t14⟩ := (HT.out).c15
        go_wp2_with fail
        clear t0 t1 t2 t3 t4 t5 t6 t7 t8 t9 t10 t11 t12 t13 t14
        refine (rin_c _ r.node 1 r.count _ rfl).mono ?_
        rintro e w1 ⟨rfl, rfl⟩
        cases h1 : inR r.node 1 r.count
        · have HE := As.mk (show rightR r = false by unfold rightR rightK; simp only [hbr, hk1, h0, h1, Bool.true_and, Bool.false_and, Bool.true_or, Bool.false_or, Bool.and_true, Bool.and_false, Bool.false_eq_true, if_true, if_false])
          go_wp2_with fail
          go_ret
          exact ⟨retB HE.out, gr_then HG0.out HG1.out (.inl rfl)⟩
        · obtain ⟨t0, t1, t2, t3, t4, t5, t6, t7, t8, t9, t10, t11, t12, t13, t14⟩ := (HT.out).c15
          go_wp2_with fail
          clear t0 t1 t2 t3 t4 t5 t6 t7 t8 t9 t10 t11 t12 t13 t14
          refine (rin_c _ r.num 1 16 _ rfl).mono ?_
          rintro e w1 ⟨rfl, rfl⟩
          have HE := As.mk (show rightR r = inR r.num 1 16 by unfold rightR rightK; simp only [hbr, hk1, h0, h1, Bool.true_and, Bool.false_and, Bool.true_or, Bool.false_or, Bool.and_true, Bool.and_false, Bool.false_eq_true, if_true, if_false])
          go_wp2_with fail
          go_ret
          exact ⟨retB HE.out, gr_then HG0.out HG1.out (.inl rfl)⟩
end Go.Proofs.Ytdmkijdbldcdiaa
