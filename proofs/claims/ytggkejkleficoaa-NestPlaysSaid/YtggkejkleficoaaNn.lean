/- A nest that isn't there; the law's example; the law NestNone. -/
import Derived.Test.YtggkejkleficoaaNd
namespace Go.Proofs.Ytggkejkleficoaa
open Go.RowKit Go.Maps
set_option linter.unusedVariables false
attribute [local go_sem] Oper.semAt_some

def doN (k : Int) : Int := if k = 0 ∨ k = 1 ∨ k = 2 ∨ k = 3 ∨ k = 4 then 1 else 0
set_option maxRecDepth 100000 in
theorem items_n (w : World) : Calls Try.prog 23 #[.pointer none] w fun e w' => e = .returned (.slice none 0 0) ∧ w' = w := by
  go_enter Try.func23, Try.ntmps23
  go_wp2_with fail
  go_ret
  exact ⟨rfl, rfl⟩
set_option maxRecDepth 100000 in
set_option maxHeartbeats 3200000 in
theorem does_n (w : World) (o : PNo) :
    Calls Try.prog 9 #[.pointer none, noV o] w fun e w' => e = .returned (.int .i64 (doN o.k)) ∧ w.grownBy w' none := by
  obtain ⟨k, c, ver, a⟩ := o
  show Calls Try.prog 9 #[.pointer none, .agg #[.int .i64 k, .int .i64 c, .int .i64 ver, .int .i64 a]] w _
  by_cases k0 : k = 0
  · subst k0
    go_enter Try.func9, Try.ntmps9
    go_wp2_with fail
    refine (saw_n _ c ver a).mono ?_
    rintro e w1 ⟨rfl, rfl⟩
    go_wp2_with fail
    go_ret
    exact ⟨rfl, gr_alloc (gr_refl _ _) _⟩
  · have kb0 : (k == 0) = false := by rw [beq_eq_false_iff_ne]; exact k0
    by_cases k1 : k = 1
    · subst k1
      go_enter Try.func9, Try.ntmps9
      go_wp2_with fail
      refine (write_n _ c a).mono ?_
      rintro e w1 ⟨rfl, rfl⟩
      go_wp2_with fail
      go_ret
      exact ⟨rfl, gr_alloc (gr_refl _ _) _⟩
    · have kb1 : (k == 1) = false := by rw [beq_eq_false_iff_ne]; exact k1
      by_cases k2 : k = 2
      · subst k2
        go_enter Try.func9, Try.ntmps9
        go_wp2_with fail
        refine (begin_n _).mono ?_
        rintro e w1 ⟨rfl, rfl⟩
        go_wp2_with fail
        go_ret
        exact ⟨rfl, gr_alloc (gr_refl _ _) _⟩
      · have kb2 : (k == 2) = false := by rw [beq_eq_false_iff_ne]; exact k2
        by_cases k3 : k = 3
        · subst k3
          go_enter Try.func9, Try.ntmps9
          go_wp2_with fail
          refine (undo_n _).mono ?_
          rintro e w1 ⟨rfl, rfl⟩
          go_wp2_with fail
          go_ret
          exact ⟨rfl, gr_alloc (gr_refl _ _) _⟩
        · have kb3 : (k == 3) = false := by rw [beq_eq_false_iff_ne]; exact k3
          by_cases k4 : k = 4
          · subst k4
            go_enter Try.func9, Try.ntmps9
            go_wp2_with fail
            refine (merge_n _).mono ?_
            rintro e w1 ⟨rfl, rfl⟩
            go_wp2_with fail
            go_ret
            exact ⟨rfl, gr_alloc (gr_refl _ _) _⟩
          · have kb4 : (k == 4) = false := by rw [beq_eq_false_iff_ne]; exact k4
            have HE := As.mk (show doN k = 0 by simp [doN, k0, k1, k2, k3, k4])
            clear k0 k1 k2 k3 k4
            go_enter Try.func9, Try.ntmps9
            go_wp2_with fail
            go_ret
            exact ⟨by rw [HE.out]; rfl, gr_alloc (gr_refl _ _) _⟩
abbrev aR0 : Rd := (0, fun _ => none)
abbrev aL0 : Lv := [(0, fun _ => none)]
set_option maxRecDepth 100000 in
set_option maxHeartbeats 6400000 in
theorem nawake_c (w : World) : Calls Try.prog 7 #[] w fun e w' => e = .returned (.bool true) ∧ w.grownBy w' none := by
  obtain ⟨base, hbase⟩ : ∃ b, b = w.heap.size := ⟨_, rfl⟩
  have e1 : sawE aR0 3 7 = 0 := rfl
  have er : ∃ rd, sawR aR0 3 7 5 = rd ∧ rd.1 = 1 ∧ rd.2 3 = some (7, 5) := ⟨_, rfl, rfl, rfl⟩
  obtain ⟨rd, e2, e3, e4⟩ := er
  have e5 : begE aL0 = 0 := rfl
  have el : ∃ lv, begL aL0 = lv ∧ lv = [(0, fun _ => none), (0, fun _ => none)] := ⟨_, rfl, rfl⟩
  obtain ⟨lv, e6, e7⟩ := el
  have e8 : wriE rd 3 = 0 := by unfold wriE; rw [e4]; rfl
  obtain ⟨lv2, e9⟩ : ∃ l, wriL rd lv 3 6 = l := ⟨_, rfl⟩
  have e10 : lv2.length = 2 ∧ valF rd lv2 3 = some 6 ∧ valF rd (undL lv2) 3 = some 5 ∧ (undL lv2).length = 1 := by
    have : lv2 = [(0, fun _ => none), (1, updF (fun _ => none) 3 6)] := by
      rw [← e9, e7]
      unfold wriL
      rw [if_pos e8]
      rfl
    rw [this]
    refine ⟨rfl, ?_, ?_, rfl⟩
    · unfold valF; rw [e4]; rfl
    · unfold valF; rw [e4]; rfl
  have E := As.mk (And.intro e1 (And.intro e2 (And.intro e3 (And.intro e5 (And.intro e6 (And.intro e7 (And.intro e8 (And.intro e9 e10))))))))
  have HB := As.mk hbase
  clear e1 e2 e3 e4 e5 e6 e7 e8 e9 e10 hbase
  go_enter Try.func7, Try.ntmps7
  go_wp2_with fail
  refine (new_c _).mono ?_
  rintro e w1 ⟨⟨nb, F, rfl, hN⟩, hg⟩
  have H1 := As.mk (And.intro hN (And.intro hg hN.fp))
  clear hN hg
  go_wp2_with fail
  refine (saw_c H1.out.1 3 7 5 (by constructor <;> decide) (by decide)).mono ?_
  rintro e w2 ⟨rfl, hN, hG⟩
  rw [E.out.1]
  rw [E.out.2.1] at hN
  have H2 := As.mk (And.intro hN hG)
  clear hN hG
  go_wp2_with fail
  refine (begin_c H2.out.1 (by have := H1.out.2.1.size; have := H2.out.2.size; omega) (by decide)).mono ?_
  rintro e w3 ⟨rfl, F3, hN, hG⟩
  rw [E.out.2.2.2.1]
  rw [E.out.2.2.2.2.1] at hN
  have H3 := As.mk (And.intro hN (H2.out.2.trans hG))
  clear hN hG H2
  go_wp2_with fail
  refine (write_c H3.out.1 (by rw [E.out.2.2.2.2.2.1]; decide) (by rw [E.out.2.2.2.2.2.1]; decide) (by rw [E.out.2.2.2.2.2.1]; intro p hp; simp at hp; subst hp; decide) 3 6 (by constructor <;> decide) (by constructor <;> decide)).mono ?_
  rintro e w4 ⟨rfl, hN, hG⟩
  rw [E.out.2.2.2.2.2.2.1]
  rw [E.out.2.2.2.2.2.2.2.1] at hN
  have H4 := As.mk (And.intro hN (H3.out.2.trans hG))
  clear hN hG H3
  go_wp2_with fail
  refine (value_c H4.out.1 (by rw [E.out.2.2.2.2.2.2.2.2.1]; decide) (by rw [E.out.2.2.2.2.2.2.2.2.1]; decide) 3 (by constructor <;> decide) _ E.out.2.2.2.2.2.2.2.2.2.1).mono ?_
  rintro e w5 ⟨rfl, g5⟩
  have H5 := As.mk (And.intro (H4.out.1.gr g5 (by simp)) (H4.out.2.trans (NG.ofgr g5 (by simp))))
  clear g5
  dsimp only [Option.getD_some, Option.isSome_some]
  go_wp2_with fail
  refine (undo_c H5.out.1 (by rw [E.out.2.2.2.2.2.2.2.2.1]; decide) (by rw [E.out.2.2.2.2.2.2.2.2.1]; decide)).mono ?_
  rintro e w6 ⟨rfl, F6, hN, hG⟩
  have H6 := As.mk (And.intro hN (H5.out.2.trans hG))
  clear hN hG H5 H4
  go_wp2_with fail
  refine (value_c H6.out.1 (by rw [E.out.2.2.2.2.2.2.2.2.2.2.2]; decide) (by rw [E.out.2.2.2.2.2.2.2.2.2.2.2]; decide) 3 (by constructor <;> decide) _ E.out.2.2.2.2.2.2.2.2.2.2.1).mono ?_
  rintro e w7 ⟨rfl, g7⟩
  have H7 := As.mk (H6.out.2.trans (NG.ofgr g7 (by simp)))
  clear g7
  dsimp only [Option.getD_some, Option.isSome_some]
  go_wp2_with fail
  go_ret
  refine ⟨rfl, H7.out.gr H1.out.2.1 (fun k hk => (H1.out.2.2 k hk).1)⟩
set_option maxRecDepth 100000 in
set_option maxHeartbeats 6400000 in
theorem nn_walk (k c ver a : Int) (w : World) : Calls Try.prog 5 #[.agg #[.int .i64 k, .int .i64 c, .int .i64 ver, .int .i64 a]] w fun e w' => e = .returned (.bool true) ∧ w.grownBy w' none := by
  obtain ⟨wb, hwb⟩ : ∃ x, x = w.alloc (.cells #[.int .i64 k, .int .i64 c, .int .i64 ver, .int .i64 a] 27) := ⟨_, rfl⟩
  have HW := As.mk hwb
  have GB := As.mk (show w.grownBy wb none by rw [hwb]; exact gr_alloc (gr_refl _ _) _)
  have BB := As.mk (show Blk wb w.heap.size 27 #[.int .i64 k, .int .i64 c, .int .i64 ver, .int .i64 a] by rw [hwb]; exact Blk.new w _ _)
  have hd : doN k = 1 ∧ (k = 0 ∨ k = 1 ∨ k = 2 ∨ k = 3 ∨ k = 4) ∨ doN k = 0 ∧ k < 0 ∨ doN k = 0 ∧ 0 ≤ k ∧ 4 < k := by
    unfold doN
    split
    · omega
    · omega
  clear hwb
  rcases hd with ⟨h1, h2⟩ | ⟨h1, h2⟩ | ⟨h1, h2, h3⟩
  · have HD := As.mk h1
    clear h1 h2
    go_enter Try.func5, Try.ntmps5
    go_wp2_with fail
    rw [← HW.out]
    refine (nawake_c _).mono ?_
    rintro e w1 ⟨rfl, g1⟩
    have B1 := BB.out.grown g1 (by simp)
    have c0 := B1.cell 0
    have c1 := B1.cell 1
    have c2 := B1.cell 2
    have c3 := B1.cell 3
    have H1 := As.mk (And.intro B1 (GB.out.trans g1))
    clear B1 g1
    go_wp2_with fail
    refine (value_n _ c).mono ?_
    rintro e w2 ⟨rfl, rfl⟩
    go_wp2_with fail
    refine (does_n _ ⟨k, c, ver, a⟩).mono ?_
    rintro e w3 ⟨rfl, g3⟩
    rw [HD.out]
    have B3 := H1.out.1.grown g3 (by simp)
    have d0 := B3.cell 0
    have d1 := B3.cell 1
    have H3 := As.mk (H1.out.2.trans g3)
    clear B3 g3 c0 c1 c2 c3
    go_wp2_with fail
    refine (has_n _ c).mono ?_
    rintro e w4 ⟨rfl, rfl⟩
    go_wp2_with fail
    refine (levels_n _).mono ?_
    rintro e w5 ⟨rfl, rfl⟩
    go_wp2_with fail
    refine (items_n _).mono ?_
    rintro e w6 ⟨rfl, rfl⟩
    go_wp2_with fail
    go_ret
    exact ⟨rfl, H3.out⟩
  · have HD := As.mk h1
    clear h1
    go_enter Try.func5, Try.ntmps5
    go_wp2_with fail
    rw [← HW.out]
    refine (nawake_c _).mono ?_
    rintro e w1 ⟨rfl, g1⟩
    have B1 := BB.out.grown g1 (by simp)
    have c0 := B1.cell 0
    have c1 := B1.cell 1
    have c2 := B1.cell 2
    have c3 := B1.cell 3
    have H1 := As.mk (And.intro B1 (GB.out.trans g1))
    clear B1 g1
    go_wp2_with fail
    refine (value_n _ c).mono ?_
    rintro e w2 ⟨rfl, rfl⟩
    go_wp2_with fail
    refine (does_n _ ⟨k, c, ver, a⟩).mono ?_
    rintro e w3 ⟨rfl, g3⟩
    rw [HD.out]
    have B3 := H1.out.1.grown g3 (by simp)
    have d0 := B3.cell 0
    have d1 := B3.cell 1
    have H3 := As.mk (H1.out.2.trans g3)
    clear B3 g3 c0 c1 c2 c3
    go_wp2_with fail
    refine (has_n _ c).mono ?_
    rintro e w4 ⟨rfl, rfl⟩
    go_wp2_with fail
    refine (levels_n _).mono ?_
    rintro e w5 ⟨rfl, rfl⟩
    go_wp2_with fail
    refine (items_n _).mono ?_
    rintro e w6 ⟨rfl, rfl⟩
    go_wp2_with fail
    go_ret
    exact ⟨rfl, H3.out⟩
  · have HD := As.mk h1
    clear h1
    go_enter Try.func5, Try.ntmps5
    go_wp2_with fail
    rw [← HW.out]
    refine (nawake_c _).mono ?_
    rintro e w1 ⟨rfl, g1⟩
    have B1 := BB.out.grown g1 (by simp)
    have c0 := B1.cell 0
    have c1 := B1.cell 1
    have c2 := B1.cell 2
    have c3 := B1.cell 3
    have H1 := As.mk (And.intro B1 (GB.out.trans g1))
    clear B1 g1
    go_wp2_with fail
    refine (value_n _ c).mono ?_
    rintro e w2 ⟨rfl, rfl⟩
    go_wp2_with fail
    refine (does_n _ ⟨k, c, ver, a⟩).mono ?_
    rintro e w3 ⟨rfl, g3⟩
    rw [HD.out]
    have B3 := H1.out.1.grown g3 (by simp)
    have d0 := B3.cell 0
    have d1 := B3.cell 1
    have H3 := As.mk (H1.out.2.trans g3)
    clear B3 g3 c0 c1 c2 c3
    go_wp2_with fail
    refine (has_n _ c).mono ?_
    rintro e w4 ⟨rfl, rfl⟩
    go_wp2_with fail
    refine (levels_n _).mono ?_
    rintro e w5 ⟨rfl, rfl⟩
    go_wp2_with fail
    refine (items_n _).mono ?_
    rintro e w6 ⟨rfl, rfl⟩
    go_wp2_with fail
    go_ret
    exact ⟨rfl, H3.out⟩
end Go.Proofs.Ytggkejkleficoaa
