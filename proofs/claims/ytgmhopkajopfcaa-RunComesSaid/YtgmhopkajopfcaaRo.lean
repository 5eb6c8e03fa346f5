/- The walks of the document's has and one. -/
import Derived.Test.YtgmhopkajopfcaaPr
import Derived.Test.YtgmhopkajopfcaaPuk
namespace Go.Proofs.Ytgmhopkajopfcaa
open Go.RowKit
set_option linter.unusedVariables false

def rHas (k f : Int) : Bool := if f = 1 then decide (k = 1 ∨ k = 2 ∨ k = 9) else if f = 2 then decide (1 ≤ k ∧ k ≤ 6) else if f = 3 then decide (k = 4 ∨ k = 5) else decide (k = 3)
set_option maxHeartbeats 1600000 in
theorem has20_c (k f : Int) (w : World) (r : Bool) (hr : rHas k f = r) : Calls Try.prog 47 #[.int .i64 k, .int .i64 f] w fun e w' => e = .returned (.bool r) ∧ w' = w := by
  have HR := As.mk hr
  clear hr
  go_enter Try.func47, Try.ntmps47
  by_cases f1 : f = 1
  · subst f1
    by_cases k1 : k = 1
    · subst k1
      go_wp2
      go_ret
      refine ⟨?_, rfl⟩
      show Ending.returned (.bool _) = Ending.returned (.bool r)
      rw [← HR.out]
      simp [rHas, *]
    · have kb1 : (k == 1) = false := by rw [beq_eq_false_iff_ne]; exact k1
      by_cases k2 : k = 2
      · subst k2
        go_wp2
        go_ret
        refine ⟨?_, rfl⟩
        show Ending.returned (.bool _) = Ending.returned (.bool r)
        rw [← HR.out]
        simp [rHas, *]
      · have kb2 : (k == 2) = false := by rw [beq_eq_false_iff_ne]; exact k2
        by_cases k9 : k = 9
        · subst k9
          go_wp2
          go_ret
          refine ⟨?_, rfl⟩
          show Ending.returned (.bool _) = Ending.returned (.bool r)
          rw [← HR.out]
          simp [rHas, *]
        · have kb9 : (k == 9) = false := by rw [beq_eq_false_iff_ne]; exact k9
          go_wp2
          go_ret
          refine ⟨?_, rfl⟩
          show Ending.returned (.bool _) = Ending.returned (.bool r)
          rw [← HR.out]
          simp [rHas, *]
  · have fb1 : (f == 1) = false := by rw [beq_eq_false_iff_ne]; exact f1
    by_cases f2 : f = 2
    · subst f2
      by_cases k1 : 1 ≤ k
      · by_cases k6 : k ≤ 6
        · go_wp2
          go_ret
          refine ⟨?_, rfl⟩
          show Ending.returned (.bool _) = Ending.returned (.bool r)
          rw [← HR.out]
          simp [rHas, *]
        · go_wp2
          go_ret
          refine ⟨?_, rfl⟩
          show Ending.returned (.bool _) = Ending.returned (.bool r)
          rw [← HR.out]
          simp [rHas, *]
      · go_wp2
        go_ret
        refine ⟨?_, rfl⟩
        show Ending.returned (.bool _) = Ending.returned (.bool r)
        rw [← HR.out]
        simp [rHas, *]
        try omega
    · have fb2 : (f == 2) = false := by rw [beq_eq_false_iff_ne]; exact f2
      by_cases f3 : f = 3
      · subst f3
        by_cases k4 : k = 4
        · subst k4
          go_wp2
          go_ret
          refine ⟨?_, rfl⟩
          show Ending.returned (.bool _) = Ending.returned (.bool r)
          rw [← HR.out]
          simp [rHas, *]
        · have kb4 : (k == 4) = false := by rw [beq_eq_false_iff_ne]; exact k4
          by_cases k5 : k = 5
          · subst k5
            go_wp2
            go_ret
            refine ⟨?_, rfl⟩
            show Ending.returned (.bool _) = Ending.returned (.bool r)
            rw [← HR.out]
            simp [rHas, *]
          · have kb5 : (k == 5) = false := by rw [beq_eq_false_iff_ne]; exact k5
            go_wp2
            go_ret
            refine ⟨?_, rfl⟩
            show Ending.returned (.bool _) = Ending.returned (.bool r)
            rw [← HR.out]
            simp [rHas, *]
      · have fb3 : (f == 3) = false := by rw [beq_eq_false_iff_ne]; exact f3
        go_wp2
        go_ret
        refine ⟨?_, rfl⟩
        show Ending.returned (.bool _) = Ending.returned (.bool r)
        rw [← HR.out]
        simp [rHas, *]
        rfl
/-- The fields of an operation, as the document lays them side by side, and their bounds. -/
def fieldsR (x : POp) : List Int := [0, x.c, x.r, x.o, x.n]
def hiR : List Int := [0, 15, 7, 7, 0]
def badF (x : POp) (j : Nat) (lv hv : Int) : Bool := (!rHas x.k j && !decide (lv = 0)) || (decide (j < 4) && (decide (lv < 0) || decide (hv < lv)))
def okFrom (x : POp) (j : Nat) : Bool := (List.range 5).all fun i => decide (i < j) || !badF x i (fieldsR x)[i]! hiR[i]!
def oneR (x : POp) : Bool := decide (1 ≤ x.k ∧ x.k ≤ 12) && okFrom x 1
theorem okFrom_step (x : POp) (j : Nat) (h : j < 5) : okFrom x j = (!badF x j (fieldsR x)[j]! hiR[j]! && okFrom x (j + 1)) := by
  have hj : j = 0 ∨ j = 1 ∨ j = 2 ∨ j = 3 ∨ j = 4 := by omega
  unfold okFrom
  rw [show List.range 5 = [0, 1, 2, 3, 4] from rfl]
  rcases hj with rfl | rfl | rfl | rfl | rfl <;> simp
theorem okFrom_end (x : POp) : okFrom x 5 = true := by
  unfold okFrom
  rw [show List.range 5 = [0, 1, 2, 3, 4] from rfl]
  simp
theorem oneR_right (x : POp) : oneR x = opRight x := by
  obtain ⟨k, c, r, o, n⟩ := x
  unfold oneR
  rw [okFrom_step _ 1 (by decide), okFrom_step _ 2 (by decide), okFrom_step _ 3 (by decide), okFrom_step _ 4 (by decide), okFrom_end]
  unfold opRight
  by_cases hk : 1 ≤ k ∧ k ≤ 12
  · have hk' : k = 1 ∨ k = 2 ∨ k = 3 ∨ k = 4 ∨ k = 5 ∨ k = 6 ∨ k = 7 ∨ k = 8 ∨ k = 9 ∨ k = 10 ∨ k = 11 ∨ k = 12 := by omega
    rw [Bool.eq_iff_iff]
    rcases hk' with rfl | rfl | rfl | rfl | rfl | rfl | rfl | rfl | rfl | rfl | rfl | rfl <;> simp [badF, rHas, fieldsR, hiR, plainOp, eqOp, inR] <;> omega
  · have : inR k 1 12 = false := by
      rw [← Bool.not_eq_true]
      unfold inR
      simp
      omega
    simp [hk, this]
def OneW (w wr : World) (g g1 : Nat) (x : POp) : Prop :=
  Blk wr g 67 #[.int .i64 x.k, .int .i64 x.c, .int .i64 x.r, .int .i64 x.o, .int .i64 x.n] ∧ Blk wr g1 3 #[.int .i64 0, .int .i64 x.c, .int .i64 x.r, .int .i64 x.o, .int .i64 x.n] ∧ Blk wr (g1 + 1) 3 #[.int .i64 0, .int .i64 15, .int .i64 7, .int .i64 7, .int .i64 0] ∧ w.grownBy wr none
theorem OneW.drewN {w wr : World} {g g1 : Nat} {x : POp} (h : OneW w wr g g1 x) (n : Nat) : OneW w (wr.drewN n) g g1 x := ⟨h.1.drewN n, h.2.1.drewN n, h.2.2.1.drewN n, gr_drewN h.2.2.2 n⟩
set_option maxRecDepth 100000 in
set_option maxHeartbeats 6400000 in
theorem one_c (x : POp) (w : World) (r : Bool) (hr : opRight x = r) : Calls Try.prog 29 #[.agg #[.int .i64 x.k, .int .i64 x.c, .int .i64 x.r, .int .i64 x.o, .int .i64 x.n]] w fun e w' => e = .returned (.bool r) ∧ w.grownBy w' none := by
  rw [← oneR_right] at hr
  unfold oneR at hr
  have FD : As (∀ j : Nat, j < 5 → ∃ v, (fieldsR x)[j]! = v) := ⟨fun j _ => ⟨_, rfl⟩⟩
  have BK := As.mk (Blk.new w 67 #[.int .i64 x.k, .int .i64 x.c, .int .i64 x.r, .int .i64 x.o, .int .i64 x.n])
  have G := As.mk (gr_alloc (gr_refl w none) (.cells #[.int .i64 x.k, .int .i64 x.c, .int .i64 x.r, .int .i64 x.o, .int .i64 x.n] 67))
  have HR := As.mk hr
  clear hr
  go_enter Try.func29, Try.ntmps29
  go_upto_region 1 with fail
  generalize w.alloc (.cells #[.int .i64 x.k, .int .i64 x.c, .int .i64 x.r, .int .i64 x.o, .int .i64 x.n] 67) = W at *
  generalize w.heap.size = g at *
  have c0 : W.cell? ⟨g, 0, none⟩ = some (.int .i64 x.k) := BK.out.cell 0
  have c1 : W.cell? ⟨g, 1, none⟩ = some (.int .i64 x.c) := BK.out.cell 1
  have c2 : W.cell? ⟨g, 2, none⟩ = some (.int .i64 x.r) := BK.out.cell 2
  have c3 : W.cell? ⟨g, 3, none⟩ = some (.int .i64 x.o) := BK.out.cell 3
  have c4 : W.cell? ⟨g, 4, none⟩ = some (.int .i64 x.n) := BK.out.cell 4
  by_cases k1 : 1 ≤ x.k
  · by_cases k2 : x.k ≤ 12
    · have hk : decide (1 ≤ x.k ∧ x.k ≤ 12) = true := by simp [k1, k2]
      have HR2 : As (okFrom x 1 = r) := ⟨by have h9 := HR.out; rw [hk, Bool.true_and] at h9; exact h9⟩
      clear HR hk
      go_wp2_with fail
      have BL := As.mk ((Blk.new W 3 #[.int .i64 0, .int .i64 x.c, .int .i64 x.r, .int .i64 x.o, .int .i64 x.n]).alloc (.cells #[.int .i64 0, .int .i64 15, .int .i64 7, .int .i64 7, .int .i64 0] 3))
      have BH := As.mk (Blk.new2 W (.cells #[.int .i64 0, .int .i64 x.c, .int .i64 x.r, .int .i64 x.o, .int .i64 x.n] 3) 3 #[.int .i64 0, .int .i64 15, .int .i64 7, .int .i64 7, .int .i64 0])
      have BX := As.mk ((BK.out.alloc (.cells #[.int .i64 0, .int .i64 x.c, .int .i64 x.r, .int .i64 x.o, .int .i64 x.n] 3)).alloc (.cells #[.int .i64 0, .int .i64 15, .int .i64 7, .int .i64 7, .int .i64 0] 3))
      have G2 := As.mk (gr_alloc (gr_alloc G.out (.cells #[.int .i64 0, .int .i64 x.c, .int .i64 x.r, .int .i64 x.o, .int .i64 x.n] 3)) (.cells #[.int .i64 0, .int .i64 15, .int .i64 7, .int .i64 7, .int .i64 0] 3))
      clear c0 c1 c2 c3 c4 BK G
      generalize (W.alloc (.cells #[.int .i64 0, .int .i64 x.c, .int .i64 x.r, .int .i64 x.o, .int .i64 x.n] 3)).alloc (.cells #[.int .i64 0, .int .i64 15, .int .i64 7, .int .i64 7, .int .i64 0] 3) = W2 at *
      generalize W.heap.size = g1 at *
      go_loopw [5] (fun i wr => ∃ j : Nat, 1 ≤ j ∧ j ≤ 5 ∧ i = .int .i64 j ∧ As (okFrom x j = r) ∧ As (OneW w wr g g1 x)) (fun i _ => 5 - (intOf i).toNat)
      case atStart => exact ⟨1, by omega, by omega, rfl, HR2, ⟨BX.out, BL.out, BH.out, G2.out⟩⟩
      case round =>
        obtain ⟨j, j1, j5, rfl, HO, HW⟩ := hrel
        by_cases hlt : j < 5
        · have hltI : (j : Int) ≤ 4 := by omega
          have hltI5 : (j : Int) < 5 := by omega
          have hj0 : (0 : Int) ≤ (j : Int) := by omega
          have hl : wr.cell? ⟨g1, j, none⟩ = some (.int .i64 (fieldsR x)[j]!) := by
            have h9 : wr.cell? ⟨g1, j, none⟩ = _ := HW.out.2.1.cell j
            refine h9.trans ?_
            obtain rfl | rfl | rfl | rfl : j = 1 ∨ j = 2 ∨ j = 3 ∨ j = 4 := by omega
            all_goals rfl
          have hh : wr.cell? ⟨g1 + 1, j, none⟩ = some (.int .i64 hiR[j]!) := by
            have h9 : wr.cell? ⟨g1 + 1, j, none⟩ = _ := HW.out.2.2.1.cell j
            refine h9.trans ?_
            obtain rfl | rfl | rfl | rfl : j = 1 ∨ j = 2 ∨ j = 3 ∨ j = 4 := by omega
            all_goals rfl
          have hx : wr.cell? ⟨g, 0, none⟩ = some (.int .i64 x.k) := HW.out.1.cell 0
          have hv0 : 0 ≤ hiR[j]! := by
            obtain rfl | rfl | rfl | rfl : j = 1 ∨ j = 2 ∨ j = 3 ∨ j = 4 := by omega
            all_goals decide
          have HO2 := HO.out
          rw [okFrom_step x j hlt] at HO2
          unfold badF at HO2
          have HO3 := As.mk HO2
          clear HO HO2
          generalize (fieldsR x)[j]! = lv at *
          generalize hiR[j]! = hv at *
          cases hb : rHas x.k j
          · by_cases l0 : lv = 0
            · subst l0
              have hv1 : ¬ hv < 0 := by omega
              have hv1' : 0 ≤ hv := by omega
              by_cases j4 : (j : Int) < 4
              · have j4n : j < 4 := by omega
                have HO4 : As (okFrom x (j + 1) = r) := ⟨by rw [← HO3.out]; simp [hb, hv1']⟩
                clear HO3
                go_wp2_with fail
                go_quiet ((go_at_call 47; exact Calls.quiet_of_same (has20_c x.k j _ false hb)))
                go_wp2_with fail
                go_roundw
                case measure => simp [intOf]; omega
                case rel => exact ⟨j + 1, by omega, by omega, by go_num, HO4, ⟨HW.out.drewN _⟩⟩
              · obtain rfl : j = 4 := by omega
                have HO4 : As (okFrom x 5 = r) := ⟨by rw [← HO3.out]; simp⟩
                clear HO3
                go_wp2_with fail
                go_quiet ((go_at_call 47; exact Calls.quiet_of_same (has20_c x.k 4 _ false hb)))
                go_wp2_with fail
                go_roundw
                case measure => simp [intOf]
                case rel => exact ⟨5, by omega, by omega, by go_num, HO4, ⟨HW.out.drewN _⟩⟩
            · have lb : (lv != 0) = true := by rw [bne_iff_ne]; exact l0
              have hR : false = r := by rw [← HO3.out]; simp [hb, l0]
              subst hR
              go_wp2_with fail
              go_quiet ((go_at_call 47; exact Calls.quiet_of_same (has20_c x.k j _ false hb)))
              go_wp2_with fail
              go_ret
              exact ⟨rfl, (HW.out.drewN _).2.2.2⟩
          · by_cases j4 : (j : Int) < 4
            · have j4n : j < 4 := by omega
              by_cases lv0 : lv < 0
              · skip
                have hR : false = r := by rw [← HO3.out]; simp [*]
                subst hR
                go_wp2_with fail
                go_quiet ((go_at_call 47; exact Calls.quiet_of_same (has20_c x.k j _ true hb)))
                go_wp2_with fail
                go_ret
                exact ⟨rfl, (HW.out.drewN _).2.2.2⟩
              · by_cases lh : hv < lv
                · skip
                  have hR : false = r := by rw [← HO3.out]; simp [*]
                  subst hR
                  go_wp2_with fail
                  go_quiet ((go_at_call 47; exact Calls.quiet_of_same (has20_c x.k j _ true hb)))
                  go_wp2_with fail
                  go_ret
                  exact ⟨rfl, (HW.out.drewN _).2.2.2⟩
                · skip
                  have HO4 : As (okFrom x (j + 1) = r) := ⟨by rw [← HO3.out]; simp [hb, show 0 ≤ lv by omega, show lv ≤ hv by omega]⟩
                  clear HO3
                  go_wp2_with fail
                  go_quiet ((go_at_call 47; exact Calls.quiet_of_same (has20_c x.k j _ true hb)))
                  go_wp2_with fail
                  go_roundw
                  case measure => simp [intOf]; omega
                  case rel => exact ⟨j + 1, by omega, by omega, by go_num, HO4, ⟨HW.out.drewN _⟩⟩
            · obtain rfl : j = 4 := by omega
              have HO4 : As (okFrom x 5 = r) := ⟨by rw [← HO3.out, hb]; simp⟩
              clear HO3
              go_wp2_with fail
              go_quiet ((go_at_call 47; exact Calls.quiet_of_same (has20_c x.k 4 _ true hb)))
              go_wp2_with fail
              go_roundw
              case measure => simp [intOf]
              case rel => exact ⟨5, by omega, by omega, by go_num, HO4, ⟨HW.out.drewN _⟩⟩
        · obtain rfl : j = 5 := by omega
          have hR : true = r := by rw [← HO.out, okFrom_end]
          subst hR
          go_wp2_with fail
          go_ret
          exact ⟨rfl, HW.out.2.2.2⟩
    · have hk : decide (1 ≤ x.k ∧ x.k ≤ 12) = false := by simp [k2]
      obtain rfl : false = r := by have h9 := HR.out; rw [hk, Bool.false_and] at h9; exact h9
      go_wp2_with fail
      go_ret
      exact ⟨rfl, G.out⟩
  · have hk : decide (1 ≤ x.k ∧ x.k ≤ 12) = false := by simp [k1]
    obtain rfl : false = r := by have h9 := HR.out; rw [hk, Bool.false_and] at h9; exact h9
    go_wp2_with fail
    go_ret
    exact ⟨rfl, G.out⟩
end Go.Proofs.Ytgmhopkajopfcaa
