/- The walk of the document's Right. -/
import Derived.Test.YtgmhopkajopfcaaRm
namespace Go.Proofs.Ytgmhopkajopfcaa
open Go.RowKit
set_option linter.unusedVariables false

/-- Right's scan: the place, the Eithers, Ors and Ends till then, what is left. -/
def rScan : Nat → Nat → Nat → Nat → List POp → Bool
  | _, e, o, n, [] => decide (e = o) && decide (e = n)
  | i, e, o, n, x :: l =>
    opRight x && ((!decide (x.k = 10) || (mt 0 (-1) (i + 1) l).2.2) &&
      (decide ((if x.k = 12 then n + 1 else n) ≤ (if x.k = 10 then e + 1 else e)) && (decide ((if x.k = 10 then e + 1 else e) ≤ (if x.k = 12 then n + 1 else n) + 4) &&
        rScan (i + 1) (if x.k = 10 then e + 1 else e) (if x.k = 11 then o + 1 else o) (if x.k = 12 then n + 1 else n) l)))
def rRight (l : List POp) : Bool := decide (l.length ≤ 32) && rScan 0 0 0 0 l
set_option maxRecDepth 100000 in
set_option maxHeartbeats 6400000 in
theorem rRight_c (v : Value) (l : List POp) (w : World) (h : Arr OpE 5 w v l) (r : Bool) (hr : rRight l = r) :
    Calls Try.prog 17 #[v] w fun e w' => e = .returned (.bool r) ∧ w.grownBy w' none := by
  obtain ⟨A, c, rfl⟩ := h.len
  have H := As.mk h
  clear h
  unfold rRight at hr
  go_enter Try.func17, Try.ntmps17
  by_cases h32 : l.length ≤ 32
  · have h32I : ¬ (32 : Int) < (l.length : Int) := by omega
    rw [decide_eq_true h32, Bool.true_and] at hr
    have HR := As.mk hr
    clear hr
    go_wp2_with fail
    go_loopw [3, 4, 5, 6] (fun e o n i wr => ∃ en on nn j : Nat, j ≤ l.length ∧ (en ≤ j ∧ on ≤ j ∧ nn ≤ j) ∧ nn ≤ en ∧ e = .int .i64 en ∧ o = .int .i64 on ∧ n = .int .i64 nn ∧ i = .int .i64 j ∧ As (rScan j en on nn (l.drop j) = r) ∧ As (w.grownBy wr none)) (fun _ _ _ i _ => l.length - (intOf i).toNat)
    case atStart => exact ⟨0, 0, 0, 0, by omega, by omega, by omega, rfl, rfl, rfl, rfl, HR, ⟨gr_refl _ _⟩⟩
    case round =>
      obtain ⟨en, on, nn, j, hj, hb, hne, rfl, rfl, rfl, rfl, HM, HG⟩ := hrel
      by_cases hlt : j < l.length
      · have hltI : (j : Int) < (l.length : Int) := by omega
        have hj0 : (0 : Int) ≤ (j : Int) := by omega
        have hj1 : (j : Int) ≤ 100 := by omega
        have he0 : (0 : Int) ≤ (en : Int) := by omega
        have he1 : (en : Int) ≤ 100 := by omega
        have ho0 : (0 : Int) ≤ (on : Int) := by omega
        have ho1 : (on : Int) ≤ 100 := by omega
        have hn0 : (0 : Int) ≤ (nn : Int) := by omega
        have hn1 : (nn : Int) ≤ 100 := by omega
        obtain ⟨b, o, cs, rfl, hE, hcs, hcell⟩ := H.out.at_ j l[j] (List.getElem?_eq_getElem hlt)
        obtain rfl := hE
        have c0 : wr.cell? ⟨b, o + j * 5, none⟩ = _ := HG.out.cell (hcell 0 _ rfl) (by simp)
        have c1 := HG.out.cell (hcell 1 _ rfl) (by simp)
        have c2 := HG.out.cell (hcell 2 _ rfl) (by simp)
        have c3 := HG.out.cell (hcell 3 _ rfl) (by simp)
        have c4 := HG.out.cell (hcell 4 _ rfl) (by simp)
        have HM2 := HM.out
        rw [List.drop_eq_getElem_cons hlt, rScan] at HM2
        have HM3 := As.mk HM2
        have HCE := As.mk hcell
        clear HM HM2 hcell hcs
        generalize l[j]'hlt = x at *
        cases h1 : opRight x
        · have HN : As (false = r) := ⟨by have h9 := HM3.out; rw [h1, Bool.false_and] at h9; exact h9⟩
          obtain rfl := HN.out
          clear HM3
          go_wp2_with fail
          refine (one_c x _ _ h1).mono ?_
          rintro e w1 ⟨rfl, g1⟩
          have G1 := As.mk (gr_then HG.out g1 (.inl rfl))
          clear g1
          go_wp2_with fail
          go_ret
          exact ⟨rfl, G1.out⟩
        · have HM4 := HM3.out
          rw [h1, Bool.true_and] at HM4
          have HM5 := As.mk HM4
          clear HM3 HM4
          go_upto_region 9 with (go_at_call 29; refine (one_c x _ _ h1).mono ?_; rintro e w1 ⟨rfl, g1⟩)
          have G1 := As.mk (gr_then HG.out g1 (.inl rfl))
          clear g1 HG c0 c1 c2 c3 c4
          have c0 : w1.cell? ⟨b, o + j * 5, none⟩ = _ := G1.out.cell (HCE.out 0 _ rfl) (by simp)
          clear HCE
          obtain ⟨xk, xc, xr, xo, xn⟩ := x
          dsimp only at *
          by_cases k10 : xk = 10
          · subst k10
            have HM6 := HM5.out
            simp only [if_true, if_neg (show ¬ (10 : Int) = 12 by decide), if_neg (show ¬ (10 : Int) = 11 by decide), decide_true, Bool.not_true, Bool.false_or] at HM6
            clear HM5
            have HM5 := As.mk HM6
            clear HM6
            go_upto_region 12 with (go_at_call 30; refine (match_c _ l j _ (H.out.below G1.out (fun _ _ => OpE.any _ _)) (by omega) hlt _ rfl).mono ?_; rintro e w2 ⟨rfl, rfl⟩)
            generalize hmt : mt 0 (-1) (j + 1) (l.drop (j + 1)) = m at *
            obtain ⟨m1, m2, m3⟩ := m
            dsimp only at *
            cases m3
            · have HN : As (false = r) := ⟨by have h9 := HM5.out; simpa using h9⟩
              obtain rfl := HN.out
              clear HM5
              go_wp2_with fail
              go_ret
              exact ⟨rfl, G1.out⟩
            · have HM7 := HM5.out
              rw [Bool.true_and] at HM7
              clear HM5
              have HM5 := As.mk HM7
              clear HM7 hmt
              by_cases c4 : 4 < ((en : Int) + 1) - (nn : Int)
              · have HN : As (false = r) := ⟨by have h9 := HM5.out; rw [show decide ((en + 1) ≤ nn + 4) = false by rw [decide_eq_false_iff_not]; omega] at h9; simpa using h9⟩
                obtain rfl := HN.out
                clear HM5
                go_wp2_with fail
                go_ret
                exact ⟨rfl, G1.out⟩
              · have HN : As (rScan (j + 1) (en + 1) on nn (l.drop (j + 1)) = r) := ⟨by have h9 := HM5.out; rw [show decide (nn ≤ (en + 1)) = true by rw [decide_eq_true_iff]; omega, show decide ((en + 1) ≤ nn + 4) = true by rw [decide_eq_true_iff]; omega] at h9; simpa using h9⟩
                clear HM5
                go_wp2_with fail
                go_roundw
                case measure => simp [intOf]; omega
                case rel => exact ⟨(en + 1), on, nn, j + 1, by omega, by omega, by omega, by go_num, by go_num, by go_num, by go_num, HN, G1⟩
          · have kb10 : (xk == 10) = false := by rw [beq_eq_false_iff_ne]; exact k10
            by_cases k11 : xk = 11
            · subst k11
              have HM6 := HM5.out
              simp only [if_neg (show ¬ (11 : Int) = 10 by decide), decide_eq_false (show ¬ (11 : Int) = 10 by decide), if_neg (show ¬ (11 : Int) = 12 by decide), if_true, Bool.not_false, Bool.true_or, Bool.true_and] at HM6
              clear HM5
              have HM5 := As.mk HM6
              clear HM6
              by_cases c4 : 4 < (en : Int) - (nn : Int)
              · have HN : As (false = r) := ⟨by have h9 := HM5.out; rw [show decide (en ≤ nn + 4) = false by rw [decide_eq_false_iff_not]; omega] at h9; simpa using h9⟩
                obtain rfl := HN.out
                clear HM5
                go_wp2_with fail
                go_ret
                exact ⟨rfl, G1.out⟩
              · have HN : As (rScan (j + 1) en (on + 1) nn (l.drop (j + 1)) = r) := ⟨by have h9 := HM5.out; rw [show decide (nn ≤ en) = true by rw [decide_eq_true_iff]; omega, show decide (en ≤ nn + 4) = true by rw [decide_eq_true_iff]; omega] at h9; simpa using h9⟩
                clear HM5
                go_wp2_with fail
                go_roundw
                case measure => simp [intOf]; omega
                case rel => exact ⟨en, (on + 1), nn, j + 1, by omega, by omega, by omega, by go_num, by go_num, by go_num, by go_num, HN, G1⟩
            · have kb11 : (xk == 11) = false := by rw [beq_eq_false_iff_ne]; exact k11
              by_cases k12 : xk = 12
              · subst k12
                have HM6 := HM5.out
                simp only [if_neg (show ¬ (12 : Int) = 10 by decide), decide_eq_false (show ¬ (12 : Int) = 10 by decide), if_neg (show ¬ (12 : Int) = 11 by decide), if_true, Bool.not_false, Bool.true_or, Bool.true_and] at HM6
                clear HM5
                have HM5 := As.mk HM6
                clear HM6
                by_cases c0n : (en : Int) < (nn : Int) + 1
                · have HN : As (false = r) := ⟨by have h9 := HM5.out; rw [show decide ((nn + 1) ≤ en) = false by rw [decide_eq_false_iff_not]; omega] at h9; simpa using h9⟩
                  obtain rfl := HN.out
                  clear HM5
                  go_wp2_with fail
                  go_ret
                  exact ⟨rfl, G1.out⟩
                · skip
                  by_cases c4 : 4 < (en : Int) - ((nn : Int) + 1)
                  · have HN : As (false = r) := ⟨by have h9 := HM5.out; rw [show decide (en ≤ (nn + 1) + 4) = false by rw [decide_eq_false_iff_not]; omega] at h9; simpa using h9⟩
                    obtain rfl := HN.out
                    clear HM5
                    go_wp2_with fail
                    go_ret
                    exact ⟨rfl, G1.out⟩
                  · have HN : As (rScan (j + 1) en on (nn + 1) (l.drop (j + 1)) = r) := ⟨by have h9 := HM5.out; rw [show decide ((nn + 1) ≤ en) = true by rw [decide_eq_true_iff]; omega, show decide (en ≤ (nn + 1) + 4) = true by rw [decide_eq_true_iff]; omega] at h9; simpa using h9⟩
                    clear HM5
                    go_wp2_with fail
                    go_roundw
                    case measure => simp [intOf]; omega
                    case rel => exact ⟨en, on, (nn + 1), j + 1, by omega, by omega, by omega, by go_num, by go_num, by go_num, by go_num, HN, G1⟩
              · have kb12 : (xk == 12) = false := by rw [beq_eq_false_iff_ne]; exact k12
                have HM6 := HM5.out
                simp only [if_neg k10, decide_eq_false k10, if_neg k11, if_neg k12, Bool.not_false, Bool.true_or, Bool.true_and] at HM6
                clear HM5
                have HM5 := As.mk HM6
                clear HM6
                by_cases c4 : 4 < (en : Int) - (nn : Int)
                · have HN : As (false = r) := ⟨by have h9 := HM5.out; rw [show decide (en ≤ nn + 4) = false by rw [decide_eq_false_iff_not]; omega] at h9; simpa using h9⟩
                  obtain rfl := HN.out
                  clear HM5
                  go_wp2_with fail
                  go_ret
                  exact ⟨rfl, G1.out⟩
                · have HN : As (rScan (j + 1) en on nn (l.drop (j + 1)) = r) := ⟨by have h9 := HM5.out; rw [show decide (nn ≤ en) = true by rw [decide_eq_true_iff]; omega, show decide (en ≤ nn + 4) = true by rw [decide_eq_true_iff]; omega] at h9; simpa using h9⟩
                  clear HM5
                  go_wp2_with fail
                  go_roundw
                  case measure => simp [intOf]; omega
                  case rel => exact ⟨en, on, nn, j + 1, by omega, by omega, by omega, by go_num, by go_num, by go_num, by go_num, HN, G1⟩
      · obtain rfl : j = l.length := by omega
        have HN : As ((decide (en = on) && decide (en = nn)) = r) := ⟨by have h9 := HM.out; simpa [rScan] using h9⟩
        clear HM
        by_cases q1 : en = on
        · subst q1
          by_cases q2 : en = nn
          · subst q2
            have HN2 : As (true = r) := ⟨by rw [← HN.out]; simp⟩
            obtain rfl := HN2.out
            clear HN
            go_wp2_with fail
            go_ret
            exact ⟨by simp, HG.out⟩
          · have qb2 : ((en : Int) == (nn : Int)) = false := by rw [beq_eq_false_iff_ne]; omega
            have HN2 : As (false = r) := ⟨by rw [← HN.out]; simp [q2]⟩
            obtain rfl := HN2.out
            clear HN
            go_wp2_with fail
            go_ret
            exact ⟨by simp, HG.out⟩
        · have qb1 : ((en : Int) == (on : Int)) = false := by rw [beq_eq_false_iff_ne]; omega
          have HN2 : As (false = r) := ⟨by rw [← HN.out]; simp [q1]⟩
          obtain rfl := HN2.out
          clear HN
          go_wp2_with fail
          go_ret
          exact ⟨by simp, HG.out⟩
  · have h32I : (32 : Int) < (l.length : Int) := by omega
    rw [decide_eq_false h32, Bool.false_and] at hr
    subst hr
    go_wp2_with fail
    go_ret
    exact ⟨rfl, gr_refl _ _⟩
end Go.Proofs.Ytgmhopkajopfcaa
