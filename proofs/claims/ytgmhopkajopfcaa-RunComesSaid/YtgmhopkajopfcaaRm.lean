/- The walk of the document's Match. -/
import Derived.Test.YtgmhopkajopfcaaRo
namespace Go.Proofs.Ytgmhopkajopfcaa
open Go.RowKit
set_option linter.unusedVariables false

/-- Match's scan: the Eithers open within, its Or (or -1), the place, what is left. -/
def mt : Nat → Int → Nat → List POp → Int × Int × Bool
  | _, _, _, [] => (0, 0, false)
  | d, o, i, x :: l =>
    if x.k = 10 then mt (d + 1) o (i + 1) l
    else if x.k = 11 then (if d = 0 then (if 0 ≤ o then (0, 0, false) else mt d i (i + 1) l) else mt d o (i + 1) l)
    else if x.k = 12 then (if d = 0 then (o, (i : Int), decide (0 ≤ o)) else mt (d - 1) o (i + 1) l)
    else mt d o (i + 1) l
set_option maxRecDepth 100000 in
set_option maxHeartbeats 6400000 in
theorem match_c (v : Value) (l : List POp) (at_ : Nat) (w : World) (h : Arr OpE 5 w v l) (hlen : l.length ≤ 100) (hat : at_ < l.length) (r : Int × Int × Bool) (hr : mt 0 (-1) (at_ + 1) (l.drop (at_ + 1)) = r) :
    Calls Try.prog 30 #[v, .int .i64 at_] w fun e w' => e = .returned (.tuple #[.int .i64 r.1, .int .i64 r.2.1, .bool r.2.2]) ∧ w' = w := by
  obtain ⟨A, c, rfl⟩ := h.len
  have H := As.mk h
  have HR := As.mk hr
  clear h hr
  have hat0 : (0 : Int) ≤ (at_ : Int) := by omega
  have hat1 : (at_ : Int) ≤ 100 := by omega
  go_enter Try.func30, Try.ntmps30
  go_wp2_with fail
  go_loopw [7, 8, 9] (fun d o i wr => ∃ (dn : Nat) (oi : Int) (j : Nat), j ≤ l.length ∧ dn ≤ j ∧ (-1 ≤ oi ∧ oi ≤ 100) ∧ d = .int .i64 dn ∧ o = .int .i64 oi ∧ i = .int .i64 j ∧ As (mt dn oi j (l.drop j) = r) ∧ wr = w) (fun _ _ i _ => l.length - (intOf i).toNat)
  case atStart => exact ⟨0, -1, at_ + 1, by omega, by omega, by omega, rfl, rfl, by go_num, HR, rfl⟩
  case round =>
    obtain ⟨dn, oi, j, hj, hd, ho, rfl, rfl, rfl, HM, rfl⟩ := hrel
    by_cases hlt : j < l.length
    · have hltI : (j : Int) < (l.length : Int) := by omega
      have hj0 : (0 : Int) ≤ (j : Int) := by omega
      have hd0 : (0 : Int) ≤ (dn : Int) := by omega
      have hd1 : (dn : Int) ≤ 100 := by omega
      obtain ⟨ho0, ho1⟩ := ho
      obtain ⟨b, o, cs, rfl, hE, hcs, hcell⟩ := H.out.at_ j l[j] (List.getElem?_eq_getElem hlt)
      obtain rfl := hE
      have c0 : wr.cell? ⟨b, o + j * 5, none⟩ = _ := hcell 0 _ rfl
      have HM2 := HM.out
      rw [List.drop_eq_getElem_cons hlt, mt] at HM2
      have HM3 := As.mk HM2
      clear HM HM2 hcell hcs
      generalize l[j]'hlt = x at *
      obtain ⟨xk, xc, xr, xo, xn⟩ := x
      dsimp only at *
      by_cases k10 : xk = 10
      · subst k10
        have HN : As (mt (dn + 1) oi (j + 1) (l.drop (j + 1)) = r) := ⟨by have h9 := HM3.out; simpa using h9⟩
        clear HM3
        go_wp2_with fail
        go_roundw
        case measure => simp [intOf]; omega
        case rel => exact ⟨dn + 1, oi, j + 1, by omega, by omega, by omega, by go_num, rfl, by go_num, HN, trivial⟩
      · have kb10 : (xk == 10) = false := by rw [beq_eq_false_iff_ne]; exact k10
        by_cases k11 : xk = 11
        · subst k11
          by_cases d0 : dn = 0
          · subst d0
            by_cases o0 : 0 ≤ oi
            · have HN : As ((0, 0, false) = r) := ⟨by have h9 := HM3.out; simpa [o0] using h9⟩
              clear HM3
              go_wp2_with fail
              go_ret3
              exact ⟨by rw [← HN.out]; rfl, rfl⟩
            · have HN : As (mt 0 j (j + 1) (l.drop (j + 1)) = r) := ⟨by have h9 := HM3.out; simpa [o0] using h9⟩
              clear HM3
              go_wp2_with fail
              go_roundw
              case measure => simp [intOf]; omega
              case rel => exact ⟨0, j, j + 1, by omega, by omega, by omega, by go_num, rfl, by go_num, HN, trivial⟩
          · have db : ((dn : Int) == 0) = false := by rw [beq_eq_false_iff_ne]; omega
            have HN : As (mt dn oi (j + 1) (l.drop (j + 1)) = r) := ⟨by have h9 := HM3.out; simpa [d0] using h9⟩
            clear HM3
            go_wp2_with fail
            go_roundw
            case measure => simp [intOf]; omega
            case rel => exact ⟨dn, oi, j + 1, by omega, by omega, by omega, by go_num, rfl, by go_num, HN, trivial⟩
        · have kb11 : (xk == 11) = false := by rw [beq_eq_false_iff_ne]; exact k11
          by_cases k12 : xk = 12
          · subst k12
            by_cases d0 : dn = 0
            · subst d0
              have HN : As ((oi, (j : Int), decide (0 ≤ oi)) = r) := ⟨by have h9 := HM3.out; simpa using h9⟩
              clear HM3
              go_wp2_with fail
              go_ret3
              exact ⟨by rw [← HN.out]; rfl, rfl⟩
            · have db : ((dn : Int) == 0) = false := by rw [beq_eq_false_iff_ne]; omega
              have HN : As (mt (dn - 1) oi (j + 1) (l.drop (j + 1)) = r) := ⟨by have h9 := HM3.out; simpa [d0] using h9⟩
              clear HM3
              go_wp2_with fail
              go_roundw
              case measure => simp [intOf]; omega
              case rel => exact ⟨dn - 1, oi, j + 1, by omega, by omega, by omega, by go_num, rfl, by go_num, HN, trivial⟩
          · have kb12 : (xk == 12) = false := by rw [beq_eq_false_iff_ne]; exact k12
            have HN : As (mt dn oi (j + 1) (l.drop (j + 1)) = r) := ⟨by have h9 := HM3.out; simpa [k10, k11, k12] using h9⟩
            clear HM3
            go_wp2_with fail
            go_roundw
            case measure => simp [intOf]; omega
            case rel => exact ⟨dn, oi, j + 1, by omega, by omega, by omega, by go_num, rfl, by go_num, HN, trivial⟩
    · obtain rfl : j = l.length := by omega
      have HN : As ((0, 0, false) = r) := ⟨by have h9 := HM.out; simpa [mt] using h9⟩
      clear HM
      go_wp2_with fail
      go_ret3
      exact ⟨by rw [← HN.out]; rfl, rfl⟩
end Go.Proofs.Ytgmhopkajopfcaa
