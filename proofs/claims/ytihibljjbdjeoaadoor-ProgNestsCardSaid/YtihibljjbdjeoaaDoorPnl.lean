/- The walk of the law ProgNests. -/
import Derived.Test.YtihibljjbdjeoaaDoorPnn
import Derived.Deep.Cut
namespace Go.Proofs.YtihibljjbdjeoaaDoor
open Go.RowKit
set_option linter.unusedVariables false

theorem wf_nat (k : Nat) (h : k ≤ 1000) : (Lit.int .i64 (k : Int)).wf = true := by simp [Lit.wf, IntKind.min, IntKind.max, IntKind.signed, IntKind.bits]; omega
set_option maxRecDepth 100000 in
set_option maxHeartbeats 6400000 in
theorem pns_walk (v : Value) (l : List POp) (at_ : Int) (w : World) (ht : Tab w) (hl : Arr OpE 5 w v l) (wa : (Lit.int .i64 at_).wf = true) :
    Calls Tryd.prog 7 #[v, .int .i64 at_] w fun e w' => e = .returned (.bool true) ∧ w.grownBy w' none := by
  obtain ⟨A, c, rfl⟩ := hl.len
  have HT := As.mk ht
  have HL := As.mk hl
  have WA := As.mk wa
  clear ht hl wa
  go_enter Tryd.func7, Tryd.ntmps7
  go_upto_region 3 with (go_at_call 17; refine (awake20 _ HT.out).mono ?_; rintro e w1 ⟨rfl, hg⟩)
  have G := As.mk hg
  clear hg
  by_cases h80 : l.length ≤ 80
  · have h80I : ¬ (80 : Int) < (l.length : Int) := by omega
    go_wp2_with fail
    refine (plain20_walk _ l _ _ rfl (HL.out.below G.out (fun _ _ => OpE.any _ _)) (by omega)).mono ?_
    rintro e w2 ⟨va, rfl, oa, g2⟩
    have G2 := As.mk (gr_then G.out g2 (.inl rfl))
    have PA := As.mk (Arr.of_ops oa)
    clear g2 oa G
    obtain ⟨A2, c2, rfl⟩ := PA.out.len
    go_upto_region 7 with fail
    go_cut [37] (fun q wx => ∃ t, q = .bool t ∧ As (t = true → pRight l = true ∧ ∃ (n : Nat) (hn : n < l.length), at_ = n ∧ (l[n]'hn).k = 10) ∧ As (t = false → pFind l at_ = (-1, -1)) ∧ As (Arr OpE 5 wx (.slice A2 l.length c2) l) ∧ As (w.grownBy wx none))
    case first =>
      cases hp : pRight l
      · have hp' : rRight l = false := by rw [rRight_pRight]; exact hp
        have HN : As (pFind l at_ = (-1, -1)) := ⟨by unfold pFind; rw [hp]; rfl⟩
        go_wp2_with fail
        refine (rRight_c _ l _ PA.out _ hp').mono ?_
        rintro e w3 ⟨rfl, g3⟩
        have G3 := As.mk (gr_then G2.out g3 (.inl rfl)); have PA3 := As.mk (PA.out.below g3 (fun _ _ => OpE.any _ _))
        clear g3
        go_wp2_with fail
        go_meet
        case rel => exact ⟨false, rfl, ⟨fun h9 => by cases h9⟩, ⟨fun _ => HN.out⟩, PA3, G3⟩
      · have hp' : rRight l = true := by rw [rRight_pRight]; exact hp
        have HP := As.mk hp
        by_cases a0 : 0 ≤ at_
        · obtain ⟨n, rfl⟩ := Int.eq_ofNat_of_zero_le a0
          by_cases an : n < l.length
          · have anI : (n : Int) < (l.length : Int) := by omega
            obtain ⟨b, o, cs, rfl, hE, hcs, hcell⟩ := PA.out.at_ n l[n] (List.getElem?_eq_getElem an)
            obtain rfl := hE
            have HC := As.mk (hcell 0 _ rfl)
            clear hcell hcs
            by_cases k10 : (l[n]'an).k = 10
            · have HN := As.mk (pFind_either HP.out n an k10)
              go_wp2_with fail
              refine (rRight_c _ l _ PA.out _ hp').mono ?_
              rintro e w3 ⟨rfl, g3⟩
              have G3 := As.mk (gr_then G2.out g3 (.inl rfl)); have PA3 := As.mk (PA.out.below g3 (fun _ _ => OpE.any _ _))
              have c0 : w3.cell? ⟨b, o + n * 5, none⟩ = _ := g3.cell HC.out (by simp)
              rw [k10] at c0
              clear g3 HC
              go_wp2_with fail
              go_meet
              case rel => exact ⟨true, rfl, ⟨fun _ => ⟨HP.out, n, an, rfl, k10⟩⟩, ⟨fun h9 => by cases h9⟩, PA3, G3⟩
            · have HN : As (pFind l n = (-1, -1)) := ⟨by
                refine pFind_other (n : Int) (fun j hj e => ?_)
                obtain rfl : n = j := by omega
                exact k10⟩
              have kb : ((l[n]'an).k == 10) = false := by rw [beq_eq_false_iff_ne]; exact k10
              generalize (l[n]'an).k = xk at *
              go_wp2_with fail
              refine (rRight_c _ l _ PA.out _ hp').mono ?_
              rintro e w3 ⟨rfl, g3⟩
              have G3 := As.mk (gr_then G2.out g3 (.inl rfl)); have PA3 := As.mk (PA.out.below g3 (fun _ _ => OpE.any _ _))
              have c0 : w3.cell? ⟨b, o + n * 5, none⟩ = _ := g3.cell HC.out (by simp)
              clear g3 HC
              go_wp2_with fail
              go_meet
              case rel => exact ⟨false, rfl, ⟨fun h9 => by cases h9⟩, ⟨fun _ => HN.out⟩, PA3, G3⟩
          · have anI : ¬ (n : Int) < (l.length : Int) := by omega
            have HN : As (pFind l n = (-1, -1)) := ⟨pFind_other (n : Int) (fun j hj e => by omega)⟩
            go_wp2_with fail
            refine (rRight_c _ l _ PA.out _ hp').mono ?_
            rintro e w3 ⟨rfl, g3⟩
            have G3 := As.mk (gr_then G2.out g3 (.inl rfl)); have PA3 := As.mk (PA.out.below g3 (fun _ _ => OpE.any _ _))
            clear g3
            go_wp2_with fail
            go_meet
            case rel => exact ⟨false, rfl, ⟨fun h9 => by cases h9⟩, ⟨fun _ => HN.out⟩, PA3, G3⟩
        · have HN : As (pFind l at_ = (-1, -1)) := ⟨pFind_other at_ (fun j hj e => by omega)⟩
          go_wp2_with fail
          refine (rRight_c _ l _ PA.out _ hp').mono ?_
          rintro e w3 ⟨rfl, g3⟩
          have G3 := As.mk (gr_then G2.out g3 (.inl rfl)); have PA3 := As.mk (PA.out.below g3 (fun _ _ => OpE.any _ _))
          clear g3
          go_wp2_with fail
          go_meet
          case rel => exact ⟨false, rfl, ⟨fun h9 => by cases h9⟩, ⟨fun _ => HN.out⟩, PA3, G3⟩
    case rest =>
      obtain ⟨t, rfl, T1, T2, PA3, HG⟩ := hcut
      clear G2 PA
      cases t
      · have HN := As.mk (T2.out rfl)
        clear T1 T2
        have OC : ∀ W, w.grownBy W none → Calls Tryd.prog 24 #[.slice A l.length c, .int .i64 at_] W fun e w' => e = .returned (.int .i64 (-1)) ∧ W.grownBy w' none := fun W hW => by
          have h9 := or_c _ l at_ W (HL.out.below hW (fun _ _ => OpE.any _ _)) WA.out
          rw [HN.out] at h9
          exact h9
        have EC : ∀ W, w.grownBy W none → Calls Tryd.prog 25 #[.slice A l.length c, .int .i64 at_] W fun e w' => e = .returned (.int .i64 (-1)) ∧ W.grownBy w' none := fun W hW => by
          have h9 := end_c _ l at_ W (HL.out.below hW (fun _ _ => OpE.any _ _)) WA.out
          rw [HN.out] at h9
          exact h9
        have OC := As.mk OC
        have EC := As.mk EC
        go_wp2_with fail
        refine (OC.out _ HG.out).mono ?_
        rintro e w4 ⟨rfl, g4⟩
        have G4 := As.mk (gr_then HG.out g4 (.inl rfl))
        clear g4 HG
        go_wp2_with fail
        refine (EC.out _ G4.out).mono ?_
        rintro e w5 ⟨rfl, g5⟩
        have G5 := As.mk (gr_then G4.out g5 (.inl rfl))
        clear g5 G4 PA3
        go_wp2_with fail
        go_loopw [8] (fun i wr => As (w.grownBy wr none)) (fun i _ => 0)
        case atStart => exact G5
        case round =>
          go_wp2_with fail
          go_ret
          exact ⟨rfl, hrel.out⟩
      · obtain ⟨hp, n, hn, rfl, k10⟩ := T1.out rfl
        clear T1 T2
        have hn9 := pFind_either hp n hn k10
        have NE0 := fun k => nests hp hn k10 k
        have h32 := (pRight_all hp).1
        generalize hm : mt 0 (-1) (n + 1) (l.drop (n + 1)) = m at *
        obtain ⟨a, b, t⟩ := m
        dsimp only at hn9
        obtain ⟨hP, rfl⟩ := hn9
        have hv := mt_val _ _ _ _ _ _ hm
        rw [List.length_drop] at hv
        obtain ⟨ha1, hab⟩ := hv.2.2.2 (by omega)
        have hb9 : b ≤ 100 := by omega
        have hb0 : 0 ≤ b := by omega
        have ha0 : 0 ≤ a := by omega
        have ha9 : a ≤ 100 := by omega
        have hn0 : (0 : Int) ≤ (n : Int) := by omega
        have hnb : (n : Int) ≤ b := by omega
        rw [hP] at NE0
        have NE := As.mk NE0
        have HM := As.mk hm
        clear NE0 hm hv
        have OC : ∀ W, w.grownBy W none → Calls Tryd.prog 24 #[.slice A l.length c, .int .i64 n] W fun e w' => e = .returned (.int .i64 a) ∧ W.grownBy w' none := fun W hW => by
          have h9 := or_c _ l n W (HL.out.below hW (fun _ _ => OpE.any _ _)) WA.out
          rw [hP] at h9
          exact h9
        have EC : ∀ W, w.grownBy W none → Calls Tryd.prog 25 #[.slice A l.length c, .int .i64 n] W fun e w' => e = .returned (.int .i64 b) ∧ W.grownBy w' none := fun W hW => by
          have h9 := end_c _ l n W (HL.out.below hW (fun _ _ => OpE.any _ _)) WA.out
          rw [hP] at h9
          exact h9
        have OC := As.mk OC
        have EC := As.mk EC
        clear hP
        go_wp2_with fail
        refine (match_c _ l n _ PA3.out (by omega) hn (a, b, true) HM.out).mono ?_
        rintro e w4 ⟨rfl, rfl⟩
        go_wp2_with fail
        refine (OC.out _ HG.out).mono ?_
        rintro e w5 ⟨rfl, g4⟩
        have G4 := As.mk (gr_then HG.out g4 (.inl rfl))
        clear g4 HG
        go_wp2_with fail
        refine (EC.out _ G4.out).mono ?_
        rintro e w6 ⟨rfl, g5⟩
        have G5 := As.mk (gr_then G4.out g5 (.inl rfl))
        clear g5 G4 PA3 HM OC EC
        go_wp2_with fail
        go_loopw [8] (fun i wr => ∃ k : Nat, n ≤ k ∧ (k : Int) ≤ b ∧ i = .int .i64 k ∧ As (w.grownBy wr none)) (fun i _ => b.toNat - (intOf i).toNat)
        case atStart => exact ⟨n, Nat.le_refl _, hnb, rfl, G5⟩
        case round =>
          obtain ⟨k, hk1, hk2, rfl, HG⟩ := hrel
          by_cases hlt : (k : Int) < b
          · have hk0 : (0 : Int) ≤ (k : Int) := by omega
            have hk9 : (k : Int) ≤ 100 := by omega
            have N1 := NE.out k hk1 hlt
            have OC := fun W (hW : w.grownBy W none) => or_c _ l k W (HL.out.below hW (fun _ _ => OpE.any _ _)) (wf_nat k (by omega))
            have EC := fun W (hW : w.grownBy W none) => end_c _ l k W (HL.out.below hW (fun _ _ => OpE.any _ _)) (wf_nat k (by omega))
            generalize pFind l k = p at *
            obtain ⟨a', b'⟩ := p
            dsimp only at N1 OC EC
            obtain ⟨N2, N3⟩ := N1
            have OC := As.mk OC
            have EC := As.mk EC
            have N3 := As.mk N3
            go_wp2_with fail
            refine (OC.out _ HG.out).mono ?_
            rintro e w7 ⟨rfl, g6⟩
            have G6 := As.mk (gr_then HG.out g6 (.inl rfl))
            clear g6 HG
            go_wp2_with fail
            refine (EC.out _ G6.out).mono ?_
            rintro e w8 ⟨rfl, g7⟩
            have G7 := As.mk (gr_then G6.out g7 (.inl rfl))
            clear g7 G6 OC EC
            by_cases p0 : 0 ≤ a'
            · by_cases pk : n < k
              · have pkI : (n : Int) < (k : Int) := by omega
                by_cases pa : a' < a
                · have pb : b' < a := (N3.out p0 pk).1 pa
                  go_wp2_with fail
                  go_roundw
                  case measure => simp [intOf]; omega
                  case rel => exact ⟨k + 1, by omega, by omega, by go_num, G7⟩
                · have pb : ¬ b' < a := fun h9 => pa ((N3.out p0 pk).2 h9)
                  go_wp2_with fail
                  go_roundw
                  case measure => simp [intOf]; omega
                  case rel => exact ⟨k + 1, by omega, by omega, by go_num, G7⟩
              · have pkI : ¬ (n : Int) < (k : Int) := by omega
                go_wp2_with fail
                go_roundw
                case measure => simp [intOf]; omega
                case rel => exact ⟨k + 1, by omega, by omega, by go_num, G7⟩
            · go_wp2_with fail
              go_roundw
              case measure => simp [intOf]; omega
              case rel => exact ⟨k + 1, by omega, by omega, by go_num, G7⟩
          · obtain rfl : b = k := by omega
            go_wp2_with fail
            go_ret
            exact ⟨rfl, HG.out⟩
  · have h80I : (80 : Int) < (l.length : Int) := by omega
    go_wp2_with fail
    go_ret
    exact ⟨rfl, G.out⟩
end Go.Proofs.YtihibljjbdjeoaaDoor
