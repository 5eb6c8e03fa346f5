/- The walk of the law ProgCuts. -/
import Derived.Test.YtihibljjbdjeoaaDoorPcu
import Derived.Test.YtihibljjbdjeoaaDoorAps
import Derived.Deep.Cut
namespace Go.Proofs.YtihibljjbdjeoaaDoor
open Go.RowKit
set_option linter.unusedVariables false

theorem Arr.zero {α : Type} {E : World → α → List Value → Prop} {sz : Nat} {w : World} {A : Option Addr} {n c : Nat} (xs : List α) (h : xs.length = 0) (hn : n = 0) : Arr E sz w (.slice A n c) xs := by
  subst hn
  exact ⟨A, c, by rw [h], ⟨by omega, by omega⟩, fun h0 => by omega⟩
theorem linesS_size (l : List POp) (h : ∀ x ∈ l, OpWf x) : (linesS l).size ≤ 61 * l.length := by
  unfold linesS
  split
  · have := linesB_len l h
    simpa [ByteArray.size] using this
  · simp [ByteArray.size]
theorem openN_bound (l : List POp) : -(l.length : Int) ≤ openN l ∧ openN l ≤ l.length := by
  induction l using snoc_ind with
  | h0 => exact ⟨by decide, by decide⟩
  | hs l x ih =>
    rw [openN_snoc, List.length_append, List.length_singleton]
    split <;> split <;> omega
theorem openN_take {l : List POp} {k : Nat} (h : k < l.length) : openN (l.take (k + 1)) = (if (l[k]'h).k = 10 then openN (l.take k) + 1 else openN (l.take k)) - (if (l[k]'h).k = 12 then 1 else 0) := by
  rw [List.take_succ_eq_append_getElem h, openN_snoc]
set_option maxRecDepth 100000 in
set_option maxHeartbeats 6400000 in
theorem pcl_walk (v : Value) (l : List POp) (at_ : Int) (w : World) (ht : Tab w) (hl : Arr OpE 5 w v l) (wl : ∀ x ∈ l, OpWf x) (wa : In64' at_) :
    Calls Tryd.prog 6 #[v, .int .i64 at_] w fun e w' => e = .returned (.bool true) ∧ w.grownBy w' none := by
  obtain ⟨A, c, rfl⟩ := hl.len
  have hcap := hl.cap
  have HT := As.mk ht
  have HL := As.mk hl
  have WL := As.mk wl
  have WA := As.mk wa
  clear ht hl wl wa
  go_enter Tryd.func6, Tryd.ntmps6
  go_upto_region 3 with (go_at_call 17; refine (awake20 _ HT.out).mono ?_; rintro e w1 ⟨rfl, hg⟩)
  have G := As.mk hg
  clear hg
  cases h1 : pRight l
  · go_wp2_with fail
    refine (pRight_c _ l _ (HL.out.below G.out (fun _ _ => OpE.any _ _)) _ h1).mono ?_
    rintro e w2 ⟨rfl, g2⟩
    have G2 := As.mk (gr_then G.out g2 (.inl rfl))
    clear g2
    go_wp2_with fail
    go_ret
    exact ⟨rfl, G2.out⟩
  · go_wp2_with fail
    refine (pRight_c _ l _ (HL.out.below G.out (fun _ _ => OpE.any _ _)) _ h1).mono ?_
    rintro e w2 ⟨rfl, g2⟩
    have G2 := As.mk (gr_then G.out g2 (.inl rfl))
    clear g2 G
    have h32 := (pRight_all h1).1
    by_cases ha0 : at_ < 0
    · go_wp2_with fail
      go_ret
      exact ⟨rfl, G2.out⟩
    · by_cases ha1 : (l.length : Int) < at_
      · go_wp2_with fail
        go_ret
        exact ⟨rfl, G2.out⟩
      · obtain ⟨k, rfl⟩ := Int.eq_ofNat_of_zero_le (show 0 ≤ at_ by omega)
        have hk : k ≤ l.length := by omega
        have hkc : (k : Int) ≤ (c : Int) := by omega
        have hkl : (k : Int) ≤ (l.length : Int) := by omega
        go_wp2_with fail
        go_loopw [5, 29] (fun o i wr => ∃ j : Nat, j ≤ k ∧ i = .int .i64 j ∧ o = .int .i64 (openN (l.take j)) ∧ As (w.grownBy wr none)) (fun _ i _ => k - (intOf i).toNat)
        case atStart => exact ⟨0, Nat.zero_le _, rfl, rfl, G2⟩
        case round =>
          obtain ⟨j, hj, rfl, rfl, HG⟩ := hrel
          by_cases hlt : j < k
          · have hltI : (j : Int) < (k : Int) := by omega
            have hj0 : (0 : Int) ≤ (j : Int) := by omega
            have hjl : j < l.length := by omega
            obtain ⟨bb, o, cs, rfl, hE, hcs, hcell⟩ := HL.out.at_ j l[j] (List.getElem?_eq_getElem hjl)
            obtain rfl := hE
            have c0 : wr.cell? ⟨bb, o + j * 5, none⟩ = _ := HG.out.cell (hcell 0 _ rfl) (by simp)
            have c1 := HG.out.cell (hcell 1 _ rfl) (by simp)
            have c2 := HG.out.cell (hcell 2 _ rfl) (by simp)
            have c3 := HG.out.cell (hcell 3 _ rfl) (by simp)
            have c4 := HG.out.cell (hcell 4 _ rfl) (by simp)
            have HK := As.mk (openN_take hjl)
            have hbd := openN_bound (l.take j)
            rw [List.length_take] at hbd
            have b1 : -40 ≤ openN (l.take j) := by omega
            have b2 : openN (l.take j) ≤ 40 := by omega
            clear hcell hcs hbd
            generalize l[j]'hjl = x at *
            generalize openN (l.take j) = q at *
            have G3 := As.mk (gr_alloc HG.out (.cells #[.int .i64 x.k, .int .i64 x.c, .int .i64 x.r, .int .i64 x.o, .int .i64 x.n] 48))
            clear HG
            obtain ⟨xk, xc, xr, xo, xn⟩ := x
            dsimp only at *
            by_cases k10 : xk = 10
            · subst k10
              go_wp2_with fail
              go_roundw
              case measure => simp [intOf]; omega
              case rel =>
                refine ⟨j + 1, by omega, by go_num, ?_, G3⟩
                rw [HK.out]
                simp
            · have kb10 : (xk == 10) = false := by rw [beq_eq_false_iff_ne]; exact k10
              by_cases k12 : xk = 12
              · subst k12
                go_wp2_with fail
                go_roundw
                case measure => simp [intOf]; omega
                case rel =>
                  refine ⟨j + 1, by omega, by go_num, ?_, G3⟩
                  rw [HK.out]
                  simp
              · have kb12 : (xk == 12) = false := by rw [beq_eq_false_iff_ne]; exact k12
                go_wp2_with fail
                go_roundw
                case measure => simp [intOf]; omega
                case rel =>
                  refine ⟨j + 1, by omega, by go_num, ?_, G3⟩
                  rw [HK.out]
                  simp [k10, k12]
          · obtain rfl : j = k := by omega
            clear G2
            have HA := As.mk ((HL.out.take j hk))
            have hltk : (l.take j).length ≤ 100000 := by rw [List.length_take]; omega
            have hltd : (l.drop j).length ≤ 100000 := by rw [List.length_drop]; omega
            go_upto_region 14 with fail
            go_cut [8, 9] (fun va vb wx => As (Arr OpE 5 wx va (l.take j)) ∧ As (Arr OpE 5 wx vb (l.drop j)) ∧ As (w.grownBy wx none))
            case first =>
              by_cases hn0 : 0 < l.length
              · obtain ⟨b, o, rfl, -⟩ := HL.out.flat hn0
                have HB : As (Arr OpE 5 w (.slice (if c = j then some ⟨b, o, none⟩ else some ⟨b, o + j * 5, none⟩) (l.length - j) (c - j)) (l.drop j)) := by
                  constructor
                  split
                  · exact Arr.zero _ (by rw [List.length_drop]; omega) (by omega)
                  · exact HL.out.drop j hk
                go_region_law (first
                  | (refine step_append_copy rfl (.tmp 44) (.tmp 47) rfl (l.take j) _ rfl _ rfl HA.out (by (first | exact HG.out | exact gr_alloc HG.out _ | exact gr_drew HG.out | exact gr_drew (gr_alloc HG.out _) | exact gr_alloc (gr_alloc HG.out _) _ | exact gr_drew (gr_alloc (gr_alloc HG.out _) _))) hltk ?_; intro va w1x hva hga; have nG := As.mk (gr_then (show w.grownBy _ none by (first | exact HG.out | exact gr_alloc HG.out _ | exact gr_drew HG.out | exact gr_drew (gr_alloc HG.out _) | exact gr_alloc (gr_alloc HG.out _) _ | exact gr_drew (gr_alloc (gr_alloc HG.out _) _))) hga (.inl rfl)); (try (have nE : Arr OpE 5 w1x _ _ := (by (refine FB.out.below (gr_then ?_ hga (.inl rfl)) (fun _ _ => OpE.any _ _)); first | exact gr_refl _ _ | exact gr_alloc (gr_refl _ _) _); have nF := As.mk nE; clear FB nE; have FB := nF; clear nF)); have FA := As.mk hva; clear HG; have HG := nG; clear nG hva hga)
                  | (refine step_append_copy rfl (.tmp 49) (.tmp 52) rfl (l.drop j) _ rfl _ rfl HB.out (by (first | exact HG.out | exact gr_alloc HG.out _ | exact gr_drew HG.out | exact gr_drew (gr_alloc HG.out _) | exact gr_alloc (gr_alloc HG.out _) _ | exact gr_drew (gr_alloc (gr_alloc HG.out _) _))) hltd ?_; intro vb w1x hvb hgb; have nG := As.mk (gr_then (show w.grownBy _ none by (first | exact HG.out | exact gr_alloc HG.out _ | exact gr_drew HG.out | exact gr_drew (gr_alloc HG.out _) | exact gr_alloc (gr_alloc HG.out _) _ | exact gr_drew (gr_alloc (gr_alloc HG.out _) _))) hgb (.inl rfl)); (try (have nE : Arr OpE 5 w1x _ _ := (by (refine FA.out.below (gr_then ?_ hgb (.inl rfl)) (fun _ _ => OpE.any _ _)); first | exact gr_refl _ _ | exact gr_alloc (gr_refl _ _) _); have nF := As.mk nE; clear FA nE; have FA := nF; clear nF)); have FB := As.mk hvb; clear HG; have HG := nG; clear nG hvb hgb))
                all_goals (try simp only [Exit.then])
                all_goals (generalize (if c = j then (some ⟨b, o, none⟩ : Option Addr) else some ⟨b, o + j * 5, none⟩) = X0; go_wp2; go_meet; case rel => exact ⟨FA, FB, HG⟩)
              · have hl0 : l = [] := List.eq_nil_of_length_eq_zero (by omega)
                obtain rfl : j = 0 := by omega
                subst hl0
                go_region_law (first
                  | (refine step_append_copy rfl (.tmp 44) (.tmp 47) rfl [] _ rfl _ rfl (Arr.zero (E := OpE) (sz := 5) (w := w) [] rfl rfl) (by (first | exact HG.out | exact gr_alloc HG.out _ | exact gr_drew HG.out | exact gr_drew (gr_alloc HG.out _) | exact gr_alloc (gr_alloc HG.out _) _ | exact gr_drew (gr_alloc (gr_alloc HG.out _) _))) (by simp) ?_; intro va w1x hva hga; have nG := As.mk (gr_then (show w.grownBy _ none by (first | exact HG.out | exact gr_alloc HG.out _ | exact gr_drew HG.out | exact gr_drew (gr_alloc HG.out _) | exact gr_alloc (gr_alloc HG.out _) _ | exact gr_drew (gr_alloc (gr_alloc HG.out _) _))) hga (.inl rfl)); (try (have nE : Arr OpE 5 w1x _ _ := (by (refine FB.out.below (gr_then ?_ hga (.inl rfl)) (fun _ _ => OpE.any _ _)); first | exact gr_refl _ _ | exact gr_alloc (gr_refl _ _) _); have nF := As.mk nE; clear FB nE; have FB := nF; clear nF)); have FA := As.mk hva; clear HG; have HG := nG; clear nG hva hga)
                  | (refine step_append_copy rfl (.tmp 49) (.tmp 52) rfl [] _ rfl _ rfl (Arr.zero (E := OpE) (sz := 5) (w := w) [] rfl rfl) (by (first | exact HG.out | exact gr_alloc HG.out _ | exact gr_drew HG.out | exact gr_drew (gr_alloc HG.out _) | exact gr_alloc (gr_alloc HG.out _) _ | exact gr_drew (gr_alloc (gr_alloc HG.out _) _))) (by simp) ?_; intro vb w1x hvb hgb; have nG := As.mk (gr_then (show w.grownBy _ none by (first | exact HG.out | exact gr_alloc HG.out _ | exact gr_drew HG.out | exact gr_drew (gr_alloc HG.out _) | exact gr_alloc (gr_alloc HG.out _) _ | exact gr_drew (gr_alloc (gr_alloc HG.out _) _))) hgb (.inl rfl)); (try (have nE : Arr OpE 5 w1x _ _ := (by (refine FA.out.below (gr_then ?_ hgb (.inl rfl)) (fun _ _ => OpE.any _ _)); first | exact gr_refl _ _ | exact gr_alloc (gr_refl _ _) _); have nF := As.mk nE; clear FA nE; have FA := nF; clear nF)); have FB := As.mk hvb; clear HG; have HG := nG; clear nG hvb hgb))
                all_goals (try simp only [Exit.then])
                all_goals (go_wp2; go_meet; case rel => exact ⟨FA, FB, HG⟩)
            case rest =>
              obtain ⟨FA, FB, HG2⟩ := hcut
              clear HG
              have HR := cut_right (l.take j) (l.drop j) (by rw [List.take_append_drop]; exact h1)
              generalize hq : openN (l.take j) = q at *
              by_cases hq0 : 0 < q
              · obtain ⟨r1, r2⟩ := HR.1 hq0
                go_wp2_with fail
                refine (pRight_c _ (l.take j) _ FA.out _ r1).mono ?_
                rintro e w3 ⟨rfl, g3⟩
                have FB3 := As.mk (FB.out.below g3 (fun _ _ => OpE.any _ _))
                have G3 := As.mk (gr_then HG2.out g3 (.inl rfl))
                clear g3 FA FB HG2
                go_wp2_with fail
                refine (pRight_c _ (l.drop j) _ FB3.out _ r2).mono ?_
                rintro e w4 ⟨rfl, g4⟩
                have G4 := As.mk (gr_then G3.out g4 (.inl rfl))
                clear g4 G3
                go_wp2_with fail
                go_ret
                exact ⟨rfl, G4.out⟩
              · obtain ⟨r1, r2⟩ := HR.2 (by omega)
                have EQ : linesS (l.take j) ++ linesS (l.drop j) = linesS l := by
                  have h9 := cut_lines (l := l.take j) (m := l.drop j) (by rw [List.take_append_drop]; exact h1) r1 r2
                  rw [List.take_append_drop] at h9
                  exact h9
                have WA2 : ∀ x ∈ l.take j, OpWf x := fun x hx => WL.out x (List.mem_of_mem_take hx)
                have WB2 : ∀ x ∈ l.drop j, OpWf x := fun x hx => WL.out x (List.mem_of_mem_drop hx)
                have WA2 := As.mk WA2
                have WB2 := As.mk WB2
                have SZ : ¬ 9223372036854775807 < (linesS (l.take j)).size + (linesS (l.drop j)).size := by
                  have s1 := linesS_size (l.take j) WA2.out
                  have s2 := linesS_size (l.drop j) WB2.out
                  rw [List.length_take] at s1
                  rw [List.length_drop] at s2
                  omega
                generalize hla : linesS (l.take j) = la at *
                generalize hlb : linesS (l.drop j) = lb at *
                go_wp2_with fail
                refine (pRight_c _ (l.take j) _ FA.out _ r1).mono ?_
                rintro e w3 ⟨rfl, g3⟩
                have FB3 := As.mk (FB.out.below g3 (fun _ _ => OpE.any _ _))
                have FA3 := As.mk (FA.out.below g3 (fun _ _ => OpE.any _ _))
                have G3 := As.mk (gr_then HG2.out g3 (.inl rfl))
                clear g3 FA FB HG2
                go_wp2_with fail
                refine (pRight_c _ (l.drop j) _ FB3.out _ r2).mono ?_
                rintro e w4 ⟨rfl, g4⟩
                have FB4 := As.mk (FB3.out.below g4 (fun _ _ => OpE.any _ _))
                have FA4 := As.mk (FA3.out.below g4 (fun _ _ => OpE.any _ _))
                have G4 := As.mk (gr_then G3.out g4 (.inl rfl))
                clear g4 FA3 FB3 G3
                go_wp2_with fail
                refine (lines_c _ (l.take j) _ (HT.out.gr G4.out) FA4.out WA2.out).mono ?_
                rintro e w5 ⟨rfl, g5⟩
                have FB5 := As.mk (FB4.out.below g5 (fun _ _ => OpE.any _ _))
                have G5 := As.mk (gr_then G4.out g5 (.inl rfl))
                clear g5 FA4 FB4 G4
                rw [hla]
                go_wp2_with fail
                refine (lines_c _ (l.drop j) _ (HT.out.gr G5.out) FB5.out WB2.out).mono ?_
                rintro e w6 ⟨rfl, g6⟩
                have G6 := As.mk (gr_then G5.out g6 (.inl rfl))
                clear g6 FB5 G5
                rw [hlb]
                go_wp2_with fail
                refine (lines_c _ l _ (HT.out.gr G6.out) (HL.out.below G6.out (fun _ _ => OpE.any _ _)) WL.out).mono ?_
                rintro e w7 ⟨rfl, g7⟩
                have G7 := As.mk (gr_then G6.out g7 (.inl rfl))
                clear g7 G6
                rw [← EQ]
                go_wp2_with fail
                go_ret
                exact ⟨by simp, G7.out⟩
end Go.Proofs.YtihibljjbdjeoaaDoor
