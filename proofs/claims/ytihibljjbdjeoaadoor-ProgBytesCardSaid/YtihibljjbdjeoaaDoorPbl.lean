/- The walk of the law ProgBytes. -/
import Derived.Test.YtihibljjbdjeoaaDoorEd
import Derived.Test.YtihibljjbdjeoaaDoorBy
import Derived.Test.YtihibljjbdjeoaaDoorRl
import Derived.Test.YtihibljjbdjeoaaDoorRr
import Derived.Test.YtihibljjbdjeoaaDoorRp
import Derived.Test.YtihibljjbdjeoaaDoorPul
namespace Go.Proofs.YtihibljjbdjeoaaDoor
open Go.RowKit
set_option linter.unusedVariables false

theorem encR_yes {l : List POp} (h : pRight l = true) : encR l = (⟨(encL l).toArray⟩, 0) := by unfold encR; rw [if_pos h]
theorem encR_no {l : List POp} (h : pRight l = false) : encR l = (⟨#[]⟩, 1) := by unfold encR; rw [if_neg (by rw [h]; simp)]
theorem linesS_no {l : List POp} (h : pRight l = false) : linesS l = ⟨#[]⟩ := by unfold linesS; rw [if_neg (by rw [h]; simp)]
theorem cellsR_no {l : List POp} (h : pRight l = false) : cellsR l = [] := by unfold cellsR; rw [if_neg (by rw [h]; simp)]
set_option maxRecDepth 100000 in
set_option maxHeartbeats 6400000 in
theorem pbl_walk (v : Value) (l : List POp) (w : World) (ht : Tab w) (hl : Arr OpE 5 w v l) (wl : ∀ x ∈ l, OpWf x) :
    Calls Tryd.prog 9 #[v] w fun e w' => e = .returned (.bool true) ∧ w.grownBy w' none := by
  obtain ⟨A, c, rfl⟩ := hl.len
  have HT := As.mk ht
  have H := As.mk hl
  have WL := As.mk wl
  clear ht hl wl
  go_enter Tryd.func9, Tryd.ntmps9
  go_upto_region 3 with (go_at_call 17; refine (awake20 _ HT.out).mono ?_; rintro e w1 ⟨rfl, hg⟩)
  have G := As.mk hg
  have H1 := As.mk (H.out.below hg (fun _ _ => OpE.any _ _))
  clear hg H
  by_cases h8 : 80 < l.length
  · have h8I : (80 : Int) < (l.length : Int) := by omega
    go_wp2_with fail
    go_ret
    exact ⟨rfl, G.out⟩
  · have h8I : ¬ (80 : Int) < (l.length : Int) := by omega
    go_wp2_with fail
    refine (plain20_walk _ l _ _ rfl H1.out (by omega)).mono ?_
    rintro e w2 ⟨v2, rfl, ho2, g2⟩
    have HP := As.mk (Arr.of_ops ho2)
    have H2 := As.mk (H1.out.below g2 (fun _ _ => OpE.any _ _))
    have G2 := As.mk (gr_then G.out g2 (.inl rfl))
    clear ho2 g2 H1 G
    go_wp2_with fail
    refine (rRight_c _ l _ HP.out _ (rRight_pRight l)).mono ?_
    rintro e w3 ⟨rfl, g3⟩
    have HP3 := As.mk (HP.out.below g3 (fun _ _ => OpE.any _ _))
    have H3 := As.mk (H2.out.below g3 (fun _ _ => OpE.any _ _))
    have G3 := As.mk (gr_then G2.out g3 (.inl rfl))
    clear g3 H2 G2 HP
    go_wp2_with fail
    refine (encode_c _ l _ H3.out).mono ?_
    rintro e w4 ⟨rfl, g4⟩
    have HP4 := As.mk (HP3.out.below g4 (fun _ _ => OpE.any _ _))
    have H4 := As.mk (H3.out.below g4 (fun _ _ => OpE.any _ _))
    have G4 := As.mk (gr_then G3.out g4 (.inl rfl))
    clear g4 H3 G3 HP3
    cases hp : pRight l
    · have HE := As.mk (encR_no hp)
      have HL := As.mk (linesS_no hp)
      have HC := As.mk (cellsR_no hp)
      have HPR := As.mk hp
      clear hp
      rw [HE.out]
      go_wp2_with fail
      refine (pRight_c _ l _ H4.out _ HPR.out).mono ?_
      rintro e w5 ⟨rfl, g5⟩
      have H5 := As.mk (H4.out.below g5 (fun _ _ => OpE.any _ _))
      have G5 := As.mk (gr_then G4.out g5 (.inl rfl))
      have HG5 := As.mk (gr_then G4.out g5 (.inl rfl))
      clear g5 H4 G4
      go_wp2_with fail
      refine (lines_c _ l _ (HT.out.gr G5.out) H5.out WL.out).mono ?_
      rintro e w6 ⟨rfl, g6⟩
      rw [HL.out]
      have H6 := As.mk (H5.out.below g6 (fun _ _ => OpE.any _ _))
      have G6 := As.mk (gr_then G5.out g6 (.inl rfl))
      clear g6 H5 G5
      go_wp2_with fail
      refine (cells_c _ l _ H6.out).mono ?_
      rintro e w7 ⟨⟨v7, rfl, h7⟩, g7⟩
      rw [HC.out] at h7
      obtain ⟨A7, c7, rfl⟩ := h7.len
      have G7 := As.mk (gr_then G6.out g7 (.inl rfl))
      clear g7 h7
      go_wp2_with fail
      go_ret
      exact ⟨rfl, G7.out⟩
    · have HE := As.mk (encR_yes hp)
      have HD := As.mk (decR_enc hp WL.out)
      have HL := As.mk (lines_right hp)
      have HC := As.mk (cells_right hp)
      have HK := As.mk (fun x hx => opRight_k ((pRight_all hp).2.1 x hx))
      have HZ := As.mk (encL_len l)
      have HPR := As.mk hp
      have hbs : (⟨(encL l).toArray⟩ : ByteArray).size ≤ 140737488355328 := by
        show (encL l).toArray.size ≤ _
        rw [List.size_toArray, encL_len]
        omega
      have HBS := As.mk hbs
      clear hp hbs
      rw [HE.out]
      have HB := As.mk (fun W h => bytes_c (v2) l W h (by omega))
      generalize hes : (⟨(encL l).toArray⟩ : ByteArray) = es at *
      have HES := As.mk hes
      clear hes
      go_wp2_with fail
      refine (pRight_c _ l _ H4.out _ HPR.out).mono ?_
      rintro e w5 ⟨rfl, g5⟩
      have HP5 := As.mk (HP4.out.below g5 (fun _ _ => OpE.any _ _))
      have H5 := As.mk (H4.out.below g5 (fun _ _ => OpE.any _ _))
      have G5 := As.mk (gr_then G4.out g5 (.inl rfl))
      clear g5 H4 G4 HP4
      go_wp2_with fail
      refine (decode_c es _ HBS.out).mono ?_
      rintro e w6 ⟨⟨v6, rfl, h6⟩, g6⟩
      rw [HD.out] at h6 ⊢
      have HX6 := As.mk h6
      obtain ⟨A6, c6, rfl⟩ := h6.len
      have HP6 := As.mk (HP5.out.below g6 (fun _ _ => OpE.any _ _))
      have H6 := As.mk (H5.out.below g6 (fun _ _ => OpE.any _ _))
      have G6 := As.mk (gr_then G5.out g6 (.inl rfl))
      clear g6 h6 H5 G5 HP5
      dsimp only at HX6
      go_wp2_with fail
      refine (HB.out _ HP6.out).mono ?_
      rintro e w7 ⟨rfl, g7⟩
      have HX7 := As.mk (HX6.out.below g7 (fun _ _ => OpE.any _ _))
      have HP7 := As.mk (HP6.out.below g7 (fun _ _ => OpE.any _ _))
      have H7 := As.mk (H6.out.below g7 (fun _ _ => OpE.any _ _))
      have G7 := As.mk (gr_then G6.out g7 (.inl rfl))
      clear g7 H6 G6 HP6 HX6
      go_wp2_with fail
      refine (plain20_walk _ l _ _ rfl HX7.out (by omega)).mono ?_
      rintro e w8 ⟨v8, rfl, ho8, g8⟩
      have HX8 := As.mk (Arr.of_ops ho8)
      have HP8 := As.mk (HP7.out.below g8 (fun _ _ => OpE.any _ _))
      have H8 := As.mk (H7.out.below g8 (fun _ _ => OpE.any _ _))
      have G8 := As.mk (gr_then G7.out g8 (.inl rfl))
      clear ho8 g8 H7 G7 HP7 HX7
      go_wp2_with fail
      refine (same20_c _ _ l l _ HX8.out HP8.out).mono ?_
      rintro e w9 ⟨rfl, n9, rfl⟩
      rw [(sameOps_iff l l).2 rfl]
      have HP9 := As.mk (show Arr OpE 5 (w8.drewN n9) _ l from HP8.out)
      have H9 := As.mk (show Arr OpE 5 (w8.drewN n9) _ l from H8.out)
      have G9 := As.mk (gr_drewN G8.out n9)
      clear H8 G8 HP8 HX8
      generalize w8.drewN n9 = w9 at *
      go_wp2_with fail
      refine (lines_c _ l _ (HT.out.gr G9.out) H9.out WL.out).mono ?_
      rintro e wa ⟨rfl, ga⟩
      rw [HL.out]
      have HPa := As.mk (HP9.out.below ga (fun _ _ => OpE.any _ _))
      have Ha := As.mk (H9.out.below ga (fun _ _ => OpE.any _ _))
      have Ga := As.mk (gr_then G9.out ga (.inl rfl))
      clear ga H9 G9 HP9
      have HRL := As.mk (fun W h => rlines_c v2 l W h WL.out HK.out (by omega))
      generalize (⟨(linesB l).toArray⟩ : ByteArray) = ls at *
      go_wp2_with fail
      refine (HRL.out _ HPa.out).mono ?_
      rintro e wb ⟨rfl, gb⟩
      have HPb := As.mk (HPa.out.below gb (fun _ _ => OpE.any _ _))
      have Hb := As.mk (Ha.out.below gb (fun _ _ => OpE.any _ _))
      have Gb := As.mk (gr_then Ga.out gb (.inl rfl))
      clear gb Ha Ga HPa
      go_wp2_with fail
      refine (cells_c _ l _ Hb.out).mono ?_
      rintro e wc ⟨⟨vc, rfl, hc⟩, gc⟩
      rw [HC.out] at hc
      have HCc := As.mk hc
      have HPc := As.mk (HPb.out.below gc (fun _ _ => OpE.any _ _))
      have Gc := As.mk (gr_then Gb.out gc (.inl rfl))
      clear gc hc Hb Gb HPb
      go_wp2_with fail
      refine (rcells_c _ l _ HPc.out (by omega)).mono ?_
      rintro e wd ⟨⟨vd, rfl, hd⟩, gd⟩
      have HCd := As.mk (HCc.out.below gd (fun _ _ => IntE.any _ _))
      have HDd := As.mk hd
      have Gd := As.mk (gr_then Gc.out gd (.inl rfl))
      clear gd hd HPc Gc HCc
      go_wp2_with fail
      refine (sameNodes_c _ _ _ _ HCd.out HDd.out).mono ?_
      rintro e we ⟨rfl, ne, rfl⟩
      go_wp2_with fail
      go_ret
      exact ⟨by simp, gr_drewN Gd.out _⟩
end Go.Proofs.YtihibljjbdjeoaaDoor
