/- The walk of the law ProgReads. -/
import Derived.Test.YtihibljjbdjeoaaDoorEq
import Derived.Test.YtihibljjbdjeoaaDoorPul
namespace Go.Proofs.YtihibljjbdjeoaaDoor
open Go.RowKit
set_option linter.unusedVariables false

set_option maxRecDepth 100000 in
set_option maxHeartbeats 3200000 in
theorem prl_walk (S : ByteArray) (w : World) (ht : Tab w) (hS : S.size ≤ 140737488355328) :
    Calls Tryd.prog 8 #[.string S] w fun e w' => e = .returned (.bool true) ∧ w.grownBy w' none := by
  have HT := As.mk ht
  clear ht
  have HD := As.mk (And.intro (decR_eq S) (And.intro (encR_rd (S := S)) (rdR_len (S := S))))
  go_enter Tryd.func8, Tryd.ntmps8
  go_upto_region 3 with (go_at_call 17; refine (awake20 _ HT.out).mono ?_; rintro e w1 ⟨rfl, hg⟩)
  have G := As.mk hg
  clear hg
  by_cases h5 : 5000 < S.size
  · have h5I : (5000 : Int) < (S.size : Int) := by omega
    go_wp2_with fail
    go_ret
    exact ⟨rfl, G.out⟩
  · have h5I : ¬ (5000 : Int) < (S.size : Int) := by omega
    go_wp2_with fail
    refine (decode_c S _ hS).mono ?_
    rintro e w2 ⟨⟨v, rfl, ha⟩, g2⟩
    have HA := As.mk ha
    have G2 := As.mk (gr_then G.out g2 (.inl rfl))
    clear ha g2 G
    obtain ⟨A, c, rfl⟩ := HA.out.len
    generalize decR S = dr at *
    go_wp2_with fail
    refine (read_c S _ hS).mono ?_
    rintro e w3 ⟨⟨v', rfl, hb⟩, g3⟩
    have HB := As.mk hb
    have HA3 := As.mk (HA.out.below g3 (fun _ _ => OpE.any _ _))
    have G3 := As.mk (gr_then G2.out g3 (.inl rfl))
    clear hb g3 G2 HA
    generalize rdR S = rr at *
    obtain ⟨rl, rb⟩ := rr
    obtain ⟨A', c', rfl⟩ := HB.out.len
    dsimp only at *
    cases rb
    · have hdr : dr = ([], 2) := by rw [HD.out.1]; rfl
      subst hdr
      go_wp2_with fail
      go_ret
      exact ⟨rfl, G3.out⟩
    · have hdr : dr = (rl, 0) := by rw [HD.out.1]; rfl
      subst hdr
      have hen := HD.out.2.1 rfl
      have hln := HD.out.2.2 rfl
      clear HD
      dsimp only at *
      have HE := As.mk hen
      clear hen
      go_wp2_with fail
      refine (encode_c _ rl _ HA3.out).mono ?_
      rintro e w4 ⟨rfl, g4⟩
      rw [HE.out]
      have HA4 := As.mk (HA3.out.below g4 (fun _ _ => OpE.any _ _))
      have HB4 := As.mk (HB.out.below g4 (fun _ _ => OpE.any _ _))
      have G4 := As.mk (gr_then G3.out g4 (.inl rfl))
      clear g4 HA3 HB G3
      go_wp2_with fail
      refine (plain20_walk _ rl _ _ rfl HA4.out (by omega)).mono ?_
      rintro e w5 ⟨v5, rfl, ho5, g5⟩
      have HP5 := As.mk (Arr.of_ops ho5)
      have HB5 := As.mk (HB4.out.below g5 (fun _ _ => OpE.any _ _))
      have G5 := As.mk (gr_then G4.out g5 (.inl rfl))
      clear ho5 g5 HA4 HB4 G4
      go_wp2_with fail
      refine (same20_c _ _ rl rl _ HP5.out HB5.out).mono ?_
      rintro e w6 ⟨rfl, n6, rfl⟩
      rw [(sameOps_iff rl rl).2 rfl]
      go_wp2_with fail
      go_ret
      exact ⟨by simp, gr_drewN G5.out _⟩
end Go.Proofs.YtihibljjbdjeoaaDoor
