/- The walk of the law FrameOpens. -/
import Derived.Test.YtmehohpboliibaaRall
import Derived.Test.YtmehohpboliibaaFsLaw
namespace Go.Proofs.Ytmehohpboliibaa
open Go.RowKit
set_option linter.unusedVariables false

theorem allF_len : ∀ (k : Nat) (r : ByteArray), 6 * (allK k r).1.length ≤ r.size
  | 0, r => by simp [allK]
  | k + 1, r => by
    unfold allK
    by_cases h : (openF r).2.2 = 0
    · rw [if_pos h]
      have h1 := open_less r h
      have h2 := allF_len k (openF r).2.1
      simp only [List.length_cons]
      omega
    · rw [if_neg h]; simp
set_option maxRecDepth 100000 in
set_option maxHeartbeats 3200000 in
theorem fo_walk (s : ByteArray) (w : World) (hm : s.size ≤ 140737488351232) :
    Calls Try.prog 7 #[.string s] w fun e w' => e = .returned (.bool true) ∧ w.grownBy w' none := by
  by_cases h9 : s.size ≤ 9000
  · have h9I : ¬ (9000 : Int) < (s.size : Int) := by omega
    have H9 := As.mk h9
    clear h9
    go_enter Try.func7, Try.ntmps7
    go_wp2_with fail
    refine (awake3_walk _).mono ?_
    rintro e w1 ⟨rfl, hg⟩
    have G1 := As.mk hg
    clear hg
    go_wp2_with fail
    refine (open_c s _ hm).mono ?_
    rintro e w2 ⟨rfl, hg⟩
    have G2 := As.mk (gr_then G1.out hg (.inl rfl))
    clear hg G1
    go_wp2_with fail
    refine (ropen_c s _ hm).mono ?_
    rintro e w3 ⟨rfl, hg⟩
    have G3 := As.mk (gr_then G2.out hg (.inl rfl))
    clear hg G2
    obtain ⟨a1, a2, a3, a4⟩ := opens_alike s
    rw [a1, a2]
    have ZS : As (∀ w', Calls Try.prog 29 #[.string s] w' _) := ⟨fun w' => all_c s w' (by have := H9.out; omega)⟩
    have ZR : As (∀ w', Calls Try.prog 30 #[.string s] w' _) := ⟨fun w' => rall_c s w' (by have := H9.out; omega)⟩
    have LL := As.mk (allF_len (s.size + 1) s)
    have LL : As (6 * (allF s).1.length ≤ s.size) := LL
    generalize (ropenF s).1 = q at *
    generalize (openF s).2.1 = more at *
    generalize (ropenF s).2.1 = rn at *
    by_cases h0 : (ropenF s).2.2 = 0
    · obtain ⟨n, rfl, _, hn, rfl⟩ := a3 h0
      have hnI : (n : Int) ≤ (s.size : Int) := by omega
      rw [h0]
      clear a1 a2 a3 a4 h0
      go_wp2_with fail
      refine (ZS.out _).mono ?_
      rintro e w4 ⟨⟨v1, rfl, ho1⟩, hg⟩
      have G4 := As.mk (gr_then G3.out hg (.inl rfl))
      have O1 := As.mk (own_strs ho1)
      clear hg ho1 G3 ZS
      go_wp2_with fail
      refine (ZR.out _).mono ?_
      rintro e w5 ⟨⟨v2, rfl, ho2⟩, hg⟩
      have G5 := As.mk (gr_then G4.out hg (.inl rfl))
      have O2 := As.mk (own_strs ho2)
      have O1' := As.mk (O1.out.grown hg)
      clear hg ho2 G4 ZR O1
      go_wp2_with fail
      refine (same_c _ _ _ _ _ O1'.out O2.out (by have := LL.out; have := H9.out; omega)).mono ?_
      rintro e w6 ⟨rfl, nd, hw⟩
      have G6 : As (w.grownBy w6 none) := ⟨by rw [hw]; exact gr_drewN G5.out nd⟩
      clear hw
      go_wp2
      go_ret
      exact ⟨by simp, G6.out⟩
    · have h00 := h0
      have hmore := a4 h0
      subst hmore
      clear a1 a2 a3 a4 h0
      generalize (ropenF s).2.2 = er at *
      go_wp2_with fail
      refine (ZS.out _).mono ?_
      rintro e w4 ⟨⟨v1, rfl, ho1⟩, hg⟩
      have G4 := As.mk (gr_then G3.out hg (.inl rfl))
      have O1 := As.mk (own_strs ho1)
      clear hg ho1 G3 ZS
      go_wp2_with fail
      refine (ZR.out _).mono ?_
      rintro e w5 ⟨⟨v2, rfl, ho2⟩, hg⟩
      have G5 := As.mk (gr_then G4.out hg (.inl rfl))
      have O2 := As.mk (own_strs ho2)
      have O1' := As.mk (O1.out.grown hg)
      clear hg ho2 G4 ZR O1
      go_wp2_with fail
      refine (same_c _ _ _ _ _ O1'.out O2.out (by have := LL.out; have := H9.out; omega)).mono ?_
      rintro e w6 ⟨rfl, nd, hw⟩
      have G6 : As (w.grownBy w6 none) := ⟨by rw [hw]; exact gr_drewN G5.out nd⟩
      clear hw
      go_wp2
      go_ret
      exact ⟨by simp, G6.out⟩
  · have h9I : (9000 : Int) < (s.size : Int) := by omega
    clear h9
    go_enter Try.func7, Try.ntmps7
    go_wp2_with fail
    refine (awake3_walk _).mono ?_
    rintro e w1 ⟨rfl, hg⟩
    have G1 := As.mk hg
    clear hg
    go_wp2
    go_ret
    exact ⟨rfl, G1.out⟩
end Go.Proofs.Ytmehohpboliibaa
