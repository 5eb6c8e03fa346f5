/- TellCalls: for every input the law returns true, and its arguments read as they did. No condition. -/
import Derived.Test.YtihibljjbdjeoaaDoorRows
import Derived.Test.YtihibljjbdjeoaaDoorTie
import Derived.Test.YtihibljjbdjeoaaDoorCards
import Derived.Test.YtihibljjbdjeoaaDoorLd
import Derived.Test.YtihibljjbdjeoaaDoorCw
import Derived.Test.YtihibljjbdjeoaaDoorClO
import Derived.WalkKit
import Derived.LaidMore
import Derived.SevenTiedAt
import Derived.ProofKit
import Derived.OpenShut
import Derived.ShutString
import Derived.ChangeOld
import Derived.Below
import Derived.SizedLaws
import Derived.SliceStrings
import Derived.Carry
import Derived.Lib.SmallJoins
namespace Go.Proofs.YtihibljjbdjeoaaDoor.tellCalls
open Go.ChangeShapes Go.WideShapes Go.ChangeAt Go.RowKit
open Go.ChangeMaps (open_string shut_string)
set_option linter.unusedVariables false

set_option maxRecDepth 100000 in
theorem lifted (os : Os) (started : os.Started) (H : Type) (enc : TypeId × Value → H) :
    ReturnsInHanded {} Tryd.checked os 4 .any (fun w args => (Rows.tellCallsSpec.pre enc Tryd.prog Tryd.f4 [] false w args ∧ laidMetH Tryd.prog laidL w) ∧ sizedMet enc Tryd.prog Tryd.f4 (OpenSpec.ofChange Rows.tellCallsSpec) false w args) (Rows.tellCallsSpec.post enc Tryd.prog Tryd.f4 false true false false) := by
  refine returnsInHanded_of_change_and (C := Tryd.checked) (X := fun w _ => laidMetH Tryd.prog laidL w) (fun _ _ _ hh h => h.of_heap hh) ownLd started (by kernel_rfl) Tryd.func4
    (ChangeSpec.witness_shaped (enc := enc) (C := Tryd.checked) (os := os) (X := fun w _ => laidMetH Tryd.prog laidL w) false (World.doorLaid Tryd.prog 24 os) #[.slice none 0 0] 8 rfl (World.shaped_of_RefB (by kernel_rfl) (by kernel_rfl)) (by kernel_rfl) (by kernel_rfl) (by kernel_rfl) (door_met os _)) ?_
  intro W base args ds gs before hval0 hW _ hsz0 hL _
  have ht := tab_of_laid hL
  have hsz : (DataW.weightsEach Tryd.prog (Tryd.f4.params.toList ++ Rows.tellCallsSpec.plain.varTypes Tryd.prog) (ds ++ gs)).all (· ≤ reachBytes) = true := hsz0
  have hval : ∀ (j : Nat) t v, Tryd.f4.params[j]? = some t → args[j]? = some v → Value.okWide Tryd.prog W .any base t v := hval0
  have hW' := hW
  obtain ⟨p, q, hA0, hV, rfl, hfz, hnd⟩ := hW
  have hA : DataW.TrodAll enc Tryd.prog W 0 (fun _ => true) true Tryd.f4.params.toList args.toList ds p := hA0
  rw [Tryd.params4] at hA hval hsz
  obtain ⟨v0, vs0, d0, ds0, p0, q0, hargs, rfl, rfl, h0, r0⟩ := trodAll_cons hA
  obtain ⟨rfl, rfl, rfl⟩ := trodAll_nil r0
  obtain rfl : args = #[v0] := by cases args; simp_all
  obtain ⟨rfl, rfl⟩ := trodVars_none hV
  have hlt : ∀ x ∈ p0 ++ [], x.block < W.heap.size := DataW.TrodAll.lt hA0
  have h0' := h0
  have hlt0 : ∀ x ∈ p0, x.block < W.heap.size := fun x hx => hlt x (by simp [hx])
  obtain ⟨ad0, n0, cc0, rfl⟩ := okWide_slice Tryd.underlying30 (hval 0 30 v0 rfl rfl)
  obtain ⟨f0, t0⟩ := h0
  obtain ⟨l0, s0, z0⟩ := arr_of (E := CallE) (Q := PCall.ok) (sz := 20) Tryd.underlying30 (by kernel_rfl) (by decide) t0 (weights_each hsz (j := 0) rfl rfl)
    (call_trod Tryd.underlying37 (by kernel_rfl) ⟨rfl, (by kernel_rfl), _, _, _, Tryd.underlying23, ⟨rfl, Tryd.underlying3, (by kernel_rfl)⟩, ⟨rfl, Tryd.underlying3, (by kernel_rfl)⟩, ⟨rfl, Tryd.underlying3, (by kernel_rfl)⟩⟩ ⟨rfl, Tryd.underlying31, (by kernel_rfl)⟩ ⟨rfl, Tryd.underlying3, (by kernel_rfl)⟩ ⟨rfl, Tryd.underlying4, (by kernel_rfl)⟩ ⟨rfl, (by kernel_rfl), _, _, _, _, _, Tryd.underlying35, ⟨rfl, (by kernel_rfl), _, _, _, Tryd.underlying23, ⟨rfl, Tryd.underlying3, (by kernel_rfl)⟩, ⟨rfl, Tryd.underlying3, (by kernel_rfl)⟩, ⟨rfl, Tryd.underlying3, (by kernel_rfl)⟩⟩, ⟨rfl, Tryd.underlying4, (by kernel_rfl)⟩, ⟨rfl, Tryd.underlying32, (by kernel_rfl)⟩, rfl, Tryd.underlying33, (by kernel_rfl), Tryd.underlying3, (by kernel_rfl)⟩ ⟨rfl, Tryd.underlying3, (by kernel_rfl)⟩)
  have LO : laidOutB Tryd.prog = true := by kernel_rfl
  clear hval0 hsz0 hsz
  refine (cw_walk _ l0 W ht s0 z0).mono fun e W' ⟨he, hgr⟩ => ?_
  have bel := gr_below hgr
  subst he
  exact ⟨_, rfl, _, _, _, [], _, [], hW', trodAll_mk1 (shut_bool Tryd.underlying4 _), (trodAll_cons_mk (Below.trod LO (by kernel_rfl) (of_decide_eq_true (by kernel_rfl)) h0' bel hlt0) trodAll_mk0), rfl, bel.frame _, fun h => by cases h⟩
theorem over : Rows.tellCallsRow.holds Tryd.pinned (OpenSpec.ofChange Rows.tellCallsSpec) :=
  OpenClaim.holds_of_wide 4 Tryd.f4 rfl rfl rfl rfl rfl rfl rfl ⟨rfl, rfl, rfl, rfl, rfl⟩ rfl rfl rfl rfl rfl (by kernel_rfl) Tryd.func4 (by kernel_rfl)
    (of_decide_eq_true (by kernel_rfl)) (by unfold Func.isWrapper; first | (rw [if_pos (by decide +kernel)]; kernel_rfl) | (rw [if_neg (by decide +kernel)]; exact ⟨rfl, rfl⟩))
    (fun os started H enc _ => lifted os started H enc)
theorem proved : Rows.TellCallsSaid := over
theorem card : Rows.TellCallsCardSaid :=
  Claim7.holds_tied_plain_at .later [] [.data, .data, .data] true (true, "905c9456d2e66cf41e63bf81cc896112534a71ff8edf360fe2226b03ea63f402") true
    proved (fun _ h => by cases h) (by kernel_rfl) (fun _ h => by cases h) tellCalls_row_tie rfl ⟨rfl, rfl⟩ (by kernel_rfl) rfl
    (fun f fn hf hfn => by
      obtain rfl : f = 4 := Option.some.inj ((show Tryd.prog.funcNamed "remuda/remudalaw28.TellCalls" = some 4 by kernel_rfl).symm.trans hf) |>.symm
      obtain rfl : fn = Tryd.f4 := (Option.some.inj (Tryd.func4.symm.trans hfn)).symm
      exact ⟨by kernel_rfl, fun j t ht => by
        rw [Tryd.params4] at ht
        have hm : t ∈ [30] := by simpa using Array.mem_of_getElem? ht
        have hall : ([30].all fun u => !Tryd.prog.wantsStandIn u) = true := by kernel_rfl
        exact (show Tryd.prog.wantsStandIn t = false by simpa using List.all_eq_true.1 hall t hm)⟩)
    (by kernel_rfl)
end Go.Proofs.YtihibljjbdjeoaaDoor.tellCalls
namespace Go.Proofs.YtihibljjbdjeoaaDoor
/-- The card, under a short name, for the claim. -/
theorem tellCalls_holds : Rows.TellCallsCardSaid := tellCalls.card
end Go.Proofs.YtihibljjbdjeoaaDoor
