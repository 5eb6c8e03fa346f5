/- TellWords: for every input the law returns true, and its arguments read as they did. No condition. -/
import Derived.Test.YtihibljjbdjeoaaDoorRows
import Derived.Test.YtihibljjbdjeoaaDoorTie
import Derived.Test.YtihibljjbdjeoaaDoorCards
import Derived.Test.YtihibljjbdjeoaaDoorLd
import Derived.Test.YtihibljjbdjeoaaDoorTw
import Derived.Test.YtihibljjbdjeoaaDoorItO
import Derived.WalkKit
import Derived.LaidMore
import Derived.SevenTiedAt
import Derived.ProofKit
import Derived.OpenShut
import Derived.ShutString
import Derived.ChangeOld
import Derived.Below
import Derived.SizedLaws
import Derived.SliceStrings
import Derived.Carry
import Derived.Lib.SmallJoins
namespace Go.Proofs.YtihibljjbdjeoaaDoor.tellWords
open Go.ChangeShapes Go.WideShapes Go.ChangeAt Go.RowKit
open Go.ChangeMaps (open_string shut_string)
set_option linter.unusedVariables false

set_option maxRecDepth 100000 in
theorem lifted (os : Os) (started : os.Started) (H : Type) (enc : TypeId × Value → H) :
    ReturnsInHanded {} Tryd.checked os 3 .any (fun w args => (Rows.tellWordsSpec.pre enc Tryd.prog Tryd.f3 [] false w args ∧ laidMetH Tryd.prog laidL w) ∧ sizedMet enc Tryd.prog Tryd.f3 (OpenSpec.ofChange Rows.tellWordsSpec) false w args) (Rows.tellWordsSpec.post enc Tryd.prog Tryd.f3 false true false false) := by
  refine returnsInHanded_of_change_and (C := Tryd.checked) (X := fun w _ => laidMetH Tryd.prog laidL w) (fun _ _ _ hh h => h.of_heap hh) ownLd started (by kernel_rfl) Tryd.func3
    (ChangeSpec.witness_shaped (enc := enc) (C := Tryd.checked) (os := os) (X := fun w _ => laidMetH Tryd.prog laidL w) false (World.doorLaid Tryd.prog 24 os) #[.agg #[.int .i64 0, .int .i64 0, .int .i64 0], .agg #[.int .i64 0, .int .i64 0, .int .i64 0], .slice none 0 0] 8 rfl (World.shaped_of_RefB (by kernel_rfl) (by kernel_rfl)) (by kernel_rfl) (by kernel_rfl) (by kernel_rfl) (door_met os _)) ?_
  intro W base args ds gs before hval0 hW _ hsz0 hL _
  have ht := tab_of_laid hL
  have hsz : (DataW.weightsEach Tryd.prog (Tryd.f3.params.toList ++ Rows.tellWordsSpec.plain.varTypes Tryd.prog) (ds ++ gs)).all (· ≤ reachBytes) = true := hsz0
  have hval : ∀ (j : Nat) t v, Tryd.f3.params[j]? = some t → args[j]? = some v → Value.okWide Tryd.prog W .any base t v := hval0
  have hW' := hW
  obtain ⟨p, q, hA0, hV, rfl, hfz, hnd⟩ := hW
  have hA : DataW.TrodAll enc Tryd.prog W 0 (fun _ => true) true Tryd.f3.params.toList args.toList ds p := hA0
  rw [Tryd.params3] at hA hval hsz
  obtain ⟨v0, vs0, d0, ds0, p0, q0, hargs, rfl, rfl, h0, r0⟩ := trodAll_cons hA
  obtain ⟨v1, vs1, d1, ds1, p1, q1, rfl, rfl, rfl, h1, r1⟩ := trodAll_cons r0
  obtain ⟨v2, vs2, d2, ds2, p2, q2, rfl, rfl, rfl, h2, r2⟩ := trodAll_cons r1
  obtain ⟨rfl, rfl, rfl⟩ := trodAll_nil r2
  obtain rfl : args = #[v0, v1, v2] := by cases args; simp_all
  obtain ⟨rfl, rfl⟩ := trodVars_none hV
  have hlt : ∀ x ∈ p0 ++ (p1 ++ (p2 ++ [])), x.block < W.heap.size := DataW.TrodAll.lt hA0
  have h0' := h0
  have hlt0 : ∀ x ∈ p0, x.block < W.heap.size := fun x hx => hlt x (by simp [hx])
  have h1' := h1
  have hlt1 : ∀ x ∈ p1, x.block < W.heap.size := fun x hx => hlt x (by simp [hx])
  have h2' := h2
  have hlt2 : ∀ x ∈ p2, x.block < W.heap.size := fun x hx => hlt x (by simp [hx])
  obtain ⟨a0, b0, c0, rfl, w0, y0, z0⟩ := agg3_ints Tryd.underlying23 (by kernel_rfl) ⟨rfl, Tryd.underlying3, (by kernel_rfl)⟩ ⟨rfl, Tryd.underlying3, (by kernel_rfl)⟩ ⟨rfl, Tryd.underlying3, (by kernel_rfl)⟩ (hval 0 23 v0 rfl rfl) h0
  obtain ⟨a1, b1, c1, rfl, w1, y1, z1⟩ := agg3_ints Tryd.underlying23 (by kernel_rfl) ⟨rfl, Tryd.underlying3, (by kernel_rfl)⟩ ⟨rfl, Tryd.underlying3, (by kernel_rfl)⟩ ⟨rfl, Tryd.underlying3, (by kernel_rfl)⟩ (hval 1 23 v1 rfl rfl) h1
  obtain ⟨ad2, n2, cc2, rfl⟩ := okWide_slice Tryd.underlying24 (hval 2 24 v2 rfl rfl)
  obtain ⟨f2, t2⟩ := h2
  obtain ⟨l2, s2, z2⟩ := arr_of (E := ItE) (Q := PIt.ok) (sz := 5) Tryd.underlying24 (by kernel_rfl) (by decide) t2 (weights_each hsz (j := 2) rfl rfl)
    (it_trod Tryd.underlying69 (by kernel_rfl) ⟨rfl, Tryd.underlying3, (by kernel_rfl)⟩ ⟨rfl, Tryd.underlying3, (by kernel_rfl)⟩ ⟨rfl, Tryd.underlying3, (by kernel_rfl)⟩ ⟨rfl, Tryd.underlying4, (by kernel_rfl)⟩ ⟨rfl, Tryd.underlying3, (by kernel_rfl)⟩)
  have LO : laidOutB Tryd.prog = true := by kernel_rfl
  clear hval0 hsz0 hsz
  refine (tw_walk a0 b0 c0 a1 b1 c1 (wf64 w0) (wf64 y0) (wf64 z0) (wf64 w1) (wf64 y1) (wf64 z1) _ l2 W ht s2 z2).mono fun e W' ⟨he, hgr⟩ => ?_
  have bel := gr_below hgr
  subst he
  exact ⟨_, rfl, _, _, _, [], _, [], hW', trodAll_mk1 (shut_bool Tryd.underlying4 _), (trodAll_cons_mk (Below.trod LO (by kernel_rfl) (of_decide_eq_true (by kernel_rfl)) h0' bel hlt0) (trodAll_cons_mk (Below.trod LO (by kernel_rfl) (of_decide_eq_true (by kernel_rfl)) h1' bel hlt1) (trodAll_cons_mk (Below.trod LO (by kernel_rfl) (of_decide_eq_true (by kernel_rfl)) h2' bel hlt2) trodAll_mk0))), rfl, bel.frame _, fun h => by cases h⟩
theorem over : Rows.tellWordsRow.holds Tryd.pinned (OpenSpec.ofChange Rows.tellWordsSpec) :=
  OpenClaim.holds_of_wide 3 Tryd.f3 rfl rfl rfl rfl rfl rfl rfl ⟨rfl, rfl, rfl, rfl, rfl⟩ rfl rfl rfl rfl rfl (by kernel_rfl) Tryd.func3 (by kernel_rfl)
    (of_decide_eq_true (by kernel_rfl)) (by unfold Func.isWrapper; first | (rw [if_pos (by decide +kernel)]; kernel_rfl) | (rw [if_neg (by decide +kernel)]; exact ⟨rfl, rfl⟩))
    (fun os started H enc _ => lifted os started H enc)
theorem proved : Rows.TellWordsSaid := over
theorem card : Rows.TellWordsCardSaid :=
  Claim7.holds_tied_plain_at .later [] [.data, .data, .data] true (true, "905c9456d2e66cf41e63bf81cc896112534a71ff8edf360fe2226b03ea63f402") true
    proved (fun _ h => by cases h) (by kernel_rfl) (fun _ h => by cases h) tellWords_row_tie rfl ⟨rfl, rfl⟩ (by kernel_rfl) rfl
    (fun f fn hf hfn => by
      obtain rfl : f = 3 := Option.some.inj ((show Tryd.prog.funcNamed "remuda/remudalaw28.TellWords" = some 3 by kernel_rfl).symm.trans hf) |>.symm
      obtain rfl : fn = Tryd.f3 := (Option.some.inj (Tryd.func3.symm.trans hfn)).symm
      exact ⟨by kernel_rfl, fun j t ht => by
        rw [Tryd.params3] at ht
        have hm : t ∈ [23, 23, 24] := by simpa using Array.mem_of_getElem? ht
        have hall : ([23, 23, 24].all fun u => !Tryd.prog.wantsStandIn u) = true := by kernel_rfl
        exact (show Tryd.prog.wantsStandIn t = false by simpa using List.all_eq_true.1 hall t hm)⟩)
    (by kernel_rfl)
end Go.Proofs.YtihibljjbdjeoaaDoor.tellWords
namespace Go.Proofs.YtihibljjbdjeoaaDoor
/-- The card, under a short name, for the claim. -/
theorem tellWords_holds : Rows.TellWordsCardSaid := tellWords.card
end Go.Proofs.YtihibljjbdjeoaaDoor
