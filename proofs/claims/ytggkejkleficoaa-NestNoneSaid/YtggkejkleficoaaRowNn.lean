/- NestNone: for every input the law returns true, and its arguments read as they did. No condition. -/
import Derived.Test.YtggkejkleficoaaRows
import Derived.Test.YtggkejkleficoaaNn
import Derived.Test.YtggkejkleficoaaNt
import Derived.WalkKit
import Derived.ProofKit
import Derived.OpenShut
import Derived.ShutString
import Derived.ChangeOld
import Derived.Below
import Derived.SizedLaws
import Derived.SliceStrings
import Derived.Carry
import Derived.Lib.SmallJoins
namespace Go.Proofs.Ytggkejkleficoaa.nestNone
open Go.ChangeShapes Go.WideShapes Go.ChangeAt Go.RowKit
open Go.ChangeMaps (open_string shut_string)
set_option linter.unusedVariables false
theorem own : ownKnob Try.prog.godebug = none := by kernel_rfl
set_option maxRecDepth 100000 in
theorem lifted (os : Os) (started : os.Started) (H : Type) (enc : TypeId × Value → H) :
    ReturnsInHanded {} Try.checked os 5 .any (Rows.nestNoneSpec.pre6 enc Try.prog Try.f5 Rows.nestNoneRow.domain false) (Rows.nestNoneSpec.post enc Try.prog Try.f5 false true false false) := by
  refine returnsInHanded_of_change_sized (C := Try.checked) own started (by kernel_rfl) Try.func5
    (ChangeSpec.witness6 (enc := enc) (C := Try.checked) false ⟨#[], #[.agg #[.int .i64 0, .int .i64 0, .int .i64 0, .int .i64 0]], []⟩ 8 (by kernel_rfl) (by kernel_rfl) (by kernel_rfl) (by kernel_rfl)) ?_
  intro W base args ds gs before hval0 hW hcnd hsz0 _
  have hsz : (DataW.weightsEach Try.prog (Try.f5.params.toList ++ Rows.nestNoneSpec.plain.varTypes Try.prog) (ds ++ gs)).all (· ≤ reachBytes) = true := hsz0
  have hval : ∀ (j : Nat) t v, Try.f5.params[j]? = some t → args[j]? = some v → Value.okWide Try.prog W .any base t v := hval0
  have hW' := hW
  obtain ⟨p, q, hA0, hV, rfl, hfz, hnd⟩ := hW
  have hA : DataW.TrodAll enc Try.prog W 0 (fun _ => true) true Try.f5.params.toList args.toList ds p := hA0
  rw [Try.params5] at hA hval hsz
  obtain ⟨v0, vs0, d0, ds0, p0, q0, hargs, rfl, rfl, h0, r0⟩ := trodAll_cons hA
  obtain ⟨rfl, rfl, rfl⟩ := trodAll_nil r0
  obtain rfl : args = #[v0] := by cases args; simp_all
  obtain ⟨rfl, rfl⟩ := trodVars_none hV
  have hlt : ∀ x ∈ p0 ++ [], x.block < W.heap.size := DataW.TrodAll.lt hA0
  have h0' := h0
  have hlt0 : ∀ x ∈ p0, x.block < W.heap.size := fun x hx => hlt x (by simp [hx])
  obtain ⟨a0, b0, c0, e0, rfl, w0, x0, y0, z0⟩ := agg4_ints Try.underlying27 (by kernel_rfl) ⟨rfl, Try.underlying3, (by kernel_rfl)⟩ ⟨rfl, Try.underlying3, (by kernel_rfl)⟩ ⟨rfl, Try.underlying3, (by kernel_rfl)⟩ ⟨rfl, Try.underlying3, (by kernel_rfl)⟩ (hval 0 27 v0 rfl rfl) h0
  have LO : laidOutB Try.prog = true := by kernel_rfl
  clear hval0 hsz0 hsz
  refine (nn_walk a0 b0 c0 e0 _).mono fun e W' ⟨he, hgr⟩ => ?_
  have bel := gr_below hgr
  subst he
  exact ⟨_, rfl, _, _, _, [], _, [], hW', trodAll_mk1 (shut_bool Try.underlying4 _), (trodAll_cons_mk (Below.trod LO (by kernel_rfl) (of_decide_eq_true (by kernel_rfl)) h0' bel hlt0) trodAll_mk0), rfl, bel.frame _, fun h => by cases h⟩
theorem over : Rows.nestNoneRow.holds Try.pinned (OpenSpec.ofChange Rows.nestNoneSpec) :=
  OpenClaim.holds_of_wide 5 Try.f5 rfl rfl rfl rfl rfl rfl rfl ⟨rfl, rfl, rfl, rfl, rfl⟩ rfl rfl rfl rfl rfl (by kernel_rfl) Try.func5 (by kernel_rfl)
    (of_decide_eq_true (by kernel_rfl)) (by unfold Func.isWrapper; first | (rw [if_pos (by decide +kernel)]; kernel_rfl) | (rw [if_neg (by decide +kernel)]; exact ⟨rfl, rfl⟩))
    (fun os started H enc _ => lifted os started H enc)
theorem proved : Rows.NestNoneSaid := over
end Go.Proofs.Ytggkejkleficoaa.nestNone
namespace Go.Proofs.Ytggkejkleficoaa
/-- The row, under a short name, for the claim. -/
theorem nestNone_holds : Rows.NestNoneSaid := nestNone.proved
end Go.Proofs.Ytggkejkleficoaa
