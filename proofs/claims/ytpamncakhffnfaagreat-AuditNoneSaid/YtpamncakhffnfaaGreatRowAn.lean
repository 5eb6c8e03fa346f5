/- AuditNone: for every input the law returns true, and its arguments read as they did. No condition. -/
import Derived.Test.YtpamncakhffnfaaGreatRows
import Derived.Test.YtpamncakhffnfaaGreatBa
import Derived.Test.YtpamncakhffnfaaGreatTro
import Derived.WalkKit
import Derived.ProofKit
import Derived.OpenShut
import Derived.ShutString
import Derived.ChangeOld
import Derived.Below
import Derived.SizedLaws
import Derived.SliceStrings
import Derived.Carry
import Derived.Lib.SmallJoins
namespace Go.Proofs.YtpamncakhffnfaaGreat.auditNone
open Go.ChangeShapes Go.WideShapes Go.ChangeAt Go.RowKit
open Go.ChangeMaps (open_string shut_string)
set_option linter.unusedVariables false
theorem own : ownKnob Tryz.prog.godebug = none := by kernel_rfl
set_option maxRecDepth 100000 in
theorem lifted (os : Os) (started : os.Started) (H : Type) (enc : TypeId × Value → H) :
    ReturnsInHanded {} Tryz.checked os 3 .any (Rows.auditNoneSpec.pre6 enc Tryz.prog Tryz.f3 Rows.auditNoneRow.domain false) (Rows.auditNoneSpec.post enc Tryz.prog Tryz.f3 false true false false) := by
  refine returnsInHanded_of_change_sized (C := Tryz.checked) own started (by kernel_rfl) Tryz.func3
    (ChangeSpec.witness6 (enc := enc) (C := Tryz.checked) false ⟨#[], #[.agg #[.int .i64 0, .int .i64 0, .int .i64 0], .int .i64 0], []⟩ 8 (by kernel_rfl) (by kernel_rfl) (by kernel_rfl) (by kernel_rfl)) ?_
  intro W base args ds gs before hval0 hW hcnd hsz0 _
  have hsz : (DataW.weightsEach Tryz.prog (Tryz.f3.params.toList ++ Rows.auditNoneSpec.plain.varTypes Tryz.prog) (ds ++ gs)).all (· ≤ reachBytes) = true := hsz0
  have hval : ∀ (j : Nat) t v, Tryz.f3.params[j]? = some t → args[j]? = some v → Value.okWide Tryz.prog W .any base t v := hval0
  have hW' := hW
  obtain ⟨p, q, hA0, hV, rfl, hfz, hnd⟩ := hW
  have hA : DataW.TrodAll enc Tryz.prog W 0 (fun _ => true) true Tryz.f3.params.toList args.toList ds p := hA0
  rw [Tryz.params3] at hA hval hsz
  obtain ⟨v0, vs0, d0, ds0, p0, q0, hargs, rfl, rfl, h0, r0⟩ := trodAll_cons hA
  obtain ⟨v1, vs1, d1, ds1, p1, q1, rfl, rfl, rfl, h1, r1⟩ := trodAll_cons r0
  obtain ⟨rfl, rfl, rfl⟩ := trodAll_nil r1
  obtain rfl : args = #[v0, v1] := by cases args; simp_all
  obtain ⟨rfl, rfl⟩ := trodVars_none hV
  have hlt : ∀ x ∈ p0 ++ (p1 ++ []), x.block < W.heap.size := DataW.TrodAll.lt hA0
  have h0' := h0
  have hlt0 : ∀ x ∈ p0, x.block < W.heap.size := fun x hx => hlt x (by simp [hx])
  have h1' := h1
  have hlt1 : ∀ x ∈ p1, x.block < W.heap.size := fun x hx => hlt x (by simp [hx])
  obtain ⟨a0, b0, c0, rfl, w0, y0, z0⟩ := agg3_ints Tryz.underlying23 (by kernel_rfl) ⟨rfl, Tryz.underlying3, (by kernel_rfl)⟩ ⟨rfl, Tryz.underlying3, (by kernel_rfl)⟩ ⟨rfl, Tryz.underlying3, (by kernel_rfl)⟩ (hval 0 23 v0 rfl rfl) h0
  obtain ⟨a1, rfl, rfl, rfl, w1⟩ := open_int Tryz.underlying3 (hval 1 3 v1 rfl rfl) h1
  have LO : laidOutB Tryz.prog = true := by kernel_rfl
  clear hval0 hsz0 hsz
  refine (an_walk W ⟨a0, b0, c0⟩ a1).mono fun e W' ⟨he, hgr⟩ => ?_
  have bel := gr_below hgr
  subst he
  exact ⟨_, rfl, _, _, _, [], _, [], hW', trodAll_mk1 (shut_bool Tryz.underlying4 _), (trodAll_cons_mk (Below.trod LO (by kernel_rfl) (of_decide_eq_true (by kernel_rfl)) h0' bel hlt0) (trodAll_cons_mk (Below.trod LO (by kernel_rfl) (of_decide_eq_true (by kernel_rfl)) h1' bel hlt1) trodAll_mk0)), rfl, bel.frame _, fun h => by cases h⟩
theorem over : Rows.auditNoneRow.holds Tryz.pinned (OpenSpec.ofChange Rows.auditNoneSpec) :=
  OpenClaim.holds_of_wide 3 Tryz.f3 rfl rfl rfl rfl rfl rfl rfl ⟨rfl, rfl, rfl, rfl, rfl⟩ rfl rfl rfl rfl rfl (by kernel_rfl) Tryz.func3 (by kernel_rfl)
    (of_decide_eq_true (by kernel_rfl)) (by unfold Func.isWrapper; first | (rw [if_pos (by decide +kernel)]; kernel_rfl) | (rw [if_neg (by decide +kernel)]; exact ⟨rfl, rfl⟩))
    (fun os started H enc _ => lifted os started H enc)
theorem proved : Rows.AuditNoneSaid := over
end Go.Proofs.YtpamncakhffnfaaGreat.auditNone
namespace Go.Proofs.YtpamncakhffnfaaGreat
/-- The row, under a short name, for the claim. -/
theorem auditNone_holds : Rows.AuditNoneSaid := auditNone.proved
end Go.Proofs.YtpamncakhffnfaaGreat
