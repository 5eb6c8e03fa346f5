/- RunComes: for every input the law returns true, and its arguments read as they did. No condition. -/
import Derived.Test.YtgmhopkajopfcaaRows
import Derived.Test.YtgmhopkajopfcaaRxd
import Derived.WalkKit
import Derived.ProofKit
import Derived.OpenShut
import Derived.ShutString
import Derived.ChangeOld
import Derived.Below
import Derived.SizedLaws
import Derived.SliceStrings
import Derived.Carry
import Derived.Lib.SmallJoins
namespace Go.Proofs.Ytgmhopkajopfcaa.runComes
open Go.ChangeShapes Go.WideShapes Go.ChangeAt Go.RowKit
open Go.ChangeMaps (open_string shut_string)
set_option linter.unusedVariables false
theorem own : ownKnob Try.prog.godebug = none := by kernel_rfl
set_option maxRecDepth 100000 in
theorem lifted (os : Os) (started : os.Started) (H : Type) (enc : TypeId × Value → H) :
    ReturnsInHanded {} Try.checked os 4 .any (Rows.runComesSpec.pre6 enc Try.prog Try.f4 Rows.runComesRow.domain false) (Rows.runComesSpec.post enc Try.prog Try.f4 false true false false) := by
  refine returnsInHanded_of_change_sized (C := Try.checked) own started (by kernel_rfl) Try.func4
    (ChangeSpec.witness6 (enc := enc) (C := Try.checked) false ⟨#[], #[.slice none 0 0, .agg #[.int .i64 0, .int .i64 0, .int .i64 0, .int .i64 0, .int .i64 0, .int .i64 0, .int .i64 0, .int .i64 0, .int .i64 0, .int .i64 0, .int .i64 0, .int .i64 0, .int .i64 0, .int .i64 0, .int .i64 0, .int .i64 0], .agg #[.int .i64 0, .int .i64 0, .int .i64 0, .int .i64 0, .int .i64 0, .int .i64 0, .int .i64 0, .int .i64 0, .int .i64 0, .int .i64 0, .int .i64 0, .int .i64 0, .int .i64 0, .int .i64 0, .int .i64 0, .int .i64 0]], []⟩ 8 (by kernel_rfl) (by kernel_rfl) (by kernel_rfl) (by kernel_rfl)) ?_
  intro W base args ds gs before hval0 hW hcnd hsz0 _
  have hsz : (DataW.weightsEach Try.prog (Try.f4.params.toList ++ Rows.runComesSpec.plain.varTypes Try.prog) (ds ++ gs)).all (· ≤ reachBytes) = true := hsz0
  have hval : ∀ (j : Nat) t v, Try.f4.params[j]? = some t → args[j]? = some v → Value.okWide Try.prog W .any base t v := hval0
  have hW' := hW
  obtain ⟨p, q, hA0, hV, rfl, hfz, hnd⟩ := hW
  have hA : DataW.TrodAll enc Try.prog W 0 (fun _ => true) true Try.f4.params.toList args.toList ds p := hA0
  rw [Try.params4] at hA hval hsz
  obtain ⟨v0, vs0, d0, ds0, p0, q0, hargs, rfl, rfl, h0, r0⟩ := trodAll_cons hA
  obtain ⟨v1, vs1, d1, ds1, p1, q1, rfl, rfl, rfl, h1, r1⟩ := trodAll_cons r0
  obtain ⟨v2, vs2, d2, ds2, p2, q2, rfl, rfl, rfl, h2, r2⟩ := trodAll_cons r1
  obtain ⟨rfl, rfl, rfl⟩ := trodAll_nil r2
  obtain rfl : args = #[v0, v1, v2] := by cases args; simp_all
  obtain ⟨rfl, rfl⟩ := trodVars_none hV
  have hlt : ∀ x ∈ p0 ++ (p1 ++ (p2 ++ [])), x.block < W.heap.size := DataW.TrodAll.lt hA0
  have h0' := h0
  have hlt0 : ∀ x ∈ p0, x.block < W.heap.size := fun x hx => hlt x (by simp [hx])
  have h1' := h1
  have hlt1 : ∀ x ∈ p1, x.block < W.heap.size := fun x hx => hlt x (by simp [hx])
  have h2' := h2
  have hlt2 : ∀ x ∈ p2, x.block < W.heap.size := fun x hx => hlt x (by simp [hx])
  obtain ⟨ad0, n0, cc0, rfl⟩ := okWide_slice Try.underlying22 (hval 0 22 v0 rfl rfl)
  obtain ⟨f0, t0⟩ := h0
  obtain ⟨l0, s0, z0⟩ := arr_of (E := OpE) (Q := fun x => K64 x.n) (sz := 5) Try.underlying22 (by kernel_rfl) (by decide) t0 (weights_each hsz (j := 0) rfl rfl)
    (rop_trod Try.underlying57 (by kernel_rfl) ⟨rfl, Try.underlying3, (by kernel_rfl)⟩ ⟨rfl, Try.underlying3, (by kernel_rfl)⟩ ⟨rfl, Try.underlying3, (by kernel_rfl)⟩ ⟨rfl, Try.underlying3, (by kernel_rfl)⟩ ⟨rfl, Try.underlying3, (by kernel_rfl)⟩)
  obtain ⟨a1, rfl, w1⟩ := agg16_ints Try.underlying23 Try.underlying3 (by kernel_rfl) (by kernel_rfl) (hval 1 23 v1 rfl rfl) h1
  obtain ⟨a2, rfl, w2⟩ := agg16_ints Try.underlying23 Try.underlying3 (by kernel_rfl) (by kernel_rfl) (hval 2 23 v2 rfl rfl) h2
  have LO : laidOutB Try.prog = true := by kernel_rfl
  clear hval0 hsz0 hsz
  refine (rcomes_walk W _ l0 a1 a2 s0 z0 w2).mono fun e W' ⟨he, hgr⟩ => ?_
  have bel := gr_below hgr
  subst he
  exact ⟨_, rfl, _, _, _, [], _, [], hW', trodAll_mk1 (shut_bool Try.underlying4 _), (trodAll_cons_mk (Below.trod LO (by kernel_rfl) (of_decide_eq_true (by kernel_rfl)) h0' bel hlt0) (trodAll_cons_mk (Below.trod LO (by kernel_rfl) (of_decide_eq_true (by kernel_rfl)) h1' bel hlt1) (trodAll_cons_mk (Below.trod LO (by kernel_rfl) (of_decide_eq_true (by kernel_rfl)) h2' bel hlt2) trodAll_mk0))), rfl, bel.frame _, fun h => by cases h⟩
theorem over : Rows.runComesRow.holds Try.pinned (OpenSpec.ofChange Rows.runComesSpec) :=
  OpenClaim.holds_of_wide 4 Try.f4 rfl rfl rfl rfl rfl rfl rfl ⟨rfl, rfl, rfl, rfl, rfl⟩ rfl rfl rfl rfl rfl (by kernel_rfl) Try.func4 (by kernel_rfl)
    (of_decide_eq_true (by kernel_rfl)) (by unfold Func.isWrapper; first | (rw [if_pos (by decide +kernel)]; kernel_rfl) | (rw [if_neg (by decide +kernel)]; exact ⟨rfl, rfl⟩))
    (fun os started H enc _ => lifted os started H enc)
theorem proved : Rows.RunComesSaid := over
end Go.Proofs.Ytgmhopkajopfcaa.runComes
namespace Go.Proofs.Ytgmhopkajopfcaa
/-- The row, under a short name, for the claim. -/
theorem runComes_holds : Rows.RunComesSaid := runComes.proved
end Go.Proofs.Ytgmhopkajopfcaa
