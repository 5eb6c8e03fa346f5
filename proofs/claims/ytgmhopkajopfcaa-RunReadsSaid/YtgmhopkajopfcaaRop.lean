/- Operations, opened out of an argument. -/
import Derived.Test.YtgmhopkajopfcaaTro
import Derived.Test.YtgmhopkajopfcaaSd
namespace Go.Proofs.Ytgmhopkajopfcaa
open Go.RowKit Go.ChangeShapes Go.WideShapes
set_option linter.unusedVariables false

instance : Inhabited POp := ⟨⟨0, 0, 0, 0, 0⟩⟩
theorem rop_trod {H : Type} {enc : TypeId × Value → H} {P : Program} {W : World} {base : Nat} {held : Bool} {e : TypeId} {f0 f1 f2 f3 f4 : Field} (he : P.underlying e = some (.struct #[f0, f1, f2, f3, f4])) (hc : P.cellsOf e = 5)
    (h0 : IntF P f0 0) (h1 : IntF P f1 1) (h2 : IntF P f2 2) (h3 : IntF P f3 3) (h4 : IntF P f4 4)
    (cs : List Value) (n : Nat) (D : DataW H) (pl : List MemPlace) (h : DataW.trod enc P W base (fun _ => true) held n e cs = some (D, pl)) (hsz : ∀ m ∈ D.weights P e, m ≤ reachBytes) :
    ∃ x, OpE W x cs ∧ K64 x.n := by
  obtain ⟨xs, m, _, hx, hl, hxl, hf⟩ := DataW.trod_struct he h
  rw [hc] at hl
  match cs, hl, xs, hxl with
  | [c0, c1, c2, c3, c4], _, [y0, y1, y2, y3, y4], _ =>
    obtain ⟨k0, q0, r0⟩ := field_int h0 (hf 0 f0 rfl)
    obtain ⟨k1, q1, r1⟩ := field_int h1 (hf 1 f1 rfl)
    obtain ⟨k2, q2, r2⟩ := field_int h2 (hf 2 f2 rfl)
    obtain ⟨k3, q3, r3⟩ := field_int h3 (hf 3 f3 rfl)
    obtain ⟨k4, q4, r4⟩ := field_int h4 (hf 4 f4 rfl)
    simp only [List.getElem?_cons_zero, List.getElem?_cons_succ, Option.some.injEq] at q0 q1 q2 q3 q4
    subst q0 q1 q2 q3 q4
    exact ⟨⟨k0, k1, k2, k3, k4⟩, rfl, wf64 r4⟩
theorem ie_trod {H : Type} {enc : TypeId × Value → H} {P : Program} {W : World} {base : Nat} {held : Bool} {e : TypeId} (he : P.underlying e = some (.int .i64))
    (cs : List Value) (n : Nat) (D : DataW H) (pl : List MemPlace) (h : DataW.trod enc P W base (fun _ => true) held n e cs = some (D, pl)) (hsz : ∀ m ∈ D.weights P e, m ≤ reachBytes) : ∃ x, IE1 W x cs ∧ K64 x := by
  obtain ⟨k, k1, _, k3⟩ := DataW.trod_int he h
  exact ⟨k, k1, wf64 k3⟩
end Go.Proofs.Ytgmhopkajopfcaa
