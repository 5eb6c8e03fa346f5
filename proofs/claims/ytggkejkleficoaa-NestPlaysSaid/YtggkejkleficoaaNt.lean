/- The law's operations, opened out of an argument. -/
import Derived.Test.YtggkejkleficoaaTro
import Derived.Test.YtggkejkleficoaaNd
namespace Go.Proofs.Ytggkejkleficoaa
open Go.RowKit Go.ChangeShapes Go.WideShapes
set_option linter.unusedVariables false

instance : Inhabited PNo := ⟨⟨0, 0, 0, 0⟩⟩
def NoE (w : World) (x : PNo) (cs : List Value) : Prop := cs = [.int .i64 x.k, .int .i64 x.c, .int .i64 x.v, .int .i64 x.a]
theorem wfK64 {a : Int} (h : (Lit.int .i64 a).wf = true) : K64 a := wf64 h
theorem no_trod {H : Type} {enc : TypeId × Value → H} {P : Program} {W : World} {base : Nat} {held : Bool} {e : TypeId} {f0 f1 f2 f3 : Field} (he : P.underlying e = some (.struct #[f0, f1, f2, f3])) (hc : P.cellsOf e = 4)
    (h0 : IntF P f0 0) (h1 : IntF P f1 1) (h2 : IntF P f2 2) (h3 : IntF P f3 3)
    (cs : List Value) (n : Nat) (D : DataW H) (pl : List MemPlace) (h : DataW.trod enc P W base (fun _ => true) held n e cs = some (D, pl)) (hsz : ∀ m ∈ D.weights P e, m ≤ reachBytes) :
    ∃ x, NoE W x cs ∧ x.ok := by
  obtain ⟨xs, m, _, hx, hl, hxl, hf⟩ := DataW.trod_struct he h
  rw [hc] at hl
  match cs, hl, xs, hxl with
  | [c0, c1, c2, c3], _, [y0, y1, y2, y3], _ =>
    obtain ⟨k0, q0, r0⟩ := field_int h0 (hf 0 f0 rfl)
    obtain ⟨k1, q1, r1⟩ := field_int h1 (hf 1 f1 rfl)
    obtain ⟨k2, q2, r2⟩ := field_int h2 (hf 2 f2 rfl)
    obtain ⟨k3, q3, r3⟩ := field_int h3 (hf 3 f3 rfl)
    simp only [List.getElem?_cons_zero, List.getElem?_cons_succ, Option.some.injEq] at q0 q1 q2 q3
    subst q0 q1 q2 q3
    exact ⟨⟨k0, k1, k2, k3⟩, rfl, wfK64 r1, wfK64 r2, wfK64 r3, wfK64 r0⟩
/-- A struct of four ints, as an argument. -/
theorem agg4_ints {H : Type} {enc : TypeId × Value → H} {P : Program} {W : World} {base : Nat} {held : Bool} {r : Reach} {b0 : Nat} {t : TypeId} {f0 f1 f2 f3 : Field} {v : Value} {d : DataW H} {p : List MemPlace} (he : P.underlying t = some (.struct #[f0, f1, f2, f3])) (hc : P.cellsOf t = 4)
    (h0 : IntF P f0 0) (h1 : IntF P f1 1) (h2 : IntF P f2 2) (h3 : IntF P f3 3) (hv : Value.okWide P W r b0 t v) (h : DataW.Trod enc P W base (fun _ => true) held t v d p) :
    ∃ a b c e, v = .agg #[.int .i64 a, .int .i64 b, .int .i64 c, .int .i64 e] ∧ K64 a ∧ K64 b ∧ K64 c ∧ K64 e := by
  obtain ⟨cs, rfl, hsz⟩ := okWide_struct he hv
  obtain ⟨fuel, hf⟩ := h
  obtain ⟨xs, m, _, hx, hl, hxl, hf⟩ := DataW.trod_struct he hf
  rw [hc] at hl
  obtain ⟨l⟩ := cs
  match xs, hxl with
  | [y0, y1, y2, y3], _ =>
    obtain ⟨k0, q0, r0⟩ := field_int h0 (hf 0 f0 rfl)
    obtain ⟨k1, q1, r1⟩ := field_int h1 (hf 1 f1 rfl)
    obtain ⟨k2, q2, r2⟩ := field_int h2 (hf 2 f2 rfl)
    obtain ⟨k3, q3, r3⟩ := field_int h3 (hf 3 f3 rfl)
    match l, hl with
    | [c0, c1, c2, c3], _ =>
      refine ⟨k0, k1, k2, k3, ?_, wfK64 r0, wfK64 r1, wfK64 r2, wfK64 r3⟩
      have e0 : c0 = .int .i64 k0 := by injection q0
      have e1 : c1 = .int .i64 k1 := by injection q1
      have e2 : c2 = .int .i64 k2 := by injection q2
      have e3 : c3 = .int .i64 k3 := by injection q3
      rw [e0, e1, e2, e3]
end Go.Proofs.Ytggkejkleficoaa
