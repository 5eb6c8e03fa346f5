/- Items and names, opened out of an argument. -/
import Derived.Test.YtdmkijdbldcdiaaTro
import Derived.Test.YtdmkijdbldcdiaaAk
namespace Go.Proofs.Ytdmkijdbldcdiaa
open Go.RowKit Go.ChangeShapes Go.WideShapes
set_option linter.unusedVariables false

instance : Inhabited PIt := ⟨⟨0, 0, 0, false, 0⟩⟩
instance : Inhabited PTid := ⟨⟨0, 0, 0⟩⟩
def In64 (n : Int) : Prop := -9223372036854775808 ≤ n ∧ n ≤ 9223372036854775807
def PIt.ok (x : PIt) : Prop := In64 x.c ∧ In64 x.v ∧ In64 x.a ∧ In64 x.nw
def PTid.ok (t : PTid) : Prop := In64 t.n ∧ In64 t.e ∧ In64 t.s
theorem it_trod {H : Type} {enc : TypeId × Value → H} {P : Program} {W : World} {base : Nat} {held : Bool} {e : TypeId} {f0 f1 f2 f3 f4 : Field} (he : P.underlying e = some (.struct #[f0, f1, f2, f3, f4])) (hc : P.cellsOf e = 5)
    (h0 : IntF P f0 0) (h1 : IntF P f1 1) (h2 : IntF P f2 2) (h3 : BoolF P f3 3) (h4 : IntF P f4 4)
    (cs : List Value) (n : Nat) (D : DataW H) (pl : List MemPlace) (h : DataW.trod enc P W base (fun _ => true) held n e cs = some (D, pl)) (hsz : ∀ m ∈ D.weights P e, m ≤ reachBytes) :
    ∃ x, ItE W x cs ∧ x.ok := by
  obtain ⟨xs, m, _, hx, hl, hxl, hf⟩ := DataW.trod_struct he h
  rw [hc] at hl
  match cs, hl, xs, hxl with
  | [c0, c1, c2, c3, c4], _, [y0, y1, y2, y3, y4], _ =>
    obtain ⟨k0, q0, r0⟩ := field_int h0 (hf 0 f0 rfl)
    obtain ⟨k1, q1, r1⟩ := field_int h1 (hf 1 f1 rfl)
    obtain ⟨k2, q2, r2⟩ := field_int h2 (hf 2 f2 rfl)
    obtain ⟨k3, q3⟩ := field_bool h3 (hf 3 f3 rfl)
    obtain ⟨k4, q4, r4⟩ := field_int h4 (hf 4 f4 rfl)
    simp only [List.getElem?_cons_zero, List.getElem?_cons_succ, Option.some.injEq] at q0 q1 q2 q3 q4
    subst q0 q1 q2 q3 q4
    exact ⟨⟨k0, k1, k2, k3, k4⟩, rfl, wf64 r0, wf64 r1, wf64 r2, wf64 r4⟩
theorem tid_trod {H : Type} {enc : TypeId × Value → H} {P : Program} {W : World} {base : Nat} {held : Bool} {e : TypeId} {f0 f1 f2 : Field} (he : P.underlying e = some (.struct #[f0, f1, f2])) (hc : P.cellsOf e = 3)
    (h0 : IntF P f0 0) (h1 : IntF P f1 1) (h2 : IntF P f2 2)
    (cs : List Value) (n : Nat) (y : DataW H × List MemPlace) (h : DataW.trod enc P W base (fun _ => true) held n e cs = some y) :
    ∃ t : PTid, cs = [.int .i64 t.n, .int .i64 t.e, .int .i64 t.s] ∧ t.ok := by
  obtain ⟨xs, m, _, hx, hl, hxl, hf⟩ := DataW.trod_struct he h
  rw [hc] at hl
  match cs, hl, xs, hxl with
  | [c0, c1, c2], _, [y0, y1, y2], _ =>
    obtain ⟨k0, q0, r0⟩ := field_int h0 (hf 0 f0 rfl)
    obtain ⟨k1, q1, r1⟩ := field_int h1 (hf 1 f1 rfl)
    obtain ⟨k2, q2, r2⟩ := field_int h2 (hf 2 f2 rfl)
    simp only [List.getElem?_cons_zero, List.getElem?_cons_succ, Option.some.injEq] at q0 q1 q2
    subst q0 q1 q2
    exact ⟨⟨k0, k1, k2⟩, rfl, wf64 r0, wf64 r1, wf64 r2⟩
end Go.Proofs.Ytdmkijdbldcdiaa
