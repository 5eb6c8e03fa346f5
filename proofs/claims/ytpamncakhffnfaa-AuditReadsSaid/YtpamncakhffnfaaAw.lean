/- Commits, opened out of an argument. -/
import Derived.Test.YtpamncakhffnfaaIo
import Derived.Test.YtpamncakhffnfaaAo
namespace Go.Proofs.Ytpamncakhffnfaa
open Go.RowKit Go.ChangeShapes Go.WideShapes
set_option linter.unusedVariables false

instance : Inhabited PCo := ⟨⟨default, [], 0⟩⟩
def PCo.ok (c : PCo) : Prop := c.tid.ok ∧ (∀ x ∈ c.items, x.ok) ∧ In64 c.at_
theorem com_trod {H : Type} {enc : TypeId × Value → H} {P : Program} {W : World} {base : Nat} {held : Bool} {e tt : TypeId} {f0 f1 f2 : Field} (he : P.underlying e = some (.struct #[f0, f1, f2])) (hc : P.cellsOf e = 5)
    (h0 : f0.offset = 0 ∧ P.cellsOf f0.type = 3) (h1 : f1.offset = 3 ∧ P.underlying f1.type = some (.slice tt) ∧ P.cellsOf f1.type = 1) (h2 : IntF P f2 4) (htt : P.cellsOf tt = 5)
    (htid : ∀ (cs : List Value) (n : Nat) (y : DataW H × List MemPlace), DataW.trod enc P W base (fun _ => true) held n f0.type cs = some y → ∃ t : PTid, cs = [.int .i64 t.n, .int .i64 t.e, .int .i64 t.s] ∧ t.ok)
    (hit : ∀ (cs : List Value) (n : Nat) (D : DataW H) (pl : List MemPlace), DataW.trod enc P W base (fun _ => true) held n tt cs = some (D, pl) → (∀ m ∈ D.weights P tt, m ≤ reachBytes) → ∃ x, ItE W x cs ∧ x.ok)
    (cs : List Value) (n : Nat) (D : DataW H) (pl : List MemPlace) (h : DataW.trod enc P W base (fun _ => true) held n e cs = some (D, pl)) (hsz : ∀ m ∈ D.weights P e, m ≤ reachBytes) :
    ∃ x, CoE W x cs ∧ x.ok := by
  obtain ⟨xs, m, _, hx, hl, hxl, hf⟩ := DataW.trod_struct he h
  rw [hc] at hl
  match cs, hl, xs, hxl with
  | [c0, c1, c2, c3, c4], _, [y0, y1, y2], _ =>
    have t0 := hf 0 f0 rfl
    rw [h0.1, h0.2] at t0
    obtain ⟨t, q0, r0⟩ := htid _ _ _ t0
    simp only [List.drop_zero, List.take_succ_cons, List.take_zero, List.cons.injEq, and_true] at q0
    obtain ⟨rfl, rfl, rfl⟩ := q0
    obtain ⟨k2, q2, r2⟩ := field_int h2 (hf 2 f2 rfl)
    simp only [List.getElem?_cons_zero, List.getElem?_cons_succ, Option.some.injEq] at q2
    subst q2
    have t4 := hf 1 f1 rfl
    rw [h1.1, h1.2.2] at t4
    simp only [List.drop_succ_cons, List.drop_zero, List.take_succ_cons, List.take_zero, List.getElem?_cons_zero, List.getElem?_cons_succ] at t4
    obtain ⟨its, a1, a2⟩ := arr_of (E := ItE) (Q := PIt.ok) (sz := 5) (d := y1.1) (p := y1.2) h1.2.1 htt (by decide) t4 (fun j hj => hsz j (by
      injection hx with hx1 hx2
      rw [hx1]
      simp only [DataW.weights, he, List.map_cons, List.map_nil, DataW.weightsEach]
      simp [hj])) hit
    exact ⟨⟨t, its, k2⟩, ⟨_, rfl, a1⟩, r0, a2, wf64 r2⟩
end Go.Proofs.Ytpamncakhffnfaa
