/- Records, opened out of an argument. -/
import Derived.Test.YtdmkijdbldcdiaaIo
import Derived.Test.YtdmkijdbldcdiaaMi
namespace Go.Proofs.Ytdmkijdbldcdiaa
open Go.RowKit Go.ChangeShapes Go.WideShapes
set_option linter.unusedVariables false

instance : Inhabited PRec := ⟨⟨0, ⟨0, 0, 0⟩, [], [], 0, 0, 0, 0, 0, 0, 0, 0, false⟩⟩
theorem in_trod {H : Type} {enc : TypeId × Value → H} {P : Program} {W : World} {base : Nat} {held : Bool} {e : TypeId} (he : P.underlying e = some (.int .i64))
    (cs : List Value) (n : Nat) (D : DataW H) (pl : List MemPlace) (h : DataW.trod enc P W base (fun _ => true) held n e cs = some (D, pl)) (hsz : ∀ m ∈ D.weights P e, m ≤ reachBytes) : ∃ x, IE W x cs ∧ True := by
  obtain ⟨k, k1, _, _⟩ := DataW.trod_int he h
  exact ⟨k, k1, trivial⟩
theorem re_trod {H : Type} {enc : TypeId × Value → H} {P : Program} {W : World} {base : Nat} {held : Bool} {e tt ti : TypeId} {f0 f1 f2 f3 f4 f5 f6 f7 f8 f9 f10 f11 f12 : Field} (he : P.underlying e = some (.struct #[f0, f1, f2, f3, f4, f5, f6, f7, f8, f9, f10, f11, f12])) (hc : P.cellsOf e = 15)
    (h0 : IntF P f0 0) (h1 : f1.offset = 1 ∧ P.cellsOf f1.type = 3) (h2 : f2.offset = 4 ∧ P.underlying f2.type = some (.slice tt) ∧ P.cellsOf f2.type = 1) (h3 : f3.offset = 5 ∧ P.underlying f3.type = some (.slice ti) ∧ P.cellsOf f3.type = 1)
    (h4 : IntF P f4 6) (h5 : IntF P f5 7) (h6 : IntF P f6 8) (h7 : IntF P f7 9) (h8 : IntF P f8 10) (h9 : IntF P f9 11) (h10 : IntF P f10 12) (h11 : IntF P f11 13) (h12 : BoolF P f12 14) (htt : P.cellsOf tt = 5) (hti : P.cellsOf ti = 1)
    (htid : ∀ (cs : List Value) (n : Nat) (y : DataW H × List MemPlace), DataW.trod enc P W base (fun _ => true) held n f1.type cs = some y → ∃ t : PTid, cs = [.int .i64 t.n, .int .i64 t.e, .int .i64 t.s] ∧ t.ok)
    (hit : ∀ (cs : List Value) (n : Nat) (D : DataW H) (pl : List MemPlace), DataW.trod enc P W base (fun _ => true) held n tt cs = some (D, pl) → (∀ m ∈ D.weights P tt, m ≤ reachBytes) → ∃ x, ItE W x cs ∧ x.ok)
    (hin : ∀ (cs : List Value) (n : Nat) (D : DataW H) (pl : List MemPlace), DataW.trod enc P W base (fun _ => true) held n ti cs = some (D, pl) → (∀ m ∈ D.weights P ti, m ≤ reachBytes) → ∃ x, IE W x cs ∧ True)
    (cs : List Value) (n : Nat) (D : DataW H) (pl : List MemPlace) (h : DataW.trod enc P W base (fun _ => true) held n e cs = some (D, pl)) (hsz : ∀ m ∈ D.weights P e, m ≤ reachBytes) :
    ∃ x, ReE W x cs ∧ True := by
  obtain ⟨xs, m, _, hx, hl, hxl, hf⟩ := DataW.trod_struct he h
  rw [hc] at hl
  match cs, hl, xs, hxl with
  | [c0, c1, c2, c3, c4, c5, c6, c7, c8, c9, c10, c11, c12, c13, c14], _, [y0, y1, y2, y3, y4, y5, y6, y7, y8, y9, y10, y11, y12], _ =>
    have t0 := hf 1 f1 rfl
    rw [h1.1, h1.2] at t0
    obtain ⟨t, q0, r0⟩ := htid _ _ _ t0
    simp only [List.drop_succ_cons, List.drop_zero, List.take_succ_cons, List.take_zero, List.cons.injEq, and_true] at q0
    obtain ⟨rfl, rfl, rfl⟩ := q0
    obtain ⟨k0, z0, _⟩ := field_int h0 (hf 0 f0 rfl)
    obtain ⟨k4, z4, _⟩ := field_int h4 (hf 4 f4 rfl)
    obtain ⟨k5, z5, _⟩ := field_int h5 (hf 5 f5 rfl)
    obtain ⟨k6, z6, _⟩ := field_int h6 (hf 6 f6 rfl)
    obtain ⟨k7, z7, _⟩ := field_int h7 (hf 7 f7 rfl)
    obtain ⟨k8, z8, _⟩ := field_int h8 (hf 8 f8 rfl)
    obtain ⟨k9, z9, _⟩ := field_int h9 (hf 9 f9 rfl)
    obtain ⟨k10, z10, _⟩ := field_int h10 (hf 10 f10 rfl)
    obtain ⟨k11, z11, _⟩ := field_int h11 (hf 11 f11 rfl)
    obtain ⟨k12, z12⟩ := field_bool h12 (hf 12 f12 rfl)
    simp only [List.getElem?_cons_zero, List.getElem?_cons_succ, Option.some.injEq] at z0 z4 z5 z6 z7 z8 z9 z10 z11 z12
    subst z0 z4 z5 z6 z7 z8 z9 z10 z11 z12
    have t4 := hf 2 f2 rfl
    rw [h2.1, h2.2.2] at t4
    simp only [List.drop_succ_cons, List.drop_zero, List.take_succ_cons, List.take_zero, List.getElem?_cons_zero, List.getElem?_cons_succ] at t4
    have t5 := hf 3 f3 rfl
    rw [h3.1, h3.2.2] at t5
    simp only [List.drop_succ_cons, List.drop_zero, List.take_succ_cons, List.take_zero, List.getElem?_cons_zero, List.getElem?_cons_succ] at t5
    obtain ⟨its, a1, a2⟩ := arr_of (E := ItE) (Q := PIt.ok) (sz := 5) (d := y2.1) (p := y2.2) h2.2.1 htt (by decide) t4 (fun j hj => hsz j (by
      injection hx with hx1 hx2
      rw [hx1]
      simp only [DataW.weights, he, List.map_cons, List.map_nil, DataW.weightsEach]
      simp [hj])) hit
    obtain ⟨ns, b1, b2⟩ := arr_of (E := IE) (Q := fun _ => True) (sz := 1) (d := y3.1) (p := y3.2) h3.2.1 hti (by decide) t5 (fun j hj => hsz j (by
      injection hx with hx1 hx2
      rw [hx1]
      simp only [DataW.weights, he, List.map_cons, List.map_nil, DataW.weightsEach]
      simp [hj])) hin
    obtain ⟨A1, n1, rfl⟩ := a1.len
    obtain ⟨A2, n2, rfl⟩ := b1.len
    exact ⟨⟨k0, t, its, ns, k4, k5, k6, k7, k8, k9, k10, k11, k12⟩, ⟨A1, n1, A2, n2, rfl, a1, b1⟩, trivial⟩
end Go.Proofs.Ytdmkijdbldcdiaa
