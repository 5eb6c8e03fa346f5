/- Calls, opened out of an argument. -/
import Derived.Test.YtihibljjbdjeoaaDoorTro
import Derived.Test.YtihibljjbdjeoaaDoorCl
import Derived.OpenShut
namespace Go.Proofs.YtihibljjbdjeoaaDoor
open Go.RowKit Go.ChangeShapes Go.WideShapes
set_option linter.unusedVariables false

instance : Inhabited PCall := ⟨⟨0, 0, 0, .slice none 0 0, 0, false, 0, 0, 0, false, 0, [], 0⟩⟩
def TidF (P : Program) (f : Field) (i : Nat) : Prop := f.offset = i ∧ P.cellsOf f.type = 3 ∧ ∃ t0 t1 t2, P.underlying f.type = some (.struct #[t0, t1, t2]) ∧ IntF P t0 0 ∧ IntF P t1 1 ∧ IntF P t2 2
theorem tid_trod {H : Type} {enc : TypeId × Value → H} {P : Program} {W : World} {base : Nat} {held : Bool} {f : Field} {i n : Nat} {a b c : Value} {y : DataW H × List MemPlace} (hf : TidF P f i)
    (h : DataW.trod enc P W base (fun _ => true) held n f.type [a, b, c] = some y) : ∃ k0 k1 k2, a = .int .i64 k0 ∧ b = .int .i64 k1 ∧ c = .int .i64 k2 ∧ In64 k0 ∧ In64 k1 ∧ In64 k2 := by
  obtain ⟨-, hc, t0, t1, t2, hs, h0, h1, h2⟩ := hf
  obtain ⟨xs, m, _, hx, hl, hxl, hf⟩ := DataW.trod_struct hs (x := y) h
  match xs, hxl with
  | [y0, y1, y2], _ =>
    obtain ⟨k0, q0, r0⟩ := field_int h0 (hf 0 t0 rfl)
    obtain ⟨k1, q1, r1⟩ := field_int h1 (hf 1 t1 rfl)
    obtain ⟨k2, q2, r2⟩ := field_int h2 (hf 2 t2 rfl)
    simp only [List.getElem?_cons_zero, List.getElem?_cons_succ, Option.some.injEq] at q0 q1 q2
    exact ⟨k0, k1, k2, q0, q1, q2, wf64 r0, wf64 r1, wf64 r2⟩
def AnsF (P : Program) (f : Field) (i : Nat) : Prop := f.offset = i ∧ P.cellsOf f.type = 13 ∧ ∃ t0 t1 t2 t3 te, P.underlying f.type = some (.struct #[t0, t1, t2, t3]) ∧ TidF P t0 0 ∧ BoolF P t1 3 ∧ IntF P t2 4 ∧ t3.offset = 5 ∧ P.underlying t3.type = some (.array 8 te) ∧ P.cellsOf t3.type = 8 ∧ P.underlying te = some (.int .i64) ∧ P.cellsOf te = 1
theorem ans_trod {H : Type} {enc : TypeId × Value → H} {P : Program} {W : World} {base : Nat} {held : Bool} {f : Field} {i n : Nat} {a b c d e v0 v1 v2 v3 v4 v5 v6 v7 : Value} {y : DataW H × List MemPlace} (hf : AnsF P f i)
    (h : DataW.trod enc P W base (fun _ => true) held n f.type [a, b, c, d, e, v0, v1, v2, v3, v4, v5, v6, v7] = some y) :
    ∃ (k0 k1 k2 : Int) (yes : Bool) (why : Int) (rs : List Int), a = .int .i64 k0 ∧ b = .int .i64 k1 ∧ c = .int .i64 k2 ∧ d = .bool yes ∧ e = .int .i64 why ∧ In64 why ∧ rs.length = 8 ∧ [v0, v1, v2, v3, v4, v5, v6, v7] = rs.map (Value.int .i64) := by
  obtain ⟨-, hc, t0, t1, t2, t3, te, hs, h0, h1, h2, h3, h4, h5, h6, h7⟩ := hf
  obtain ⟨xs, m, _, hx, hl, hxl, hf⟩ := DataW.trod_struct hs (x := y) h
  match xs, hxl with
  | [y0, y1, y2, y3], _ =>
    have u0 := hf 0 t0 rfl
    rw [h0.1, h0.2.1] at u0
    simp only [List.drop_zero, List.take_succ_cons, List.take_zero, List.getElem?_cons_zero] at u0
    obtain ⟨k0, k1, k2, rfl, rfl, rfl, -⟩ := tid_trod h0 u0
    obtain ⟨yes, q1⟩ := field_bool h1 (hf 1 t1 rfl)
    obtain ⟨why, q2, r2⟩ := field_int h2 (hf 2 t2 rfl)
    have u3 := hf 3 t3 rfl
    rw [h3, h5] at u3
    simp only [List.drop_succ_cons, List.drop_zero, List.take_succ_cons, List.take_zero, List.getElem?_cons_zero, List.getElem?_cons_succ] at u3
    simp only [List.getElem?_cons_zero, List.getElem?_cons_succ, Option.some.injEq] at q1 q2
    obtain ⟨zs, m2, -, hz1, hzl, hzn, hel⟩ := DataW.trod_array h4 u3
    have el : ∀ i, i < 8 → ∃ k, [v0, v1, v2, v3, v4, v5, v6, v7][i]? = some (.int .i64 k) := by
      intro i hi
      have e1 := hel i hi
      rw [h7, List.getElem?_eq_getElem (by omega)] at e1
      obtain ⟨k, e2, e3, e4⟩ := DataW.trod_int h6 e1
      refine ⟨k, ?_⟩
      have := congrArg (fun l => l[0]?) e2
      simpa using this
    obtain ⟨w0, z0⟩ := el 0 (by decide)
    obtain ⟨w1, z1⟩ := el 1 (by decide)
    obtain ⟨w2, z2⟩ := el 2 (by decide)
    obtain ⟨w3, z3⟩ := el 3 (by decide)
    obtain ⟨w4, z4⟩ := el 4 (by decide)
    obtain ⟨w5, z5⟩ := el 5 (by decide)
    obtain ⟨w6, z6⟩ := el 6 (by decide)
    obtain ⟨w7, z7⟩ := el 7 (by decide)
    simp only [List.getElem?_cons_zero, List.getElem?_cons_succ, Option.some.injEq] at z0 z1 z2 z3 z4 z5 z6 z7
    refine ⟨k0, k1, k2, yes, why, [w0, w1, w2, w3, w4, w5, w6, w7], rfl, rfl, rfl, q1, q2, wf64 r2, rfl, ?_⟩
    rw [z0, z1, z2, z3, z4, z5, z6, z7]
    rfl
theorem call_trod {H : Type} {enc : TypeId × Value → H} {P : Program} {W : World} {base : Nat} {held : Bool} {e tp : TypeId} {f0 f1 f2 f3 f4 f5 : Field} (he : P.underlying e = some (.struct #[f0, f1, f2, f3, f4, f5])) (hc : P.cellsOf e = 20)
    (h0 : TidF P f0 0) (h1 : f1.offset = 3 ∧ P.underlying f1.type = some (.slice tp) ∧ P.cellsOf f1.type = 1) (h2 : IntF P f2 4) (h3 : BoolF P f3 5) (h4 : AnsF P f4 6) (h5 : IntF P f5 19)
    (cs : List Value) (n : Nat) (D : DataW H) (pl : List MemPlace) (h : DataW.trod enc P W base (fun _ => true) held n e cs = some (D, pl)) (hsz : ∀ m ∈ D.weights P e, m ≤ reachBytes) :
    ∃ x, CallE W x cs ∧ x.ok := by
  obtain ⟨xs, m, _, hx, hl, hxl, hf⟩ := DataW.trod_struct he h
  rw [hc] at hl
  match cs, hl, xs, hxl with
  | [c0, c1, c2, c3, c4, c5, c6, c7, c8, c9, c10, c11, c12, c13, c14, c15, c16, c17, c18, c19], _, [y0, y1, y2, y3, y4, y5], _ =>
    have u0 := hf 0 f0 rfl
    rw [h0.1, h0.2.1] at u0
    simp only [List.drop_zero, List.take_succ_cons, List.take_zero, List.getElem?_cons_zero] at u0
    obtain ⟨a0, a1, a2, rfl, rfl, rfl, b0, b1, b2⟩ := tid_trod h0 u0
    have u1 := hf 1 f1 rfl
    rw [h1.1, h1.2.2] at u1
    simp only [List.drop_succ_cons, List.drop_zero, List.take_succ_cons, List.take_zero, List.getElem?_cons_zero, List.getElem?_cons_succ] at u1
    have hp : ∃ A n c, c3 = .slice A n c := by
      rcases Go.Deep.open_slice (x := y1) h1.2.1 u1 with ⟨hcs, _⟩ | ⟨a, len, cap, m, n, D, Pl, hcs, _⟩
      · injection hcs with hcs
        exact ⟨_, _, _, hcs⟩
      · injection hcs with hcs
        exact ⟨_, _, _, hcs⟩
    obtain ⟨at_, q2, r2⟩ := field_int h2 (hf 2 f2 rfl)
    obtain ⟨done, q3⟩ := field_bool h3 (hf 3 f3 rfl)
    have u4 := hf 4 f4 rfl
    rw [h4.1, h4.2.1] at u4
    simp only [List.drop_succ_cons, List.drop_zero, List.take_succ_cons, List.take_zero, List.getElem?_cons_zero, List.getElem?_cons_succ] at u4
    obtain ⟨k0, k1, k2, yes, why, rs, rfl, rfl, rfl, rfl, rfl, r4, rl, hrs⟩ := ans_trod h4 u4
    obtain ⟨when_, q5, r5⟩ := field_int h5 (hf 5 f5 rfl)
    simp only [List.getElem?_cons_zero, List.getElem?_cons_succ, Option.some.injEq] at q2 q3 q5
    subst q2 q3 q5
    match rs, rl, hrs with
    | [w0, w1, w2, w3, w4, w5, w6, w7], _, hrs =>
      simp only [List.map_cons, List.map_nil, List.cons.injEq, and_true] at hrs
      obtain ⟨rfl, rfl, rfl, rfl, rfl, rfl, rfl, rfl⟩ := hrs
      exact ⟨⟨a0, a1, a2, c3, at_, done, k0, k1, k2, yes, why, [w0, w1, w2, w3, w4, w5, w6, w7], when_⟩, rfl, b0, b1, b2, wf64 r2, r4, wf64 r5, rfl, hp⟩
end Go.Proofs.YtihibljjbdjeoaaDoor
