/- append([]Op{}, xs...): a copy of the call's own; a slice's end, read as a list. -/
import Derived.Test.YtihibljjbdjeoaaDoorPo
namespace Go.Proofs.YtihibljjbdjeoaaDoor
open Go.RowKit
set_option linter.unusedVariables false

theorem opsCells_len (l : List POp) : (opsCells l).length = l.length * 5 := by
  induction l with
  | nil => rfl
  | cons x l ih =>
    rw [show opsCells (x :: l) = (([.int .i64 x.k, .int .i64 x.c, .int .i64 x.r, .int .i64 x.o, .int .i64 x.n] : List Value) ++ opsCells l) from rfl, List.length_append, ih, List.length_cons]
    simp only [List.length_cons, List.length_nil]
    omega
theorem Arr.flat {w : World} {A : Option Addr} {n c : Nat} {l : List POp} (h : Arr OpE 5 w (.slice A n c) l) (h0 : 0 < l.length) : ∃ b o, A = some ⟨b, o, none⟩ ∧ ∀ i u, (opsCells l)[i]? = some u → w.cell? ((⟨b, o, none⟩ : Addr).add i) = some u := by
  obtain ⟨A', c', he, hm, hh⟩ := h
  injection he with h1 h2 h3
  obtain ⟨⟨b, o, sp⟩, ha, hs, hcell⟩ := hh h0
  dsimp only at hs
  subst hs
  refine ⟨b, o, by rw [h1, ha], fun i u hu => ?_⟩
  have hlen := opsCells_len l
  have hi : i < l.length * 5 := by
    have := (List.getElem?_eq_some_iff.1 hu).1
    omega
  have hj : i / 5 < l.length := by omega
  obtain ⟨cs, rfl, hcs, hcc⟩ := hcell (i / 5) l[i / 5] (List.getElem?_eq_getElem hj)
  have hr : i % 5 < 5 := Nat.mod_lt _ (by decide)
  have hq := opsCells_at l (i / 5) l[i / 5] (List.getElem?_eq_getElem hj) (i % 5)
  obtain ⟨u', hu'⟩ : ∃ u', [Value.int .i64 (l[i / 5]).k, .int .i64 (l[i / 5]).c, .int .i64 (l[i / 5]).r, .int .i64 (l[i / 5]).o, .int .i64 (l[i / 5]).n][i % 5]? = some u' := by
    rw [List.getElem?_eq_getElem (by simpa using hr)]
    exact ⟨_, rfl⟩
  have e1 := hq u' hu'
  rw [show i / 5 * 5 + i % 5 = i by omega, hu] at e1
  injection e1 with e1
  subst e1
  have := hcc (i % 5) u hu'
  rw [Go.WideShapes.add_plain]
  rw [show o + i / 5 * 5 + i % 5 = o + i by omega] at this
  exact this
theorem Arr.take {α : Type} {E : World → α → List Value → Prop} {sz : Nat} {w : World} {A : Option Addr} {n c : Nat} {xs : List α} (h : Arr E sz w (.slice A n c) xs) (k : Nat) (hk : k ≤ xs.length) : Arr E sz w (.slice A k c) (xs.take k) := by
  obtain ⟨A', c', he, hm, h⟩ := h
  injection he with h1 h2 h3
  subst h1 h3
  have hl : (xs.take k).length = k := by rw [List.length_take]; omega
  refine ⟨_, _, by rw [hl], ⟨by omega, by omega⟩, fun h0 => ?_⟩
  obtain ⟨ad, g1, g2, g3⟩ := h (by omega)
  refine ⟨ad, g1, g2, fun j x hx => g3 j x ?_⟩
  rw [List.getElem?_take] at hx
  split at hx
  · exact hx
  · cases hx
theorem Arr.drop {α : Type} {E : World → α → List Value → Prop} {sz : Nat} {w : World} {b o n c : Nat} {xs : List α} (h : Arr E sz w (.slice (some ⟨b, o, none⟩) n c) xs) (k : Nat) (hk : k ≤ xs.length) : Arr E sz w (.slice (some ⟨b, o + k * sz, none⟩) (xs.length - k) (c - k)) (xs.drop k) := by
  obtain ⟨A', c', he, hm, h⟩ := h
  injection he with h1 h2 h3
  subst h1 h3
  have hl : (xs.drop k).length = xs.length - k := List.length_drop ..
  refine ⟨_, _, by rw [hl], ⟨by omega, by omega⟩, fun h0 => ?_⟩
  obtain ⟨ad, g1, g2, g3⟩ := h (by omega)
  injection g1 with g1
  subst g1
  refine ⟨_, rfl, rfl, fun j x hx => ?_⟩
  rw [List.getElem?_drop] at hx
  obtain ⟨cs, e1, e2, e3⟩ := g3 (k + j) x hx
  refine ⟨cs, e1, e2, fun i u hu => ?_⟩
  have := e3 i u hu
  rw [show o + k * sz + j * sz + i = o + (k + j) * sz + i by rw [Nat.add_mul]; omega]
  exact this
theorem infoOp20 : (Tryd.prog.info? 48).map (fun i => (i.zero, i.size, i.bytes)) = some (some (.agg #[.int .i64 0, .int .i64 0, .int .i64 0, .int .i64 0, .int .i64 0]), 5, 40) := by kernel_rfl
/-- append(x, s...) where x is empty, not nil, and has no room. -/
theorem run_append_copy (w : World) (b : Addr) (s : Value) (l : List POp) (h : Arr OpE 5 w s l) (hl : l.length ≤ 100000) (ty : TypeId) :
    ∃ v' w', (Builtin.append_ #[31, 31] ty #[.slice (some b) 0 0, s]).run Tryd.prog w = .ok v' w' ∧ Arr OpE 5 w' v' l ∧ w.grownBy w' none := by
  obtain ⟨i0, hi, hz0, hz1, hz2⟩ := info_parts infoOp20
  obtain ⟨A, c, rfl⟩ := h.len
  by_cases h0 : 0 < l.length
  · obtain ⟨b', o, rfl, hc⟩ := h.flat h0
    have hlen := opsCells_len l
    have hr := run_append_grow (P := Tryd.prog) w 31 ty 48 i0 _ Tryd.underlying31 hi hz0 b 0 0 [] (by simp) (by simp) ⟨b', o, none⟩ l.length c (opsCells l) (by rw [hlen, hz1]) hc (by omega) (by omega) (by
      rw [hz2]
      have := growslice_fits (need := 0 + l.length) (old := 0) (bytes := 40) (by omega) (by omega)
      exact this)
    refine ⟨_, _, hr, ?_, ⟨rfl, rfl, rfl, by simp, fun k hk _ => heap_alloc_old w.drew _ hk⟩⟩
    simp only [Nat.zero_add]
    refine Arr.block (g := w.heap.size) (t := 48) (heap_alloc_new w.drew _) (by have := grownCap_ge w l.length 0 48; omega) (by omega) (fun j x hx => ⟨_, rfl, rfl, fun i u hu => ?_⟩)
    have := opsCells_at l j x hx i u hu
    have hlt := (List.getElem?_eq_some_iff.1 this).1
    rw [Array.empty_append, Array.getElem?_append_left (by simpa using hlt)]
    simpa using this
  · have hl0 : l = [] := List.eq_nil_of_length_eq_zero (by omega)
    subst hl0
    refine ⟨.slice (some b) 0 0, w, ?_, ⟨_, 0, rfl, by simp, fun h => by simp at h⟩, gr_refl _ _⟩
    cases A <;> simp [Builtin.append_, run_underlying Tryd.underlying31, sizeOf, typeInfo, hi, Builtin.lenOf, Builtin.firstCells, loadCells, loadCellsFrom, storeCells]
theorem step_append_copy {ops : Array Oper} {o : Oper} {a : Act} {w0 w : World} {K : Act → World → Prop} {Q : Exit → Act → World → Prop} {E : Prop} (hgd : o.guard = none) (s x : Operand)
    (ho : o.op = .call { callee := .builtin .append, args := #[s, x], argTypes := #[31, 31] })
    (l : List POp) (b : Addr) (hs : a.eval s = .slice (some b) 0 0) (v : Value) (hx : a.eval x = v) (h : Arr OpE 5 w0 v l) (hg : w0.grownBy w none) (hl : l.length ≤ 100000)
    (hk : ∀ v' w', Arr OpE 5 w' v' l → w.grownBy w' none → K (a.put o.dst v') w') :
    if Region.wanted o (yielded ops a.tmps) = true then Oper.wp Tryd.prog o a w K Q else E := by
  have hw : Region.wanted o (yielded ops a.tmps) = true := by simp [Region.wanted, hgd]
  rw [if_pos hw]
  obtain ⟨v', w', hr, h1, h2⟩ := run_append_copy w b v l (h.below hg (fun _ _ => OpE.any _ _)) hl o.type
  unfold Oper.wp execOp
  simp only [ho, resolve, invoke, builtin, Sem.run_bind, Sem.run_pure, Result.andThen_ok, List.map_toArray, List.map_cons, List.map_nil, hs, hx, hr]
  exact hk _ _ h1 h2
end Go.Proofs.YtihibljjbdjeoaaDoor
