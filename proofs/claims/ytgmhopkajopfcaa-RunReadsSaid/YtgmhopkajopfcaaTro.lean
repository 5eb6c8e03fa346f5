/- An argument that is a slice of structs, opened as Arr; structs of ints, bools. -/
import Derived.Test.YtgmhopkajopfcaaAr
import Derived.Deep.Strs
import Derived.Deep.Slices
import Derived.SliceStrings
import Derived.SizedLaws
import Derived.Carry
import Derived.Lib.SmallJoins
namespace Go.Proofs.Ytgmhopkajopfcaa
open Go.RowKit Go.ChangeShapes Go.WideShapes
set_option linter.unusedVariables false

theorem weightsAll_mem {H : Type} {P : Program} {e : TypeId} : ∀ {l : List (DataW H)} {d : DataW H}, d ∈ l → ∀ n ∈ d.weights P e, n ∈ DataW.weightsAll P e l
  | [], _, h, _, _ => by cases h
  | x :: xs, d, h, n, hn => by
    simp only [DataW.weightsAll]
    rcases List.mem_cons.1 h with rfl | h
    · exact List.mem_append.2 (.inl hn)
    · exact List.mem_append.2 (.inr (weightsAll_mem h n hn))
theorem arr_of {α : Type} [Inhabited α] {E : World → α → List Value → Prop} {Q : α → Prop} {sz : Nat} {H : Type} {enc : TypeId × Value → H} {P : Program} {W : World} {base : Nat} {held : Bool} {t e : TypeId}
    (ht : P.underlying t = some (.slice e)) (hc : P.cellsOf e = sz) (hz : 0 < sz) {fuel : Nat} {v : Value} {d : DataW H} {p : List MemPlace}
    (h : DataW.trod enc P W base (fun _ => true) held fuel t [v] = some (d, p)) (hsz : ∀ m ∈ d.weights P t, m ≤ reachBytes)
    (hel : ∀ (cs : List Value) (n : Nat) (D : DataW H) (pl : List MemPlace), DataW.trod enc P W base (fun _ => true) held n e cs = some (D, pl) → (∀ m ∈ D.weights P e, m ≤ reachBytes) → ∃ x, E W x cs ∧ Q x) :
    ∃ xs, Arr E sz W v xs ∧ ∀ x ∈ xs, Q x := by
  rcases Go.Deep.open_slice ht h with ⟨hcs, hx⟩ | ⟨a, len, cap, m, n, D, Pl, hcs, _, hl, hm, hmm, hx, hall⟩
  · injection hcs with hcs
    exact ⟨[], ⟨none, 0, hcs, ⟨by simp, by simp⟩, fun h0 => absurd h0 (by simp)⟩, fun x hx => by cases hx⟩
  · injection hcs with hcs
    subst hcs
    injection hx with hx hp
    subst hx
    have hm2 : m = cap := hmm
    subst hm2
    have hw : ∀ i, i < len → ∀ k ∈ (D i).weights P e, k ≤ reachBytes := fun i hi k hk => hsz k (by
      simp only [DataW.weights, ht]
      refine List.mem_cons.2 (.inr (List.mem_append.2 (.inl (weightsAll_mem (d := D i) ?_ k hk))))
      exact List.mem_map.2 ⟨i, List.mem_range.2 hi, rfl⟩)
    obtain ⟨X, hX⟩ := Go.Deep.choose_lt (α := α) (n := len) (p := fun i x => ∃ cs, E W x cs ∧ Q x ∧ cs.length = sz ∧ ∀ k, k < sz → W.cell? (a.add (i * sz + k)) = cs[k]?) (fun i hi => by
      obtain ⟨cs, h1, h2⟩ := hall i (by omega)
      obtain ⟨_, h3, h4⟩ := World.cells?_some h1
      obtain ⟨x, h5, h6⟩ := hel cs n (D i) (Pl i) h2 (hw i hi)
      refine ⟨x, cs, h5, h6, by rw [h3, hc], fun k hk => ?_⟩
      rw [← h4 k (by omega), Go.Deep.add_add, hc])
    have hsp : 0 < len → a.spot = none := fun h0 => by
      obtain ⟨cs, _, _, h3, h4⟩ := hX 0 h0
      have h5 := h4 0 hz
      rw [List.getElem?_eq_getElem (by omega)] at h5
      simpa [Addr.add] using World.cell?_spot h5
    refine ⟨(List.range len).map X, ⟨some a, m, by simp, ⟨by simp; unfold maxLen at hm; omega, by simpa using hl⟩, fun h0 => ⟨a, rfl, ?_, fun j x hj => ?_⟩⟩, fun x hx => ?_⟩
    · exact hsp (by simpa using h0)
    · have hj2 : j < len := by
        have := (List.getElem?_eq_some_iff.1 hj).1
        simpa using this
      have hx : X j = x := by simpa [hj2] using hj
      obtain ⟨cs, h1, h2, h3, h4⟩ := hX j hj2
      rw [hx] at h1
      refine ⟨cs, h1, h3, fun i u hu => ?_⟩
      have hi : i < cs.length := (List.getElem?_eq_some_iff.1 hu).1
      have h5 := h4 i (by omega)
      rw [hu] at h5
      have hs : a.spot = none := hsp (by omega)
      obtain ⟨b, o, sp⟩ := a
      dsimp only at hs
      subst hs
      rw [add_plain, ← Nat.add_assoc] at h5
      exact h5
    · obtain ⟨i, hi, rfl⟩ := List.mem_map.1 hx
      obtain ⟨cs, _, h2, _, _⟩ := hX i (List.mem_range.1 hi)
      exact h2
theorem weights_each {H : Type} {P : Program} {ts : List TypeId} {ds : List (DataW H)} (hsz : (DataW.weightsEach P ts ds).all (· ≤ reachBytes) = true) {j : Nat} {t : TypeId} {d : DataW H} (ht : ts[j]? = some t) (hd : ds[j]? = some d) : ∀ m ∈ d.weights P t, m ≤ reachBytes := fun m hm => by
  have := List.all_eq_true.1 hsz _ (DataW.weights_mem_each ht hd m hm)
  simpa using this
theorem field_int {H : Type} {enc : TypeId × Value → H} {P : Program} {W : World} {base : Nat} {held : Bool} {f : Field} {cs : List Value} {i n : Nat} {y : DataW H × List MemPlace} (hf : f.offset = i ∧ P.underlying f.type = some (.int .i64) ∧ P.cellsOf f.type = 1)
    (h : DataW.trod enc P W base (fun _ => true) held n f.type ((cs.drop f.offset).take (P.cellsOf f.type)) = some y) : ∃ k, cs[i]? = some (.int .i64 k) ∧ (Lit.int .i64 k).wf = true := by
  obtain ⟨h1, h2, h3⟩ := hf
  obtain ⟨k, k1, k2, k3⟩ := DataW.trod_int h2 h
  refine ⟨k, ?_, k3⟩
  rw [h1, h3] at k1
  have := congrArg (fun l => l[0]?) k1
  simpa using this
def IntF (P : Program) (f : Field) (i : Nat) : Prop := f.offset = i ∧ P.underlying f.type = some (.int .i64) ∧ P.cellsOf f.type = 1
theorem field_bool {H : Type} {enc : TypeId × Value → H} {P : Program} {W : World} {base : Nat} {held : Bool} {f : Field} {cs : List Value} {i n : Nat} {y : DataW H × List MemPlace} (hf : f.offset = i ∧ P.underlying f.type = some .bool ∧ P.cellsOf f.type = 1)
    (h : DataW.trod enc P W base (fun _ => true) held n f.type ((cs.drop f.offset).take (P.cellsOf f.type)) = some y) : ∃ k, cs[i]? = some (.bool k) := by
  obtain ⟨h1, h2, h3⟩ := hf
  obtain ⟨k, k1, k2⟩ := DataW.trod_bool h2 h
  refine ⟨k, ?_⟩
  rw [h1, h3] at k1
  have := congrArg (fun l => l[0]?) k1
  simpa using this
def BoolF (P : Program) (f : Field) (i : Nat) : Prop := f.offset = i ∧ P.underlying f.type = some .bool ∧ P.cellsOf f.type = 1
theorem wf64 {n : Int} (h : (Lit.int .i64 n).wf = true) : -9223372036854775808 ≤ n ∧ n ≤ 9223372036854775807 := by simpa [Lit.wf, IntKind.min, IntKind.max, IntKind.signed, IntKind.bits] using h
/-- A struct of three ints, as an argument. -/
theorem agg3_ints {H : Type} {enc : TypeId × Value → H} {P : Program} {W : World} {base : Nat} {held : Bool} {r : Reach} {b0 : Nat} {t : TypeId} {f0 f1 f2 : Field} {v : Value} {d : DataW H} {p : List MemPlace} (he : P.underlying t = some (.struct #[f0, f1, f2])) (hc : P.cellsOf t = 3)
    (h0 : IntF P f0 0) (h1 : IntF P f1 1) (h2 : IntF P f2 2) (hv : Value.okWide P W r b0 t v) (h : DataW.Trod enc P W base (fun _ => true) held t v d p) :
    ∃ a b c, v = .agg #[.int .i64 a, .int .i64 b, .int .i64 c] ∧ (Lit.int .i64 a).wf = true ∧ (Lit.int .i64 b).wf = true ∧ (Lit.int .i64 c).wf = true := by
  obtain ⟨cs, rfl, hsz⟩ := okWide_struct he hv
  obtain ⟨fuel, hf⟩ := h
  obtain ⟨xs, m, _, hx, hl, hxl, hf⟩ := DataW.trod_struct he hf
  rw [hc] at hl
  obtain ⟨l⟩ := cs
  match xs, hxl with
  | [y0, y1, y2], _ =>
    obtain ⟨k0, q0, r0⟩ := field_int h0 (hf 0 f0 rfl)
    obtain ⟨k1, q1, r1⟩ := field_int h1 (hf 1 f1 rfl)
    obtain ⟨k2, q2, r2⟩ := field_int h2 (hf 2 f2 rfl)
    match l, hl with
    | [c0, c1, c2], _ =>
      refine ⟨k0, k1, k2, ?_, r0, r1, r2⟩
      have e0 : c0 = .int .i64 k0 := by injection q0
      have e1 : c1 = .int .i64 k1 := by injection q1
      have e2 : c2 = .int .i64 k2 := by injection q2
      rw [e0, e1, e2]
end Go.Proofs.Ytgmhopkajopfcaa
