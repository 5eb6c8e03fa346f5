/- An argument that is a slice of anything, opened as Arr; scripts of a disk. -/
import Derived.Test.YtmehohpboliibaaArr
import Derived.Test.YtmehohpboliibaaStrsOpen
import Derived.Deep.Strs
import Derived.Carry
namespace Go.Proofs.Ytmehohpboliibaa
open Go.RowKit Go.ChangeShapes Go.WideShapes
set_option linter.unusedVariables false

theorem weightsAll_mem {H : Type} {P : Program} {e : TypeId} : ∀ {l : List (DataW H)} {d : DataW H}, d ∈ l → ∀ n ∈ d.weights P e, n ∈ DataW.weightsAll P e l
  | [], _, h, _, _ => by cases h
  | x :: xs, d, h, n, hn => by
    simp only [DataW.weightsAll]
    rcases List.mem_cons.1 h with rfl | h
    · exact List.mem_append.2 (.inl hn)
    · exact List.mem_append.2 (.inr (weightsAll_mem h n hn))
theorem arr_of {α : Type} [Inhabited α] {E : World → α → List Value → Prop} {Q : α → Prop} {sz : Nat} {H : Type} {enc : TypeId × Value → H} {P : Program} {W : World} {base : Nat} {held : Bool} {t e : TypeId}
    (ht : P.underlying t = some (.slice e)) (hc : P.cellsOf e = sz) (hz : 0 < sz) {fuel : Nat} {v : Value} {d : DataW H} {p : List MemPlace}
    (h : DataW.trod enc P W base (fun _ => true) held fuel t [v] = some (d, p)) (hsz : ∀ m ∈ d.weights P t, m ≤ reachBytes)
    (hel : ∀ (cs : List Value) (n : Nat) (D : DataW H) (pl : List MemPlace), DataW.trod enc P W base (fun _ => true) held n e cs = some (D, pl) → (∀ m ∈ D.weights P e, m ≤ reachBytes) → ∃ x, E W x cs ∧ Q x) :
    ∃ xs, Arr E sz W v xs ∧ ∀ x ∈ xs, Q x := by
  rcases Go.Deep.open_slice ht h with ⟨hcs, hx⟩ | ⟨a, len, cap, m, n, D, Pl, hcs, _, hl, hm, hmm, hx, hall⟩
  · injection hcs with hcs
    exact ⟨[], ⟨none, 0, hcs, ⟨by simp, by simp⟩, fun h0 => absurd h0 (by simp)⟩, fun x hx => by cases hx⟩
  · injection hcs with hcs
    subst hcs
    injection hx with hx hp
    subst hx
    have hm2 : m = cap := hmm
    subst hm2
    have hw : ∀ i, i < len → ∀ k ∈ (D i).weights P e, k ≤ reachBytes := fun i hi k hk => hsz k (by
      simp only [DataW.weights, ht]
      refine List.mem_cons.2 (.inr (List.mem_append.2 (.inl (weightsAll_mem (d := D i) ?_ k hk))))
      exact List.mem_map.2 ⟨i, List.mem_range.2 hi, rfl⟩)
    obtain ⟨X, hX⟩ := Go.Deep.choose_lt (α := α) (n := len) (p := fun i x => ∃ cs, E W x cs ∧ Q x ∧ cs.length = sz ∧ ∀ k, k < sz → W.cell? (a.add (i * sz + k)) = cs[k]?) (fun i hi => by
      obtain ⟨cs, h1, h2⟩ := hall i (by omega)
      obtain ⟨_, h3, h4⟩ := World.cells?_some h1
      obtain ⟨x, h5, h6⟩ := hel cs n (D i) (Pl i) h2 (hw i hi)
      refine ⟨x, cs, h5, h6, by rw [h3, hc], fun k hk => ?_⟩
      rw [← h4 k (by omega), Go.Deep.add_add, hc])
    have hsp : 0 < len → a.spot = none := fun h0 => by
      obtain ⟨cs, _, _, h3, h4⟩ := hX 0 h0
      have h5 := h4 0 hz
      rw [List.getElem?_eq_getElem (by omega)] at h5
      simpa [Addr.add] using World.cell?_spot h5
    refine ⟨(List.range len).map X, ⟨some a, m, by simp, ⟨by simp; unfold maxLen at hm; omega, by simpa using hl⟩, fun h0 => ⟨a, rfl, ?_, fun j x hj => ?_⟩⟩, fun x hx => ?_⟩
    · exact hsp (by simpa using h0)
    · have hj2 : j < len := by
        have := (List.getElem?_eq_some_iff.1 hj).1
        simpa using this
      have hx : X j = x := by simpa [hj2] using hj
      obtain ⟨cs, h1, h2, h3, h4⟩ := hX j hj2
      rw [hx] at h1
      refine ⟨cs, h1, h3, fun i u hu => ?_⟩
      have hi : i < cs.length := (List.getElem?_eq_some_iff.1 hu).1
      have h5 := h4 i (by omega)
      rw [hu] at h5
      have hs : a.spot = none := hsp (by omega)
      obtain ⟨b, o, sp⟩ := a
      dsimp only at hs
      subst hs
      rw [add_plain, ← Nat.add_assoc] at h5
      exact h5
    · obtain ⟨i, hi, rfl⟩ := List.mem_map.1 hx
      obtain ⟨cs, _, h2, _, _⟩ := hX i (List.mem_range.1 hi)
      exact h2
theorem weights_each {H : Type} {P : Program} {ts : List TypeId} {ds : List (DataW H)} (hsz : (DataW.weightsEach P ts ds).all (· ≤ reachBytes) = true) {j : Nat} {t : TypeId} {d : DataW H} (ht : ts[j]? = some t) (hd : ds[j]? = some d) : ∀ m ∈ d.weights P t, m ≤ reachBytes := fun m hm => by
  have := List.all_eq_true.1 hsz _ (DataW.weights_mem_each ht hd m hm)
  simpa using this
/-- A []string in memory, read as Strs. -/
theorem strs_trod {H : Type} {enc : TypeId × Value → H} {P : Program} {W : World} {base : Nat} {held : Bool} {t e : TypeId} (ht : P.underlying t = some (.slice e)) (he : P.underlying e = some .string) (hc : P.cellsOf e = 1) {fuel : Nat} {cs : List Value} {d : DataW H} {p : List MemPlace}
    (h : DataW.trod enc P W base (fun _ => true) held fuel t cs = some (d, p)) (hsz : ∀ m ∈ d.weights P t, m ≤ reachBytes) :
    ∃ v xs, cs = [v] ∧ Strs W v xs ∧ ∀ s ∈ xs, s.size ≤ 140737488351232 := by
  rcases open_strings ht he hc h with ⟨hcs, hx⟩ | ⟨a, len', cap', ss, hcs, _, hl, hm, hz, hx, hcell, hs2⟩
  · exact ⟨_, [], hcs, .inl ⟨rfl, _, _, rfl⟩, by simp⟩
  · injection hx with hx1 hx2
    subst hx1
    refine ⟨_, ss.take len', hcs, strs_of hcell (by simpa using hz) hl, fun s hs => ?_⟩
    have h1 := strs_mem (H := H) (P := P) (e := e) hs
    have h2 := hsz s.data.toList.length (by simp only [DataW.weights, ht]; exact List.mem_cons.2 (.inr (List.mem_append.2 (.inl h1))))
    rw [Array.length_toList] at h2
    exact h2
instance : Inhabited DOp := ⟨⟨0, 0, []⟩⟩
/-- A struct of two ints and a []string. -/
theorem dop_trod {H : Type} {enc : TypeId × Value → H} {P : Program} {W : World} {base : Nat} {held : Bool} {e te ts ti : TypeId} {f0 f1 f2 : Field} (he : P.underlying e = some (.struct #[f0, f1, f2])) (hc : P.cellsOf e = 3)
    (h0 : f0.offset = 0 ∧ f0.type = ti) (h1 : f1.offset = 1 ∧ f1.type = ti) (h2 : f2.offset = 2 ∧ f2.type = te) (hi : P.underlying ti = some (.int .i64)) (hi1 : P.cellsOf ti = 1) (ht : P.underlying te = some (.slice ts)) (ht1 : P.cellsOf te = 1) (hs : P.underlying ts = some .string) (hs1 : P.cellsOf ts = 1)
    (cs : List Value) (n : Nat) (D : DataW H) (pl : List MemPlace) (h : DataW.trod enc P W base (fun _ => true) held n e cs = some (D, pl)) (hsz : ∀ m ∈ D.weights P e, m ≤ reachBytes) :
    ∃ x, DOpE W x cs ∧ ((Lit.int .i64 x.k).wf = true ∧ (Lit.int .i64 x.n).wf = true ∧ ∀ s ∈ x.l, s.size ≤ 140737488351232) := by
  obtain ⟨y0, y1, y2, m, hx, hl, t0, t1, t2⟩ := Go.Deep.trod_struct3 he h
  rw [hc] at hl
  match cs, hl with
  | [a, b, c], _ =>
    rw [h0.1, h0.2, hi1] at t0
    rw [h1.1, h1.2, hi1] at t1
    rw [h2.1, h2.2, ht1] at t2
    simp only [List.drop_zero, List.drop_succ_cons, List.take_succ_cons, List.take_zero] at t0 t1 t2
    obtain ⟨k, k1, k2, k3⟩ := DataW.trod_int hi t0
    obtain ⟨q, q1, q2, q3⟩ := DataW.trod_int hi t1
    obtain ⟨v, xs, v1, v2, v3⟩ := strs_trod ht hs hs1 (d := y2.1) (p := y2.2) t2 (fun j hj => hsz j (by
      injection hx with hx1 hx2
      rw [hx1]
      simp only [DataW.weights, he, List.map_cons, List.map_nil, DataW.weightsEach, h2.2]
      simp [hj]))
    injection k1 with k1
    injection q1 with q1
    injection v1 with v1
    subst k1
    subst q1
    subst v1
    exact ⟨⟨k, q, xs⟩, ⟨_, rfl, v2⟩, k3, q3, v3⟩
end Go.Proofs.Ytmehohpboliibaa
