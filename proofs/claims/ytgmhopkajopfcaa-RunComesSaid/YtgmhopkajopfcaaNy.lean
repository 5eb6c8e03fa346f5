/- How many values a map has; the walk of the law's same. -/
import Derived.Test.YtgmhopkajopfcaaNv
namespace Go.Proofs.Ytgmhopkajopfcaa
open Go.RowKit Go.Maps
set_option linter.unusedVariables false

/-- The cells that f has. -/
def keysF {α : Type} (f : Int → Option α) : List Int := ((List.range 16).map Int.ofNat).filter fun c => (f c).isSome
theorem mem_keysF {α : Type} {f : Int → Option α} {x : Int} : x ∈ keysF f ↔ (0 ≤ x ∧ x < 16) ∧ (f x).isSome = true := by
  unfold keysF
  rw [List.mem_filter, List.mem_map]
  constructor
  · rintro ⟨⟨n, hn, rfl⟩, h⟩
    have := List.mem_range.1 hn
    exact ⟨⟨Int.natCast_nonneg n, by show (n : Int) < 16; omega⟩, h⟩
  · rintro ⟨⟨h0, h1⟩, h⟩
    exact ⟨⟨x.toNat, List.mem_range.2 (by omega), by show (x.toNat : Int) = x; omega⟩, h⟩
theorem keysF_sorted {α : Type} (f : Int → Option α) : (keysF f).Pairwise (fun a b => a < b) := by
  unfold keysF
  refine List.Pairwise.filter _ ?_
  refine List.pairwise_map.2 ?_
  exact List.pairwise_lt_range.imp (fun {a b} h => by show (a : Int) < (b : Int); omega)
theorem keysF_nodup {α : Type} (f : Int → Option α) : (keysF f).Nodup := (keysF_sorted f).imp (fun {a b} h e => by omega)
theorem perm_F {α : Type} {L : El α} {w : World} {b n : Nat} {D : DataW Unit} {f : Int → Option α} (h : w.ownsMap Try.prog 3 L.R b n D) (hD : HoldsF L D f) (hf : ∀ c, (f c).isSome = true → 0 ≤ c ∧ c < 16) : (keysF f).Perm (intKeys D) := by
  obtain ⟨es, hE, hpw, _⟩ := h.entries keyInt
  obtain ⟨es', hE', hko⟩ := h.keysOf
  obtain rfl : es = es' := by rw [hE] at hE'; simpa using hE'
  subst hE
  refine perm_intKeys hpw (fun p hp => by obtain ⟨v, hv⟩ := hko p hp; obtain ⟨x, _, hx, _⟩ := Maps.keyOf_i64 Try.underlying3 hv; exact ⟨x, hx⟩) (keysF_nodup f) (fun x => ?_)
  rw [mem_keysF]
  by_cases hx : K64 x
  · rw [(hD x hx).2]
    exact ⟨fun q => q.2, fun q => ⟨hf x q, q⟩⟩
  · constructor
    · rintro ⟨⟨h0, h1⟩, _⟩
      exact absurd ⟨by omega, by omega⟩ hx
    · intro q
      rw [has_eq, List.any_eq_true] at q
      obtain ⟨p, hp, hs⟩ := q
      obtain ⟨v, hv⟩ := hko p hp
      obtain ⟨y, _, hy, hw⟩ := Maps.keyOf_i64 Try.underlying3 hv
      rw [hy] at hs
      have : y = x := by simpa [Lit.sameKey] using hs
      subst this
      refine absurd ?_ hx
      simp [Lit.wf, IntKind.min, IntKind.max, IntKind.signed, IntKind.bits] at hw
      exact hw
theorem size_F {α : Type} {L : El α} {w : World} {b n : Nat} {D : DataW Unit} {f : Int → Option α} (h : w.ownsMap Try.prog 3 L.R b n D) (hD : HoldsF L D f) (hf : ∀ c, (f c).isSome = true → 0 ≤ c ∧ c < 16) : Maps.size D = (keysF f).length := by
  have h1 := (perm_F h hD hf).length_eq
  rw [h1]
  obtain ⟨es, hE, _⟩ := h.entries keyInt
  subst hE
  show es.length = (es.map fun p => Go.intOf p.1).length
  rw [List.length_map]
theorem keysF_congr {α β : Type} {f : Int → Option α} {g : Int → Option β} (h : ∀ c, (f c).isSome = (g c).isSome) : keysF f = keysF g := by
  unfold keysF
  exact List.filter_congr fun x _ => h x
theorem valsN_dom {rd : Rd} {lv : Lv} {c : Int} (h : (valsN rd lv 16 c).isSome = true) : 0 ≤ c ∧ c < 16 := by
  unfold valsN at h
  split at h
  · assumption
  · cases h
theorem val_some (w : World) {ops : Array Oper} {rest : List Oper} {o : Oper} {a : Act} {Q : Exit → Act → World → Prop} (hg : o.guard = none) (m x : Operand) (hop : o.op = Op.lookup 80 m x true)
    (b n : Nat) (f : Int → Option Int) (hm : a.eval m = .map (some b)) (hown : MapF elVal w b n f) (c : Int) (hx : a.eval x = .int .i64 c) (hc : K64 c) (u : Int) (hr : f c = some u)
    (hK : wpList Try.prog ops Q rest (a.put o.dst (.tuple #[.int .i64 u, .bool true])) w) : wpList Try.prog ops Q (o :: rest) a w :=
  wpList_look_F elVal w hg m x hop b n f hm hown c hx hc (some u) hr hK
end Go.Proofs.Ytgmhopkajopfcaa
