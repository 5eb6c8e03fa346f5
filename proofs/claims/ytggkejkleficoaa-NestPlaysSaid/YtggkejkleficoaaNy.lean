/- How many values a map has; the walk of the law's same. -/
import Derived.Test.YtggkejkleficoaaNv
namespace Go.Proofs.Ytggkejkleficoaa
open Go.RowKit Go.Maps
set_option linter.unusedVariables false

/-- The cells that f has. -/
def keysF {α : Type} (f : Int → Option α) : List Int := ((List.range 16).map Int.ofNat).filter fun c => (f c).isSome
theorem mem_keysF {α : Type} {f : Int → Option α} {x : Int} : x ∈ keysF f ↔ (0 ≤ x ∧ x < 16) ∧ (f x).isSome = true := by
  unfold keysF
  rw [List.mem_filter, List.mem_map]
  constructor
  · rintro ⟨⟨n, hn, rfl⟩, h⟩
    have := List.mem_range.1 hn
    exact ⟨⟨Int.natCast_nonneg n, by show (n : Int) < 16; omega⟩, h⟩
  · rintro ⟨⟨h0, h1⟩, h⟩
    exact ⟨⟨x.toNat, List.mem_range.2 (by omega), by show (x.toNat : Int) = x; omega⟩, h⟩
theorem keysF_sorted {α : Type} (f : Int → Option α) : (keysF f).Pairwise (fun a b => a < b) := by
  unfold keysF
  refine List.Pairwise.filter _ ?_
  refine List.pairwise_map.2 ?_
  exact List.pairwise_lt_range.imp (fun {a b} h => by show (a : Int) < (b : Int); omega)
theorem keysF_nodup {α : Type} (f : Int → Option α) : (keysF f).Nodup := (keysF_sorted f).imp (fun {a b} h e => by omega)
theorem perm_F {α : Type} {L : El α} {w : World} {b n : Nat} {D : DataW Unit} {f : Int → Option α} (h : w.ownsMap Try.prog 3 L.R b n D) (hD : HoldsF L D f) (hf : ∀ c, (f c).isSome = true → 0 ≤ c ∧ c < 16) : (keysF f).Perm (intKeys D) := by
  obtain ⟨es, hE, hpw, _⟩ := h.entries keyInt
  obtain ⟨es', hE', hko⟩ := h.keysOf
  obtain rfl : es = es' := by rw [hE] at hE'; simpa using hE'
  subst hE
  refine perm_intKeys hpw (fun p hp => by obtain ⟨v, hv⟩ := hko p hp; obtain ⟨x, _, hx, _⟩ := Maps.keyOf_i64 Try.underlying3 hv; exact ⟨x, hx⟩) (keysF_nodup f) (fun x => ?_)
  rw [mem_keysF]
  by_cases hx : K64 x
  · rw [(hD x hx).2]
    exact ⟨fun q => q.2, fun q => ⟨hf x q, q⟩⟩
  · constructor
    · rintro ⟨⟨h0, h1⟩, _⟩
      exact absurd ⟨by omega, by omega⟩ hx
    · intro q
      rw [has_eq, List.any_eq_true] at q
      obtain ⟨p, hp, hs⟩ := q
      obtain ⟨v, hv⟩ := hko p hp
      obtain ⟨y, _, hy, hw⟩ := Maps.keyOf_i64 Try.underlying3 hv
      rw [hy] at hs
      have : y = x := by simpa [Lit.sameKey] using hs
      subst this
      refine absurd ?_ hx
      simp [Lit.wf, IntKind.min, IntKind.max, IntKind.signed, IntKind.bits] at hw
      exact hw
theorem size_F {α : Type} {L : El α} {w : World} {b n : Nat} {D : DataW Unit} {f : Int → Option α} (h : w.ownsMap Try.prog 3 L.R b n D) (hD : HoldsF L D f) (hf : ∀ c, (f c).isSome = true → 0 ≤ c ∧ c < 16) : Maps.size D = (keysF f).length := by
  have h1 := (perm_F h hD hf).length_eq
  rw [h1]
  obtain ⟨es, hE, _⟩ := h.entries keyInt
  subst hE
  show es.length = (es.map fun p => Go.intOf p.1).length
  rw [List.length_map]
theorem keysF_congr {α β : Type} {f : Int → Option α} {g : Int → Option β} (h : ∀ c, (f c).isSome = (g c).isSome) : keysF f = keysF g := by
  unfold keysF
  exact List.filter_congr fun x _ => h x
theorem valsN_dom {rd : Rd} {lv : Lv} {c : Int} (h : (valsN rd lv 16 c).isSome = true) : 0 ≤ c ∧ c < 16 := by
  unfold valsN at h
  split at h
  · assumption
  · cases h
theorem val_some (w : World) {ops : Array Oper} {rest : List Oper} {o : Oper} {a : Act} {Q : Exit → Act → World → Prop} (hg : o.guard = none) (m x : Operand) (hop : o.op = Op.lookup 32 m x true)
    (b n : Nat) (f : Int → Option Int) (hm : a.eval m = .map (some b)) (hown : MapF elVal w b n f) (c : Int) (hx : a.eval x = .int .i64 c) (hc : K64 c) (u : Int) (hr : f c = some u)
    (hK : wpList Try.prog ops Q rest (a.put o.dst (.tuple #[.int .i64 u, .bool true])) w) : wpList Try.prog ops Q (o :: rest) a w :=
  wpList_look_F elVal w hg m x hop b n f hm hown c hx hc (some u) hr hK
set_option maxRecDepth 100000 in
set_option maxHeartbeats 3200000 in
theorem same_c {w : World} {ba bb : Nat} {f : Int → Option Int} (ha : MapF elVal w ba 16 f) (hb : MapF elVal w bb 16 f) (hf : ∀ c, (f c).isSome = true → 0 ≤ c ∧ c < 16) :
    Calls Try.prog 14 #[.map (some ba), .map (some bb)] w fun e w' => e = .returned (.bool true) ∧ w.grownBy w' none := by
  obtain ⟨Da, ha, ha2⟩ := ha
  obtain ⟨Db, hb, hb2⟩ := hb
  have hsa := size_F ha ha2 hf
  have hsb := size_F hb hb2 hf
  have HO := As.mk (And.intro ha2 (And.intro hsa (And.intro hsb (MapF.lt ⟨Da, ha, ha2⟩))))
  have HB := As.mk (show MapF elVal w bb 16 f from ⟨Db, hb, hb2⟩)
  have HBo := As.mk hb
  clear ha2 hb2 hsa hsb hb
  have ha : w.ownsMap Try.prog 3 (plainElem Try.prog 3) ba 16 Da := ha
  go_enter Try.func14, Try.ntmps14
  go_wp2_with (first
    | (at_range; refine wpList_range_own _ rfl _ 32 rfl 3 3 keyInt Try.underlying32 (plainElem Try.prog 3) ba 16 _ rfl ha ?_; intro w0 hrg0 hg0 hs0)
    | go_in)
  go_frame
  have HR0 := As.mk (And.intro hrg0 hg0)
  clear hrg0 hg0
  go_loopw [5] (fun _ wr => ∃ (left : Lit → Bool) (cnt : Nat), wr.ranges Try.prog 3 (plainElem Try.prog 3) ba w.heap.size 16 Da left cnt ∧ As (w.grownBy wr none))
    (fun _ wr => wr.rangeLeft ba w.heap.size)
  case atStart => exact ⟨_, _, HR0.out.1, ⟨HR0.out.2⟩⟩
  case round =>
    obtain ⟨left, cnt, hrg, HG⟩ := hrel
    go_wp2_with (first
      | (at_next; refine wpList_next_ranges_ii _ rfl _ rfl 3 3 .i64 .i64 keyInt Try.underlying3 Try.underlying3 ba w.heap.size 16 _ _ _ rfl hrg ?_ ?_)
      | go_in)
    · intro hc0 hl0
      have howa := hrg.owns
      have howb := HBo.out.kept HG.out (by simp)
      go_wp2_with (first
        | (at_len; refine wpList_len_own _ rfl _ 32 rfl 3 3 Try.underlying32 _ ba 16 Da rfl howa ?_)
        | (at_len; refine wpList_len_own _ rfl _ 32 rfl 3 3 Try.underlying32 _ bb 16 Db rfl howb ?_)
        | go_in)
      go_ret
      refine ⟨?_, HG.out⟩
      rw [HO.out.2.1, HO.out.2.2.1]
      simp
    · intro x c w1 cnt1 hwx hwc hlx hat hrg1 hlt hg1 hs1 hen
      have hx64 : K64 x := by simp [Lit.wf, IntKind.min, IntKind.max, IntKind.signed, IntKind.bits] at hwx; exact hwx
      have hfx : f x = some c := by
        have h1 := (HO.out.1 x hx64).1 (.lit (.bool false))
        rw [hat] at h1
        cases hq : f x with
        | none => rw [hq] at h1; cases h1
        | some u =>
          rw [hq] at h1
          have h1 : (DataW.lit (.int .i64 c) : DataW Unit) = .lit (.int .i64 u) := h1
          injection h1 with h1
          injection h1 with _ h1
          rw [h1]
      have HX := As.mk (And.intro hfx hx64)
      have HG1 := As.mk (show w.grownBy w1 none from HG.out.andThen hg1 (fun j hj => .inl (by injection hj with hj; omega)))
      clear hfx hx64 hat hwx hwc
      have HB1 := As.mk (HB.out.kept HG1.out (by simp))
      go_wp2_with (first
        | (at_lookup; refine val_some _ rfl _ _ rfl bb 16 f rfl HB1.out x rfl HX.out.2 c HX.out.1 ?_)
        | go_in)
      go_roundw
      case rel => exact ⟨_, cnt1, hrg1, ⟨HG1.out⟩⟩
      case measure => rw [hrg1.left_eq, hrg.left_eq]; exact hlt
end Go.Proofs.Ytggkejkleficoaa
