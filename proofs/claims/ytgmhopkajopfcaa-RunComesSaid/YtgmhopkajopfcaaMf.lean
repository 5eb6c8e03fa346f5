/- Maps keyed by int, said as functions. -/
import Derived.Test.YtgmhopkajopfcaaBase
import Derived.Maps.Own
import Derived.Maps.OwnSet
import Derived.Maps.OwnOps
import Derived.Maps.Ext
namespace Go.Proofs.Ytgmhopkajopfcaa
open Go.RowKit Go.Maps
set_option linter.unusedVariables false

theorem keyInt : Keyed Try.prog 3 := int_keyed Try.underlying3
def K64 (c : Int) : Prop := -9223372036854775808 ≤ c ∧ c ≤ 9223372036854775807
theorem wfK {c : Int} (h : K64 c) : (Lit.int .i64 c).wf = true := by
  obtain ⟨h1, h2⟩ := h
  simp [Lit.wf, IntKind.min, IntKind.max, IntKind.signed, IntKind.bits]
  omega
theorem keyK {c : Int} (h : K64 c) : keyOf Try.prog 3 (.int .i64 c) = some (.int .i64 c) := keyOf_int_mk Try.underlying3 (wfK h)
/-- The elements of a map: how they read. -/
structure El (α : Type) where
  t : TypeId
  e : TypeId
  R : Value → Option (DataW Unit × List MemPlace)
  E : α → DataW Unit
  V : α → Value
  W : α → Prop
  z : Value
  zd : DataW Unit
  okz : R z = some (zd, [])
  ok : ∀ a, W a → R (V a) = some (E a, [])
  inv : ∀ v a ps, R v = some (E a, ps) → v = V a
  invz : ∀ v ps, R v = some (zd, ps) → v = z
  ut : Try.prog.underlying t = some (.map 3 e)
  uz : ∀ w, (zeroValue e).run Try.prog w = .ok z w
/-- What a map's reading says, as a function. -/
def HoldsF {α : Type} (L : El α) (D : DataW Unit) (f : Int → Option α) : Prop := ∀ c, K64 c → (∀ z, D.atKey (.int .i64 c) z = match f c with | some a => L.E a | none => z) ∧ has D (.int .i64 c) = (f c).isSome
/-- Block b is a map of at most n entries that holds what f says. -/
def MapF {α : Type} (L : El α) (w : World) (b n : Nat) (f : Int → Option α) : Prop :=
  ∃ D, w.ownsMap Try.prog 3 L.R b n D ∧ HoldsF L D f
def updF {α : Type} (f : Int → Option α) (c : Int) (a : α) : Int → Option α := fun x => if x = c then some a else f x
theorem MapF.lt {α : Type} {L : El α} {w : World} {b n : Nat} {f : Int → Option α} (h : MapF L w b n f) : b < w.heap.size := let ⟨_, h1, _⟩ := h; h1.lt
theorem MapF.kept {α : Type} {L : El α} {w w' : World} {b n : Nat} {f : Int → Option α} (h : MapF L w b n f) {row : Option Nat} (hg : w.grownBy w' row) (hne : some b ≠ row) : MapF L w' b n f := let ⟨D, h1, h2⟩ := h; ⟨D, h1.kept hg hne, h2⟩
theorem MapF.alloc {α : Type} {L : El α} {w : World} {b n : Nat} {f : Int → Option α} (h : MapF L w b n f) (o : Obj) : MapF L (w.alloc o) b n f := let ⟨D, h1, h2⟩ := h; ⟨D, h1.alloc o, h2⟩
theorem MapF.set {α : Type} {L : El α} {w : World} {b n : Nat} {f : Int → Option α} (h : MapF L w b n f) {a : Addr} (ha : b ≠ a.block) (u : Value) : MapF L (w.setCell a u) b n f := let ⟨D, h1, h2⟩ := h; ⟨D, h1.setCell ha u, h2⟩
theorem MapF.drew {α : Type} {L : El α} {w : World} {b n : Nat} {f : Int → Option α} (h : MapF L w b n f) : MapF L w.drew b n f := let ⟨D, h1, h2⟩ := h; ⟨D, h1.drew, h2⟩
theorem MapF.mono {α : Type} {L : El α} {w : World} {b n n' : Nat} {f : Int → Option α} (h : MapF L w b n f) (hn : n ≤ n') : MapF L w b n' f := let ⟨D, h1, h2⟩ := h; ⟨D, h1.mono hn, h2⟩
theorem MapF.congr {α : Type} {L : El α} {w : World} {b n : Nat} {f g : Int → Option α} (h : MapF L w b n f) (hg : ∀ c, K64 c → f c = g c) : MapF L w b n g := let ⟨D, h1, h2⟩ := h; ⟨D, h1, fun c hc => by rw [← hg c hc]; exact h2 c hc⟩
theorem MapF.new {α : Type} (L : El α) (w : World) : MapF L (w.alloc (.map #[] 0)) w.heap.size 0 (fun _ => none) :=
  ⟨.map [], World.ownsMap_made w _ _ _, fun c _ => ⟨fun z => rfl, rfl⟩⟩
theorem MapF.ne {α : Type} {L : El α} {w : World} {b n : Nat} {f : Int → Option α} (h : MapF L w b n f) {k : Nat} {t : TypeId} {cs : Array Value} (hk : Blk w k t cs) : b ≠ k := by
  rintro rfl
  obtain ⟨D, ⟨es, cl, hb, _⟩, _⟩ := h
  unfold Blk at hk
  rw [hb] at hk
  cases hk
theorem MapF.ne_own {α : Type} {L : El α} {w : World} {b n : Nat} {f : Int → Option α} (h : MapF L w b n f) {base : Nat} {e : TypeId} {size q : Nat} {v : Value} {xs : List Value} (hr : w.ownsRow base e size v q xs) : some b ≠ v.ownBlock := by
  obtain ⟨D, ⟨es, cl, hb, _⟩, _⟩ := h
  rcases hr.2 with ⟨rfl, _⟩ | ⟨g, cap, cur, rfl, _, hg, _⟩
  · simp [Value.ownBlock]
  · simp only [Value.ownBlock, ne_eq, Option.some.injEq]
    rintro rfl
    rw [hb] at hg
    cases hg
theorem put_F {α : Type} {L : El α} {w w' : World} {b n m : Nat} {f : Int → Option α} {D : DataW Unit} {c : Int} {a : α} (h0 : w.ownsMap Try.prog 3 L.R b n D) (h : w'.ownsMap Try.prog 3 L.R b m (D.put (.int .i64 c) (L.E a)))
    (h2 : HoldsF L D f) : MapF L w' b m (updF f c a) := by
  refine ⟨_, h, fun x hx => ?_⟩
  unfold updF
  by_cases e : x = c
  · subst e
    rw [if_pos rfl]
    exact ⟨fun z => atKey_put_same h0.isMap (show WideAt.IsKeyLit (.int .i64 x) from trivial) _ _, has_put_same h0.isMap (show WideAt.IsKeyLit (.int .i64 x) from trivial) _⟩
  · rw [if_neg e]
    have hne : (Lit.int .i64 x) ≠ .int .i64 c := by intro q; injection q with _ q; exact e q
    obtain ⟨h3, h4⟩ := h2 x hx
    exact ⟨fun z => by rw [atKey_put_other hne]; exact h3 z, by rw [has_put_other hne]; exact h4⟩
/-- A store at the operation. -/
theorem wpList_put_F {α : Type} (L : El α) (w : World) {ops : Array Oper} {rest : List Oper} {o : Oper} {a : Act} {Q : Exit → Act → World → Prop} (hg : o.guard = none) (m x v : Operand) (hop : o.op = Op.mapUpdate L.t m x v)
    (b n : Nat) (f : Int → Option α) (hm : a.eval m = .map (some b)) (hown : MapF L w b n f) (hn : n < 1000000) (c : Int) (u : α) (hx : a.eval x = .int .i64 c) (hv : a.eval v = L.V u) (hc : K64 c) (hu : L.W u)
    (hK : ∀ w', MapF L w' b (n + 1) (updF f c u) → w.grownBy w' (some b) → wpList Try.prog ops Q rest (a.put o.dst undef) w') : wpList Try.prog ops Q (o :: rest) a w := by
  obtain ⟨D, h1, h2⟩ := hown
  exact wpList_mapUpdate_own w hg m x v L.t hop 3 L.e keyInt L.ut L.R b n D hm h1 (by unfold maxLen; omega) _ _ _ hx hv (keyK hc) (L.E u) [] (L.ok u hu) (fun w' h3 h4 => hK w' (put_F h1 h3 h2) h4)
/-- Look-ups at the operation. -/
theorem wpList_look_F {α : Type} (L : El α) (w : World) {ops : Array Oper} {rest : List Oper} {o : Oper} {a : Act} {Q : Exit → Act → World → Prop} (hg : o.guard = none) (m x : Operand) (hop : o.op = Op.lookup L.t m x true)
    (b n : Nat) (f : Int → Option α) (hm : a.eval m = .map (some b)) (hown : MapF L w b n f) (c : Int) (hx : a.eval x = .int .i64 c) (hc : K64 c) (r : Option α) (hr : f c = r)
    (hK : wpList Try.prog ops Q rest (a.put o.dst (.tuple #[match r with | some u => L.V u | none => L.z, .bool r.isSome])) w) : wpList Try.prog ops Q (o :: rest) a w := by
  obtain ⟨D, h1, h2⟩ := hown
  obtain ⟨h3, h4⟩ := h2 c hc
  rw [hr] at h3 h4
  refine wpList_lookup_own_ok w hg m x L.t hop 3 L.e keyInt L.ut L.R (L.uz w) L.zd [] L.okz b n D hm h1 _ _ hx (keyK hc) (fun v ps hv => ?_)
  rw [h3] at hv
  rw [h4]
  cases r with
  | none => rw [L.invz v ps hv]; exact hK
  | some u => rw [L.inv v u ps hv]; exact hK
theorem wpList_look1_F {α : Type} (L : El α) (w : World) {ops : Array Oper} {rest : List Oper} {o : Oper} {a : Act} {Q : Exit → Act → World → Prop} (hg : o.guard = none) (m x : Operand) (hop : o.op = Op.lookup L.t m x false)
    (b n : Nat) (f : Int → Option α) (hm : a.eval m = .map (some b)) (hown : MapF L w b n f) (c : Int) (hx : a.eval x = .int .i64 c) (hc : K64 c) (r : Option α) (hr : f c = r)
    (hK : wpList Try.prog ops Q rest (a.put o.dst (match r with | some u => L.V u | none => L.z)) w) : wpList Try.prog ops Q (o :: rest) a w := by
  obtain ⟨D, h1, h2⟩ := hown
  obtain ⟨h3, h4⟩ := h2 c hc
  rw [hr] at h3
  refine wpList_plain hg fun K' hK' => ?_
  obtain ⟨v, ps, hrun, hv⟩ := h1.lookup keyInt L.ut (L.uz w) L.okz (keyK hc)
  unfold Oper.wp
  simp [execOp, hop, hm, hx, hrun, Result.andThen]
  refine hK' _ _ ?_
  rw [h3] at hv
  cases r with
  | none => rw [L.invz v ps hv]; exact hK
  | some u => rw [L.inv v u ps hv]; exact hK
set_option maxRecDepth 10000 in
/-- What a look-up comes to, for walks that take it as an equation. -/
theorem MapF.run1 {α : Type} {L : El α} {w : World} {b n : Nat} {f : Int → Option α} (h : MapF L w b n f) {c : Int} (hc : K64 c) {r : Option α} (hr : f c = r) :
    (Instr.lookup L.t (.map (some b)) (.int .i64 c) false).run Try.prog w = .ok (match r with | some u => L.V u | none => L.z) w := by
  obtain ⟨D, h1, h2⟩ := h
  obtain ⟨h3, h4⟩ := h2 c hc
  rw [hr] at h3
  obtain ⟨v, ps, hrun, hv⟩ := h1.lookup keyInt L.ut (L.uz w) L.okz (keyK hc)
  rw [h3] at hv
  rw [hrun]
  cases r with
  | none => rw [L.invz v ps hv]
  | some u => rw [L.inv v u ps hv]
set_option maxRecDepth 10000 in
theorem MapF.run2 {α : Type} {L : El α} {w : World} {b n : Nat} {f : Int → Option α} (h : MapF L w b n f) {c : Int} (hc : K64 c) {r : Option α} (hr : f c = r) :
    (Instr.lookup L.t (.map (some b)) (.int .i64 c) true).run Try.prog w = .ok (.tuple #[match r with | some u => L.V u | none => L.z, .bool r.isSome]) w := by
  obtain ⟨D, h1, h2⟩ := h
  obtain ⟨h3, h4⟩ := h2 c hc
  rw [hr] at h3 h4
  obtain ⟨v, ps, hrun, hv⟩ := h1.look_ok keyInt L.ut (L.uz w) L.okz (keyK hc)
  rw [h3] at hv
  rw [hrun, h4]
  cases r with
  | none => rw [L.invz v ps hv]
  | some u => rw [L.inv v u ps hv]
/-- Elements that are ints. -/
theorem plain_inv {v : Value} {a : Int} {ps : List MemPlace} (h : plainElem (H := Unit) Try.prog 3 v = some (.lit (.int .i64 a), ps)) : v = .int .i64 a := by
  obtain ⟨c, rfl, hc, _⟩ := plainElem_int_inv Try.underlying3 h
  have h1 : (DataW.lit (.int .i64 a) : DataW Unit) = .lit (.int .i64 c) := congrArg Prod.fst hc
  have h2 : a = c := by
    cases h1
    rfl
  rw [h2]
end Go.Proofs.Ytgmhopkajopfcaa
