/- Maps keyed by structs (names of transactions), said as functions. -/
import Derived.Test.YtpamncakhffnfaaGreatBase
import Derived.Maps.Own
import Derived.Maps.OwnSet
import Derived.Maps.OwnOps
import Derived.Maps.Ext
import Derived.DeepKeys4
namespace Go.Proofs.YtpamncakhffnfaaGreat
open Go.RowKit Go.Maps
set_option linter.unusedVariables false

/-- A kind of keys. -/
structure Ky (κ : Type) where
  t : TypeId
  V : κ → Value
  L : κ → Lit
  W : κ → Prop
  law : Keyed Tryz.prog t
  ok : ∀ a, W a → keyOf Tryz.prog t (V a) = some (L a)
  inj : ∀ a b, V a = V b → a = b
theorem Ky.ne {κ : Type} (K : Ky κ) {a b : κ} (ha : K.W a) (hb : K.W b) (h : a ≠ b) : K.L a ≠ K.L b := fun e => h (K.inj a b (K.law.inj (K.ok a ha) (by rw [e]; exact K.ok b hb)))
theorem Ky.lit {κ : Type} (K : Ky κ) {a : κ} (ha : K.W a) : WideAt.IsKeyLit (K.L a) := K.law.key (K.ok a ha)
/-- The elements of a map: how they read. -/
structure Elk {κ : Type} (K : Ky κ) (α : Type) where
  t : TypeId
  e : TypeId
  R : Value → Option (DataW Unit × List MemPlace)
  E : α → DataW Unit
  V : α → Value
  W : α → Prop
  z : Value
  zd : DataW Unit
  okz : R z = some (zd, [])
  ok : ∀ a, W a → R (V a) = some (E a, [])
  inv : ∀ v a ps, R v = some (E a, ps) → v = V a
  invz : ∀ v ps, R v = some (zd, ps) → v = z
  ut : Tryz.prog.underlying t = some (.map K.t e)
  uz : ∀ w, (zeroValue e).run Tryz.prog w = .ok z w
def HoldsK {κ α : Type} {K : Ky κ} (L : Elk K α) (D : DataW Unit) (f : κ → Option α) : Prop := ∀ c, K.W c → (∀ z, D.atKey (K.L c) z = match f c with | some a => L.E a | none => z) ∧ has D (K.L c) = (f c).isSome
/-- Block b is a map of at most n entries that holds what f says. -/
def MapK {κ α : Type} {K : Ky κ} (L : Elk K α) (w : World) (b n : Nat) (f : κ → Option α) : Prop :=
  ∃ D, w.ownsMap Tryz.prog K.t L.R b n D ∧ HoldsK L D f
open Classical in
noncomputable def updK {κ α : Type} (f : κ → Option α) (c : κ) (a : α) : κ → Option α := fun x => if x = c then some a else f x
theorem updK_same {κ α : Type} (f : κ → Option α) (c : κ) (a : α) : updK f c a c = some a := by simp [updK]
theorem updK_other {κ α : Type} (f : κ → Option α) (c : κ) (a : α) {x : κ} (h : x ≠ c) : updK f c a x = f x := by simp [updK, h]
section
variable {κ α : Type} {K : Ky κ} {L : Elk K α} {w w' : World} {b n : Nat} {f : κ → Option α}
theorem MapK.lt (h : MapK L w b n f) : b < w.heap.size := let ⟨_, h1, _⟩ := h; h1.lt
theorem MapK.kept (h : MapK L w b n f) {row : Option Nat} (hg : w.grownBy w' row) (hne : some b ≠ row) : MapK L w' b n f := let ⟨D, h1, h2⟩ := h; ⟨D, h1.kept hg hne, h2⟩
theorem MapK.alloc (h : MapK L w b n f) (o : Obj) : MapK L (w.alloc o) b n f := let ⟨D, h1, h2⟩ := h; ⟨D, h1.alloc o, h2⟩
theorem MapK.set (h : MapK L w b n f) {a : Addr} (ha : b ≠ a.block) (u : Value) : MapK L (w.setCell a u) b n f := let ⟨D, h1, h2⟩ := h; ⟨D, h1.setCell ha u, h2⟩
theorem MapK.drew (h : MapK L w b n f) : MapK L w.drew b n f := let ⟨D, h1, h2⟩ := h; ⟨D, h1.drew, h2⟩
theorem MapK.mono {n' : Nat} (h : MapK L w b n f) (hn : n ≤ n') : MapK L w b n' f := let ⟨D, h1, h2⟩ := h; ⟨D, h1.mono hn, h2⟩
theorem MapK.congr {g : κ → Option α} (h : MapK L w b n f) (hg : ∀ c, K.W c → f c = g c) : MapK L w b n g := let ⟨D, h1, h2⟩ := h; ⟨D, h1, fun c hc => by rw [← hg c hc]; exact h2 c hc⟩
theorem MapK.new (L : Elk K α) (w : World) : MapK L (w.alloc (.map #[] 0)) w.heap.size 0 (fun _ => none) :=
  ⟨.map [], World.ownsMap_made w _ _ _, fun c _ => ⟨fun z => rfl, rfl⟩⟩
theorem MapK.ne (h : MapK L w b n f) {k : Nat} {t : TypeId} {cs : Array Value} (hk : Blk w k t cs) : b ≠ k := by
  rintro rfl
  obtain ⟨D, ⟨es, cl, hb, _⟩, _⟩ := h
  unfold Blk at hk
  rw [hb] at hk
  cases hk
theorem MapK.ne_own (h : MapK L w b n f) {base : Nat} {e : TypeId} {size q : Nat} {v : Value} {xs : List Value} (hr : w.ownsRow base e size v q xs) : some b ≠ v.ownBlock := by
  obtain ⟨D, ⟨es, cl, hb, _⟩, _⟩ := h
  rcases hr.2 with ⟨rfl, _⟩ | ⟨g, cap, cur, rfl, _, hg, _⟩
  · simp [Value.ownBlock]
  · simp only [Value.ownBlock, ne_eq, Option.some.injEq]
    rintro rfl
    rw [hb] at hg
    cases hg
theorem put_K {m : Nat} {D : DataW Unit} {c : κ} {a : α} (h0 : w.ownsMap Tryz.prog K.t L.R b n D) (h : w'.ownsMap Tryz.prog K.t L.R b m (D.put (K.L c) (L.E a)))
    (h2 : HoldsK L D f) (hc : K.W c) : MapK L w' b m (updK f c a) := by
  refine ⟨_, h, fun x hx => ?_⟩
  by_cases e : x = c
  · subst e
    rw [updK_same]
    exact ⟨fun z => atKey_put_same h0.isMap (K.lit hx) _ _, has_put_same h0.isMap (K.lit hx) _⟩
  · rw [updK_other f c a e]
    have hne := K.ne hx hc e
    obtain ⟨h3, h4⟩ := h2 x hx
    exact ⟨fun z => by rw [atKey_put_other hne]; exact h3 z, by rw [has_put_other hne]; exact h4⟩
end
/-- A store at the operation. -/
theorem wpList_put_K {κ α : Type} {K : Ky κ} (L : Elk K α) (w : World) {ops : Array Oper} {rest : List Oper} {o : Oper} {a : Act} {Q : Exit → Act → World → Prop} (hg : o.guard = none) (m x v : Operand) (hop : o.op = Op.mapUpdate L.t m x v)
    (b n : Nat) (f : κ → Option α) (hm : a.eval m = .map (some b)) (hown : MapK L w b n f) (hn : n < 1000000) (c : κ) (u : α) (hx : a.eval x = K.V c) (hv : a.eval v = L.V u) (hc : K.W c) (hu : L.W u)
    (hK : ∀ w', MapK L w' b (n + 1) (updK f c u) → w.grownBy w' (some b) → wpList Tryz.prog ops Q rest (a.put o.dst undef) w') : wpList Tryz.prog ops Q (o :: rest) a w := by
  obtain ⟨D, h1, h2⟩ := hown
  exact wpList_mapUpdate_own w hg m x v L.t hop K.t L.e K.law L.ut L.R b n D hm h1 (by unfold maxLen; omega) _ _ _ hx hv (K.ok c hc) (L.E u) [] (L.ok u hu) (fun w' h3 h4 => hK w' (put_K h1 h3 h2 hc) h4)
set_option maxRecDepth 10000 in
/-- What a look-up comes to, for walks that take it as an equation. -/
theorem MapK.run1 {κ α : Type} {K : Ky κ} {L : Elk K α} {w : World} {b n : Nat} {f : κ → Option α} (h : MapK L w b n f) {c : κ} (hc : K.W c) {r : Option α} (hr : f c = r) :
    (Instr.lookup L.t (.map (some b)) (K.V c) false).run Tryz.prog w = .ok (r.elim L.z L.V) w := by
  obtain ⟨D, h1, h2⟩ := h
  obtain ⟨h3, h4⟩ := h2 c hc
  rw [hr] at h3 h4
  obtain ⟨v, ps, hrun, hv⟩ := h1.lookup K.law L.ut (L.uz w) L.okz (K.ok c hc)
  rw [h3] at hv
  rw [hrun]
  cases r with
  | none => rw [L.invz v ps hv]; rfl
  | some u => rw [L.inv v u ps hv]; rfl
set_option maxRecDepth 10000 in
theorem MapK.run2 {κ α : Type} {K : Ky κ} {L : Elk K α} {w : World} {b n : Nat} {f : κ → Option α} (h : MapK L w b n f) {c : κ} (hc : K.W c) {r : Option α} (hr : f c = r) :
    (Instr.lookup L.t (.map (some b)) (K.V c) true).run Tryz.prog w = .ok (.tuple #[r.elim L.z L.V, .bool r.isSome]) w := by
  obtain ⟨D, h1, h2⟩ := h
  obtain ⟨h3, h4⟩ := h2 c hc
  rw [hr] at h3 h4
  obtain ⟨v, ps, hrun, hv⟩ := h1.look_ok K.law L.ut (L.uz w) L.okz (K.ok c hc)
  rw [h3] at hv
  rw [hrun, h4]
  cases r with
  | none => rw [L.invz v ps hv]; rfl
  | some u => rw [L.inv v u ps hv]; rfl
set_option maxRecDepth 100000 in
theorem bool_inv {v : Value} {a : Bool} {ps : List MemPlace} (h : plainElem (H := Unit) Tryz.prog 4 v = some (.lit (.bool a), ps)) : v = .bool a := by
  unfold plainElem at h
  rw [Tryz.underlying4] at h
  cases v <;> simp at h
  obtain ⟨rfl, _⟩ := h
  rfl
end Go.Proofs.YtpamncakhffnfaaGreat
