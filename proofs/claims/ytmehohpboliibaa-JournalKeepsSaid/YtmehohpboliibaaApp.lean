/- A law for the walk: texts appended to texts of the call's own. -/
import Derived.Test.YtmehohpboliibaaAll
import Derived.Maps.AppendAt
import Derived.Laws.AppendOwnNone
import Derived.OwnWalk
namespace Go.Proofs.Ytmehohpboliibaa
open Go.RowKit
set_option linter.unusedVariables false

theorem run_app_none {P : Program} (w : World) (base : Nat) (t ty e : TypeId) (i : TypeInfo) (size : Nat) (ht : P.underlying t = some (.slice e)) (hi : P.info? e = some i)
    (v : Value) (n : Nat) (xs : List Value) (hown : w.ownsRow base e size v n xs) (c : Nat) :
    (Builtin.append_ #[t, t] ty #[v, .slice none 0 c]).run P w = .ok v w := by
  rcases hown.2 with ⟨rfl, rfl⟩ | ⟨g, cap, cur, rfl, _, _, hnc, _⟩
  · simp [Builtin.append_, run_underlying ht, sizeOf, typeInfo, hi, Builtin.lenOf, Builtin.firstCells]
  · simp [Builtin.append_, run_underlying ht, sizeOf, typeInfo, hi, Builtin.lenOf, Builtin.firstCells, hnc, storeCells]
set_option maxRecDepth 100000 in
theorem run_app_strs (w : World) (base : Nat) (ty : TypeId) (v : Value) (xs : List ByteArray) (hown : w.ownsRow base 9 1 v xs.length (strVals xs)) (y : Value) (ys : List ByteArray) (hy : Strs w y ys) (hb : xs.length + ys.length ≤ 100000) (hbase : base ≤ w.heap.size) :
    ∃ v' w', (Builtin.append_ #[22, 22] ty #[v, y]).run Try.prog w = .ok v' w' ∧ w'.ownsRow base 9 1 v' (xs ++ ys).length (strVals (xs ++ ys)) ∧ w.grownBy w' v.ownBlock ∧ (v'.ownBlock = v.ownBlock ∨ v'.ownBlock = some w.heap.size) := by
  obtain ⟨i0, hi, hz0, hz1, hz2⟩ := info_split infoStr
  have main : ∀ (a : Addr) (c : Nat), y = .slice (some a) ys.length c → (∀ j u, (strVals ys)[j]? = some u → w.cell? (a.add j) = some u) →
      ∃ v' w', (Builtin.append_ #[22, 22] ty #[v, y]).run Try.prog w = .ok v' w' ∧ w'.ownsRow base 9 1 v' (xs ++ ys).length (strVals (xs ++ ys)) ∧ w.grownBy w' v.ownBlock ∧ (v'.ownBlock = v.ownBlock ∨ v'.ownBlock = some w.heap.size) := by
    intro a c e hc
    subst e
    obtain ⟨v', w', h1, h2, h3, _, h5⟩ := run_append_own_at (P := Try.prog) w base 22 ty 9 i0 _ 1 16 Try.underlying22 hi hz0 hz1 hz2 rfl (by omega) v xs.length (strVals xs) hown a ys.length c (strVals ys) (by unfold strVals; rw [List.length_map, Nat.mul_one]) hc (by
      intro u hu
      unfold strVals at hu
      obtain ⟨s, _, rfl⟩ := List.mem_map.1 hu
      rfl) (by simp only [maxLen]; omega) (by omega) hbase
    refine ⟨v', w', h1, ?_, h3, h5⟩
    unfold strVals at h2 ⊢
    rw [List.length_append, List.map_append]
    exact h2
  rcases hy with ⟨rfl, a, c, rfl⟩ | ⟨bk, o, c, rfl, _, _, hcell⟩
  · cases a with
    | some a => exact main a c rfl (fun j u hu => by unfold strVals at hu; simp at hu)
    | none =>
      have hr := run_app_none (P := Try.prog) w base 22 ty 9 i0 1 Try.underlying22 hi v xs.length (strVals xs) hown c
      exact ⟨v, w, hr, by rw [List.append_nil]; exact hown, gr_refl _ _, .inl rfl⟩
  · refine main ⟨bk, o, none⟩ c rfl (fun j u hu => ?_)
    unfold strVals at hu
    rw [List.getElem?_map] at hu
    cases hx : ys[j]? with
    | none => rw [hx] at hu; cases hu
    | some x =>
      rw [hx] at hu
      injection hu with hu
      subst hu
      rw [Go.WideShapes.add_plain]
      exact hcell j x hx
theorem wpl_app (w : World) {ops : Array Oper} {rest : List Oper} {o : Oper} {a : Act} {Q : Exit → Act → World → Prop} (hgd : o.guard = none) (s x : Operand)
    (ho : o.op = .call { callee := .builtin .append, args := #[s, x], argTypes := #[22, 22] }) (base : Nat)
    (v : Value) (xs : List ByteArray) (hs : a.eval s = v) (hown : w.ownsRow base 9 1 v xs.length (strVals xs)) (y : Value) (ys : List ByteArray) (hx : a.eval x = y) (hy : Strs w y ys) (hb : xs.length + ys.length ≤ 100000) (hbase : base ≤ w.heap.size)
    (h : ∀ v' w', w'.ownsRow base 9 1 v' (xs ++ ys).length (strVals (xs ++ ys)) → w.grownBy w' v.ownBlock → (v'.ownBlock = v.ownBlock ∨ v'.ownBlock = some w.heap.size) → wpList Try.prog ops Q rest (a.put o.dst v') w') :
    wpList Try.prog ops Q (o :: rest) a w := by
  refine wpList_plain hgd fun K hK => ?_
  obtain ⟨v', w', hr, h2, h3, h5⟩ := run_app_strs w base o.type v xs hown y ys hy hb hbase
  unfold Oper.wp execOp
  simp only [ho, resolve, invoke, builtin, Sem.run_bind, Sem.run_pure, Result.andThen_ok, List.map_toArray, List.map_cons, List.map_nil, hs, hx, hr]
  exact hK _ _ (h v' w' h2 h3 h5)
/-- The same of a step that stands behind '&&' or '||', and is wanted. -/
theorem wpl_appg (w : World) {ops : Array Oper} {rest : List Oper} {o : Oper} {a : Act} {Q : Exit → Act → World → Prop} (hw : Region.wanted o (yielded ops a.tmps) = true) (s x : Operand)
    (ho : o.op = .call { callee := .builtin .append, args := #[s, x], argTypes := #[22, 22] }) (base : Nat)
    (v : Value) (xs : List ByteArray) (hs : a.eval s = v) (hown : w.ownsRow base 9 1 v xs.length (strVals xs)) (y : Value) (ys : List ByteArray) (hx : a.eval x = y) (hy : Strs w y ys) (hb : xs.length + ys.length ≤ 100000) (hbase : base ≤ w.heap.size)
    (h : ∀ v' w', w'.ownsRow base 9 1 v' (xs ++ ys).length (strVals (xs ++ ys)) → w.grownBy w' v.ownBlock → (v'.ownBlock = v.ownBlock ∨ v'.ownBlock = some w.heap.size) → wpList Try.prog ops Q rest (a.put o.dst v') w') :
    wpList Try.prog ops Q (o :: rest) a w := by
  obtain ⟨v', w', hr, h2, h3, h5⟩ := run_app_strs w base o.type v xs hown y ys hy hb hbase
  unfold wpList
  rw [if_pos hw]
  refine .inl ?_
  unfold Oper.wp execOp
  simp only [ho, resolve, invoke, builtin, Sem.run_bind, Sem.run_pure, Result.andThen_ok, List.map_toArray, List.map_cons, List.map_nil, hs, hx, hr]
  exact h v' w' h2 h3 h5
end Go.Proofs.Ytmehohpboliibaa
