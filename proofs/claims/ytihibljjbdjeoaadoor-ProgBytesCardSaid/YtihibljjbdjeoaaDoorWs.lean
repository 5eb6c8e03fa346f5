/- The walk of strings.Builder's WriteString, the Builder at the head of any own block. -/
import Derived.Test.YtihibljjbdjeoaaDoorWr
import Derived.Lib.AppendStr
namespace Go.Proofs.YtihibljjbdjeoaaDoor
open Go.RowKit
set_option linter.unusedVariables false

/-- Where the new slice lies when a string's bytes are appended. -/
theorem append_str_lies {P : Program} (w : World) (base : Nat) (t u ty e : TypeId) (i : TypeInfo) (ht : P.underlying t = some (.slice e)) (hu : P.underlying u = some .string) (hi : P.info? e = some i) (hz : i.zero = some (.int .u8 0))
    (hsize : i.size = 1) (hby : i.bytes = 1) (v : Value) (n : Nat) (xs : List Value) (hown : w.ownsRow base e 1 v n xs) (s : ByteArray)
    (h63 : n + s.size ≤ maxLen) (hbytes : n + s.size ≤ 140737488355328) (hbase : base ≤ w.heap.size) :
    ∃ v' w', (Builtin.append_ #[t, u] ty #[v, .string s]).run P w = .ok v' w' ∧ w'.ownsRow base e 1 v' (n + s.size) (xs ++ Lib.strCells s) ∧ w.grownBy w' v.ownBlock ∧ (v'.ownBlock = v.ownBlock ∨ v'.ownBlock = some w.heap.size) := by
  obtain ⟨v', w', hr, h2, h3, h4⟩ := Lib.run_append_own_string (P := P) w base t u ty e i ht hu hi hz hsize hby v n xs hown s h63 hbytes hbase
  refine ⟨v', w', hr, h2, h3, ?_⟩
  have hsmall : n + s.size ≤ 9223372036854775807 := by simp only [maxLen] at h63; omega
  have hxl : xs.length = n := by simpa using hown.1
  rcases hown.2 with ⟨rfl, rfl⟩ | ⟨g, cap, cur, rfl, hbg, hg, hnc, hcm, hcs, htake⟩
  · by_cases hm : s.size = 0
    · exact .inl (by rw [h4.2 ⟨rfl, hm⟩])
    · have hr' := run_append_nil_string (P := P) w t u ty e i (.int .u8 0) ht hu hi hz s (by omega) (by omega) (by rw [hby]; omega)
      rw [hr] at hr'
      injection hr' with e1 e2
      exact .inr (by rw [e1]; rfl)
  · by_cases hroom : n + s.size ≤ cap
    · have hcs' : cur.size = cap := by simpa using hcs
      have hr' := Lib.run_append_room_string (P := P) w t u ty e i ht hu hi hsize g n cap cur hg s hroom (by omega)
      rw [hr] at hr'
      injection hr' with e1 e2
      exact .inl (by rw [e1]; rfl)
    · have holds : ∀ j u, xs[j]? = some u → w.cell? ((⟨g, 0, none⟩ : Addr).add j) = some u := hown.cells (g := g) rfl
      have hr' := Lib.run_append_grow_string (P := P) w t u ty e i (.int .u8 0) ht hu hi hz ⟨g, 0, none⟩ n cap xs (by rw [hsize]; simpa using hxl) holds s (by omega) (by omega) (by rw [hby]; exact growslice_fits (by omega) (by omega))
      rw [hr] at hr'
      injection hr' with e1 e2
      exact .inr (by rw [e1]; rfl)
theorem wpList_append_str {P : Program} (w : World) {ops : Array Oper} {rest : List Oper} {o : Oper} {a : Act} {Q : Exit → Act → World → Prop} (hgd : o.guard = none) (sl x : Operand) (t u : TypeId)
    (ho : o.op = .call { callee := .builtin .append, args := #[sl, x], argTypes := #[t, u] })
    (base : Nat) (e : TypeId) (i : TypeInfo) (ht : P.underlying t = some (.slice e)) (hu : P.underlying u = some .string) (hi : P.info? e = some i) (hz : i.zero = some (.int .u8 0))
    (hsize : i.size = 1) (hby : i.bytes = 1)
    (v : Value) (n : Nat) (xs : List Value) (hs : a.eval sl = v) (hown : w.ownsRow base e 1 v n xs) (s : ByteArray) (hx : a.eval x = .string s)
    (h63 : n + s.size ≤ maxLen) (hbytes : n + s.size ≤ 140737488355328) (hbase : base ≤ w.heap.size)
    (h : ∀ v' w', w'.ownsRow base e 1 v' (n + s.size) (xs ++ Lib.strCells s) → w.grownBy w' v.ownBlock → (v'.ownBlock = v.ownBlock ∨ v'.ownBlock = some w.heap.size) → wpList P ops Q rest (a.put o.dst v') w') : wpList P ops Q (o :: rest) a w := by
  refine wpList_plain hgd fun K hK => ?_
  obtain ⟨v', w', hr, h2, h3, h4⟩ := append_str_lies (P := P) w base t u o.type e i ht hu hi hz hsize hby v n xs hown s h63 hbytes hbase
  unfold Oper.wp execOp
  simp only [ho, resolve, invoke, builtin, Sem.run_bind, Sem.run_pure, Result.andThen_ok, List.map_toArray, List.map_cons, List.map_nil, hs, hx, hr]
  exact hK _ _ (h v' w' h2 h3 h4)
theorem strCells_vals (s : ByteArray) : Lib.strCells s = byteVals s.data.toList := rfl
set_option maxRecDepth 100000 in
set_option maxHeartbeats 1000000 in
theorem ws_c {w : World} {B b : Nat} {T : TypeId} {ex : List Value} {v : Value} {l : List UInt8} (H : Heads T ex.length) (h : WrAt w B b T ex v l) (s : ByteArray) (hl : l.length + s.size < 100000000000) :
    Calls Tryd.prog 42 #[.pointer (some ⟨b, 0, none⟩), .string s] w fun e w' => e = .returned (.tuple #[.int .i64 s.size, .nilIface]) ∧ ∃ v', WrAt w' B b T ex v' (l ++ s.data.toList) ∧ WrG w w' b v v' := by
  obtain ⟨hlow, hbase, ⟨p, hp, hb⟩, hr⟩ := h
  obtain ⟨i0, hi, hz0, hz1, hz2⟩ : ∃ i, Tryd.prog.info? 5 = some i ∧ i.zero = some (.int .u8 0) ∧ i.size = 1 ∧ i.bytes = 1 := by
    obtain ⟨i, h1, h2⟩ := Option.map_eq_some_iff.1 infoU8
    simp only [Prod.mk.injEq] at h2
    exact ⟨i, h1, h2.1, h2.2.1, h2.2.2⟩
  have hnb : some b ≠ v.ownBlock := own_ne hb hr H.ne
  obtain ⟨A, cp, rfl⟩ := own_shape hr
  have M : As (w.ownsRow B 5 1 (.slice A l.length cp) l.length (byteVals l)) := ⟨hr⟩
  have Mb : As (Blk w b T (p :: Value.slice A l.length cp :: ex).toArray) := ⟨hb⟩
  clear hb hr
  go_enter Tryd.func42, Tryd.ntmps42
  go_wp2_with (go_at_call 64; refine (cc_c H hp Mb.out).mono ?_)
  rintro e w1 ⟨rfl, hb1, g1⟩
  have hr1 := own_grown M.out g1 (.inr (Ne.symm hnb))
  have c0 : w1.cell? ⟨b, 0, none⟩ = some (.pointer (some ⟨b, 0, none⟩)) := hb1.cell 0
  have c1 : w1.cell? ⟨b, 1, none⟩ = some (.slice A l.length cp) := hb1.cell 1
  have hs1 := g1.size
  have N : As (w1.ownsRow B 5 1 (.slice A l.length cp) l.length (byteVals l) ∧ Blk w1 b T (.pointer (some ⟨b, 0, none⟩) :: Value.slice A l.length cp :: ex).toArray ∧ w.grownBy w1 (some b)) := ⟨hr1, hb1, g1⟩
  clear hr1 hb1 g1
  go_wp2_with (at_builtin; refine wpList_append_str _ rfl _ _ 71 9 rfl B 5 i0 Tryd.underlying71 Tryd.underlying9 hi hz0 hz1 hz2 _ _ _ rfl N.out.1 s rfl ?c3 ?c4 ?c5 ?_)
  case c3 => unfold maxLen; omega
  case c4 => omega
  case c5 => omega
  intro v' w2 hown' hgrow hat
  obtain ⟨hr1, hb1, g1⟩ := N.out
  have hlt1 := hb1.lt
  have hb2 := hb1.grown hgrow hnb
  have hnb' : some b ≠ v'.ownBlock := own_ne hb2 hown' H.ne
  obtain ⟨A', c', rfl⟩ := own_shape hown'
  have d0 : w2.cell? ⟨b, 0, none⟩ = some (.pointer (some ⟨b, 0, none⟩)) := hb2.cell 0
  have d1 : w2.cell? ⟨b, 1, none⟩ = some (.slice A l.length cp) := hb2.cell 1
  have f1 := hb2.free 1
  have hsl : s.size = s.data.toList.length := by rw [Array.length_toList]; rfl
  have K : As (WrAt (w2.setCell ⟨b, 1, none⟩ (.slice A' (l.length + s.size) c')) B b T ex (.slice A' (l.length + s.size) c') (l ++ s.data.toList) ∧ WrG w (w2.setCell ⟨b, 1, none⟩ (.slice A' (l.length + s.size) c')) b (.slice A l.length cp) (.slice A' (l.length + s.size) c')) := by
    have hsz := hgrow.size
    refine ⟨⟨hlow, by simp [World.setCell]; omega, ⟨_, .inr rfl, by simpa using hb2.set 1 (.slice A' (l.length + s.size) c')⟩, ?_⟩, ⟨?_, ?_, ?_, ?_, ?_⟩⟩
    · have := own_far hown' (a := ⟨b, 1, none⟩) hnb' (.slice A' (l.length + s.size) c')
      rw [strCells_vals] at this
      rw [show (l ++ s.data.toList).length = l.length + s.size by rw [List.length_append, ← hsl], show byteVals (l ++ s.data.toList) = byteVals l ++ byteVals s.data.toList by simp [byteVals]]
      exact this
    · exact hgrow.os.trans g1.os
    · exact hgrow.tape.trans g1.tape
    · exact hgrow.output.trans g1.output
    · simp [World.setCell]; omega
    · intro k hk hkb hkv
      refine ⟨?_, ?_⟩
      · rw [heap_setCell_other _ _ _ _ (by simpa using hkb), hgrow.block k (by omega) (Ne.symm hkv)]
        exact g1.block k hk (by simpa using hkb)
      · rcases hat with hat | hat
        · rw [hat]; exact hkv
        · rw [hat]; simp; omega
  clear hb2 hown' hgrow hat hsl
  go_wp2
  go_ret2
  exact ⟨rfl, _, K.out⟩
end Go.Proofs.YtihibljjbdjeoaaDoor
