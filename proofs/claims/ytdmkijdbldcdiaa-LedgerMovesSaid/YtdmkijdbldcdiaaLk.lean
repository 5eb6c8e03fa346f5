/- copy over rows of elements of any size; append of zeros where there is no room. -/
import Derived.Test.YtdmkijdbldcdiaaLm
namespace Go.Proofs.Ytdmkijdbldcdiaa
open Go.RowKit
set_option linter.unusedVariables false

theorem run_copyN (P : Program) (w : World) (dT sT ty elem : TypeId) (size g o dLen dCap : Nat) (a : Addr) (sLen sCap : Nat) (cur : List Value) (t : TypeId) (cs : List Value)
    (hu : P.underlying dT = some (.slice elem)) (hs : (P.info? elem).map (·.size) = some size)
    (hg : Blk w g t cur.toArray) (hn : cs.length = Nat.min sLen dLen * size)
    (hsrc : ∀ j v, cs[j]? = some v → w.cell? (a.add j) = some v) (hfit : o + cs.length ≤ cur.length) (h1 : ∀ v ∈ cs, v.oneCell' = true) :
    (Builtin.copy_ #[dT, sT] ty #[.slice (some ⟨g, o, none⟩) dLen dCap, .slice (some a) sLen sCap]).run P w = .ok (goInt (Nat.min sLen dLen : Nat)) (w.setRow g (splice cur o cs).toArray) := by
  have hl := run_loadCells_list (P := P) w a cs hsrc
  have hst := run_storeCells_at P g o t cs 0 cur.toArray w hg (by simpa using hfit) h1
  cases hq : P.info? elem with
  | none => simp [hq] at hs
  | some i =>
    have hi : i.size = size := by simpa [hq] using hs
    simp [Builtin.copy_, run_underlying hu, Builtin.lenOf, Builtin.firstCells, sizeOf, typeInfo, hq, hi, ← hn, hl, hst, splice]
theorem Blk.setRow {w : World} {g : Nat} {t : TypeId} {cs : Array Value} (h : Blk w g t cs) (cs' : Array Value) : Blk (w.setRow g cs') g t cs' := setRow_heap w g cs cs' t _ h
theorem Blk.setRow_far {w : World} {g b : Nat} {t : TypeId} {cs : Array Value} (h : Blk w b t cs) (hne : b ≠ g) (cs' : Array Value) : Blk (w.setRow g cs') b t cs := (setRow_other w g b cs' hne).trans h
theorem gr_setRow {w w' : World} {row : Option Nat} (h : w.grownBy w' row) {g : Nat} (hg : row = some g ∨ w.heap.size ≤ g) (cs : Array Value) : w.grownBy (w'.setRow g cs) row :=
  ⟨h.os, h.tape, h.output, by have := h.size; simpa [World.setRow] using this, fun k hk hne => by
    rw [setRow_other w' g k cs (by rcases hg with rfl | hg
                                   · exact fun e => hne (by rw [e])
                                   · omega)]
    exact h.block k hk hne⟩
theorem own_gr0 {w w' : World} {base : Nat} {e : TypeId} {size n : Nat} {v : Value} {xs : List Value} (h : w.ownsRow base e size v n xs) (hg : w.grownBy w' none) : w'.ownsRow base e size v n xs :=
  own_grown h hg (by rcases hv : v.ownBlock with _ | x; exact .inl rfl; exact .inr (by simp))
theorem gr_none_some {w w' : World} (h : w.grownBy w' none) (row : Option Nat) : w.grownBy w' row := ⟨h.os, h.tape, h.output, h.size, fun k hk _ => h.block k hk (by simp)⟩
/-- A row whose block is known whole, from what the call owns of it. -/
theorem own_whole {w : World} {base : Nat} {e : TypeId} {size n g cap : Nat} {xs : List Value} (h : w.ownsRow base e size (.slice (some ⟨g, 0, none⟩) n cap) n xs) : ∃ rest : List Value, Blk w g e (xs ++ rest).toArray ∧ (xs ++ rest).length = cap * size ∧ base ≤ g ∧ n ≤ cap ∧ cap ≤ maxLen := by
  rcases h.2 with ⟨hv, _⟩ | ⟨g', cap', cur, hv, hb, hg, h1, h2, h3, h4⟩
  · cases hv
  · injection hv with hv1 _ hv3
    injection hv1 with hv1
    injection hv1 with hv1
    subst hv1 hv3
    refine ⟨cur.toList.drop (n * size), ?_, ?_, hb, h1, h2⟩
    · rw [← h4, List.take_append_drop]
      simpa [Blk] using hg
    · rw [← h4, List.take_append_drop]
      simpa using h3
theorem own_of_whole {w : World} {base : Nat} {e : TypeId} {size n g cap : Nat} {xs rest : List Value} (hb : Blk w g e (xs ++ rest).toArray) (hx : xs.length = n * size) (hl : (xs ++ rest).length = cap * size) (hbase : base ≤ g) (hn : n ≤ cap) (hc : cap ≤ maxLen) :
    w.ownsRow base e size (.slice (some ⟨g, 0, none⟩) n cap) n xs :=
  ⟨hx, .inr ⟨g, cap, _, rfl, hbase, hb, hn, hc, by simpa using hl, by rw [← hx]; simp⟩⟩
theorem splice_ins (A B rest c : List Value) (p s : Nat) (hA : A.length = p) (hc : c.length = s) (hr : s ≤ rest.length) :
    splice (splice ((A ++ B) ++ rest) (p + s) B) p c = (A ++ (c ++ B)) ++ rest.drop s := by
  subst hA hc
  unfold splice
  have e1 : ((A ++ B) ++ rest).take (A.length + c.length) = A ++ (B ++ rest).take c.length := by
    rw [List.append_assoc, List.take_append, List.take_of_length_le (by omega), show A.length + c.length - A.length = c.length by omega]
  have e2 : ((A ++ B) ++ rest).drop (A.length + c.length + B.length) = rest.drop c.length := by
    rw [List.drop_append, List.drop_eq_nil_of_le (by simp), List.nil_append]
    congr 1
    simp
    omega
  have e3 : ((B ++ rest).take c.length).length = c.length := by rw [List.length_take, List.length_append]; omega
  rw [e1, e2, List.append_assoc, List.take_left]
  have e4 : (A ++ ((B ++ rest).take c.length ++ (B ++ rest.drop c.length))).drop (A.length + c.length) = B ++ rest.drop c.length := by
    rw [← List.append_assoc, List.drop_append, List.drop_eq_nil_of_le (by rw [List.length_append, e3]; omega), List.nil_append]
    rw [List.length_append, e3]
    simp
  rw [e4]
  simp
theorem size_zeroCells (z : Array Value) (n : Nat) : (Builtin.zeroCells z n).size = n * z.size := by simp [Builtin.zeroCells]
theorem run_growz (P : Program) (w : World) (t tn ty e : TypeId) (i : TypeInfo) (z : Value) (size bytes : Nat) (ht : P.underlying t = some (.slice e)) (htn : P.underlying tn = some (.int .i64)) (hi : P.info? e = some i) (hz : i.zero = some z)
    (hsize : i.size = size) (hby : i.bytes = bytes) (hzs : z.cells.size = size) (hsz : 0 < size) (hb1 : bytes ≤ 1000) (gb n k : Nat) (A : List Value) (hA : A.length = k * size) (hc : ∀ j u, A[j]? = some u → w.cell? ⟨gb, j, none⟩ = some u) (hk : k < n) (hn : n ≤ 1000) :
    ∃ cap Z, n + 1 ≤ cap ∧ cap ≤ maxLen ∧ Z.length = (cap - k) * size ∧
      (Builtin.append_ #[t, tn] ty #[.slice (some ⟨gb, 0, none⟩) k n, .int .i64 ((n : Int) + 1 - (k : Int))]).run P w = .ok (.slice (some ⟨w.heap.size, 0, none⟩) (n + 1) cap) (w.drew.alloc (.cells (A ++ Z).toArray e)) := by
  have hold : (Builtin.firstCells i.size k (.slice (some ⟨gb, 0, none⟩) k n)).run P w.drew = .ok A.toArray w.drew := by
    have := run_loadCells_list (P := P) w.drew ⟨gb, 0, none⟩ A (fun j v hj => by rw [Addr.add_lit, Nat.zero_add]; exact hc j v hj)
    rw [hA] at this
    unfold Builtin.firstCells
    rw [hsize]
    exact this
  have hfit : Builtin.nextslicecap (k + (n + 1 - k)) n * i.bytes ≤ 281474976710656 := by
    refine growslice_fits (by omega) ?_
    rw [hby, show k + (n + 1 - k) = n + 1 by omega]
    have : (n + 1) * bytes ≤ 1001 * 1000 := Nat.mul_le_mul (by omega) hb1
    omega
  have h48 : (n + 1 - k) * i.bytes ≤ 281474976710656 := by
    rw [hby]
    have : (n + 1 - k) * bytes ≤ 1001 * 1000 := Nat.mul_le_mul (by omega) hb1
    omega
  have hr := Lib.run_append_grow_zeros w t tn ty e i z .i64 .i64 ht htn hi hz (some ⟨gb, 0, none⟩) k n A hold (n + 1 - k) (by omega) (by omega) (by omega) (by omega) h48 hfit
  rw [show k + (n + 1 - k) = n + 1 by omega, show ((n + 1 - k : Nat) : Int) = (n : Int) + 1 - (k : Int) by omega] at hr
  have hge := grownCap_ge w (n + 1) n e
  refine ⟨grownCap w (n + 1) n e, (Builtin.zeroCells z.cells (n + 1 - k) ++ Builtin.zeroCells z.cells (grownCap w (n + 1) n e - (n + 1))).toList, hge, grownCap_le_maxLen w _ _ e (by simp only [maxLen]; omega), ?_, ?_⟩
  · simp only [Array.toList_append, List.length_append, Array.length_toList, size_zeroCells, hzs]
    rw [← Nat.add_mul]
    congr 1
    omega
  · rw [hr]
    congr 3
    apply Array.ext'
    simp
theorem splice_grow (A Z c D : List Value) (p s : Nat) (hA : A.length = p) (hc : c.length = s) (hr : s + D.length ≤ Z.length) :
    splice (splice (A ++ Z) p c) (p + s) D = (A ++ (c ++ D)) ++ Z.drop (s + D.length) := by
  subst hA hc
  unfold splice
  rw [List.take_left]
  have e1 : (A ++ Z).drop (A.length + c.length) = Z.drop c.length := by
    rw [List.drop_append, List.drop_eq_nil_of_le (by omega), List.nil_append]
    congr 1
    omega
  rw [e1]
  have e2 : (A ++ (c ++ Z.drop c.length)).take (A.length + c.length) = A ++ c := by
    rw [← List.append_assoc, List.take_append_of_le_length (by simp)]
    exact List.take_of_length_le (by simp)
  have e3 : (A ++ (c ++ Z.drop c.length)).drop (A.length + c.length + D.length) = Z.drop (c.length + D.length) := by
    rw [← List.append_assoc, List.drop_append, List.drop_eq_nil_of_le (by simp), List.nil_append, List.drop_drop]
    congr 1
    simp
  rw [e2, e3]
  simp
theorem wpList_copyN {P : Program} {w : World} {ops : Array Oper} {rest : List Oper} {o : Oper} {a : Act} {Q : Exit → Act → World → Prop} (hgd : o.guard = none) (d s : Operand) (dT sT : TypeId)
    (ho : o.op = .call { callee := .builtin .copy, args := #[d, s], argTypes := #[dT, sT] }) (v u : Value) (hd : a.eval d = v) (hs : a.eval s = u) {v' : Value} {w' : World}
    (hr : (Builtin.copy_ #[dT, sT] o.type #[v, u]).run P w = .ok v' w') (h : wpList P ops Q rest (a.put o.dst v') w') : wpList P ops Q (o :: rest) a w := by
  refine wpList_plain hgd fun K hK => ?_
  unfold Oper.wp execOp
  simp only [ho, resolve, invoke, builtin, Sem.run_bind, Sem.run_pure, Result.andThen_ok, List.map_toArray, List.map_cons, List.map_nil, hd, hs, hr]
  exact hK _ _ h
theorem step_copyN {P : Program} {w : World} {ops : Array Oper} {o : Oper} {a : Act} {K : Act → World → Prop} {Q : Exit → Act → World → Prop} {E : Prop} (hgd : o.guard = none) (d s : Operand) (dT sT : TypeId)
    (ho : o.op = .call { callee := .builtin .copy, args := #[d, s], argTypes := #[dT, sT] }) (v u : Value) (hd : a.eval d = v) (hs : a.eval s = u) {v' : Value} {w' : World}
    (hr : (Builtin.copy_ #[dT, sT] o.type #[v, u]).run P w = .ok v' w') (h : K (a.put o.dst v') w') :
    if Region.wanted o (yielded ops a.tmps) = true then Oper.wp P o a w K Q else E := by
  have hw : Region.wanted o (yielded ops a.tmps) = true := by simp [Region.wanted, hgd]
  rw [if_pos hw]
  unfold Oper.wp execOp
  simp only [ho, resolve, invoke, builtin, Sem.run_bind, Sem.run_pure, Result.andThen_ok, List.map_toArray, List.map_cons, List.map_nil, hd, hs, hr]
  exact h
theorem setCells_row {w : World} {g : Nat} {t : TypeId} {cur : List Value} (hg : Blk w g t cur.toArray) (o : Nat) (cs : List Value) (hfit : o + cs.length ≤ cur.length) (h1 : ∀ v ∈ cs, v.oneCell' = true) (P : Program) : w.setCells g o cs = w.setRow g (splice cur o cs).toArray := by
  have e1 := run_storeCells_at P g o t cs 0 cur.toArray w hg (by simpa using hfit) h1
  have e2 := run_storeCells_cells (P := P) g o cs 0 w (fun j hj => by rw [Nat.add_zero, hg.cell]; simp; omega) (fun j hj => hg.free _) h1
  rw [e1] at e2
  injection e2 with _ e2
  rw [Nat.add_zero] at e2
  rw [← e2]
  simp [splice]
/-- append onto a slice that has room, over a row that is known whole. -/
theorem run_app_room (P : Program) (w : World) (t ty e : TypeId) (i : TypeInfo) (size : Nat) (ht : P.underlying t = some (.slice e)) (hi : P.info? e = some i) (hsize : i.size = size) (g k cap : Nat) (cur : List Value) (hg : Blk w g e cur.toArray)
    (ad : Addr) (m c : Nat) (news : List Value) (hl : news.length = m * size) (hnews : ∀ j u, news[j]? = some u → w.cell? (ad.add j) = some u) (h1 : ∀ u ∈ news, u.oneCell' = true) (hroom : k + m ≤ cap) (hfit : k * size + news.length ≤ cur.length) :
    (Builtin.append_ #[t, t] ty #[.slice (some ⟨g, 0, none⟩) k cap, .slice (some ad) m c]).run P w = .ok (.slice (some ⟨g, 0, none⟩) (k + m) cap) (w.setRow g (splice cur (k * size) news).toArray) := by
  have hs : Src P i.size t (.slice (some ad) m c) m news w := Src.ofSlice w ht ad m c news (by rw [hsize]; exact hl) hnews h1
  have := run_append_room_src (P := P) w t t ty e i ht hi g 0 k cap (.slice (some ad) m c) m news hs hroom (fun j hj => by rw [hsize, hg.cell]; simp; omega) (fun j hj => hg.free _)
  rw [this, hsize, Nat.zero_add, setCells_row hg _ _ hfit h1 P]
theorem run_clearN (P : Program) (w : World) (t ty e : TypeId) (i : TypeInfo) (z : Value) (size : Nat) (ht : P.underlying t = some (.slice e)) (hi : P.info? e = some i) (hz : i.zero = some z) (hzs : z.cells.size = size) (h1 : ∀ u ∈ z.cells, u.oneCell' = true)
    (g o n c : Nat) (hn : 0 < n) (cur : List Value) (hg : Blk w g e cur.toArray) (hfit : o + n * size ≤ cur.length) :
    ∃ zs : List Value, zs.length = n * size ∧ (Builtin.clear_ #[t] ty #[.slice (some ⟨g, o, none⟩) n c]).run P w = .ok (.tuple #[]) (w.setRow g (splice cur o zs).toArray) := by
  refine ⟨(Builtin.zeroCells z.cells n).toList, by rw [Array.length_toList, size_zeroCells, hzs], ?_⟩
  have hzl : (Builtin.zeroCells z.cells n).toList.length = n * size := by rw [Array.length_toList, size_zeroCells, hzs]
  have hone : ∀ v ∈ (Builtin.zeroCells z.cells n).toList, v.oneCell' = true := fun v hv => by
    unfold Builtin.zeroCells at hv
    rw [Array.toList_map, List.mem_map] at hv
    obtain ⟨q, hq, rfl⟩ := hv
    have hq2 : q < n * z.cells.size := by simpa using hq
    have hpos : 0 < z.cells.size := Nat.pos_of_ne_zero fun h0 => by rw [h0] at hq2; omega
    rw [getElem!_pos z.cells _ (Nat.mod_lt _ hpos)]
    exact h1 _ (Array.getElem_mem _)
  have hst := run_storeCells_at P g o e (Builtin.zeroCells z.cells n).toList 0 cur.toArray w hg (by simp only [Nat.add_zero, List.size_toArray]; rw [hzl]; exact hfit) hone
  obtain ⟨m, rfl⟩ : ∃ m, n = m + 1 := ⟨n - 1, by omega⟩
  rw [Nat.add_zero] at hst
  simp [Builtin.clear_, run_underlying ht, zeroValue, typeInfo, hi, hz, hst, splice]
theorem step_appendN {P : Program} {w : World} {ops : Array Oper} {o : Oper} {a : Act} {K : Act → World → Prop} {Q : Exit → Act → World → Prop} {E : Prop} (hgd : o.guard = none) (d s : Operand) (dT sT : TypeId)
    (ho : o.op = .call { callee := .builtin .append, args := #[d, s], argTypes := #[dT, sT] }) (v u : Value) (hd : a.eval d = v) (hs : a.eval s = u) {v' : Value} {w' : World}
    (hr : (Builtin.append_ #[dT, sT] o.type #[v, u]).run P w = .ok v' w') (h : K (a.put o.dst v') w') :
    if Region.wanted o (yielded ops a.tmps) = true then Oper.wp P o a w K Q else E := by
  have hw : Region.wanted o (yielded ops a.tmps) = true := by simp [Region.wanted, hgd]
  rw [if_pos hw]
  unfold Oper.wp execOp
  simp only [ho, resolve, invoke, builtin, Sem.run_bind, Sem.run_pure, Result.andThen_ok, List.map_toArray, List.map_cons, List.map_nil, hd, hs, hr]
  exact h
theorem wpList_appendN {P : Program} {w : World} {ops : Array Oper} {rest : List Oper} {o : Oper} {a : Act} {Q : Exit → Act → World → Prop} (hgd : o.guard = none) (d s : Operand) (dT sT : TypeId)
    (ho : o.op = .call { callee := .builtin .append, args := #[d, s], argTypes := #[dT, sT] }) (v u : Value) (hd : a.eval d = v) (hs : a.eval s = u) {v' : Value} {w' : World}
    (hr : (Builtin.append_ #[dT, sT] o.type #[v, u]).run P w = .ok v' w') (h : wpList P ops Q rest (a.put o.dst v') w') : wpList P ops Q (o :: rest) a w := by
  refine wpList_plain hgd fun K hK => ?_
  unfold Oper.wp execOp
  simp only [ho, resolve, invoke, builtin, Sem.run_bind, Sem.run_pure, Result.andThen_ok, List.map_toArray, List.map_cons, List.map_nil, hd, hs, hr]
  exact hK _ _ h
theorem step_clearN {P : Program} {w : World} {ops : Array Oper} {o : Oper} {a : Act} {K : Act → World → Prop} {Q : Exit → Act → World → Prop} {E : Prop} (hgd : o.guard = none) (d : Operand) (dT : TypeId)
    (ho : o.op = .call { callee := .builtin .clear, args := #[d], argTypes := #[dT] }) (v : Value) (hd : a.eval d = v) {v' : Value} {w' : World}
    (hr : (Builtin.clear_ #[dT] o.type #[v]).run P w = .ok v' w') (h : K (a.put o.dst v') w') :
    if Region.wanted o (yielded ops a.tmps) = true then Oper.wp P o a w K Q else E := by
  have hw : Region.wanted o (yielded ops a.tmps) = true := by simp [Region.wanted, hgd]
  rw [if_pos hw]
  unfold Oper.wp execOp
  simp only [ho, resolve, invoke, builtin, Sem.run_bind, Sem.run_pure, Result.andThen_ok, List.map_toArray, List.map_cons, List.map_nil, hd, hr]
  exact h
theorem wpList_clearN {P : Program} {w : World} {ops : Array Oper} {rest : List Oper} {o : Oper} {a : Act} {Q : Exit → Act → World → Prop} (hgd : o.guard = none) (d : Operand) (dT : TypeId)
    (ho : o.op = .call { callee := .builtin .clear, args := #[d], argTypes := #[dT] }) (v : Value) (hd : a.eval d = v) {v' : Value} {w' : World}
    (hr : (Builtin.clear_ #[dT] o.type #[v]).run P w = .ok v' w') (h : wpList P ops Q rest (a.put o.dst v') w') : wpList P ops Q (o :: rest) a w := by
  refine wpList_plain hgd fun K hK => ?_
  unfold Oper.wp execOp
  simp only [ho, resolve, invoke, builtin, Sem.run_bind, Sem.run_pure, Result.andThen_ok, List.map_toArray, List.map_cons, List.map_nil, hd, hr]
  exact hK _ _ h
theorem wpList_run {P : Program} {w : World} {ops : Array Oper} {rest : List Oper} {o : Oper} {a : Act} {Q : Exit → Act → World → Prop} (hgd : o.guard = none) {v : Value} {w' : World}
    (hr : (execOp a.eval o).run P w = .ok (.value v) w') (h : wpList P ops Q rest (a.put o.dst v) w') : wpList P ops Q (o :: rest) a w := by
  refine wpList_plain hgd fun K hK => ?_
  unfold Oper.wp
  simp only [hr]
  exact hK _ _ h
end Go.Proofs.Ytdmkijdbldcdiaa
