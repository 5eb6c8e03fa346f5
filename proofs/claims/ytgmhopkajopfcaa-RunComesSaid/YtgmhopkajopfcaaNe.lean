/- A nest in memory; the walks of New, Levels, Has, Saw. -/
import Derived.Test.YtgmhopkajopfcaaMf
import Derived.Test.YtgmhopkajopfcaaOw
import Derived.WalkSpells
import Derived.Deep.RegionLaw
import Derived.StillTailTactics
namespace Go.Proofs.Ytgmhopkajopfcaa
open Go.RowKit Go.Maps
set_option linter.unusedVariables false

def seenElem (v : Value) : Option (DataW Unit × List MemPlace) :=
  match v with
  | .agg #[.int .i64 a, .int .i64 b] => some (.agg [.lit (.int .i64 a), .lit (.int .i64 b)], [])
  | _ => none
def seenD (a b : Int) : DataW Unit := .agg [.lit (.int .i64 a), .lit (.int .i64 b)]
theorem seen_inv {v : Value} {a b : Int} {ps : List MemPlace} (h : seenElem v = some (seenD a b, ps)) : v = .agg #[.int .i64 a, .int .i64 b] := by
  have no : ∀ {o : Option (DataW Unit × List MemPlace)}, o = some (seenD a b, ps) → o = none → False := by
    rintro o h1 h2
    rw [h1] at h2
    cases h2
  cases v
  case agg cs =>
    obtain ⟨cl⟩ := cs
    rcases cl with _ | ⟨x, _ | ⟨y, _ | ⟨z, t⟩⟩⟩
    · exact (no h rfl).elim
    · exact (no h (by cases x <;> rfl)).elim
    · cases x
      case int k1 n1 =>
        cases y
        case int k2 n2 =>
          cases k1
          case i64 =>
            cases k2
            case i64 =>
              have h : some ((.agg [.lit (.int .i64 n1), .lit (.int .i64 n2)] : DataW Unit), ([] : List MemPlace)) = some (seenD a b, ps) := h
              injection h with h
              injection h with h1 h2
              injection h1 with h1
              injection h1 with h1 h3
              injection h1 with h1
              injection h1 with _ h1
              injection h3 with h3 _
              injection h3 with h3
              injection h3 with _ h3
              rw [h1, h3]
            all_goals exact (no h rfl).elim
          all_goals exact (no h (by cases k2 <;> rfl)).elim
        all_goals exact (no h (by cases k1 <;> rfl)).elim
      all_goals exact (no h rfl).elim
    · exact (no h (by cases x <;> first | rfl | (cases y <;> rfl))).elim
  all_goals exact (no h rfl).elim
noncomputable def elLev : El Int where
  t := 81
  e := 3
  R := plainElem Try.prog 3
  E := fun a => .lit (.int .i64 a)
  V := fun a => .int .i64 a
  W := K64
  z := .int .i64 0
  zd := .lit (.int .i64 0)
  okz := plainElem_int Try.underlying3 (by decide)
  ok := fun a h => plainElem_int Try.underlying3 (wfK h)
  inv := fun v a ps h => plain_inv h
  invz := fun v ps h => plain_inv h
  ut := Try.underlying81
  uz := fun w => by kernel_rfl
noncomputable def elSeen : El (Int × Int) where
  t := 79
  e := 87
  R := seenElem
  E := fun p => seenD p.1 p.2
  V := fun p => .agg #[.int .i64 p.1, .int .i64 p.2]
  W := fun _ => True
  z := .agg #[.int .i64 0, .int .i64 0]
  zd := seenD 0 0
  okz := rfl
  ok := fun a _ => rfl
  inv := fun v a ps h => seen_inv h
  invz := fun v ps h => seen_inv h
  ut := Try.underlying79
  uz := fun w => by kernel_rfl
theorem seen_none (w : World) {ops : Array Oper} {rest : List Oper} {o : Oper} {a : Act} {Q : Exit → Act → World → Prop} (hg : o.guard = none) (m x : Operand) (hop : o.op = Op.lookup 79 m x true)
    (b n : Nat) (f : Int → Option (Int × Int)) (hm : a.eval m = .map (some b)) (hown : MapF elSeen w b n f) (c : Int) (hx : a.eval x = .int .i64 c) (hc : K64 c) (hr : f c = none)
    (hK : wpList Try.prog ops Q rest (a.put o.dst (.tuple #[.agg #[.int .i64 0, .int .i64 0], .bool false])) w) : wpList Try.prog ops Q (o :: rest) a w :=
  wpList_look_F elSeen w hg m x hop b n f hm hown c hx hc none hr hK
theorem seen_some (w : World) {ops : Array Oper} {rest : List Oper} {o : Oper} {a : Act} {Q : Exit → Act → World → Prop} (hg : o.guard = none) (m x : Operand) (hop : o.op = Op.lookup 79 m x true)
    (b n : Nat) (f : Int → Option (Int × Int)) (hm : a.eval m = .map (some b)) (hown : MapF elSeen w b n f) (c : Int) (hx : a.eval x = .int .i64 c) (hc : K64 c) (u1 u2 : Int) (hr : f c = some (u1, u2))
    (hK : wpList Try.prog ops Q rest (a.put o.dst (.tuple #[.agg #[.int .i64 u1, .int .i64 u2], .bool true])) w) : wpList Try.prog ops Q (o :: rest) a w :=
  wpList_look_F elSeen w hg m x hop b n f hm hown c hx hc (some (u1, u2)) hr hK
theorem seen1_some (w : World) {ops : Array Oper} {rest : List Oper} {o : Oper} {a : Act} {Q : Exit → Act → World → Prop} (hg : o.guard = none) (m x : Operand) (hop : o.op = Op.lookup 79 m x false)
    (b n : Nat) (f : Int → Option (Int × Int)) (hm : a.eval m = .map (some b)) (hown : MapF elSeen w b n f) (c : Int) (hx : a.eval x = .int .i64 c) (hc : K64 c) (u1 u2 : Int) (hr : f c = some (u1, u2))
    (hK : wpList Try.prog ops Q rest (a.put o.dst (.agg #[.int .i64 u1, .int .i64 u2])) w) : wpList Try.prog ops Q (o :: rest) a w :=
  wpList_look1_F elSeen w hg m x hop b n f hm hown c hx hc (some (u1, u2)) hr hK
theorem lev_none (w : World) {ops : Array Oper} {rest : List Oper} {o : Oper} {a : Act} {Q : Exit → Act → World → Prop} (hg : o.guard = none) (m x : Operand) (hop : o.op = Op.lookup 81 m x true)
    (b n : Nat) (f : Int → Option Int) (hm : a.eval m = .map (some b)) (hown : MapF elLev w b n f) (c : Int) (hx : a.eval x = .int .i64 c) (hc : K64 c) (hr : f c = none)
    (hK : wpList Try.prog ops Q rest (a.put o.dst (.tuple #[.int .i64 0, .bool false])) w) : wpList Try.prog ops Q (o :: rest) a w :=
  wpList_look_F elLev w hg m x hop b n f hm hown c hx hc none hr hK
theorem lev_some (w : World) {ops : Array Oper} {rest : List Oper} {o : Oper} {a : Act} {Q : Exit → Act → World → Prop} (hg : o.guard = none) (m x : Operand) (hop : o.op = Op.lookup 81 m x true)
    (b n : Nat) (f : Int → Option Int) (hm : a.eval m = .map (some b)) (hown : MapF elLev w b n f) (c : Int) (hx : a.eval x = .int .i64 c) (hc : K64 c) (u : Int) (hr : f c = some u)
    (hK : wpList Try.prog ops Q rest (a.put o.dst (.tuple #[.int .i64 u, .bool true])) w) : wpList Try.prog ops Q (o :: rest) a w :=
  wpList_look_F elLev w hg m x hop b n f hm hown c hx hc (some u) hr hK
/-- The blocks of a nest. -/
def fpN (nb rb : Nat) (v : Value) (bs : List Nat) : Nat → Prop := fun k => k = nb ∨ k = rb ∨ k ∈ bs ∨ v.ownBlock = some k
abbrev Rd := Nat × (Int → Option (Int × Int))
abbrev Lv := List (Nat × (Int → Option Int))
structure NestW (w : World) (B nb rb : Nat) (v : Value) (bs : List Nat) (rd : Rd) (lv : Lv) : Prop where
  blk : Blk w nb 84 #[.map (some rb), v]
  rmap : MapF elSeen w rb rd.1 rd.2
  row : w.ownsRow B 81 1 v bs.length (bs.map fun b => .map (some b))
  len : bs.length = lv.length
  maps : ∀ (i b : Nat) (p : Nat × (Int → Option Int)), bs[i]? = some b → lv[i]? = some p → MapF elLev w b p.1 p.2
  nodup : bs.Nodup
  rbn : rb ∉ bs
  lo : B ≤ nb ∧ B ≤ rb ∧ ∀ b ∈ bs, B ≤ b
def NestAt (w : World) (B nb : Nat) (F : Nat → Prop) (rd : Rd) (lv : Lv) : Prop := ∃ rb v bs, F = fpN nb rb v bs ∧ NestW w B nb rb v bs rd lv
/-- What is done to blocks of a footprint leaves the others; the new footprint is the old one and new blocks. -/
structure NG (w w' : World) (F F' : Nat → Prop) : Prop where
  os : w'.os = w.os
  tape : w'.tape = w.tape
  output : w'.output = w.output
  size : w.heap.size ≤ w'.heap.size
  old : ∀ k, k < w.heap.size → ¬ F k → w'.heap[k]? = w.heap[k]? ∧ ¬ F' k
theorem NG.trans {w w1 w2 : World} {F F1 F2 : Nat → Prop} (h : NG w w1 F F1) (h' : NG w1 w2 F1 F2) : NG w w2 F F2 :=
  ⟨h'.os.trans h.os, h'.tape.trans h.tape, h'.output.trans h.output, Nat.le_trans h.size h'.size, fun k hk hf => by
    have h1 := h.old k hk hf
    have h2 := h'.old k (Nat.lt_of_lt_of_le hk h.size) h1.2
    exact ⟨h2.1.trans h1.1, h2.2⟩⟩
theorem NG.ofgr {w w' : World} {F : Nat → Prop} {row : Option Nat} (h : w.grownBy w' row) (hr : ∀ k, row = some k → F k ∨ w.heap.size ≤ k) : NG w w' F F :=
  ⟨h.os, h.tape, h.output, h.size, fun k hk hf => ⟨h.block k hk (fun e => by rcases hr k e.symm with q | q; exact hf q; omega), hf⟩⟩
theorem NG.ofgr2 {w w' : World} {F F' : Nat → Prop} {row : Option Nat} (h : w.grownBy w' row) (hr : ∀ k, row = some k → F k ∨ w.heap.size ≤ k) (hF : ∀ k, k < w.heap.size → F' k → F k) : NG w w' F F' :=
  ⟨h.os, h.tape, h.output, h.size, fun k hk hf => ⟨h.block k hk (fun e => by rcases hr k e.symm with q | q; exact hf q; omega), fun q => hf (hF k hk q)⟩⟩
theorem NG.weaken {w w' : World} {F F1 F' : Nat → Prop} (h : NG w w' F F1) (hF : ∀ k, k < w.heap.size → F' k → F1 k) : NG w w' F F' :=
  ⟨h.os, h.tape, h.output, h.size, fun k hk hf => ⟨(h.old k hk hf).1, fun q => (h.old k hk hf).2 (hF k hk q)⟩⟩
/-- From a world ahead of all of it. -/
theorem NG.gr {w0 w w' : World} {F F' : Nat → Prop} (h : NG w w' F F') {row : Option Nat} (h0 : w0.grownBy w row) (hF : ∀ k, F k → w0.heap.size ≤ k) : w0.grownBy w' row :=
  ⟨h.os.trans h0.os, h.tape.trans h0.tape, h.output.trans h0.output, Nat.le_trans h0.size h.size, fun k hk hr => by
    have := h0.size
    exact (h.old k (by omega) (fun q => by have := hF k q; omega)).1.trans (h0.block k hk hr)⟩
theorem NestW.fp {w : World} {B nb rb : Nat} {v : Value} {bs : List Nat} {rd : Rd} {lv : Lv} (h : NestW w B nb rb v bs rd lv) : ∀ k, fpN nb rb v bs k → B ≤ k ∧ k < w.heap.size := by
  rintro k (rfl | rfl | hk | hk)
  · exact ⟨h.lo.1, h.blk.lt⟩
  · exact ⟨h.lo.2.1, h.rmap.lt⟩
  · obtain ⟨i, hi, e⟩ := List.mem_iff_getElem.1 hk
    have hil : i < lv.length := by rw [← h.len]; exact hi
    have := h.maps i k lv[i] (by rw [List.getElem?_eq_getElem hi, e]) (List.getElem?_eq_getElem hil)
    exact ⟨h.lo.2.2 k hk, this.lt⟩
  · exact h.row.lt k hk
theorem NestAt.fp {w : World} {B nb : Nat} {F : Nat → Prop} {rd : Rd} {lv : Lv} (h : NestAt w B nb F rd lv) : ∀ k, F k → B ≤ k ∧ k < w.heap.size := by
  obtain ⟨rb, v, bs, rfl, h⟩ := h
  exact h.fp
/-- A nest stays while none of its blocks is turned. -/
theorem NestW.same {w w' : World} {B nb rb : Nat} {v : Value} {bs : List Nat} {rd : Rd} {lv : Lv} (h : NestW w B nb rb v bs rd lv) (hs : w.heap.size ≤ w'.heap.size) (hb : ∀ k, fpN nb rb v bs k → w'.heap[k]? = w.heap[k]?) : NestW w' B nb rb v bs rd lv := by
  have mf : ∀ {α : Type} {L : El α} {b n : Nat} {f : Int → Option α}, fpN nb rb v bs b → MapF L w b n f → MapF L w' b n f := by
    rintro α L b n f hf ⟨D, ⟨es, cl, hq, r⟩, h2⟩
    exact ⟨D, ⟨es, cl, (hb b hf).trans hq, r⟩, h2⟩
  refine ⟨(hb nb (.inl rfl)).trans h.blk, mf (.inr (.inl rfl)) h.rmap, ?_, h.len, fun i b p h1 h2 => mf (.inr (.inr (.inl (List.mem_of_getElem? h1)))) (h.maps i b p h1 h2), h.nodup, h.rbn, h.lo⟩
  refine ⟨h.row.1, ?_⟩
  rcases h.row.2 with q | ⟨g, cap, cur, rfl, h1, h2, r⟩
  · exact .inl q
  · exact .inr ⟨g, cap, cur, rfl, h1, (hb g (.inr (.inr (.inr rfl)))).trans h2, r⟩
theorem NestAt.gr {w w' : World} {B nb : Nat} {F : Nat → Prop} {rd : Rd} {lv : Lv} (h : NestAt w B nb F rd lv) {row : Option Nat} (hg : w.grownBy w' row) (hr : ∀ k, row = some k → ¬ F k) : NestAt w' B nb F rd lv := by
  have hfp := h.fp
  obtain ⟨rb, v, bs, rfl, h⟩ := h
  exact ⟨rb, v, bs, rfl, h.same hg.size (fun k hk => hg.block k (hfp k hk).2 (fun e => hr k e.symm hk))⟩
theorem NestAt.other {w w' : World} {B nb : Nat} {F G G' : Nat → Prop} {rd : Rd} {lv : Lv} (h : NestAt w B nb F rd lv) (hg : NG w w' G G') (hd : ∀ k, F k → ¬ G k) : NestAt w' B nb F rd lv ∧ ∀ k, F k → ¬ G' k := by
  have hfp := h.fp
  refine ⟨?_, fun k hk => (hg.old k (hfp k hk).2 (hd k hk)).2⟩
  obtain ⟨rb, v, bs, rfl, h⟩ := h
  exact ⟨rb, v, bs, rfl, h.same hg.size (fun k hk => (hg.old k (hfp k hk).2 (hd k hk)).1)⟩
theorem heap_push_old {w : World} {o : Obj} {k : Nat} (hk : k < w.heap.size) : (w.alloc o).heap[k]? = w.heap[k]? := by
  rw [show (w.alloc o).heap = w.heap.push o from rfl, Array.getElem?_push, if_neg (by omega)]
set_option maxRecDepth 100000 in
set_option maxHeartbeats 1600000 in
theorem new_c (w : World) : Calls Try.prog 24 #[] w fun e w' => (∃ nb F, e = .returned (.pointer (some ⟨nb, 0, none⟩)) ∧ NestAt w' w.heap.size nb F (0, fun _ => none) [(0, fun _ => none)]) ∧ w.grownBy w' none := by
  have hmm := @run_makeMap Try.prog
  go_enter Try.func24, Try.ntmps24
  go_wp2_with fail
  have M1 := (MapF.new elSeen w)
  have M2 := (MapF.new elLev (w.alloc (.map #[] 0)))
  have B3 := Blk.new ((w.alloc (.map #[] 0)).alloc (.map #[] 0)) 81 #[.map (some (w.heap.size + 1))]
  have B4 := Blk.new (((w.alloc (.map #[] 0)).alloc (.map #[] 0)).alloc (.cells #[.map (some (w.heap.size + 1))] 81)) 84 #[.map (some w.heap.size), .slice (some ⟨w.heap.size + 1 + 1, 0, none⟩) 1 1]
  simp only [World.size_alloc] at M2 B3 B4
  have G := gr_alloc (gr_alloc (gr_alloc (gr_alloc (gr_refl w none) (.map #[] 0)) (.map #[] 0)) (.cells #[.map (some (w.heap.size + 1))] 81)) (.cells #[.map (some w.heap.size), .slice (some ⟨w.heap.size + 1 + 1, 0, none⟩) 1 1] 84)
  have HX := As.mk (show NestAt ((((w.alloc (.map #[] 0)).alloc (.map #[] 0)).alloc (.cells #[.map (some (w.heap.size + 1))] 81)).alloc (.cells #[.map (some w.heap.size), .slice (some ⟨w.heap.size + 1 + 1, 0, none⟩) 1 1] 84)) w.heap.size (w.heap.size + 1 + 1 + 1) (fpN (w.heap.size + 1 + 1 + 1) w.heap.size (.slice (some ⟨w.heap.size + 1 + 1, 0, none⟩) 1 1) [w.heap.size + 1]) (0, fun _ => none) [(0, fun _ => none)] from
    ⟨w.heap.size, _, [w.heap.size + 1], rfl, ⟨B4, ((M1.alloc _).alloc _).alloc _, ⟨rfl, .inr ⟨w.heap.size + 1 + 1, 1, _, rfl, by omega, B3.alloc _, by simp, by simp only [maxLen]; omega, rfl, rfl⟩⟩, rfl, fun i b p h1 h2 => by
      match i, h1, h2 with
      | 0, h1, h2 =>
        simp at h1 h2
        subst h1 h2
        exact (M2.alloc _).alloc _, by simp, by simp, ⟨by omega, by omega, by simp⟩⟩⟩)
  have GG := As.mk G
  clear hmm M1 M2 B3 B4 G
  go_ret
  exact ⟨⟨_, _, rfl, HX.out⟩, GG.out⟩
end Go.Proofs.Ytgmhopkajopfcaa
