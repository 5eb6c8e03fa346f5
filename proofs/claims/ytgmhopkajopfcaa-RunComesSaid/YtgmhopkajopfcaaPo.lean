/- Operations in memory; the walks of the document's Plain and Same over them. -/
import Derived.Test.YtgmhopkajopfcaaAr
import Derived.WalkSpells
import Derived.Deep.AppendLies
import Derived.Deep.RegionLaw
import Derived.Deep.LoopGhost
namespace Go.Proofs.Ytgmhopkajopfcaa
open Go.RowKit
set_option linter.unusedVariables false

structure POp where
  k : Int
  c : Int
  r : Int
  o : Int
  n : Int
def POp.cells (x : POp) : List Value := [.int .i64 x.k, .int .i64 x.c, .int .i64 x.r, .int .i64 x.o, .int .i64 x.n]
def opsCells (l : List POp) : List Value := l.flatMap POp.cells
theorem opsCells_snoc (l : List POp) (x : POp) : opsCells (l ++ [x]) = opsCells l ++ [.int .i64 x.k, .int .i64 x.c, .int .i64 x.r, .int .i64 x.o, .int .i64 x.n] := by
  simp [opsCells, POp.cells]
def opV (x : POp) : Value := .agg #[.int .i64 x.k, .int .i64 x.c, .int .i64 x.r, .int .i64 x.o, .int .i64 x.n]
def OpE (w : World) (x : POp) (cs : List Value) : Prop := cs = [.int .i64 x.k, .int .i64 x.c, .int .i64 x.r, .int .i64 x.o, .int .i64 x.n]
theorem OpE.any {w w' : World} (x : POp) (cs : List Value) (h : OpE w x cs) : OpE w' x cs := h
theorem opsCells_at (l : List POp) (j : Nat) (x : POp) (hx : l[j]? = some x) : ∀ i u, [Value.int .i64 x.k, .int .i64 x.c, .int .i64 x.r, .int .i64 x.o, .int .i64 x.n][i]? = some u → (opsCells l)[j * 5 + i]? = some u := by
  induction l generalizing j with
  | nil => simp at hx
  | cons y l ih =>
    intro i u hu
    have hi : i < 5 := by have := (List.getElem?_eq_some_iff.1 hu).1; simpa using this
    have e : opsCells (y :: l) = POp.cells y ++ opsCells l := rfl
    cases j with
    | zero =>
      simp at hx
      subst hx
      rw [e, List.getElem?_append_left (by simp [POp.cells]; omega)]
      simpa [POp.cells] using hu
    | succ j =>
      simp at hx
      rw [e, List.getElem?_append_right (by simp [POp.cells]; omega)]
      have := ih j hx i u hu
      rwa [show (j + 1) * 5 + i - (POp.cells y).length = j * 5 + i by simp [POp.cells]; omega]
theorem Arr.of_ops {w : World} {base : Nat} {e : TypeId} {v : Value} {l : List POp} (h : w.ownsRow base e 5 v l.length (opsCells l)) : Arr OpE 5 w v l := by
  rcases h.2 with ⟨rfl, h0⟩ | ⟨g, cap, cur, rfl, hb, hh, h1, h2, h3, h4⟩
  · obtain rfl : l = [] := List.eq_nil_of_length_eq_zero h0
    exact ⟨none, 0, rfl, by simp, fun h => by simp at h⟩
  · refine ⟨some ⟨g, 0, none⟩, cap, rfl, ⟨by simp only [maxLen] at h2; omega, h1⟩, fun _ => ⟨_, rfl, rfl, fun j x hx => ⟨_, rfl, rfl, fun i u hu => ?_⟩⟩⟩
    have hc := h.cells (g := g) rfl _ _ (opsCells_at l j x hx i u hu)
    rw [← hc]
    congr 1
    unfold Addr.add
    split
    · rename_i h0; simp [h0]
    · simp
theorem infoPOp : (Try.prog.info? 67).map (fun i => (i.zero, i.size, i.bytes)) = some (some (.agg #[.int .i64 0, .int .i64 0, .int .i64 0, .int .i64 0, .int .i64 0]), 5, 40) := by kernel_rfl
def Pl20Post (w : World) (base : Nat) (l : List POp) (e : Ending) (w' : World) : Prop := ∃ v, e = .returned v ∧ w'.ownsRow base 67 5 v l.length (opsCells l) ∧ w.grownBy w' none
set_option maxRecDepth 100000 in
set_option maxHeartbeats 3200000 in
theorem plain20_walk (v : Value) (l : List POp) (w : World) (base : Nat) (hbase : w.heap.size = base) (h : Arr OpE 5 w v l) (hl : l.length ≤ 100000000) :
    Calls Try.prog 16 #[v] w (Pl20Post w base l) := by
  obtain ⟨i0, hi, hz0, hz1, hz2⟩ := info_parts infoPOp
  obtain ⟨A, c, rfl⟩ := h.len
  have H := As.mk h
  have HB := As.mk hbase
  clear h
  go_enter Try.func16, Try.ntmps16
  go_wp2_with fail
  clear hbase
  go_loopw [3, 8] (fun o i wr => ∃ k : Nat, k ≤ l.length ∧ i = .int .i64 k ∧ As (wr.ownsRow base 67 5 o k (opsCells (l.take k)) ∧ w.grownBy wr none)) (fun _ i _ => l.length - (intOf i).toNat)
  case atStart => exact ⟨0, Nat.zero_le _, rfl, ⟨World.ownsRow_nil _ _ _ _, gr_refl _ _⟩⟩
  case round =>
    obtain ⟨k, hk, rfl, HL⟩ := hrel
    obtain ⟨A', c', rfl⟩ := own_shape HL.out.1
    by_cases hlt : k < l.length
    · have hltI : (k : Int) < (l.length : Int) := by omega
      have hk0 : (0 : Int) ≤ (k : Int) := by omega
      obtain ⟨b, o, cs, rfl, hE, hcs, hcell⟩ := H.out.at_ k l[k] (List.getElem?_eq_getElem hlt)
      obtain rfl := hE
      have c0 : wr.cell? ⟨b, o + k * 5, none⟩ = _ := HL.out.2.cell (hcell 0 _ rfl) (by simp)
      have c1 := HL.out.2.cell (hcell 1 _ rfl) (by simp)
      have c2 := HL.out.2.cell (hcell 2 _ rfl) (by simp)
      have c3 := HL.out.2.cell (hcell 3 _ rfl) (by simp)
      have c4 := HL.out.2.cell (hcell 4 _ rfl) (by simp)
      clear hcell hcs
      go_wp2_with (at_builtin; refine wpList_append_lies _ (by rfl) _ _ _ (by rfl) base 67 i0 _ 5 40 Try.underlying42 hi hz0 hz1 hz2 rfl (by omega) _ k _ (by rfl) ((HL.out.1.alloc _).alloc _) ⟨wr.heap.size + 1, 0, none⟩ 1 1 [.int .i64 (l[k]'hlt).k, .int .i64 (l[k]'hlt).c, .int .i64 (l[k]'hlt).r, .int .i64 (l[k]'hlt).o, .int .i64 (l[k]'hlt).n] (by rfl) (by rfl) (World.news_of_block (cs := #[.int .i64 (l[k]'hlt).k, .int .i64 (l[k]'hlt).c, .int .i64 (l[k]'hlt).r, .int .i64 (l[k]'hlt).o, .int .i64 (l[k]'hlt).n]) (t := 67) (fr := (0, 0)) (heap_alloc2_new wr _ _)) (by simp [Value.oneCell']) (by omega) (by simp only [maxLen]; omega) (by omega) (by have := HL.out.2.size; have := HB.out; simp; omega) (wr.heap.size + 2) (by simp) ?_; intro gg cap w5 hown1 hgrow hat hlt2)
      go_roundw
      case measure => simp [intOf]; omega
      case rel => exact ⟨k + 1, by omega, by go_num, ⟨by rw [List.take_succ_eq_append_getElem hlt, opsCells_snoc]; exact hown1, gr_then (gr_alloc (gr_alloc HL.out.2 _) _) hgrow (.inr (.inr (fun q hq => by have := HL.out.1.lt q hq; have := HB.out; omega)))⟩⟩
    · obtain rfl : k = l.length := by omega
      go_wp2
      go_ret
      have h1 := HL.out.1
      rw [List.take_of_length_le (Nat.le_refl _)] at h1
      exact ⟨_, rfl, h1, HL.out.2⟩
/-- Are two operations alike? -/
def eqOp (x y : POp) : Bool := x.k == y.k && (x.c == y.c && (x.r == y.r && (x.o == y.o && x.n == y.n)))
theorem eqOp_iff (x y : POp) : eqOp x y = true ↔ x = y := by
  obtain ⟨a, b, c, d, e⟩ := x
  obtain ⟨a', b', c', d', e'⟩ := y
  simp [eqOp]
theorem eqOp_self (x : POp) : eqOp x x = true := (eqOp_iff x x).2 rfl
def sameOps : List POp → List POp → Bool
  | [], [] => true
  | x :: l, y :: m => eqOp x y && sameOps l m
  | _, _ => false
theorem sameOps_iff : ∀ (l m : List POp), sameOps l m = true ↔ l = m
  | [], [] => by simp [sameOps]
  | x :: l, y :: m => by simp [sameOps, eqOp_iff, sameOps_iff l m]
  | [], y :: m => by simp [sameOps]
  | x :: l, [] => by simp [sameOps]
theorem sameOps_at {l m : List POp} (k : Nat) (hl : k < l.length) (hm : k < m.length) (h : eqOp (l[k]'hl) (m[k]'hm) = false) : sameOps l m = false := by
  rw [← Bool.not_eq_true, sameOps_iff]
  rintro rfl
  rw [eqOp_self] at h
  cases h
end Go.Proofs.Ytgmhopkajopfcaa
