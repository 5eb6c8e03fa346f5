/- What prog's pairs computes: the Eithers that are open, and the Or and the End of each; rows of the call's own, stored into and cut. -/
import Derived.Test.YtgmhopkajopfcaaPo
namespace Go.Proofs.Ytgmhopkajopfcaa
open Go.RowKit
set_option linter.unusedVariables false

theorem own_set {w : World} {base : Nat} {e : TypeId} {size n g cap : Nat} {xs : List Value} (h : w.ownsRow base e size (.slice (some ⟨g, 0, none⟩) n cap) n xs) (i : Nat) (hi : i < n * size) (u : Value) :
    (w.setCell ⟨g, i, none⟩ u).ownsRow base e size (.slice (some ⟨g, 0, none⟩) n cap) n (xs.set i u) := by
  refine ⟨by rw [List.length_set]; exact h.1, ?_⟩
  rcases h.2 with ⟨hv, _⟩ | ⟨g', cap', cur, hv, hb, hg, h1, h2, h3, h4⟩
  · cases hv
  · injection hv with hv1 hv2 hv3
    injection hv1 with hv1
    injection hv1 with hv1
    subst hv1 hv3
    refine .inr ⟨g, cap, cur.setIfInBounds i u, rfl, hb, heap_setCell_same w g i cur e u hg, h1, h2, by simpa using h3, ?_⟩
    rw [Array.toList_setIfInBounds, List.take_set, h4]
theorem own_cut {w : World} {base : Nat} {e : TypeId} {size n g cap : Nat} {xs : List Value} (h : w.ownsRow base e size (.slice (some ⟨g, 0, none⟩) n cap) n xs) (m : Nat) (hm : m ≤ n) :
    w.ownsRow base e size (.slice (some ⟨g, 0, none⟩) m cap) m (xs.take (m * size)) := by
  have hle : m * size ≤ n * size := Nat.mul_le_mul_right _ hm
  refine ⟨by rw [List.length_take, h.1]; omega, ?_⟩
  rcases h.2 with ⟨hv, _⟩ | ⟨g', cap', cur, hv, hb, hg, h1, h2, h3, h4⟩
  · cases hv
  · injection hv with hv1 hv2 hv3
    injection hv1 with hv1
    injection hv1 with hv1
    subst hv1 hv3
    refine .inr ⟨g, cap, cur, rfl, hb, hg, by omega, h2, h3, ?_⟩
    rw [← h4, List.take_take, Nat.min_eq_left hle]
theorem own_cellAt {w : World} {base : Nat} {e : TypeId} {size n g cap : Nat} {xs : List Value} (h : w.ownsRow base e size (.slice (some ⟨g, 0, none⟩) n cap) n xs) (i : Nat) (u : Value) (hu : xs[i]? = some u) : w.cell? ⟨g, i, none⟩ = some u := by
  have := h.cells (g := g) rfl i u hu
  rw [← this]
  congr 1
  unfold Addr.add
  split <;> simp_all
theorem own_freeAt {w : World} {base : Nat} {e : TypeId} {size n g cap : Nat} {xs : List Value} (h : w.ownsRow base e size (.slice (some ⟨g, 0, none⟩) n cap) n xs) (i : Nat) : w.frozen? ⟨g, i, none⟩ = false := by
  rcases h.2 with ⟨hv, _⟩ | ⟨g', cap', cur, hv, hb, hg, h1, h2, h3, h4⟩
  · cases hv
  · injection hv with hv1 hv2 hv3
    injection hv1 with hv1
    injection hv1 with hv1
    subst hv1 hv3
    exact frozen_of_row w g i cur e hg
theorem own_some {w : World} {base : Nat} {e : TypeId} {size n : Nat} {v : Value} {xs : List Value} (h : w.ownsRow base e size v n xs) (hn : 0 < n) : ∃ g cap, v = .slice (some ⟨g, 0, none⟩) n cap := by
  rcases h.2 with ⟨_, h0⟩ | ⟨g', cap', cur, hv, _⟩
  · omega
  · exact ⟨g', cap', hv⟩

/-- The Eithers that are open (where each stands, and its Or or -1), the innermost last; the Or and the End of each that is shut. -/
structure PSt where
  st : List (Int × Int)
  m : List (Int × Int × Int)
def stCells (st : List (Int × Int)) : List Value := st.flatMap fun p => [.int .i64 p.1, .int .i64 p.2]
theorem stCells_snoc (st : List (Int × Int)) (p : Int × Int) : stCells (st ++ [p]) = stCells st ++ [.int .i64 p.1, .int .i64 p.2] := by simp [stCells]
theorem stCells_len (st : List (Int × Int)) : (stCells st).length = st.length * 2 := by
  induction st with
  | nil => rfl
  | cons x l ih => simp [stCells] at *; omega
def pStep (k : Int) (i : Nat) (s : PSt) : Option PSt :=
  if k = 10 then (if s.st.length + 1 ≤ 4 then some ⟨s.st ++ [((i : Int), -1)], s.m⟩ else none)
  else if k = 11 then (match s.st.getLast? with | none => none | some p => if 0 ≤ p.2 then none else some ⟨s.st.dropLast ++ [(p.1, (i : Int))], s.m⟩)
  else if k = 12 then (match s.st.getLast? with | none => none | some p => if p.2 < 0 then none else some ⟨s.st.dropLast, s.m ++ [(p.1, p.2, (i : Int))]⟩)
  else some s
def pRunFrom (i : Nat) (s : PSt) : List POp → Option PSt
  | [] => some s
  | x :: l => (pStep x.k i s).bind fun s => pRunFrom (i + 1) s l
theorem pRunFrom_append : ∀ (l m : List POp) (i : Nat) (s : PSt), pRunFrom i s (l ++ m) = (pRunFrom i s l).bind fun s' => pRunFrom (i + l.length) s' m
  | [], m, i, s => rfl
  | x :: l, m, i, s => by
    rw [List.cons_append, pRunFrom, pRunFrom, Option.bind_assoc]
    congr 1
    funext s'
    rw [pRunFrom_append l m (i + 1) s']
    simp only [List.length_cons]
    congr 1
    funext s''
    rw [Nat.add_right_comm, Nat.add_assoc]
def pRun (l : List POp) : Option PSt := pRunFrom 0 ⟨[], []⟩ l
theorem pRun_take {l : List POp} {k : Nat} (h : k < l.length) : pRun (l.take (k + 1)) = (pRun (l.take k)).bind (pStep (l[k]'h).k k) := by
  unfold pRun
  rw [List.take_succ_eq_append_getElem h, pRunFrom_append]
  congr 1
  funext s
  rw [pRunFrom, List.length_take, Nat.min_eq_left (by omega), Nat.zero_add]
  cases pStep (l[k]'h).k k s <;> rfl
theorem pRun_none {l : List POp} {k : Nat} (h : pRun (l.take k) = none) : pRun l = none := by
  unfold pRun at *
  conv => lhs; rw [← List.take_append_drop k l]
  rw [pRunFrom_append, h]
  rfl
def pairsOk (l : List POp) : Bool := match pRun l with
  | none => false
  | some s => s.st.isEmpty
end Go.Proofs.Ytgmhopkajopfcaa
