/- The registers of an audit in memory; the walks of outside, other and the two searches. -/
import Derived.Test.YtpamncakhffnfaaGreatAk
import Derived.Test.YtpamncakhffnfaaGreatTk
import Derived.Test.YtpamncakhffnfaaGreatOw
import Derived.Deep.QuietTactic
import Derived.BigQuiet
import Derived.Laws.StructEq
namespace Go.Proofs.YtpamncakhffnfaaGreat
open Go.RowKit Go.Maps
set_option linter.unusedVariables false
set_option linter.unusedSimpArgs false

def regCells (rs : List (Int × Int)) : List Value := rs.flatMap fun p => [.int .i64 p.1, .int .i64 p.2]
theorem regCells_len (rs : List (Int × Int)) : (regCells rs).length = rs.length * 2 := by
  unfold regCells
  induction rs with
  | nil => rfl
  | cons x r ih => simp only [List.flatMap_cons, List.length_append, List.length_cons, List.length_nil, ih]; omega
theorem regCells_at (rs : List (Int × Int)) (j : Nat) (p : Int × Int) (hx : rs[j]? = some p) : (regCells rs)[j * 2]? = some (.int .i64 p.1) ∧ (regCells rs)[j * 2 + 1]? = some (.int .i64 p.2) := by
  unfold regCells
  induction rs generalizing j with
  | nil => simp at hx
  | cons y l ih =>
    rcases j with _ | j
    · simp at hx; subst hx; simp
    · simp at hx
      have := ih j hx
      rw [List.flatMap_cons, show (j + 1) * 2 = j * 2 + 2 by omega]
      simpa using this
theorem regCells_set (rs : List (Int × Int)) (j : Nat) (hj : j < rs.length) (p : Int × Int) : regCells (rs.set j p) = ((regCells rs).set (j * 2) (.int .i64 p.1)).set (j * 2 + 1) (.int .i64 p.2) := by
  unfold regCells
  induction rs generalizing j with
  | nil => simp at hj
  | cons y l ih =>
    rcases j with _ | j
    · simp
    · simp at hj
      have := ih j hj
      rw [List.set_cons_succ, List.flatMap_cons, List.flatMap_cons, this, show (j + 1) * 2 = j * 2 + 2 by omega, show j * 2 + 2 + 1 = (j * 2 + 1) + 2 by omega]
      simp
/-- The registers behind a pointer. -/
structure RegW (w : World) (B rb lb mb n : Nat) (rs : List (Int × Int)) (f : PTid → Option Bool) : Prop where
  blk : Blk w rb 86 #[.slice (some ⟨lb, 0, none⟩) rs.length rs.length, .map (some mb)]
  row : Blk w lb 114 (regCells rs).toArray
  map : MapK elSeenT w mb n f
  lo : B ≤ rb ∧ B ≤ lb ∧ B ≤ mb
  le : rs.length ≤ 16
theorem RegW.grown {w w' : World} {B rb lb mb n : Nat} {rs : List (Int × Int)} {f : PTid → Option Bool} (h : RegW w B rb lb mb n rs f) (hg : w.grownBy w' none) : RegW w' B rb lb mb n rs f :=
  ⟨h.blk.grown hg (by simp), h.row.grown hg (by simp), h.map.kept hg (by simp), h.lo, h.le⟩
theorem RegW.cells {w : World} {B rb lb mb n : Nat} {rs : List (Int × Int)} {f : PTid → Option Bool} (h : RegW w B rb lb mb n rs f) (j : Nat) (p : Int × Int) (hp : rs[j]? = some p) :
    w.cell? ⟨lb, j * 2, none⟩ = some (.int .i64 p.1) ∧ w.cell? ⟨lb, j * 2 + 1, none⟩ = some (.int .i64 p.2) := by
  obtain ⟨h1, h2⟩ := regCells_at rs j p hp
  exact ⟨by rw [h.row.cell]; simpa using h1, by rw [h.row.cell]; simpa using h2⟩
set_option maxRecDepth 100000 in
set_option maxHeartbeats 3200000 in
theorem outside_c (w : World) {B rb lb mb n : Nat} {rs : List (Int × Int)} {f : PTid → Option Bool} (h : RegW w B rb lb mb n rs f) (x : PIt) (r : Bool) (hr : decide ((rs.length : Int) ≤ x.c) = r) :
    Calls Tryz.prog 43 #[.pointer (some ⟨rb, 0, none⟩), .agg #[.int .i64 x.c, .int .i64 x.v, .int .i64 x.a, .bool x.wr, .int .i64 x.nw]] w fun e w' => e = .returned (.bool r) ∧ w.grownBy w' none := by
  have HG := As.mk (gr_alloc (gr_refl w none) (.cells #[.int .i64 x.c, .int .i64 x.v, .int .i64 x.a, .bool x.wr, .int .i64 x.nw] 38))
  have HB := As.mk (Blk.new w 38 #[.int .i64 x.c, .int .i64 x.v, .int .i64 x.a, .bool x.wr, .int .i64 x.nw])
  have HR := As.mk (h.blk.grown HG.out (by simp))
  have hle := h.le
  obtain ⟨c, v, a, wr, nw⟩ := x
  dsimp only at *
  clear h
  go_enter Tryz.func43, Tryz.ntmps43
  go_wp2_with fail
  generalize w.alloc (.cells #[.int .i64 c, .int .i64 v, .int .i64 a, .bool wr, .int .i64 nw] 38) = W at *
  generalize w.heap.size = g at *
  have c0 : W.cell? ⟨g, 0, none⟩ = some (.int .i64 c) := HB.out.cell 0
  have c1 : W.cell? ⟨rb, 0, none⟩ = some (.slice (some ⟨lb, 0, none⟩) rs.length rs.length) := HR.out.cell 0
  have HQ := As.mk hr
  clear hr
  cases r
  · have h0 : ¬ (rs.length : Int) ≤ c := by simpa using HQ.out
    go_quiet (fail)
    go_wp2_with fail
    go_ret
    exact ⟨rfl, gr_drewN HG.out _⟩
  · have h0 : (rs.length : Int) ≤ c := by simpa using HQ.out
    go_quiet (fail)
    go_wp2_with fail
    go_ret
    exact ⟨rfl, gr_drewN HG.out _⟩
set_option maxRecDepth 100000 in
set_option maxHeartbeats 3200000 in
theorem other_c (w : World) {B rb lb mb n : Nat} {rs : List (Int × Int)} {f : PTid → Option Bool} (h : RegW w B rb lb mb n rs f) (x : PIt) (j : Nat) (p : Int × Int) (hp : rs[j]? = some p) (hj : x.c = (j : Int)) (r : Bool) (hr : (p.1 == x.v && p.2 == x.a) = !r) :
    Calls Tryz.prog 44 #[.pointer (some ⟨rb, 0, none⟩), .agg #[.int .i64 x.c, .int .i64 x.v, .int .i64 x.a, .bool x.wr, .int .i64 x.nw]] w fun e w' => e = .returned (.bool r) ∧ w.grownBy w' none := by
  have HG := As.mk (gr_alloc (gr_refl w none) (.cells #[.int .i64 x.c, .int .i64 x.v, .int .i64 x.a, .bool x.wr, .int .i64 x.nw] 38))
  have HB := As.mk (Blk.new w 38 #[.int .i64 x.c, .int .i64 x.v, .int .i64 x.a, .bool x.wr, .int .i64 x.nw])
  have HR := As.mk (h.grown HG.out)
  have hjl : j < rs.length := (List.getElem?_eq_some_iff.1 hp).1
  have hle := h.le
  have HP := As.mk hp
  have HRR := As.mk hr
  obtain ⟨c, v, a, wr, nw⟩ := x
  obtain ⟨p1, p2⟩ := p
  dsimp only at *
  subst hj
  clear h hp hr
  go_enter Tryz.func44, Tryz.ntmps44
  go_wp2_with fail
  generalize w.alloc (.cells #[.int .i64 (j : Int), .int .i64 v, .int .i64 a, .bool wr, .int .i64 nw] 38) = W at *
  generalize w.heap.size = g at *
  have hjI : (j : Int) < (rs.length : Int) := by omega
  have hj0 : (0 : Int) ≤ (j : Int) := by omega
  have c0 : W.cell? ⟨g, 0, none⟩ = some (.int .i64 (j : Int)) := HB.out.cell 0
  have c1 : W.cell? ⟨g, 1, none⟩ = some (.int .i64 v) := HB.out.cell 1
  have c2 : W.cell? ⟨g, 2, none⟩ = some (.int .i64 a) := HB.out.cell 2
  have c3 : W.cell? ⟨rb, 0, none⟩ = some (.slice (some ⟨lb, 0, none⟩) rs.length rs.length) := HR.out.blk.cell 0
  have c4 := (HR.out.cells j _ HP.out).1
  have c5 := (HR.out.cells j _ HP.out).2
  dsimp only at c4 c5
  cases e1 : (p1 == v)
  · obtain rfl : r = true := by have := HRR.out; rw [e1] at this; simpa using this
    go_quiet (fail)
    go_wp2_with fail
    go_ret
    exact ⟨rfl, gr_drewN HG.out _⟩
  · cases e2 : (p2 == a)
    · obtain rfl : r = true := by have := HRR.out; rw [e1, e2] at this; simpa using this
      go_quiet (fail)
      go_wp2_with fail
      go_ret
      exact ⟨rfl, gr_drewN HG.out _⟩
    · obtain rfl : r = false := by have := HRR.out; rw [e1, e2] at this; simpa using this
      go_quiet (fail)
      go_wp2_with fail
      go_ret
      exact ⟨rfl, gr_drewN HG.out _⟩
end Go.Proofs.YtpamncakhffnfaaGreat
