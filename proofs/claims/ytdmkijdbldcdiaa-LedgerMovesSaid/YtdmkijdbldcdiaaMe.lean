/- A state's rows of the call's own; what slices.Clone finds in a state. (Printed by wip/gen/gen_me.py.) -/
import Derived.Test.YtdmkijdbldcdiaaLz
namespace Go.Proofs.Ytdmkijdbldcdiaa
open Go.RowKit
set_option linter.unusedVariables false
set_option linter.unusedSimpArgs false
set_option maxRecDepth 100000

instance : Inhabited QPr := ⟨⟨⟨⟨0, 0, 0⟩, [], []⟩, none, 0, none, 0⟩⟩
instance : Inhabited QCm := ⟨⟨⟨⟨0, 0, 0⟩, [], [], false⟩, none, 0, none, 0⟩⟩
/-- The nested slices of one that lies in a row. -/
def NestR (w : World) (A1 : Option Addr) (c1 : Nat) (its : List PIt) (A2 : Option Addr) (c2 : Nat) (ns : List Int) : Prop := Arr ItE 5 w (.slice A1 its.length c1) its ∧ Arr IE 1 w (.slice A2 ns.length c2) ns
def NestO (w : World) (A1 : Option Addr) (c1 : Nat) (its : List PIt) (A2 : Option Addr) (c2 : Nat) (ns : List Int) : Prop := TArr ItE 5 66 w (.slice A1 its.length c1) its ∧ TArr IE 1 3 w (.slice A2 ns.length c2) ns
theorem NestR.grown {w w' : World} {A1 : Option Addr} {c1 : Nat} {its : List PIt} {A2 : Option Addr} {c2 : Nat} {ns : List Int} (h : NestR w A1 c1 its A2 c2 ns) (hg : w.grownBy w' none) : NestR w' A1 c1 its A2 c2 ns :=
  ⟨h.1.below hg (fun _ _ h => h), h.2.below hg (fun _ _ h => h)⟩
theorem Arr.qQPr {w : World} {v : Value} {ps : List PPr} (h : Arr PrE 5 w v ps) : ∃ qs : List QPr, qs.map QPr.p = ps ∧ SrcA w 5 v ps.length (qs.flatMap qpC) ∧ ∀ q ∈ qs, NestR w q.A1 q.c1 q.p.items q.A2 q.c2 q.p.nodes := by
  obtain ⟨css, q1, q2, _, q4⟩ := h.cellsOf (by omega) (fun x cs e u hu => by
    obtain ⟨A1, c1, A2, c2, rfl, _⟩ := e
    simp only [List.mem_cons, List.not_mem_nil, or_false] at hu
    rcases hu with rfl | rfl | rfl | rfl | rfl <;> rfl)
  have hch : ∀ j, j < ps.length → ∃ q : QPr, ps[j]? = some q.p ∧ css[j]? = some (qpC q) ∧ NestR w q.A1 q.c1 q.p.items q.A2 q.c2 q.p.nodes := fun j hj => by
    obtain ⟨cs, e1, e2, _⟩ := q2 j _ (List.getElem?_eq_getElem hj)
    obtain ⟨A1, c1, A2, c2, rfl, e3, e4⟩ := e2
    exact ⟨⟨ps[j], A1, c1, A2, c2⟩, List.getElem?_eq_getElem hj, e1, e3, e4⟩
  obtain ⟨X, hX⟩ := Go.Deep.choose_lt hch
  have h1 : ((List.range ps.length).map X).map QPr.p = ps := by
    apply List.ext_getElem?
    intro j
    by_cases hj : j < ps.length
    · rw [(hX j hj).1]; simp [hj]
    · rw [List.getElem?_eq_none (by simp; omega), List.getElem?_eq_none (by omega)]
  have h2 : css = ((List.range ps.length).map X).map qpC := by
    apply List.ext_getElem?
    intro j
    by_cases hj : j < ps.length
    · rw [(hX j hj).2.1]; simp [hj]
    · rw [List.getElem?_eq_none (by omega), List.getElem?_eq_none (by simp; omega)]
  refine ⟨(List.range ps.length).map X, h1, by rw [List.flatMap_def, ← h2]; exact q4, fun q hq => ?_⟩
  obtain ⟨j, hj, rfl⟩ := List.mem_map.1 hq
  exact (hX j (List.mem_range.1 hj)).2.2
theorem Arr.qQCm {w : World} {v : Value} {ps : List PCm} (h : Arr CmE 6 w v ps) : ∃ qs : List QCm, qs.map QCm.p = ps ∧ SrcA w 6 v ps.length (qs.flatMap qcC) ∧ ∀ q ∈ qs, NestR w q.A1 q.c1 q.p.items q.A2 q.c2 q.p.nodes := by
  obtain ⟨css, q1, q2, _, q4⟩ := h.cellsOf (by omega) (fun x cs e u hu => by
    obtain ⟨A1, c1, A2, c2, rfl, _⟩ := e
    simp only [List.mem_cons, List.not_mem_nil, or_false] at hu
    rcases hu with rfl | rfl | rfl | rfl | rfl | rfl <;> rfl)
  have hch : ∀ j, j < ps.length → ∃ q : QCm, ps[j]? = some q.p ∧ css[j]? = some (qcC q) ∧ NestR w q.A1 q.c1 q.p.items q.A2 q.c2 q.p.nodes := fun j hj => by
    obtain ⟨cs, e1, e2, _⟩ := q2 j _ (List.getElem?_eq_getElem hj)
    obtain ⟨A1, c1, A2, c2, rfl, e3, e4⟩ := e2
    exact ⟨⟨ps[j], A1, c1, A2, c2⟩, List.getElem?_eq_getElem hj, e1, e3, e4⟩
  obtain ⟨X, hX⟩ := Go.Deep.choose_lt hch
  have h1 : ((List.range ps.length).map X).map QCm.p = ps := by
    apply List.ext_getElem?
    intro j
    by_cases hj : j < ps.length
    · rw [(hX j hj).1]; simp [hj]
    · rw [List.getElem?_eq_none (by simp; omega), List.getElem?_eq_none (by omega)]
  have h2 : css = ((List.range ps.length).map X).map qcC := by
    apply List.ext_getElem?
    intro j
    by_cases hj : j < ps.length
    · rw [(hX j hj).2.1]; simp [hj]
    · rw [List.getElem?_eq_none (by omega), List.getElem?_eq_none (by simp; omega)]
  refine ⟨(List.range ps.length).map X, h1, by rw [List.flatMap_def, ← h2]; exact q4, fun q hq => ?_⟩
  obtain ⟨j, hj, rfl⟩ := List.mem_map.1 hq
  exact (hX j (List.mem_range.1 hj)).2.2
/-- A state's rows, all of the call's own. -/
structure Rows (w : World) (B : Nat) (s : PSt) (vP vQ vD vC : Value) (qs : List QPr) (cs : List QCm) : Prop where
  pl : w.ownsRow B 62 5 vP s.places.length (s.places.flatMap plCells)
  pr : w.ownsRow B 60 5 vQ qs.length (qs.flatMap qpC)
  de : w.ownsRow B 55 4 vD s.decided.length (s.decided.flatMap deC)
  cm : w.ownsRow B 58 6 vC cs.length (cs.flatMap qcC)
  qp : qs.map QPr.p = s.prepared
  cp : cs.map QCm.p = s.commits
  qi : ∀ q ∈ qs, NestO w q.A1 q.c1 q.p.items q.A2 q.c2 q.p.nodes
  ci : ∀ q ∈ cs, NestO w q.A1 q.c1 q.p.items q.A2 q.c2 q.p.nodes
theorem Rows.st {w : World} {B : Nat} {s : PSt} {vP vQ vD vC : Value} {qs : List QPr} {cs : List QCm} (h : Rows w B s vP vQ vD vC qs cs) {sb : Nat} (hb : Blk w sb 32 (stCells s vP vQ vD vC)) (hlo : B ≤ sb) : OwnSt w B sb s vP vQ vD vC qs cs :=
  ⟨hb, hlo, h.pl, h.pr, h.de, h.cm, h.qp, h.cp, h.qi, h.ci⟩
theorem OwnSt.rows {w : World} {B sb : Nat} {s : PSt} {vP vQ vD vC : Value} {qs : List QPr} {cs : List QCm} (h : OwnSt w B sb s vP vQ vD vC qs cs) : Rows w B s vP vQ vD vC qs cs :=
  ⟨h.pl, h.pr, h.de, h.cm, h.qp, h.cp, h.qi, h.ci⟩
theorem deC_one (x : PDe) : ∀ u ∈ deC x, u.oneCell' = true := fun u hu => by
  simp only [deC, List.mem_cons, List.not_mem_nil, or_false] at hu
  rcases hu with rfl | rfl | rfl | rfl <;> rfl
theorem plC_one (x : PPl) : ∀ u ∈ plCells x, u.oneCell' = true := fun u hu => by
  simp only [plCells, List.mem_cons, List.not_mem_nil, or_false] at hu
  rcases hu with rfl | rfl | rfl | rfl | rfl <;> rfl
theorem clPl_c (w : World) (v : Value) (l : List PPl) (h : Arr PlE 5 w v l) (hn : l.length ≤ 1000000) : Calls Try.prog 42 #[v] w (CloneL plCells 5 62 w l) :=
  (clonePl_c w v l.length (l.flatMap plCells) (Arr.src (f := plCells) h (by omega) plC_one) hn).mono fun _ _ h => h.list
theorem clDe_c (w : World) (v : Value) (l : List PDe) (h : Arr DeE 4 w v l) (hn : l.length ≤ 1000000) : Calls Try.prog 44 #[v] w (CloneL deC 4 55 w l) :=
  (cloneDe_c w v l.length (l.flatMap deC) (Arr.src (f := deC) h (by omega) deC_one) hn).mono fun _ _ h => h.list
/-- Two cells of a row of Prepareds are written: the nested slices of one. -/
def QPr.at_ (q : QPr) (A1 : Option Addr) (c1 : Nat) (A2 : Option Addr) (c2 : Nat) : QPr := ⟨q.p, A1, c1, A2, c2⟩
def QCm.at_ (q : QCm) (A1 : Option Addr) (c1 : Nat) (A2 : Option Addr) (c2 : Nat) : QCm := ⟨q.p, A1, c1, A2, c2⟩
theorem row_pr {w : World} {B g cap : Nat} {qs : List QPr} {n : Nat} (hn : qs.length = n) (h : w.ownsRow B 60 5 (.slice (some ⟨g, 0, none⟩) n cap) n (qs.flatMap qpC)) (i : Nat) (hi : i < qs.length) (A1 : Option Addr) (c1 : Nat) (A2 : Option Addr) (c2 : Nat) :
    ((w.setCell ⟨g, i * 5 + 3, none⟩ (.slice A1 (qs[i]'hi).p.items.length c1)).setCell ⟨g, i * 5 + 4, none⟩ (.slice A2 (qs[i]'hi).p.nodes.length c2)).ownsRow B 60 5 (.slice (some ⟨g, 0, none⟩) n cap) n ((qs.set i ((qs[i]'hi).at_ A1 c1 A2 c2)).flatMap qpC) := by
  have h1 := own_set h (i * 5 + 3) (by omega) (.slice A1 (qs[i]'hi).p.items.length c1)
  rw [flat_set qpC 5 (fun _ => rfl) qs i hi 3 (by omega) (.slice A1 (qs[i]'hi).p.items.length c1) ((qs[i]'hi).at_ A1 c1 (qs[i]'hi).A2 (qs[i]'hi).c2) rfl] at h1
  have h2 := own_set h1 (i * 5 + 4) (by omega) (.slice A2 (qs[i]'hi).p.nodes.length c2)
  rw [flat_set qpC 5 (fun _ => rfl) _ i (by simpa using hi) 4 (by omega) (.slice A2 (qs[i]'hi).p.nodes.length c2) ((qs[i]'hi).at_ A1 c1 A2 c2) (by simp [QPr.at_, qpC]), List.set_set] at h2
  exact h2
theorem row_cm {w : World} {B g cap : Nat} {qs : List QCm} {n : Nat} (hn : qs.length = n) (h : w.ownsRow B 58 6 (.slice (some ⟨g, 0, none⟩) n cap) n (qs.flatMap qcC)) (i : Nat) (hi : i < qs.length) (A1 : Option Addr) (c1 : Nat) (A2 : Option Addr) (c2 : Nat) :
    ((w.setCell ⟨g, i * 6 + 3, none⟩ (.slice A1 (qs[i]'hi).p.items.length c1)).setCell ⟨g, i * 6 + 4, none⟩ (.slice A2 (qs[i]'hi).p.nodes.length c2)).ownsRow B 58 6 (.slice (some ⟨g, 0, none⟩) n cap) n ((qs.set i ((qs[i]'hi).at_ A1 c1 A2 c2)).flatMap qcC) := by
  have h1 := own_set h (i * 6 + 3) (by omega) (.slice A1 (qs[i]'hi).p.items.length c1)
  rw [flat_set qcC 6 (fun _ => rfl) qs i hi 3 (by omega) (.slice A1 (qs[i]'hi).p.items.length c1) ((qs[i]'hi).at_ A1 c1 (qs[i]'hi).A2 (qs[i]'hi).c2) rfl] at h1
  have h2 := own_set h1 (i * 6 + 4) (by omega) (.slice A2 (qs[i]'hi).p.nodes.length c2)
  rw [flat_set qcC 6 (fun _ => rfl) _ i (by simpa using hi) 4 (by omega) (.slice A2 (qs[i]'hi).p.nodes.length c2) ((qs[i]'hi).at_ A1 c1 A2 c2) (by simp [QCm.at_, qcC]), List.set_set] at h2
  exact h2
theorem row_pr' {w : World} {B g cap : Nat} {qs : List QPr} {n : Nat} (hn : qs.length = n) (h : w.ownsRow B 60 5 (.slice (some ⟨g, 0, none⟩) n cap) n (qs.flatMap qpC)) (i : Nat) (q : QPr) (hq : qs[i]? = some q) (A1 : Option Addr) (c1 : Nat) (A2 : Option Addr) (c2 : Nat) :
    ((w.setCell ⟨g, i * 5 + 3, none⟩ (.slice A1 q.p.items.length c1)).setCell ⟨g, i * 5 + 4, none⟩ (.slice A2 q.p.nodes.length c2)).ownsRow B 60 5 (.slice (some ⟨g, 0, none⟩) n cap) n ((qs.set i (q.at_ A1 c1 A2 c2)).flatMap qpC) := by
  obtain ⟨hi, rfl⟩ := List.getElem?_eq_some_iff.1 hq
  exact row_pr hn h i hi A1 c1 A2 c2
theorem row_cm' {w : World} {B g cap : Nat} {qs : List QCm} {n : Nat} (hn : qs.length = n) (h : w.ownsRow B 58 6 (.slice (some ⟨g, 0, none⟩) n cap) n (qs.flatMap qcC)) (i : Nat) (q : QCm) (hq : qs[i]? = some q) (A1 : Option Addr) (c1 : Nat) (A2 : Option Addr) (c2 : Nat) :
    ((w.setCell ⟨g, i * 6 + 3, none⟩ (.slice A1 q.p.items.length c1)).setCell ⟨g, i * 6 + 4, none⟩ (.slice A2 q.p.nodes.length c2)).ownsRow B 58 6 (.slice (some ⟨g, 0, none⟩) n cap) n ((qs.set i (q.at_ A1 c1 A2 c2)).flatMap qcC) := by
  obtain ⟨hi, rfl⟩ := List.getElem?_eq_some_iff.1 hq
  exact row_cm hn h i hi A1 c1 A2 c2
end Go.Proofs.Ytdmkijdbldcdiaa
