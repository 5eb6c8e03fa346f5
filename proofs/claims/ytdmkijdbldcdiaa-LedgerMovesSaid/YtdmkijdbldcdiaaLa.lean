/- A ledger's state and its parts, in memory. -/
import Derived.Test.YtdmkijdbldcdiaaLm
import Derived.Test.YtdmkijdbldcdiaaAk
namespace Go.Proofs.Ytdmkijdbldcdiaa
open Go.RowKit
set_option linter.unusedVariables false

structure PPl where
  st : Int
  hop : Int
  to_ : Int
  ver : Int
  val : Int
deriving DecidableEq
structure PPr where
  tid : PTid
  items : List PIt
  nodes : List Int
structure PDe where
  tid : PTid
  yes : Bool
structure PCm where
  tid : PTid
  items : List PIt
  nodes : List Int
  over : Bool
structure PSt where
  node : Int
  nodes : Int
  cells : Int
  epoch : Int
  places : List PPl
  prepared : List PPr
  decided : List PDe
  commits : List PCm
def plCells (p : PPl) : List Value := [.int .i64 p.st, .int .i64 p.hop, .int .i64 p.to_, .int .i64 p.ver, .int .i64 p.val]
def PlE (w : World) (p : PPl) (cs : List Value) : Prop := cs = plCells p
def DeE (w : World) (d : PDe) (cs : List Value) : Prop := cs = [.int .i64 d.tid.n, .int .i64 d.tid.e, .int .i64 d.tid.s, .bool d.yes]
def PrE (w : World) (p : PPr) (cs : List Value) : Prop := ∃ A1 c1 A2 c2, cs = [.int .i64 p.tid.n, .int .i64 p.tid.e, .int .i64 p.tid.s, .slice A1 p.items.length c1, .slice A2 p.nodes.length c2] ∧ Arr ItE 5 w (.slice A1 p.items.length c1) p.items ∧ Arr IE 1 w (.slice A2 p.nodes.length c2) p.nodes
def CmE (w : World) (p : PCm) (cs : List Value) : Prop := ∃ A1 c1 A2 c2, cs = [.int .i64 p.tid.n, .int .i64 p.tid.e, .int .i64 p.tid.s, .slice A1 p.items.length c1, .slice A2 p.nodes.length c2, .bool p.over] ∧ Arr ItE 5 w (.slice A1 p.items.length c1) p.items ∧ Arr IE 1 w (.slice A2 p.nodes.length c2) p.nodes
theorem PrE.grown {w w' : World} (hg : w.grownBy w' none) (x : PPr) (cs : List Value) (h : PrE w x cs) : PrE w' x cs := by
  obtain ⟨A1, c1, A2, c2, h1, h2, h3⟩ := h
  exact ⟨A1, c1, A2, c2, h1, h2.below hg (fun _ _ h => h), h3.below hg (fun _ _ h => h)⟩
theorem CmE.grown {w w' : World} (hg : w.grownBy w' none) (x : PCm) (cs : List Value) (h : CmE w x cs) : CmE w' x cs := by
  obtain ⟨A1, c1, A2, c2, h1, h2, h3⟩ := h
  exact ⟨A1, c1, A2, c2, h1, h2.below hg (fun _ _ h => h), h3.below hg (fun _ _ h => h)⟩
/-- A state's slices read as its lists. -/
structure StR (w : World) (s : PSt) (vP vQ vD vC : Value) : Prop where
  pl : Arr PlE 5 w vP s.places
  pr : Arr PrE 5 w vQ s.prepared
  de : Arr DeE 4 w vD s.decided
  cm : Arr CmE 6 w vC s.commits
theorem StR.grown {w w' : World} {s : PSt} {vP vQ vD vC : Value} (h : StR w s vP vQ vD vC) (hg : w.grownBy w' none) : StR w' s vP vQ vD vC :=
  ⟨h.pl.below hg (fun _ _ h => h), h.pr.below hg (fun x cs h => h.grown hg), h.de.below hg (fun _ _ h => h), h.cm.below hg (fun x cs h => h.grown hg)⟩
/-- A state's cells. -/
def stCells (s : PSt) (vP vQ vD vC : Value) : Array Value := #[.int .i64 s.node, .int .i64 s.nodes, .int .i64 s.cells, .int .i64 s.epoch, vP, vQ, vD, vC]
def findI {α : Type} (p : α → Bool) (l : List α) : Int := match l.findIdx? p with | some i => i | none => -1
def eqT (a b : PTid) : Bool := a.n == b.n && (a.e == b.e && a.s == b.s)
theorem eqT_iff (a b : PTid) : eqT a b = true ↔ a = b := by
  obtain ⟨a1, a2, a3⟩ := a
  obtain ⟨b1, b2, b3⟩ := b
  simp [eqT]
theorem findI_none {α : Type} {p : α → Bool} {l : List α} (h : l.any p = false) : findI p l = -1 := by
  unfold findI
  have : l.findIdx? p = none := by
    rw [List.findIdx?_eq_none_iff]
    intro x hx
    exact List.any_eq_false.1 h x hx |> fun q => by simpa using q
  rw [this]
theorem findI_at {α : Type} {p : α → Bool} {l : List α} {k : Nat} (hk : k < l.length) (h0 : (l.take k).any p = false) (h1 : p (l[k]'hk) = true) : findI p l = k := by
  unfold findI
  have : l.findIdx? p = some k := by
    rw [List.findIdx?_eq_some_iff_getElem]
    refine ⟨hk, h1, fun j hj => ?_⟩
    have hm : l[j]'(by omega) ∈ l.take k := List.mem_take_iff_getElem.2 ⟨j, by omega, rfl⟩
    simpa using List.any_eq_false.1 h0 _ hm
  rw [this]
theorem findI_neg {α : Type} (p : α → Bool) (l : List α) : decide (0 ≤ findI p l) = l.any p := by
  unfold findI
  cases h : l.findIdx? p with
  | none =>
    rw [List.findIdx?_eq_none_iff] at h
    have : l.any p = false := by
      rw [List.any_eq_false]
      intro x hx
      simp [h x hx]
    rw [this]; rfl
  | some k =>
    obtain ⟨hk, h1, _⟩ := List.findIdx?_eq_some_iff_getElem.1 h
    have : l.any p = true := List.any_eq_true.2 ⟨_, List.getElem_mem hk, h1⟩
    rw [this]; simp
theorem retB {a b : Bool} (h : b = a) : Ending.returned (.bool a) = .returned (.bool b) := by rw [h]
theorem retI {a b : Int} (h : b = a) : Ending.returned (.int .i64 a) = .returned (.int .i64 b) := by rw [h]
end Go.Proofs.Ytdmkijdbldcdiaa
