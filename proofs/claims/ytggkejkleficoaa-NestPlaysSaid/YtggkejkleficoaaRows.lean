/-
  No cell of these rows narrows 'for every input' (looked for: loops, veiled, ifaces, maps, wideKeys, modest, calm, conditions, laid).
  DERIVED. THE GIVEN ROWS OF THIS SEAT. 4 by the template 'for every input the law returns true; each argument reads behind the call as it read before'; 0 by the template 'total and deterministic' (their statements: YtggkejkleficoaaTotals.lean).
  GIVEN WITH THE SEED: the statements are not yours to turn. If you find one false, say at which input.
  Laid BY PROGRAM, IN A SANDBOX (cutbox-rows.mjs): the forced cells as the released guide's own fill.sh prints them over the translation 003de7eadb65bba7… (all of the seat's roots in one cut). By AI agents, Wed Nov 11 2026. No macro, syntax, notation, axiom, sorry.
-/
import Derived.Test.YtggkejkleficoaaChecked
import GoSem.Claim
import GoSem.ClaimJoined
import GoSem.ClaimMapViews
import Derived.JoinedTies
import Derived.KernelRfl
namespace Go.Proofs.Ytggkejkleficoaa
/- THE CELL 'sum', in the pinned program and in every row, IS THE sha256 OF THE DUMP (.gsa) THAT YtggkejkleficoaaProg.lean LOADS. Nothing in Lean hashes anything: it is a label: what it is worth is what the hold of that sum in a sandbox is worth. -/
noncomputable def Try.pinned : Pinned := { name := "ytggkejkleficoaa", sum := "003de7eadb65bba71dece63b25529c564af033529743dbc48ec9ec8012a3eb76", checked := Try.checked }
namespace Rows
def none {H : Type} : Left H := { results := [], args := [] }

/-- 'remudalaw21.NestUndoes': WHATEVER THE INPUT: true; the input reads as it did. -/
def nestUndoesSpec : ChangeSpec := { name := "nestUndoes", fn := fun _ => fun
  | [d1, d2, d3] => { results := [.lit (.bool true)], args := [d1, d2, d3] }
  | _ => none }
def nestUndoesRow : OpenClaim := { program := "ytggkejkleficoaa", sum := "003de7eadb65bba71dece63b25529c564af033529743dbc48ec9ec8012a3eb76", func := "remuda/remudalaw21.NestUndoes", spec := "nestUndoes", unfollowed := true, recurses := true, apart := false }
def NestUndoesSaid : Prop := nestUndoesRow.holds Try.pinned (OpenSpec.ofChange nestUndoesSpec)

/-- ITS FALSE NEIGHBOUR: 'it returns false'. Refute it at one input. -/
def nestUndoesWrong : ChangeSpec := { name := "nestUndoes", fn := fun _ => fun
  | [d1, d2, d3] => { results := [.lit (.bool false)], args := [d1, d2, d3] }
  | _ => none }
def NestUndoesWrongFalsely : Prop := nestUndoesRow.holds Try.pinned (OpenSpec.ofChange nestUndoesWrong)

/-- 'remudalaw21.NestPlays': WHATEVER THE INPUT: true; the input reads as it did. -/
def nestPlaysSpec : ChangeSpec := { name := "nestPlays", fn := fun _ => fun
  | [d] => { results := [.lit (.bool true)], args := [d] }
  | _ => none }
def nestPlaysRow : OpenClaim := { program := "ytggkejkleficoaa", sum := "003de7eadb65bba71dece63b25529c564af033529743dbc48ec9ec8012a3eb76", func := "remuda/remudalaw21.NestPlays", spec := "nestPlays", unfollowed := true, recurses := true, apart := false }
def NestPlaysSaid : Prop := nestPlaysRow.holds Try.pinned (OpenSpec.ofChange nestPlaysSpec)

/-- ITS FALSE NEIGHBOUR: 'it returns false'. Refute it at one input. -/
def nestPlaysWrong : ChangeSpec := { name := "nestPlays", fn := fun _ => fun
  | [d] => { results := [.lit (.bool false)], args := [d] }
  | _ => none }
def NestPlaysWrongFalsely : Prop := nestPlaysRow.holds Try.pinned (OpenSpec.ofChange nestPlaysWrong)

/-- 'remudalaw21.NestNone': WHATEVER THE INPUT: true; the input reads as it did. -/
def nestNoneSpec : ChangeSpec := { name := "nestNone", fn := fun _ => fun
  | [d] => { results := [.lit (.bool true)], args := [d] }
  | _ => none }
def nestNoneRow : OpenClaim := { program := "ytggkejkleficoaa", sum := "003de7eadb65bba71dece63b25529c564af033529743dbc48ec9ec8012a3eb76", func := "remuda/remudalaw21.NestNone", spec := "nestNone", unfollowed := true, recurses := true, apart := false }
def NestNoneSaid : Prop := nestNoneRow.holds Try.pinned (OpenSpec.ofChange nestNoneSpec)

/-- ITS FALSE NEIGHBOUR: 'it returns false'. Refute it at one input. -/
def nestNoneWrong : ChangeSpec := { name := "nestNone", fn := fun _ => fun
  | [d] => { results := [.lit (.bool false)], args := [d] }
  | _ => none }
def NestNoneWrongFalsely : Prop := nestNoneRow.holds Try.pinned (OpenSpec.ofChange nestNoneWrong)

/-- 'remudalaw21.NestFlat': WHATEVER THE INPUT: true; the input reads as it did. -/
def nestFlatSpec : ChangeSpec := { name := "nestFlat", fn := fun _ => fun
  | [d] => { results := [.lit (.bool true)], args := [d] }
  | _ => none }
def nestFlatRow : OpenClaim := { program := "ytggkejkleficoaa", sum := "003de7eadb65bba71dece63b25529c564af033529743dbc48ec9ec8012a3eb76", func := "remuda/remudalaw21.NestFlat", spec := "nestFlat", unfollowed := true, recurses := true, apart := false }
def NestFlatSaid : Prop := nestFlatRow.holds Try.pinned (OpenSpec.ofChange nestFlatSpec)

/-- ITS FALSE NEIGHBOUR: 'it returns false'. Refute it at one input. -/
def nestFlatWrong : ChangeSpec := { name := "nestFlat", fn := fun _ => fun
  | [d] => { results := [.lit (.bool false)], args := [d] }
  | _ => none }
def NestFlatWrongFalsely : Prop := nestFlatRow.holds Try.pinned (OpenSpec.ofChange nestFlatWrong)

/- THE SECOND FORM. 'bulk': how many values and letters a reading holds, each counted each time it is reached (what is shared counts as often as it is met; a slice's spare places count too). A statement '..UptoSaid' is the law's where the arguments, and the package variables that the reading takes, are together of bulk at most 1048576: NARROWER than '..Said'. Prove '..Said' where nothing that the law and all that it calls make is longer than what came in: it says more and counts as full. Else prove '..UptoSaid'. A law counts once. -/
mutual
def uptoBulk {H : Type} : DataW H → Nat
  | .lit (.string bytes) => bytes.length + 1
  | .lit _ => 1
  | .nil => 1
  | .ptr d => uptoBulk d + 1
  | .slice elems spare => uptoBulkAll elems + uptoBulkAll spare + 1
  | .agg parts => uptoBulkAll parts + 1
  | .iface _ d => uptoBulk d + 1
  | .map entries => uptoBulkEntries entries + 1
  | .held _ => 1
def uptoBulkAll {H : Type} : List (DataW H) → Nat
  | [] => 0
  | d :: r => uptoBulk d + uptoBulkAll r
def uptoBulkEntries {H : Type} : List (Lit × DataW H) → Nat
  | [] => 0
  | x :: r => uptoBulkEntry x + uptoBulkEntries r
def uptoBulkEntry {H : Type} : Lit × DataW H → Nat
  | (.string bytes, d) => bytes.length + uptoBulk d + 1
  | (_, d) => uptoBulk d + 1
 end
def uptoSmall : (H : Type) → List (DataW H) → Bool := fun _ ds => decide (uptoBulkAll ds ≤ 1048576)
def OpenSpec.upto (s : _root_.Go.ChangeSpec) : _root_.Go.OpenSpec := { _root_.Go.OpenSpec.ofChange s with cond := some uptoSmall }

/-- 'remudalaw21.NestUndoes', WHERE WHAT IT READS IS OF BULK AT MOST 1048576: true; the input reads as it did. -/
def nestUndoesUptoRow : OpenClaim := { program := "ytggkejkleficoaa", sum := "003de7eadb65bba71dece63b25529c564af033529743dbc48ec9ec8012a3eb76", func := "remuda/remudalaw21.NestUndoes", spec := "nestUndoes", unfollowed := true, recurses := true, apart := false, narrowed := true }
def NestUndoesUptoSaid : Prop := nestUndoesUptoRow.holds Try.pinned (OpenSpec.upto nestUndoesSpec)

/-- 'remudalaw21.NestPlays', WHERE WHAT IT READS IS OF BULK AT MOST 1048576: true; the input reads as it did. -/
def nestPlaysUptoRow : OpenClaim := { program := "ytggkejkleficoaa", sum := "003de7eadb65bba71dece63b25529c564af033529743dbc48ec9ec8012a3eb76", func := "remuda/remudalaw21.NestPlays", spec := "nestPlays", unfollowed := true, recurses := true, apart := false, narrowed := true }
def NestPlaysUptoSaid : Prop := nestPlaysUptoRow.holds Try.pinned (OpenSpec.upto nestPlaysSpec)

/-- 'remudalaw21.NestNone', WHERE WHAT IT READS IS OF BULK AT MOST 1048576: true; the input reads as it did. -/
def nestNoneUptoRow : OpenClaim := { program := "ytggkejkleficoaa", sum := "003de7eadb65bba71dece63b25529c564af033529743dbc48ec9ec8012a3eb76", func := "remuda/remudalaw21.NestNone", spec := "nestNone", unfollowed := true, recurses := true, apart := false, narrowed := true }
def NestNoneUptoSaid : Prop := nestNoneUptoRow.holds Try.pinned (OpenSpec.upto nestNoneSpec)

/-- 'remudalaw21.NestFlat', WHERE WHAT IT READS IS OF BULK AT MOST 1048576: true; the input reads as it did. -/
def nestFlatUptoRow : OpenClaim := { program := "ytggkejkleficoaa", sum := "003de7eadb65bba71dece63b25529c564af033529743dbc48ec9ec8012a3eb76", func := "remuda/remudalaw21.NestFlat", spec := "nestFlat", unfollowed := true, recurses := true, apart := false, narrowed := true }
def NestFlatUptoSaid : Prop := nestFlatUptoRow.holds Try.pinned (OpenSpec.upto nestFlatSpec)

end Rows
end Go.Proofs.Ytggkejkleficoaa
