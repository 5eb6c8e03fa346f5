/-
  No cell of these rows narrows 'for every input' (looked for: loops, veiled, ifaces, maps, wideKeys, modest, calm, conditions, laid).
  DERIVED. THE GIVEN ROWS OF THIS SEAT. 4 by the template 'for every input the law returns true; each argument reads behind the call as it read before'; 0 by the template 'total and deterministic' (their statements: YtgmhopkajopfcaaTotals.lean).
  GIVEN WITH THE SEED: the statements are not yours to turn. If you find one false, say at which input.
  Laid BY PROGRAM, IN A SANDBOX (cutbox-rows.mjs): the forced cells as the released guide's own fill.sh prints them over the translation 0941655f23363a30… (all of the seat's roots in one cut). By AI agents, Wed Nov 11 2026. No macro, syntax, notation, axiom, sorry.
-/
import Derived.Test.YtgmhopkajopfcaaChecked
import GoSem.Claim
import GoSem.ClaimJoined
import GoSem.ClaimMapViews
import Derived.JoinedTies
import Derived.KernelRfl
namespace Go.Proofs.Ytgmhopkajopfcaa
/- THE CELL 'sum', in the pinned program and in every row, IS THE sha256 OF THE DUMP (.gsa) THAT YtgmhopkajopfcaaProg.lean LOADS. Nothing in Lean hashes anything: it is a label: what it is worth is what the hold of that sum in a sandbox is worth. -/
noncomputable def Try.pinned : Pinned := { name := "ytgmhopkajopfcaa", sum := "0941655f23363a309e74a71bbe2fb669fcda9d509ec769705c358f96b38ba7a4", checked := Try.checked }
namespace Rows
def none {H : Type} : Left H := { results := [], args := [] }

/-- 'remudalaw22.RunAhead': WHATEVER THE INPUT: true; the input reads as it did. -/
def runAheadSpec : ChangeSpec := { name := "runAhead", fn := fun _ => fun
  | [d1, d2, d3] => { results := [.lit (.bool true)], args := [d1, d2, d3] }
  | _ => none }
def runAheadRow : OpenClaim := { program := "ytgmhopkajopfcaa", sum := "0941655f23363a309e74a71bbe2fb669fcda9d509ec769705c358f96b38ba7a4", func := "remuda/remudalaw22.RunAhead", spec := "runAhead", unfollowed := true, recurses := true, apart := false }
def RunAheadSaid : Prop := runAheadRow.holds Try.pinned (OpenSpec.ofChange runAheadSpec)

/-- ITS FALSE NEIGHBOUR: 'it returns false'. Refute it at one input. -/
def runAheadWrong : ChangeSpec := { name := "runAhead", fn := fun _ => fun
  | [d1, d2, d3] => { results := [.lit (.bool false)], args := [d1, d2, d3] }
  | _ => none }
def RunAheadWrongFalsely : Prop := runAheadRow.holds Try.pinned (OpenSpec.ofChange runAheadWrong)

/-- 'remudalaw22.RunComes': WHATEVER THE INPUT: true; the input reads as it did. -/
def runComesSpec : ChangeSpec := { name := "runComes", fn := fun _ => fun
  | [d1, d2, d3] => { results := [.lit (.bool true)], args := [d1, d2, d3] }
  | _ => none }
def runComesRow : OpenClaim := { program := "ytgmhopkajopfcaa", sum := "0941655f23363a309e74a71bbe2fb669fcda9d509ec769705c358f96b38ba7a4", func := "remuda/remudalaw22.RunComes", spec := "runComes", unfollowed := true, recurses := true, apart := false }
def RunComesSaid : Prop := runComesRow.holds Try.pinned (OpenSpec.ofChange runComesSpec)

/-- ITS FALSE NEIGHBOUR: 'it returns false'. Refute it at one input. -/
def runComesWrong : ChangeSpec := { name := "runComes", fn := fun _ => fun
  | [d1, d2, d3] => { results := [.lit (.bool false)], args := [d1, d2, d3] }
  | _ => none }
def RunComesWrongFalsely : Prop := runComesRow.holds Try.pinned (OpenSpec.ofChange runComesWrong)

/-- 'remudalaw22.RunStays': WHATEVER THE INPUT: true; the input reads as it did. -/
def runStaysSpec : ChangeSpec := { name := "runStays", fn := fun _ => fun
  | [d1, d2, d3] => { results := [.lit (.bool true)], args := [d1, d2, d3] }
  | _ => none }
def runStaysRow : OpenClaim := { program := "ytgmhopkajopfcaa", sum := "0941655f23363a309e74a71bbe2fb669fcda9d509ec769705c358f96b38ba7a4", func := "remuda/remudalaw22.RunStays", spec := "runStays", unfollowed := true, recurses := true, apart := false }
def RunStaysSaid : Prop := runStaysRow.holds Try.pinned (OpenSpec.ofChange runStaysSpec)

/-- ITS FALSE NEIGHBOUR: 'it returns false'. Refute it at one input. -/
def runStaysWrong : ChangeSpec := { name := "runStays", fn := fun _ => fun
  | [d1, d2, d3] => { results := [.lit (.bool false)], args := [d1, d2, d3] }
  | _ => none }
def RunStaysWrongFalsely : Prop := runStaysRow.holds Try.pinned (OpenSpec.ofChange runStaysWrong)

/-- 'remudalaw22.RunReads': WHATEVER THE INPUT: true; the input reads as it did. -/
def runReadsSpec : ChangeSpec := { name := "runReads", fn := fun _ => fun
  | [d1, d2, d3] => { results := [.lit (.bool true)], args := [d1, d2, d3] }
  | _ => none }
def runReadsRow : OpenClaim := { program := "ytgmhopkajopfcaa", sum := "0941655f23363a309e74a71bbe2fb669fcda9d509ec769705c358f96b38ba7a4", func := "remuda/remudalaw22.RunReads", spec := "runReads", unfollowed := true, recurses := true, apart := false }
def RunReadsSaid : Prop := runReadsRow.holds Try.pinned (OpenSpec.ofChange runReadsSpec)

/-- ITS FALSE NEIGHBOUR: 'it returns false'. Refute it at one input. -/
def runReadsWrong : ChangeSpec := { name := "runReads", fn := fun _ => fun
  | [d1, d2, d3] => { results := [.lit (.bool false)], args := [d1, d2, d3] }
  | _ => none }
def RunReadsWrongFalsely : Prop := runReadsRow.holds Try.pinned (OpenSpec.ofChange runReadsWrong)

/- THE SECOND FORM. 'bulk': how many values and letters a reading holds, each counted each time it is reached (what is shared counts as often as it is met; a slice's spare places count too). A statement '..UptoSaid' is the law's where the arguments, and the package variables that the reading takes, are together of bulk at most 1048576: NARROWER than '..Said'. Prove '..Said' where nothing that the law and all that it calls make is longer than what came in: it says more and counts as full. Else prove '..UptoSaid'. A law counts once. -/
mutual
def uptoBulk {H : Type} : DataW H → Nat
  | .lit (.string bytes) => bytes.length + 1
  | .lit _ => 1
  | .nil => 1
  | .ptr d => uptoBulk d + 1
  | .slice elems spare => uptoBulkAll elems + uptoBulkAll spare + 1
  | .agg parts => uptoBulkAll parts + 1
  | .iface _ d => uptoBulk d + 1
  | .map entries => uptoBulkEntries entries + 1
  | .held _ => 1
def uptoBulkAll {H : Type} : List (DataW H) → Nat
  | [] => 0
  | d :: r => uptoBulk d + uptoBulkAll r
def uptoBulkEntries {H : Type} : List (Lit × DataW H) → Nat
  | [] => 0
  | x :: r => uptoBulkEntry x + uptoBulkEntries r
def uptoBulkEntry {H : Type} : Lit × DataW H → Nat
  | (.string bytes, d) => bytes.length + uptoBulk d + 1
  | (_, d) => uptoBulk d + 1
 end
def uptoSmall : (H : Type) → List (DataW H) → Bool := fun _ ds => decide (uptoBulkAll ds ≤ 1048576)
def OpenSpec.upto (s : _root_.Go.ChangeSpec) : _root_.Go.OpenSpec := { _root_.Go.OpenSpec.ofChange s with cond := some uptoSmall }

/-- 'remudalaw22.RunAhead', WHERE WHAT IT READS IS OF BULK AT MOST 1048576: true; the input reads as it did. -/
def runAheadUptoRow : OpenClaim := { program := "ytgmhopkajopfcaa", sum := "0941655f23363a309e74a71bbe2fb669fcda9d509ec769705c358f96b38ba7a4", func := "remuda/remudalaw22.RunAhead", spec := "runAhead", unfollowed := true, recurses := true, apart := false, narrowed := true }
def RunAheadUptoSaid : Prop := runAheadUptoRow.holds Try.pinned (OpenSpec.upto runAheadSpec)

/-- 'remudalaw22.RunComes', WHERE WHAT IT READS IS OF BULK AT MOST 1048576: true; the input reads as it did. -/
def runComesUptoRow : OpenClaim := { program := "ytgmhopkajopfcaa", sum := "0941655f23363a309e74a71bbe2fb669fcda9d509ec769705c358f96b38ba7a4", func := "remuda/remudalaw22.RunComes", spec := "runComes", unfollowed := true, recurses := true, apart := false, narrowed := true }
def RunComesUptoSaid : Prop := runComesUptoRow.holds Try.pinned (OpenSpec.upto runComesSpec)

/-- 'remudalaw22.RunStays', WHERE WHAT IT READS IS OF BULK AT MOST 1048576: true; the input reads as it did. -/
def runStaysUptoRow : OpenClaim := { program := "ytgmhopkajopfcaa", sum := "0941655f23363a309e74a71bbe2fb669fcda9d509ec769705c358f96b38ba7a4", func := "remuda/remudalaw22.RunStays", spec := "runStays", unfollowed := true, recurses := true, apart := false, narrowed := true }
def RunStaysUptoSaid : Prop := runStaysUptoRow.holds Try.pinned (OpenSpec.upto runStaysSpec)

/-- 'remudalaw22.RunReads', WHERE WHAT IT READS IS OF BULK AT MOST 1048576: true; the input reads as it did. -/
def runReadsUptoRow : OpenClaim := { program := "ytgmhopkajopfcaa", sum := "0941655f23363a309e74a71bbe2fb669fcda9d509ec769705c358f96b38ba7a4", func := "remuda/remudalaw22.RunReads", spec := "runReads", unfollowed := true, recurses := true, apart := false, narrowed := true }
def RunReadsUptoSaid : Prop := runReadsUptoRow.holds Try.pinned (OpenSpec.upto runReadsSpec)

end Rows
end Go.Proofs.Ytgmhopkajopfcaa
