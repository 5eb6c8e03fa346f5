/-
  No cell of these rows narrows 'for every input' (looked for: loops, veiled, ifaces, maps, wideKeys, modest, calm, conditions, laid).
  DERIVED. THE GIVEN ROWS OF THIS SEAT. 5 by the template 'for every input the law returns true; each argument reads behind the call as it read before'; 0 by the template 'total and deterministic' (their statements: YtdmkijdbldcdiaaTotals.lean).
  GIVEN WITH THE SEED: the statements are not yours to turn. If you find one false, say at which input.
  Laid BY PROGRAM, IN A SANDBOX (cutbox-rows.mjs): the forced cells as the released guide's own fill.sh prints them over the translation b09dec834a304398… (all of the seat's roots in one cut). By AI agents, Wed Nov 11 2026. No macro, syntax, notation, axiom, sorry.
-/
import Derived.Test.YtdmkijdbldcdiaaChecked
import GoSem.Claim
import GoSem.ClaimJoined
import GoSem.ClaimMapViews
import Derived.JoinedTies
import Derived.KernelRfl
namespace Go.Proofs.Ytdmkijdbldcdiaa
/- THE CELL 'sum', in the pinned program and in every row, IS THE sha256 OF THE DUMP (.gsa) THAT YtdmkijdbldcdiaaProg.lean LOADS. Nothing in Lean hashes anything: it is a label: what it is worth is what the hold of that sum in a sandbox is worth. -/
noncomputable def Try.pinned : Pinned := { name := "ytdmkijdbldcdiaa", sum := "b09dec834a30439829acddb083d140ec7a18d572bf15036eff03603f850e3e51", checked := Try.checked }
namespace Rows
def none {H : Type} : Left H := { results := [], args := [] }

/-- 'remudalaw08.LedgerMany': WHATEVER THE INPUT: true; the input reads as it did. -/
def ledgerManySpec : ChangeSpec := { name := "ledgerMany", fn := fun _ => fun
  | [d1, d2, d3] => { results := [.lit (.bool true)], args := [d1, d2, d3] }
  | _ => none }
def ledgerManyRow : OpenClaim := { program := "ytdmkijdbldcdiaa", sum := "b09dec834a30439829acddb083d140ec7a18d572bf15036eff03603f850e3e51", func := "remuda/remudalaw08.LedgerMany", spec := "ledgerMany", inPlace := ["slices.overlaps[remuda/ledger.Prepared]", "slices.overlaps[remuda/ledger.Decided]"], unfollowed := true, recurses := true, apart := false }
def LedgerManySaid : Prop := ledgerManyRow.holds Try.pinned (OpenSpec.ofChange ledgerManySpec)

/-- ITS FALSE NEIGHBOUR: 'it returns false'. Refute it at one input. -/
def ledgerManyWrong : ChangeSpec := { name := "ledgerMany", fn := fun _ => fun
  | [d1, d2, d3] => { results := [.lit (.bool false)], args := [d1, d2, d3] }
  | _ => none }
def LedgerManyWrongFalsely : Prop := ledgerManyRow.holds Try.pinned (OpenSpec.ofChange ledgerManyWrong)

/-- 'remudalaw08.LedgerStays': WHATEVER THE INPUT: true; the input reads as it did. -/
def ledgerStaysSpec : ChangeSpec := { name := "ledgerStays", fn := fun _ => fun
  | [d1, d2] => { results := [.lit (.bool true)], args := [d1, d2] }
  | _ => none }
def ledgerStaysRow : OpenClaim := { program := "ytdmkijdbldcdiaa", sum := "b09dec834a30439829acddb083d140ec7a18d572bf15036eff03603f850e3e51", func := "remuda/remudalaw08.LedgerStays", spec := "ledgerStays", inPlace := ["slices.overlaps[remuda/ledger.Prepared]", "slices.overlaps[remuda/ledger.Decided]"], unfollowed := true, recurses := true, apart := false }
def LedgerStaysSaid : Prop := ledgerStaysRow.holds Try.pinned (OpenSpec.ofChange ledgerStaysSpec)

/-- ITS FALSE NEIGHBOUR: 'it returns false'. Refute it at one input. -/
def ledgerStaysWrong : ChangeSpec := { name := "ledgerStays", fn := fun _ => fun
  | [d1, d2] => { results := [.lit (.bool false)], args := [d1, d2] }
  | _ => none }
def LedgerStaysWrongFalsely : Prop := ledgerStaysRow.holds Try.pinned (OpenSpec.ofChange ledgerStaysWrong)

/-- 'remudalaw08.LedgerFinishes': WHATEVER THE INPUT: true; the input reads as it did. -/
def ledgerFinishesSpec : ChangeSpec := { name := "ledgerFinishes", fn := fun _ => fun
  | [d1, d2, d3] => { results := [.lit (.bool true)], args := [d1, d2, d3] }
  | _ => none }
def ledgerFinishesRow : OpenClaim := { program := "ytdmkijdbldcdiaa", sum := "b09dec834a30439829acddb083d140ec7a18d572bf15036eff03603f850e3e51", func := "remuda/remudalaw08.LedgerFinishes", spec := "ledgerFinishes", inPlace := ["slices.overlaps[remuda/ledger.Prepared]", "slices.overlaps[remuda/ledger.Decided]"], unfollowed := true, recurses := true, apart := false }
def LedgerFinishesSaid : Prop := ledgerFinishesRow.holds Try.pinned (OpenSpec.ofChange ledgerFinishesSpec)

/-- ITS FALSE NEIGHBOUR: 'it returns false'. Refute it at one input. -/
def ledgerFinishesWrong : ChangeSpec := { name := "ledgerFinishes", fn := fun _ => fun
  | [d1, d2, d3] => { results := [.lit (.bool false)], args := [d1, d2, d3] }
  | _ => none }
def LedgerFinishesWrongFalsely : Prop := ledgerFinishesRow.holds Try.pinned (OpenSpec.ofChange ledgerFinishesWrong)

/-- 'remudalaw08.LedgerMoves': WHATEVER THE INPUT: true; the input reads as it did. -/
def ledgerMovesSpec : ChangeSpec := { name := "ledgerMoves", fn := fun _ => fun
  | [d1, d2] => { results := [.lit (.bool true)], args := [d1, d2] }
  | _ => none }
def ledgerMovesRow : OpenClaim := { program := "ytdmkijdbldcdiaa", sum := "b09dec834a30439829acddb083d140ec7a18d572bf15036eff03603f850e3e51", func := "remuda/remudalaw08.LedgerMoves", spec := "ledgerMoves", inPlace := ["slices.overlaps[remuda/ledger.Prepared]", "slices.overlaps[remuda/ledger.Decided]"], unfollowed := true, recurses := true, apart := false }
def LedgerMovesSaid : Prop := ledgerMovesRow.holds Try.pinned (OpenSpec.ofChange ledgerMovesSpec)

/-- ITS FALSE NEIGHBOUR: 'it returns false'. Refute it at one input. -/
def ledgerMovesWrong : ChangeSpec := { name := "ledgerMoves", fn := fun _ => fun
  | [d1, d2] => { results := [.lit (.bool false)], args := [d1, d2] }
  | _ => none }
def LedgerMovesWrongFalsely : Prop := ledgerMovesRow.holds Try.pinned (OpenSpec.ofChange ledgerMovesWrong)

/-- 'remudalaw08.LedgerAgain': WHATEVER THE INPUT: true; the input reads as it did. -/
def ledgerAgainSpec : ChangeSpec := { name := "ledgerAgain", fn := fun _ => fun
  | [d1, d2, d3] => { results := [.lit (.bool true)], args := [d1, d2, d3] }
  | _ => none }
def ledgerAgainRow : OpenClaim := { program := "ytdmkijdbldcdiaa", sum := "b09dec834a30439829acddb083d140ec7a18d572bf15036eff03603f850e3e51", func := "remuda/remudalaw08.LedgerAgain", spec := "ledgerAgain", inPlace := ["slices.overlaps[remuda/ledger.Prepared]", "slices.overlaps[remuda/ledger.Decided]"], unfollowed := true, recurses := true, apart := false }
def LedgerAgainSaid : Prop := ledgerAgainRow.holds Try.pinned (OpenSpec.ofChange ledgerAgainSpec)

/-- ITS FALSE NEIGHBOUR: 'it returns false'. Refute it at one input. -/
def ledgerAgainWrong : ChangeSpec := { name := "ledgerAgain", fn := fun _ => fun
  | [d1, d2, d3] => { results := [.lit (.bool false)], args := [d1, d2, d3] }
  | _ => none }
def LedgerAgainWrongFalsely : Prop := ledgerAgainRow.holds Try.pinned (OpenSpec.ofChange ledgerAgainWrong)

/- THE SECOND FORM. 'bulk': how many values and letters a reading holds, each counted each time it is reached (what is shared counts as often as it is met; a slice's spare places count too). A statement '..UptoSaid' is the law's where the arguments, and the package variables that the reading takes, are together of bulk at most 1048576: NARROWER than '..Said'. Prove '..Said' where nothing that the law and all that it calls make is longer than what came in: it says more and counts as full. Else prove '..UptoSaid'. A law counts once. -/
mutual
def uptoBulk {H : Type} : DataW H → Nat
  | .lit (.string bytes) => bytes.length + 1
  | .lit _ => 1
  | .nil => 1
  | .ptr d => uptoBulk d + 1
  | .slice elems spare => uptoBulkAll elems + uptoBulkAll spare + 1
  | .agg parts => uptoBulkAll parts + 1
  | .iface _ d => uptoBulk d + 1
  | .map entries => uptoBulkEntries entries + 1
  | .held _ => 1
def uptoBulkAll {H : Type} : List (DataW H) → Nat
  | [] => 0
  | d :: r => uptoBulk d + uptoBulkAll r
def uptoBulkEntries {H : Type} : List (Lit × DataW H) → Nat
  | [] => 0
  | x :: r => uptoBulkEntry x + uptoBulkEntries r
def uptoBulkEntry {H : Type} : Lit × DataW H → Nat
  | (.string bytes, d) => bytes.length + uptoBulk d + 1
  | (_, d) => uptoBulk d + 1
 end
def uptoSmall : (H : Type) → List (DataW H) → Bool := fun _ ds => decide (uptoBulkAll ds ≤ 1048576)
def OpenSpec.upto (s : _root_.Go.ChangeSpec) : _root_.Go.OpenSpec := { _root_.Go.OpenSpec.ofChange s with cond := some uptoSmall }

/-- 'remudalaw08.LedgerMany', WHERE WHAT IT READS IS OF BULK AT MOST 1048576: true; the input reads as it did. -/
def ledgerManyUptoRow : OpenClaim := { program := "ytdmkijdbldcdiaa", sum := "b09dec834a30439829acddb083d140ec7a18d572bf15036eff03603f850e3e51", func := "remuda/remudalaw08.LedgerMany", spec := "ledgerMany", inPlace := ["slices.overlaps[remuda/ledger.Prepared]", "slices.overlaps[remuda/ledger.Decided]"], unfollowed := true, recurses := true, apart := false, narrowed := true }
def LedgerManyUptoSaid : Prop := ledgerManyUptoRow.holds Try.pinned (OpenSpec.upto ledgerManySpec)

/-- 'remudalaw08.LedgerStays', WHERE WHAT IT READS IS OF BULK AT MOST 1048576: true; the input reads as it did. -/
def ledgerStaysUptoRow : OpenClaim := { program := "ytdmkijdbldcdiaa", sum := "b09dec834a30439829acddb083d140ec7a18d572bf15036eff03603f850e3e51", func := "remuda/remudalaw08.LedgerStays", spec := "ledgerStays", inPlace := ["slices.overlaps[remuda/ledger.Prepared]", "slices.overlaps[remuda/ledger.Decided]"], unfollowed := true, recurses := true, apart := false, narrowed := true }
def LedgerStaysUptoSaid : Prop := ledgerStaysUptoRow.holds Try.pinned (OpenSpec.upto ledgerStaysSpec)

/-- 'remudalaw08.LedgerFinishes', WHERE WHAT IT READS IS OF BULK AT MOST 1048576: true; the input reads as it did. -/
def ledgerFinishesUptoRow : OpenClaim := { program := "ytdmkijdbldcdiaa", sum := "b09dec834a30439829acddb083d140ec7a18d572bf15036eff03603f850e3e51", func := "remuda/remudalaw08.LedgerFinishes", spec := "ledgerFinishes", inPlace := ["slices.overlaps[remuda/ledger.Prepared]", "slices.overlaps[remuda/ledger.Decided]"], unfollowed := true, recurses := true, apart := false, narrowed := true }
def LedgerFinishesUptoSaid : Prop := ledgerFinishesUptoRow.holds Try.pinned (OpenSpec.upto ledgerFinishesSpec)

/-- 'remudalaw08.LedgerMoves', WHERE WHAT IT READS IS OF BULK AT MOST 1048576: true; the input reads as it did. -/
def ledgerMovesUptoRow : OpenClaim := { program := "ytdmkijdbldcdiaa", sum := "b09dec834a30439829acddb083d140ec7a18d572bf15036eff03603f850e3e51", func := "remuda/remudalaw08.LedgerMoves", spec := "ledgerMoves", inPlace := ["slices.overlaps[remuda/ledger.Prepared]", "slices.overlaps[remuda/ledger.Decided]"], unfollowed := true, recurses := true, apart := false, narrowed := true }
def LedgerMovesUptoSaid : Prop := ledgerMovesUptoRow.holds Try.pinned (OpenSpec.upto ledgerMovesSpec)

/-- 'remudalaw08.LedgerAgain', WHERE WHAT IT READS IS OF BULK AT MOST 1048576: true; the input reads as it did. -/
def ledgerAgainUptoRow : OpenClaim := { program := "ytdmkijdbldcdiaa", sum := "b09dec834a30439829acddb083d140ec7a18d572bf15036eff03603f850e3e51", func := "remuda/remudalaw08.LedgerAgain", spec := "ledgerAgain", inPlace := ["slices.overlaps[remuda/ledger.Prepared]", "slices.overlaps[remuda/ledger.Decided]"], unfollowed := true, recurses := true, apart := false, narrowed := true }
def LedgerAgainUptoSaid : Prop := ledgerAgainUptoRow.holds Try.pinned (OpenSpec.upto ledgerAgainSpec)

end Rows
end Go.Proofs.Ytdmkijdbldcdiaa
