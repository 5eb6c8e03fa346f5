/-
  NARROWER THAN 'FOR EVERY INPUT', by the rows' own cells (each row's printed sentence says how): TellWords: laid · TellCalls: laid · ProgUnlike: laid · ProgCuts: laid · ProgNests: laid · ProgReads: laid · ProgBytes: laid.
  DERIVED. THE GIVEN ROWS OF THIS SEAT. 7 by the template 'for every input the law returns true; each argument reads behind the call as it read before'; 0 by the template 'total and deterministic' (their statements: YtihibljjbdjeoaaDoorTotals.lean).
  GIVEN WITH THE SEED: the statements are not yours to turn. If you find one false, say at which input.
  Laid BY PROGRAM, IN A SANDBOX (cutbox-rows.mjs): the forced cells as the released guide's own fill.sh prints them over the translation 7fad9b1d94c807a2… (all of the seat's roots in one cut). By AI agents, Wed Nov 11 2026. No macro, syntax, notation, axiom, sorry.
-/
import Derived.Test.YtihibljjbdjeoaaDoorChecked
import GoSem.Claim
import GoSem.ClaimJoined
import GoSem.ClaimMapViews
import Derived.JoinedTies
import Derived.KernelRfl
namespace Go.Proofs.YtihibljjbdjeoaaDoor
/- THE CELL 'sum', in the pinned program and in every row, IS THE sha256 OF THE DUMP (.gsa) THAT YtihibljjbdjeoaaDoorProg.lean LOADS. Nothing in Lean hashes anything: it is a label: what it is worth is what the hold of that sum in a sandbox is worth. -/
noncomputable def Tryd.pinned : Pinned := { name := "ytihibljjbdjeoaadoor", sum := "7fad9b1d94c807a2ebcdaffa5b73b423572427b1d2750b0e4dec6387f4426568", checked := Tryd.checked }
namespace Rows
def none {H : Type} : Left H := { results := [], args := [] }

/- WHAT THE LISTED PACKAGE-LEVEL VARIABLES READ AS WHEN THE CALL BEGINS. Each datum BY PROGRAM (the guide's laid-datum.mjs) off the statement by which the dump's own 'gosem.cut.vars' lays the variable. In a bare row this is a premise. The card (YtihibljjbdjeoaaDoorCards.lean) ties it to the program's text. -/
def laid_math_bits_deBruijn32tab {H : Type} : DataW H := .agg [.lit (.int .u8 0), .lit (.int .u8 1), .lit (.int .u8 28), .lit (.int .u8 2), .lit (.int .u8 29), .lit (.int .u8 14), .lit (.int .u8 24), .lit (.int .u8 3), .lit (.int .u8 30), .lit (.int .u8 22), .lit (.int .u8 20), .lit (.int .u8 15), .lit (.int .u8 25), .lit (.int .u8 17), .lit (.int .u8 4), .lit (.int .u8 8), .lit (.int .u8 31), .lit (.int .u8 27), .lit (.int .u8 13), .lit (.int .u8 23), .lit (.int .u8 21), .lit (.int .u8 19), .lit (.int .u8 16), .lit (.int .u8 7), .lit (.int .u8 26), .lit (.int .u8 12), .lit (.int .u8 18), .lit (.int .u8 6), .lit (.int .u8 11), .lit (.int .u8 5), .lit (.int .u8 10), .lit (.int .u8 9)]
def laid_math_bits_deBruijn64tab {H : Type} : DataW H := .agg [.lit (.int .u8 0), .lit (.int .u8 1), .lit (.int .u8 56), .lit (.int .u8 2), .lit (.int .u8 57), .lit (.int .u8 49), .lit (.int .u8 28), .lit (.int .u8 3), .lit (.int .u8 61), .lit (.int .u8 58), .lit (.int .u8 42), .lit (.int .u8 50), .lit (.int .u8 38), .lit (.int .u8 29), .lit (.int .u8 17), .lit (.int .u8 4), .lit (.int .u8 62), .lit (.int .u8 47), .lit (.int .u8 59), .lit (.int .u8 36), .lit (.int .u8 45), .lit (.int .u8 43), .lit (.int .u8 51), .lit (.int .u8 22), .lit (.int .u8 53), .lit (.int .u8 39), .lit (.int .u8 33), .lit (.int .u8 30), .lit (.int .u8 24), .lit (.int .u8 18), .lit (.int .u8 12), .lit (.int .u8 5), .lit (.int .u8 63), .lit (.int .u8 55), .lit (.int .u8 48), .lit (.int .u8 27), .lit (.int .u8 60), .lit (.int .u8 41), .lit (.int .u8 37), .lit (.int .u8 16), .lit (.int .u8 46), .lit (.int .u8 35), .lit (.int .u8 44), .lit (.int .u8 21), .lit (.int .u8 52), .lit (.int .u8 32), .lit (.int .u8 23), .lit (.int .u8 11), .lit (.int .u8 54), .lit (.int .u8 26), .lit (.int .u8 40), .lit (.int .u8 15), .lit (.int .u8 34), .lit (.int .u8 20), .lit (.int .u8 31), .lit (.int .u8 10), .lit (.int .u8 25), .lit (.int .u8 14), .lit (.int .u8 19), .lit (.int .u8 9), .lit (.int .u8 13), .lit (.int .u8 8), .lit (.int .u8 7), .lit (.int .u8 6)]
def laid_internal_strconv_uint64pow10 {H : Type} : DataW H := .agg [.lit (.int .u64 1), .lit (.int .u64 10), .lit (.int .u64 100), .lit (.int .u64 1000), .lit (.int .u64 10000), .lit (.int .u64 100000), .lit (.int .u64 1000000), .lit (.int .u64 10000000), .lit (.int .u64 100000000), .lit (.int .u64 1000000000), .lit (.int .u64 10000000000), .lit (.int .u64 100000000000), .lit (.int .u64 1000000000000), .lit (.int .u64 10000000000000), .lit (.int .u64 100000000000000), .lit (.int .u64 1000000000000000), .lit (.int .u64 10000000000000000), .lit (.int .u64 100000000000000000), .lit (.int .u64 1000000000000000000), .lit (.int .u64 10000000000000000000)]

/-- 'remudalaw28.TellWords': WHATEVER THE INPUT: true; the input reads as it did. -/
def tellWordsSpec : ChangeSpec := { name := "tellWords", fn := fun _ => fun
  | [d1, d2, d3] => { results := [.lit (.bool true)], args := [d1, d2, d3] }
  | _ => none }
def tellWordsRow : OpenClaim := { program := "ytihibljjbdjeoaadoor", sum := "7fad9b1d94c807a2ebcdaffa5b73b423572427b1d2750b0e4dec6387f4426568", func := "remuda/remudalaw28.TellWords", spec := "tellWords", inPlace := ["internal/abi.NoEscape"], recurses := true, named := ["internal/strconv.uint64pow10", "math/bits.deBruijn32tab", "math/bits.deBruijn64tab"], apart := false, laid := [("math/bits.deBruijn32tab", laid_math_bits_deBruijn32tab), ("math/bits.deBruijn64tab", laid_math_bits_deBruijn64tab), ("internal/strconv.uint64pow10", laid_internal_strconv_uint64pow10)] }
def TellWordsSaid : Prop := tellWordsRow.holds Tryd.pinned (OpenSpec.ofChange tellWordsSpec)

/-- ITS FALSE NEIGHBOUR: 'it returns false'. Refute it at one input. -/
def tellWordsWrong : ChangeSpec := { name := "tellWords", fn := fun _ => fun
  | [d1, d2, d3] => { results := [.lit (.bool false)], args := [d1, d2, d3] }
  | _ => none }
def TellWordsWrongFalsely : Prop := tellWordsRow.holds Tryd.pinned (OpenSpec.ofChange tellWordsWrong)

/-- 'remudalaw28.TellCalls': WHATEVER THE INPUT: true; the input reads as it did. -/
def tellCallsSpec : ChangeSpec := { name := "tellCalls", fn := fun _ => fun
  | [d] => { results := [.lit (.bool true)], args := [d] }
  | _ => none }
def tellCallsRow : OpenClaim := { program := "ytihibljjbdjeoaadoor", sum := "7fad9b1d94c807a2ebcdaffa5b73b423572427b1d2750b0e4dec6387f4426568", func := "remuda/remudalaw28.TellCalls", spec := "tellCalls", inPlace := ["internal/abi.NoEscape"], recurses := true, named := ["internal/strconv.uint64pow10", "math/bits.deBruijn32tab", "math/bits.deBruijn64tab"], apart := false, laid := [("math/bits.deBruijn32tab", laid_math_bits_deBruijn32tab), ("math/bits.deBruijn64tab", laid_math_bits_deBruijn64tab), ("internal/strconv.uint64pow10", laid_internal_strconv_uint64pow10)] }
def TellCallsSaid : Prop := tellCallsRow.holds Tryd.pinned (OpenSpec.ofChange tellCallsSpec)

/-- ITS FALSE NEIGHBOUR: 'it returns false'. Refute it at one input. -/
def tellCallsWrong : ChangeSpec := { name := "tellCalls", fn := fun _ => fun
  | [d] => { results := [.lit (.bool false)], args := [d] }
  | _ => none }
def TellCallsWrongFalsely : Prop := tellCallsRow.holds Tryd.pinned (OpenSpec.ofChange tellCallsWrong)

/-- 'remudalaw20.ProgUnlike': WHATEVER THE INPUT: true; the input reads as it did. -/
def progUnlikeSpec : ChangeSpec := { name := "progUnlike", fn := fun _ => fun
  | [d1, d2] => { results := [.lit (.bool true)], args := [d1, d2] }
  | _ => none }
def progUnlikeRow : OpenClaim := { program := "ytihibljjbdjeoaadoor", sum := "7fad9b1d94c807a2ebcdaffa5b73b423572427b1d2750b0e4dec6387f4426568", func := "remuda/remudalaw20.ProgUnlike", spec := "progUnlike", inPlace := ["internal/abi.NoEscape"], unfollowed := true, recurses := true, named := ["internal/strconv.uint64pow10", "math/bits.deBruijn32tab", "math/bits.deBruijn64tab"], apart := false, laid := [("math/bits.deBruijn32tab", laid_math_bits_deBruijn32tab), ("math/bits.deBruijn64tab", laid_math_bits_deBruijn64tab), ("internal/strconv.uint64pow10", laid_internal_strconv_uint64pow10)] }
def ProgUnlikeSaid : Prop := progUnlikeRow.holds Tryd.pinned (OpenSpec.ofChange progUnlikeSpec)

/-- ITS FALSE NEIGHBOUR: 'it returns false'. Refute it at one input. -/
def progUnlikeWrong : ChangeSpec := { name := "progUnlike", fn := fun _ => fun
  | [d1, d2] => { results := [.lit (.bool false)], args := [d1, d2] }
  | _ => none }
def ProgUnlikeWrongFalsely : Prop := progUnlikeRow.holds Tryd.pinned (OpenSpec.ofChange progUnlikeWrong)

/-- 'remudalaw20.ProgCuts': WHATEVER THE INPUT: true; the input reads as it did. -/
def progCutsSpec : ChangeSpec := { name := "progCuts", fn := fun _ => fun
  | [d1, d2] => { results := [.lit (.bool true)], args := [d1, d2] }
  | _ => none }
def progCutsRow : OpenClaim := { program := "ytihibljjbdjeoaadoor", sum := "7fad9b1d94c807a2ebcdaffa5b73b423572427b1d2750b0e4dec6387f4426568", func := "remuda/remudalaw20.ProgCuts", spec := "progCuts", inPlace := ["internal/abi.NoEscape"], unfollowed := true, recurses := true, named := ["internal/strconv.uint64pow10", "math/bits.deBruijn32tab", "math/bits.deBruijn64tab"], apart := false, laid := [("math/bits.deBruijn32tab", laid_math_bits_deBruijn32tab), ("math/bits.deBruijn64tab", laid_math_bits_deBruijn64tab), ("internal/strconv.uint64pow10", laid_internal_strconv_uint64pow10)] }
def ProgCutsSaid : Prop := progCutsRow.holds Tryd.pinned (OpenSpec.ofChange progCutsSpec)

/-- ITS FALSE NEIGHBOUR: 'it returns false'. Refute it at one input. -/
def progCutsWrong : ChangeSpec := { name := "progCuts", fn := fun _ => fun
  | [d1, d2] => { results := [.lit (.bool false)], args := [d1, d2] }
  | _ => none }
def ProgCutsWrongFalsely : Prop := progCutsRow.holds Tryd.pinned (OpenSpec.ofChange progCutsWrong)

/-- 'remudalaw20.ProgNests': WHATEVER THE INPUT: true; the input reads as it did. -/
def progNestsSpec : ChangeSpec := { name := "progNests", fn := fun _ => fun
  | [d1, d2] => { results := [.lit (.bool true)], args := [d1, d2] }
  | _ => none }
def progNestsRow : OpenClaim := { program := "ytihibljjbdjeoaadoor", sum := "7fad9b1d94c807a2ebcdaffa5b73b423572427b1d2750b0e4dec6387f4426568", func := "remuda/remudalaw20.ProgNests", spec := "progNests", inPlace := ["internal/abi.NoEscape"], unfollowed := true, recurses := true, named := ["internal/strconv.uint64pow10", "math/bits.deBruijn32tab", "math/bits.deBruijn64tab"], apart := false, laid := [("math/bits.deBruijn32tab", laid_math_bits_deBruijn32tab), ("math/bits.deBruijn64tab", laid_math_bits_deBruijn64tab), ("internal/strconv.uint64pow10", laid_internal_strconv_uint64pow10)] }
def ProgNestsSaid : Prop := progNestsRow.holds Tryd.pinned (OpenSpec.ofChange progNestsSpec)

/-- ITS FALSE NEIGHBOUR: 'it returns false'. Refute it at one input. -/
def progNestsWrong : ChangeSpec := { name := "progNests", fn := fun _ => fun
  | [d1, d2] => { results := [.lit (.bool false)], args := [d1, d2] }
  | _ => none }
def ProgNestsWrongFalsely : Prop := progNestsRow.holds Tryd.pinned (OpenSpec.ofChange progNestsWrong)

/-- 'remudalaw20.ProgReads': WHATEVER THE INPUT: true; the input reads as it did. -/
def progReadsSpec : ChangeSpec := { name := "progReads", fn := fun _ => fun
  | [d] => { results := [.lit (.bool true)], args := [d] }
  | _ => none }
def progReadsRow : OpenClaim := { program := "ytihibljjbdjeoaadoor", sum := "7fad9b1d94c807a2ebcdaffa5b73b423572427b1d2750b0e4dec6387f4426568", func := "remuda/remudalaw20.ProgReads", spec := "progReads", inPlace := ["internal/abi.NoEscape"], unfollowed := true, recurses := true, named := ["internal/strconv.uint64pow10", "math/bits.deBruijn32tab", "math/bits.deBruijn64tab"], apart := false, laid := [("math/bits.deBruijn32tab", laid_math_bits_deBruijn32tab), ("math/bits.deBruijn64tab", laid_math_bits_deBruijn64tab), ("internal/strconv.uint64pow10", laid_internal_strconv_uint64pow10)] }
def ProgReadsSaid : Prop := progReadsRow.holds Tryd.pinned (OpenSpec.ofChange progReadsSpec)

/-- ITS FALSE NEIGHBOUR: 'it returns false'. Refute it at one input. -/
def progReadsWrong : ChangeSpec := { name := "progReads", fn := fun _ => fun
  | [d] => { results := [.lit (.bool false)], args := [d] }
  | _ => none }
def ProgReadsWrongFalsely : Prop := progReadsRow.holds Tryd.pinned (OpenSpec.ofChange progReadsWrong)

/-- 'remudalaw20.ProgBytes': WHATEVER THE INPUT: true; the input reads as it did. -/
def progBytesSpec : ChangeSpec := { name := "progBytes", fn := fun _ => fun
  | [d] => { results := [.lit (.bool true)], args := [d] }
  | _ => none }
def progBytesRow : OpenClaim := { program := "ytihibljjbdjeoaadoor", sum := "7fad9b1d94c807a2ebcdaffa5b73b423572427b1d2750b0e4dec6387f4426568", func := "remuda/remudalaw20.ProgBytes", spec := "progBytes", inPlace := ["internal/abi.NoEscape"], unfollowed := true, recurses := true, named := ["internal/strconv.uint64pow10", "math/bits.deBruijn32tab", "math/bits.deBruijn64tab"], apart := false, laid := [("math/bits.deBruijn32tab", laid_math_bits_deBruijn32tab), ("math/bits.deBruijn64tab", laid_math_bits_deBruijn64tab), ("internal/strconv.uint64pow10", laid_internal_strconv_uint64pow10)] }
def ProgBytesSaid : Prop := progBytesRow.holds Tryd.pinned (OpenSpec.ofChange progBytesSpec)

/-- ITS FALSE NEIGHBOUR: 'it returns false'. Refute it at one input. -/
def progBytesWrong : ChangeSpec := { name := "progBytes", fn := fun _ => fun
  | [d] => { results := [.lit (.bool false)], args := [d] }
  | _ => none }
def ProgBytesWrongFalsely : Prop := progBytesRow.holds Tryd.pinned (OpenSpec.ofChange progBytesWrong)

/- THE SECOND FORM. 'bulk': how many values and letters a reading holds, each counted each time it is reached (what is shared counts as often as it is met; a slice's spare places count too). A statement '..UptoSaid' is the law's where the arguments, and the package variables that the reading takes, are together of bulk at most 1048576: NARROWER than '..Said'. Prove '..Said' where nothing that the law and all that it calls make is longer than what came in: it says more and counts as full. Else prove '..UptoSaid'. A law counts once. -/
mutual
def uptoBulk {H : Type} : DataW H → Nat
  | .lit (.string bytes) => bytes.length + 1
  | .lit _ => 1
  | .nil => 1
  | .ptr d => uptoBulk d + 1
  | .slice elems spare => uptoBulkAll elems + uptoBulkAll spare + 1
  | .agg parts => uptoBulkAll parts + 1
  | .iface _ d => uptoBulk d + 1
  | .map entries => uptoBulkEntries entries + 1
  | .held _ => 1
def uptoBulkAll {H : Type} : List (DataW H) → Nat
  | [] => 0
  | d :: r => uptoBulk d + uptoBulkAll r
def uptoBulkEntries {H : Type} : List (Lit × DataW H) → Nat
  | [] => 0
  | x :: r => uptoBulkEntry x + uptoBulkEntries r
def uptoBulkEntry {H : Type} : Lit × DataW H → Nat
  | (.string bytes, d) => bytes.length + uptoBulk d + 1
  | (_, d) => uptoBulk d + 1
 end
def uptoSmall : (H : Type) → List (DataW H) → Bool := fun _ ds => decide (uptoBulkAll ds ≤ 1048576)
def OpenSpec.upto (s : _root_.Go.ChangeSpec) : _root_.Go.OpenSpec := { _root_.Go.OpenSpec.ofChange s with cond := some uptoSmall }

/-- 'remudalaw28.TellWords', WHERE WHAT IT READS IS OF BULK AT MOST 1048576: true; the input reads as it did. -/
def tellWordsUptoRow : OpenClaim := { program := "ytihibljjbdjeoaadoor", sum := "7fad9b1d94c807a2ebcdaffa5b73b423572427b1d2750b0e4dec6387f4426568", func := "remuda/remudalaw28.TellWords", spec := "tellWords", inPlace := ["internal/abi.NoEscape"], recurses := true, named := ["internal/strconv.uint64pow10", "math/bits.deBruijn32tab", "math/bits.deBruijn64tab"], apart := false, laid := [("math/bits.deBruijn32tab", laid_math_bits_deBruijn32tab), ("math/bits.deBruijn64tab", laid_math_bits_deBruijn64tab), ("internal/strconv.uint64pow10", laid_internal_strconv_uint64pow10)], narrowed := true }
def TellWordsUptoSaid : Prop := tellWordsUptoRow.holds Tryd.pinned (OpenSpec.upto tellWordsSpec)

/-- 'remudalaw28.TellCalls', WHERE WHAT IT READS IS OF BULK AT MOST 1048576: true; the input reads as it did. -/
def tellCallsUptoRow : OpenClaim := { program := "ytihibljjbdjeoaadoor", sum := "7fad9b1d94c807a2ebcdaffa5b73b423572427b1d2750b0e4dec6387f4426568", func := "remuda/remudalaw28.TellCalls", spec := "tellCalls", inPlace := ["internal/abi.NoEscape"], recurses := true, named := ["internal/strconv.uint64pow10", "math/bits.deBruijn32tab", "math/bits.deBruijn64tab"], apart := false, laid := [("math/bits.deBruijn32tab", laid_math_bits_deBruijn32tab), ("math/bits.deBruijn64tab", laid_math_bits_deBruijn64tab), ("internal/strconv.uint64pow10", laid_internal_strconv_uint64pow10)], narrowed := true }
def TellCallsUptoSaid : Prop := tellCallsUptoRow.holds Tryd.pinned (OpenSpec.upto tellCallsSpec)

/-- 'remudalaw20.ProgUnlike', WHERE WHAT IT READS IS OF BULK AT MOST 1048576: true; the input reads as it did. -/
def progUnlikeUptoRow : OpenClaim := { program := "ytihibljjbdjeoaadoor", sum := "7fad9b1d94c807a2ebcdaffa5b73b423572427b1d2750b0e4dec6387f4426568", func := "remuda/remudalaw20.ProgUnlike", spec := "progUnlike", inPlace := ["internal/abi.NoEscape"], unfollowed := true, recurses := true, named := ["internal/strconv.uint64pow10", "math/bits.deBruijn32tab", "math/bits.deBruijn64tab"], apart := false, laid := [("math/bits.deBruijn32tab", laid_math_bits_deBruijn32tab), ("math/bits.deBruijn64tab", laid_math_bits_deBruijn64tab), ("internal/strconv.uint64pow10", laid_internal_strconv_uint64pow10)], narrowed := true }
def ProgUnlikeUptoSaid : Prop := progUnlikeUptoRow.holds Tryd.pinned (OpenSpec.upto progUnlikeSpec)

/-- 'remudalaw20.ProgCuts', WHERE WHAT IT READS IS OF BULK AT MOST 1048576: true; the input reads as it did. -/
def progCutsUptoRow : OpenClaim := { program := "ytihibljjbdjeoaadoor", sum := "7fad9b1d94c807a2ebcdaffa5b73b423572427b1d2750b0e4dec6387f4426568", func := "remuda/remudalaw20.ProgCuts", spec := "progCuts", inPlace := ["internal/abi.NoEscape"], unfollowed := true, recurses := true, named := ["internal/strconv.uint64pow10", "math/bits.deBruijn32tab", "math/bits.deBruijn64tab"], apart := false, laid := [("math/bits.deBruijn32tab", laid_math_bits_deBruijn32tab), ("math/bits.deBruijn64tab", laid_math_bits_deBruijn64tab), ("internal/strconv.uint64pow10", laid_internal_strconv_uint64pow10)], narrowed := true }
def ProgCutsUptoSaid : Prop := progCutsUptoRow.holds Tryd.pinned (OpenSpec.upto progCutsSpec)

/-- 'remudalaw20.ProgNests', WHERE WHAT IT READS IS OF BULK AT MOST 1048576: true; the input reads as it did. -/
def progNestsUptoRow : OpenClaim := { program := "ytihibljjbdjeoaadoor", sum := "7fad9b1d94c807a2ebcdaffa5b73b423572427b1d2750b0e4dec6387f4426568", func := "remuda/remudalaw20.ProgNests", spec := "progNests", inPlace := ["internal/abi.NoEscape"], unfollowed := true, recurses := true, named := ["internal/strconv.uint64pow10", "math/bits.deBruijn32tab", "math/bits.deBruijn64tab"], apart := false, laid := [("math/bits.deBruijn32tab", laid_math_bits_deBruijn32tab), ("math/bits.deBruijn64tab", laid_math_bits_deBruijn64tab), ("internal/strconv.uint64pow10", laid_internal_strconv_uint64pow10)], narrowed := true }
def ProgNestsUptoSaid : Prop := progNestsUptoRow.holds Tryd.pinned (OpenSpec.upto progNestsSpec)

/-- 'remudalaw20.ProgReads', WHERE WHAT IT READS IS OF BULK AT MOST 1048576: true; the input reads as it did. -/
def progReadsUptoRow : OpenClaim := { program := "ytihibljjbdjeoaadoor", sum := "7fad9b1d94c807a2ebcdaffa5b73b423572427b1d2750b0e4dec6387f4426568", func := "remuda/remudalaw20.ProgReads", spec := "progReads", inPlace := ["internal/abi.NoEscape"], unfollowed := true, recurses := true, named := ["internal/strconv.uint64pow10", "math/bits.deBruijn32tab", "math/bits.deBruijn64tab"], apart := false, laid := [("math/bits.deBruijn32tab", laid_math_bits_deBruijn32tab), ("math/bits.deBruijn64tab", laid_math_bits_deBruijn64tab), ("internal/strconv.uint64pow10", laid_internal_strconv_uint64pow10)], narrowed := true }
def ProgReadsUptoSaid : Prop := progReadsUptoRow.holds Tryd.pinned (OpenSpec.upto progReadsSpec)

/-- 'remudalaw20.ProgBytes', WHERE WHAT IT READS IS OF BULK AT MOST 1048576: true; the input reads as it did. -/
def progBytesUptoRow : OpenClaim := { program := "ytihibljjbdjeoaadoor", sum := "7fad9b1d94c807a2ebcdaffa5b73b423572427b1d2750b0e4dec6387f4426568", func := "remuda/remudalaw20.ProgBytes", spec := "progBytes", inPlace := ["internal/abi.NoEscape"], unfollowed := true, recurses := true, named := ["internal/strconv.uint64pow10", "math/bits.deBruijn32tab", "math/bits.deBruijn64tab"], apart := false, laid := [("math/bits.deBruijn32tab", laid_math_bits_deBruijn32tab), ("math/bits.deBruijn64tab", laid_math_bits_deBruijn64tab), ("internal/strconv.uint64pow10", laid_internal_strconv_uint64pow10)], narrowed := true }
def ProgBytesUptoSaid : Prop := progBytesUptoRow.holds Tryd.pinned (OpenSpec.upto progBytesSpec)

end Rows
end Go.Proofs.YtihibljjbdjeoaaDoor
