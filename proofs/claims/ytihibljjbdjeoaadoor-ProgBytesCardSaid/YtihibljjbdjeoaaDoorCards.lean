/-
  DERIVED. GIVEN WITH THE SEED: THE CARDS: each row of YtihibljjbdjeoaaDoorRows.lean that lists a variable, with what it lists TIED to the program's text (the seventh form; the later family's looks); each row that meets fmt, with fmt's text TOLD by the authors' own Lean function (tested against real Go, not proved from fmt's source: count such statements apart). THE CARD IS WHAT COUNTS. Prove the row's statement (the work); the ties are given (YtihibljjbdjeoaaDoorTie.lean); close each card by the builder's one call (the guide's Derived/Test/ToyasCard.lean, 'card_holds'). Laid BY PROGRAM, IN A SANDBOX (cutbox-door.mjs). By AI agents, Wed Nov 11 2026. No macro, syntax, notation, axiom, sorry.
-/
import Derived.Test.YtihibljjbdjeoaaDoorRows
import GoSem.ClaimSeven
namespace Go.Proofs.YtihibljjbdjeoaaDoor
namespace Rows

/-- THE TIED CARD OF 'remudalaw28.TellWords'. -/
def tellWordsCard : Claim7 := { stood := { row := tellWordsRow, standIns := [], harness := (true, "905c9456d2e66cf41e63bf81cc896112534a71ff8edf360fe2226b03ea63f402"), looks := true }, kinds := [], alts := [], laidByText := true, laidKinds := [.data, .data, .data], laidTests := true, laidLooks := .later }
def TellWordsCardSaid : Prop := Claim7.holds Tryd.pinned (.plain (OpenSpec.ofChange tellWordsSpec)) tellWordsCard

/-- THE TIED CARD OF 'remudalaw28.TellCalls'. -/
def tellCallsCard : Claim7 := { stood := { row := tellCallsRow, standIns := [], harness := (true, "905c9456d2e66cf41e63bf81cc896112534a71ff8edf360fe2226b03ea63f402"), looks := true }, kinds := [], alts := [], laidByText := true, laidKinds := [.data, .data, .data], laidTests := true, laidLooks := .later }
def TellCallsCardSaid : Prop := Claim7.holds Tryd.pinned (.plain (OpenSpec.ofChange tellCallsSpec)) tellCallsCard

/-- THE TIED CARD OF 'remudalaw20.ProgUnlike'. -/
def progUnlikeCard : Claim7 := { stood := { row := progUnlikeRow, standIns := [], harness := (true, "905c9456d2e66cf41e63bf81cc896112534a71ff8edf360fe2226b03ea63f402"), looks := true }, kinds := [], alts := [], laidByText := true, laidKinds := [.data, .data, .data], laidTests := true, laidLooks := .later }
def ProgUnlikeCardSaid : Prop := Claim7.holds Tryd.pinned (.plain (OpenSpec.ofChange progUnlikeSpec)) progUnlikeCard

/-- THE TIED CARD OF 'remudalaw20.ProgCuts'. -/
def progCutsCard : Claim7 := { stood := { row := progCutsRow, standIns := [], harness := (true, "905c9456d2e66cf41e63bf81cc896112534a71ff8edf360fe2226b03ea63f402"), looks := true }, kinds := [], alts := [], laidByText := true, laidKinds := [.data, .data, .data], laidTests := true, laidLooks := .later }
def ProgCutsCardSaid : Prop := Claim7.holds Tryd.pinned (.plain (OpenSpec.ofChange progCutsSpec)) progCutsCard

/-- THE TIED CARD OF 'remudalaw20.ProgNests'. -/
def progNestsCard : Claim7 := { stood := { row := progNestsRow, standIns := [], harness := (true, "905c9456d2e66cf41e63bf81cc896112534a71ff8edf360fe2226b03ea63f402"), looks := true }, kinds := [], alts := [], laidByText := true, laidKinds := [.data, .data, .data], laidTests := true, laidLooks := .later }
def ProgNestsCardSaid : Prop := Claim7.holds Tryd.pinned (.plain (OpenSpec.ofChange progNestsSpec)) progNestsCard

/-- THE TIED CARD OF 'remudalaw20.ProgReads'. -/
def progReadsCard : Claim7 := { stood := { row := progReadsRow, standIns := [], harness := (true, "905c9456d2e66cf41e63bf81cc896112534a71ff8edf360fe2226b03ea63f402"), looks := true }, kinds := [], alts := [], laidByText := true, laidKinds := [.data, .data, .data], laidTests := true, laidLooks := .later }
def ProgReadsCardSaid : Prop := Claim7.holds Tryd.pinned (.plain (OpenSpec.ofChange progReadsSpec)) progReadsCard

/-- THE TIED CARD OF 'remudalaw20.ProgBytes'. -/
def progBytesCard : Claim7 := { stood := { row := progBytesRow, standIns := [], harness := (true, "905c9456d2e66cf41e63bf81cc896112534a71ff8edf360fe2226b03ea63f402"), looks := true }, kinds := [], alts := [], laidByText := true, laidKinds := [.data, .data, .data], laidTests := true, laidLooks := .later }
def ProgBytesCardSaid : Prop := Claim7.holds Tryd.pinned (.plain (OpenSpec.ofChange progBytesSpec)) progBytesCard

/-- THE SECOND FORM's CARD OF 'remudalaw28.TellWords'. -/
def tellWordsUptoCard : Claim7 := { stood := { row := tellWordsUptoRow, standIns := [], harness := (true, "905c9456d2e66cf41e63bf81cc896112534a71ff8edf360fe2226b03ea63f402"), looks := true }, kinds := [], alts := [], laidByText := true, laidKinds := [.data, .data, .data], laidTests := true, laidLooks := .later }
def TellWordsUptoCardSaid : Prop := Claim7.holds Tryd.pinned (.plain (OpenSpec.upto tellWordsSpec)) tellWordsUptoCard

/-- THE SECOND FORM's CARD OF 'remudalaw28.TellCalls'. -/
def tellCallsUptoCard : Claim7 := { stood := { row := tellCallsUptoRow, standIns := [], harness := (true, "905c9456d2e66cf41e63bf81cc896112534a71ff8edf360fe2226b03ea63f402"), looks := true }, kinds := [], alts := [], laidByText := true, laidKinds := [.data, .data, .data], laidTests := true, laidLooks := .later }
def TellCallsUptoCardSaid : Prop := Claim7.holds Tryd.pinned (.plain (OpenSpec.upto tellCallsSpec)) tellCallsUptoCard

/-- THE SECOND FORM's CARD OF 'remudalaw20.ProgUnlike'. -/
def progUnlikeUptoCard : Claim7 := { stood := { row := progUnlikeUptoRow, standIns := [], harness := (true, "905c9456d2e66cf41e63bf81cc896112534a71ff8edf360fe2226b03ea63f402"), looks := true }, kinds := [], alts := [], laidByText := true, laidKinds := [.data, .data, .data], laidTests := true, laidLooks := .later }
def ProgUnlikeUptoCardSaid : Prop := Claim7.holds Tryd.pinned (.plain (OpenSpec.upto progUnlikeSpec)) progUnlikeUptoCard

/-- THE SECOND FORM's CARD OF 'remudalaw20.ProgCuts'. -/
def progCutsUptoCard : Claim7 := { stood := { row := progCutsUptoRow, standIns := [], harness := (true, "905c9456d2e66cf41e63bf81cc896112534a71ff8edf360fe2226b03ea63f402"), looks := true }, kinds := [], alts := [], laidByText := true, laidKinds := [.data, .data, .data], laidTests := true, laidLooks := .later }
def ProgCutsUptoCardSaid : Prop := Claim7.holds Tryd.pinned (.plain (OpenSpec.upto progCutsSpec)) progCutsUptoCard

/-- THE SECOND FORM's CARD OF 'remudalaw20.ProgNests'. -/
def progNestsUptoCard : Claim7 := { stood := { row := progNestsUptoRow, standIns := [], harness := (true, "905c9456d2e66cf41e63bf81cc896112534a71ff8edf360fe2226b03ea63f402"), looks := true }, kinds := [], alts := [], laidByText := true, laidKinds := [.data, .data, .data], laidTests := true, laidLooks := .later }
def ProgNestsUptoCardSaid : Prop := Claim7.holds Tryd.pinned (.plain (OpenSpec.upto progNestsSpec)) progNestsUptoCard

/-- THE SECOND FORM's CARD OF 'remudalaw20.ProgReads'. -/
def progReadsUptoCard : Claim7 := { stood := { row := progReadsUptoRow, standIns := [], harness := (true, "905c9456d2e66cf41e63bf81cc896112534a71ff8edf360fe2226b03ea63f402"), looks := true }, kinds := [], alts := [], laidByText := true, laidKinds := [.data, .data, .data], laidTests := true, laidLooks := .later }
def ProgReadsUptoCardSaid : Prop := Claim7.holds Tryd.pinned (.plain (OpenSpec.upto progReadsSpec)) progReadsUptoCard

/-- THE SECOND FORM's CARD OF 'remudalaw20.ProgBytes'. -/
def progBytesUptoCard : Claim7 := { stood := { row := progBytesUptoRow, standIns := [], harness := (true, "905c9456d2e66cf41e63bf81cc896112534a71ff8edf360fe2226b03ea63f402"), looks := true }, kinds := [], alts := [], laidByText := true, laidKinds := [.data, .data, .data], laidTests := true, laidLooks := .later }
def ProgBytesUptoCardSaid : Prop := Claim7.holds Tryd.pinned (.plain (OpenSpec.upto progBytesSpec)) progBytesUptoCard
end Rows
end Go.Proofs.YtihibljjbdjeoaaDoor
