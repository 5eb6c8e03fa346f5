/- What the rows' listed tables give: the door's own heap meets them; the table of tens. -/
import Derived.Test.YtihibljjbdjeoaaDoorRows
import Derived.Test.YtihibljjbdjeoaaDoorPg
import Derived.LaidMore
import Derived.ProofKit
import Derived.Lib.LaidTab
import Derived.Stop.LaidErr
namespace Go.Proofs.YtihibljjbdjeoaaDoor
open Go.RowKit Go.ChangeShapes Go.WideShapes Go.ChangeAt
set_option linter.unusedVariables false

def laidL : List (String × DataW Unit) := [("math/bits.deBruijn32tab", Rows.laid_math_bits_deBruijn32tab), ("math/bits.deBruijn64tab", Rows.laid_math_bits_deBruijn64tab), ("internal/strconv.uint64pow10", Rows.laid_internal_strconv_uint64pow10)]
theorem ownLd : ownKnob Tryd.prog.godebug = none := by kernel_rfl
theorem door_met (os : Os) (args : Array Value) : laidMetH Tryd.prog laidL ((World.doorLaid Tryd.prog 24 os).forCall (fun _ _ => 0) ⟨#[], args, []⟩).memory :=
  laidMetH_of_parts3 (fuel := 8) (laidMet_of_run' 8 (by kernel_rfl) (by kernel_rfl)) (by kernel_rfl) (by kernel_rfl)
theorem tabData_eq : (Rows.laid_internal_strconv_uint64pow10 : DataW Unit) = Lib.tabData .u64 Lib.pow10Tab := by kernel_rfl
theorem tabNum : Tryd.prog.globalNamed "internal/strconv.uint64pow10" = some 0 := by kernel_rfl
theorem tab_of_laid {W : World} (h : laidMetH Tryd.prog laidL W) : Tab W := by
  rw [MakeChecks.laidMetH_plain _ _ _ (by kernel_rfl)] at h
  have h2 := laidMet.tail (laidMet.tail h)
  rw [tabData_eq] at h2
  exact Lib.tabIs_of_head tabNum (by kernel_rfl) Tryd.underlying158 Tryd.underlying106 (by kernel_rfl) (by kernel_rfl) h2
end Go.Proofs.YtihibljjbdjeoaaDoor
