/- A nest that isn't there; the law's example; the law NestNone. -/
import Derived.Test.YtgmhopkajopfcaaNd
namespace Go.Proofs.Ytgmhopkajopfcaa
open Go.RowKit Go.Maps
set_option linter.unusedVariables false
attribute [local go_sem] Oper.semAt_some

def doN (k : Int) : Int := if k = 0 ∨ k = 1 ∨ k = 2 ∨ k = 3 ∨ k = 4 then 1 else 0
set_option maxRecDepth 100000 in
theorem items_n (w : World) : Calls Try.prog 28 #[.pointer none] w fun e w' => e = .returned (.slice none 0 0) ∧ w' = w := by
  go_enter Try.func28, Try.ntmps28
  go_wp2_with fail
  go_ret
  exact ⟨rfl, rfl⟩
abbrev aR0 : Rd := (0, fun _ => none)
abbrev aL0 : Lv := [(0, fun _ => none)]
end Go.Proofs.Ytgmhopkajopfcaa
