/- The walk of Serial. -/
import Derived.Test.YtpamncakhffnfaaGreatAq
import Derived.Test.YtpamncakhffnfaaGreatAp1
namespace Go.Proofs.YtpamncakhffnfaaGreat
open Go.RowKit Go.Maps
set_option linter.unusedVariables false
set_option linter.unusedSimpArgs false

noncomputable def plC (n : Nat) (l : List PCo) : List (Int × Int) × Int × Int := playFrom (startR n) (fun _ => none) l
set_option maxRecDepth 100000 in
set_option maxHeartbeats 1600000 in
theorem serial_c (w : World) (v : Value) (l : List PCo) (hv : Arr CoE 5 w v l) (hl100 : l.length ≤ 100) (n : Nat) (h1 : 1 ≤ n) (h16 : n ≤ 16) (c e0 : Int) (hc : (plC n l).2.1 = c) (he : (plC n l).2.2 = e0) :
    Calls Tryz.prog 10 #[.int .i64 (n : Int), v] w fun e w' => e = .returned (.tuple #[.int .i64 c, .int .i64 e0]) ∧ w.grownBy w' none := by
  have H := As.mk hv
  have HC := As.mk hc
  have HE := As.mk he
  clear hv hc he
  go_enter Tryz.func10, Tryz.ntmps10
  go_wp2_with fail
  refine (play_c w v l H.out hl100 n h1 h16).mono ?_
  rintro e w1 ⟨rb, lb, mb, m, f, rfl, hR, hg⟩
  have HG := As.mk hg
  rw [show (playFrom (startR n) (fun _ => none) l).2.1 = c from HC.out, show (playFrom (startR n) (fun _ => none) l).2.2 = e0 from HE.out]
  clear hR hg
  go_wp2_with fail
  go_ret2
  exact ⟨rfl, HG.out⟩
end Go.Proofs.YtpamncakhffnfaaGreat
