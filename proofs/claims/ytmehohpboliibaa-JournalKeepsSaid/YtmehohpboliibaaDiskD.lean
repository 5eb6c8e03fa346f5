/- The walks of disk: Crash, Append. -/
import Derived.Test.YtmehohpboliibaaDiskC
namespace Go.Proofs.Ytmehohpboliibaa
open Go.RowKit
set_option linter.unusedVariables false

set_option maxHeartbeats 10000000 in
theorem crash_c {g : Nat} {d : DK} {w : World} (k : Int) (hd : d.ok) (h : DkAt w g d) : Calls Try.prog 25 #[.pointer (some ⟨g, 0, none⟩), .int .i64 k] w fun e w' => e = .returned (.tuple #[]) ∧ DkAt w' g (d.crash k) ∧ w.grownBy w' (some g) := by
  obtain ⟨hd0, hd1, hd2, hd3⟩ := hd
  have c0 : w.cell? ⟨g, 0, none⟩ = some (.bool d.on) := h.cell 0
  have c1 : w.cell? ⟨g, 1, none⟩ = some (.bool d.down) := h.cell 1
  have c2 : w.cell? ⟨g, 2, none⟩ = some (.int .i64 d.left) := h.cell 2
  have c3 : w.cell? ⟨g, 3, none⟩ = some (.string d.b) := h.cell 3
  have c4 : w.cell? ⟨g, 4, none⟩ = some (.int .i64 d.safe) := h.cell 4
  have f0 := h.free
  have H := As.mk h
  have l1 : ∃ l, l = (d.b.size : Int) - d.safe := ⟨_, rfl⟩
  obtain ⟨l, hl⟩ := l1
  have e1 : IntKind.i64.wrap ((d.b.size : Int) - d.safe) = l := by rw [IntKind.wrap_i64]; omega
  have q1 : ∃ q, q = d.keep k := ⟨_, rfl⟩
  obtain ⟨q, hq⟩ := q1
  unfold DK.keep at hq
  have e2 : IntKind.i64.wrap (d.safe + min (max k 0) l) = q := by rw [IntKind.wrap_i64]; omega
  have e3 : 0 ≤ q := by omega
  have e5 : q ≤ d.b.size := by omega
  have e4 : max q 0 = q := by omega
  have HQ := As.mk hq
  clear h hd0 hd1 hd2 hd3 hl hq
  unfold DK.crash DK.keep
  rw [← HQ.out]
  go_enter Try.func25, Try.ntmps25
  go_wp2
  go_quiet (fail)
  go_wp2
  go_region_law (fail)
  all_goals
    simp only [Exit.then]
    go_wp2
    go_end0
    refine ⟨rfl, ?_, gr_own (gr_own (gr_own (gr_own (gr_own (gr_drewN (gr_refl _ _) _) 3 _) 4 _) 0 _) 1 _) 2 _⟩
    exact ((((((show Blk _ _ _ _ from H.out).drewN (nq + 1)).set 3 (.string (d.b.extract 0 q.toNat))).set 4 (.int .i64 q)).set 0 (.bool false)).set 1 (.bool false)).set 2 (.int .i64 0)
end Go.Proofs.Ytmehohpboliibaa
