/- The document's example of a script holds. -/
import Derived.Test.YtmmgmdfhdhnmaaaParse
import Derived.Test.YtmmgmdfhdhnmaaaPl
namespace Go.Proofs.Ytmmgmdfhdhnmaaa
open Go.RowKit
set_option linter.unusedVariables false

def exS : ByteArray := ⟨#[0, 0, 16, 0, 1, 1, 0]⟩
theorem ex_nodes : pNodes exS = 1 := by kernel_rfl
theorem ex_cells : pCells exS = 1 := by kernel_rfl
theorem ex_disk : pDisk exS = 65536 := by kernel_rfl
theorem ex_evs : pEvs exS = [⟨1, 1, 0, 0, []⟩] := by kernel_rfl
theorem ex_parse (w : World) : Calls Try.prog 7 #[.string ⟨#[0, 0, 16, 0, 1, 1, 0]⟩] w (ParsePost w w.heap.size 1 1 65536 [⟨1, 1, 0, 0, []⟩]) := by
  have := parse_c exS w (by decide)
  rw [ex_nodes, ex_cells, ex_disk, ex_evs] at this
  exact this

set_option maxRecDepth 100000 in
set_option maxHeartbeats 3200000 in
theorem awake_walk (w : World) : Calls Try.prog 6 #[] w fun e w' => e = .returned (.bool true) ∧ w.grownBy w' none := by
  have HP := As.mk (fun w => ex_parse w)
  go_enter Try.func6, Try.ntmps6
  go_wp2_with fail
  refine (HP.out _).mono ?_
  rintro e w1 ⟨v, rfl, hown, hg⟩
  obtain ⟨A, c, hv, hm, hr⟩ := Arr.of_evs hown
  obtain ⟨ad, rfl, hs, hcell⟩ := hr (by simp)
  subst hv
  obtain ⟨b, o, sp⟩ := ad
  dsimp only at hs
  subst hs
  obtain ⟨cs, ⟨u, rfl, _⟩, _, hc⟩ := hcell 0 _ rfl
  have c0 : w1.cell? ⟨b, o, none⟩ = some (.int .i64 1) := by have := hc 0 _ rfl; simpa using this
  have c1 : w1.cell? ⟨b, o + 1, none⟩ = some (.int .i64 1) := by have := hc 1 _ rfl; simpa using this
  have hlt := World.block_lt_of_cell? w1 _ c0
  dsimp only at hlt
  have G := As.mk (below_gr hg none)
  clear hcell hc hown hr hg hm HP
  go_wp2
  go_ret
  exact ⟨rfl, gr_alloc G.out _⟩
end Go.Proofs.Ytmmgmdfhdhnmaaa
