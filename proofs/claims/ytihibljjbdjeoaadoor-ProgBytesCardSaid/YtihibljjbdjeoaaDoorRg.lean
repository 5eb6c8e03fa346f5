/- The document's Get of a number. -/
import Derived.Test.YtihibljjbdjeoaaDoorRn
import Derived.Laws.ResultCell
namespace Go.Proofs.YtihibljjbdjeoaaDoor
open Go.RowKit
set_option linter.unusedVariables false

set_option maxRecDepth 100000 in
set_option maxHeartbeats 1600000 in
theorem get3_c (s : ByteArray) (h8 : 8 ≤ s.size) (hs : s.size ≤ 140737488355328) (w : World) :
    Calls Tryd.prog 51 #[.int .i64 3, .string s] w fun e w' => e = .returned (.tuple #[.agg #[.int .i64 3, .int .i64 (IntKind.i64.wrap (numL (s.extract 0 8).data.toList)), .string ⟨#[]⟩], .int .i64 8]) ∧ w.grownBy w' none := by
  have h8I : ¬ (s.size : Int) < 8 := by omega
  have h8J : (8 : Int) ≤ (s.size : Int) := by omega
  have hz : (s.extract 0 8).size ≤ 140737488355328 := by simp; omega
  go_enter Tryd.func51, Tryd.ntmps51
  go_upto_region 2 with fail
  have BT := As.mk ((Blk.new w 95 #[.int .i64 0, .int .i64 0, .string ⟨#[]⟩]).alloc (.cells #[.int .i64 1, .int .i64 1, .int .i64 2, .int .i64 8, .int .i64 2] 3))
  have BS := As.mk (Blk.new2 w (.cells #[.int .i64 0, .int .i64 0, .string ⟨#[]⟩] 95) 3 #[.int .i64 1, .int .i64 1, .int .i64 2, .int .i64 8, .int .i64 2])
  have G := As.mk (gr_alloc (gr_alloc (gr_refl w none) (.cells #[.int .i64 0, .int .i64 0, .string ⟨#[]⟩] 95)) (.cells #[.int .i64 1, .int .i64 1, .int .i64 2, .int .i64 8, .int .i64 2] 3))
  generalize (w.alloc (.cells #[.int .i64 0, .int .i64 0, .string ⟨#[]⟩] 95)).alloc (.cells #[.int .i64 1, .int .i64 1, .int .i64 2, .int .i64 8, .int .i64 2] 3) = W at *
  have HG0 : As (w.heap.size ≤ w.heap.size) := ⟨Nat.le_refl _⟩
  generalize hgg : w.heap.size = g at BT BS ⊢
  have HGG := As.mk hgg
  clear hgg HG0
  have d3 : W.cell? ⟨g + 1, 3, none⟩ = some (.int .i64 8) := BS.out.cell 3
  have t0 : W.cell? ⟨g, 0, none⟩ = some (.int .i64 0) := BT.out.cell 0
  have t1 : W.cell? ⟨g, 1, none⟩ = some (.int .i64 0) := BT.out.cell 1
  have t2 : W.cell? ⟨g, 2, none⟩ = some (.string ⟨#[]⟩) := BT.out.cell 2
  have f0 := BT.out.free 0
  have f1 := BT.out.free 1
  have f2 := BT.out.free 2
  go_wp2_with (go_at_call 69; refine (value_walk _ _ hz).mono ?_; rintro e w1 ⟨rfl, rfl⟩)
  have HW : IntKind.i64.wrap (numL (s.extract 0 8).data.toList) = wrap64 (numL (List.take 8 s.data.toList)) := by
    rw [show (s.extract 0 8).data.toList = List.take 8 s.data.toList by simp]
    simp [wrap64, IntKind.wrap, IntKind.bits, IntKind.signed]
    split <;> omega
  rw [HW]
  generalize wrap64 (numL (List.take 8 s.data.toList)) = n at *
  have HB := ((BT.out.set 0 (.int .i64 3)).set 1 (.int .i64 n)).set 2 (.string ⟨#[]⟩)
  have HL := run_loadVar_row (P := Tryd.prog) _ g 95 95 _ (0, 0) _ HB Tryd.underlying95 rfl (by kernel_rfl)
  refine bodyPost_ret (v := .tuple #[.agg #[.int .i64 3, .int .i64 n, .string ⟨#[]⟩], .int .i64 8]) ?_ rfl ⟨rfl, gr_set (gr_set (gr_set G.out (.inr ?_) _) (.inr ?_) _) (.inr ?_) _⟩
  · rw [results_cell_tmp (show Tryd.f51.results = _ from rfl)]
    simp [asAddr, Result.andThen] at HL ⊢
    rw [HL]
  all_goals (have := HGG.out; dsimp only; omega)
end Go.Proofs.YtihibljjbdjeoaaDoor
