/- What the laws about a run ask besides: a map of bools, no registers, the example. -/
import Derived.Test.YtgmhopkajopfcaaSb
import Derived.Laws.ResultCell
namespace Go.Proofs.Ytgmhopkajopfcaa
open Go.RowKit Go.Maps
set_option linter.unusedVariables false
set_option linter.unusedSimpArgs false
set_option maxRecDepth 100000

theorem boolv_inv {v : Value} {a : Bool} {ps : List MemPlace} (h : plainElem (H := Unit) Try.prog 4 v = some (.lit (.bool a), ps)) : v = .bool a := by
  unfold plainElem at h
  rw [Try.underlying4] at h
  cases v <;> simp at h
  obtain ⟨rfl, _⟩ := h
  rfl
noncomputable def elB : El Bool where
  t := 53
  e := 4
  R := plainElem Try.prog 4
  E := fun a => .lit (.bool a)
  V := fun a => .bool a
  W := fun _ => True
  z := .bool false
  zd := .lit (.bool false)
  okz := plainElem_bool Try.underlying4 false
  ok := fun a _ => plainElem_bool Try.underlying4 a
  inv := fun v a ps h => boolv_inv h
  invz := fun v ps h => boolv_inv h
  ut := Try.underlying53
  uz := fun w => by kernel_rfl
theorem results_row {P : Program} {fn : Func} {p : Tmp} {ty : TypeId} (h : fn.results = #[.cell p ty]) (tmps : Array Value) (w : World) (g : Nat) (t : TypeId) (cs : Array Value) (fr : Nat × Nat) (d : TypeDesc)
    (hp : tmps.getD p undef = .pointer (some ⟨g, 0, none⟩)) (hg : w.heap[g]? = some (.cells cs t fr))
    (hu : P.underlying ty = some d) (hd : (match d with | .struct _ | .array _ _ => true | _ => false) = true) (hi : (P.info? ty).map (·.size) = some cs.size) :
    (results fn tmps).run P w = .ok (.agg cs) w := by
  have HL := run_loadVar_row (P := P) w g t ty cs fr d hg hu hd hi
  have hp2 := hp
  simp only [Array.getD_eq_getD_getElem?] at hp2
  simp only [results, h]
  simp [Sem.run_bind, hp2, asAddr, Result.andThen] at HL ⊢
  rw [HL]
theorem regs_n (w : World) : Calls Try.prog 14 #[.pointer none] w fun e w' => e = .returned (.agg #[.int .i64 0, .int .i64 0, .int .i64 0, .int .i64 0, .int .i64 0, .int .i64 0, .int .i64 0, .int .i64 0]) ∧ w.grownBy w' none := by
  have HB := As.mk (Blk.new w 35 #[.int .i64 0, .int .i64 0, .int .i64 0, .int .i64 0, .int .i64 0, .int .i64 0, .int .i64 0, .int .i64 0])
  have HG := As.mk (gr_alloc (gr_refl w none) (.cells #[.int .i64 0, .int .i64 0, .int .i64 0, .int .i64 0, .int .i64 0, .int .i64 0, .int .i64 0, .int .i64 0] 35))
  go_enter Try.func14, Try.ntmps14
  go_wp2_with fail
  refine bodyPost_ret (results_row (P := Try.prog) rfl _ _ w.heap.size 35 _ (0, 0) _ rfl HB.out Try.underlying35 rfl (by kernel_rfl)) rfl ?_
  exact ⟨rfl, HG.out⟩
def exA : List POp := [⟨1, 3, 0, 0, 0⟩, ⟨6, 0, 0, 0, 0⟩, ⟨2, 3, 1, 0, 0⟩]
theorem exA_right : pRight exA = true := by decide
theorem exA_n : ∀ x ∈ exA, K64 x.n := by
  intro x hx
  simp only [exA, List.mem_cons, List.not_mem_nil, or_false] at hx
  rcases hx with rfl | rfl | rfl <;> exact ⟨by decide, by decide⟩
def exS2 : RS := { startR with rd := sawR rdZ 3 0 0 }
theorem exA_1 : (goR exA 40 startR).1 = 1 ∧ (goR exA 40 startR).2.1 = 3 ∧ (goR exA 40 startR).2.2 = startR := ⟨rfl, rfl, rfl⟩
theorem exA_2 : (goR exA 40 exS2).1 = 3 := by
  have h : (goR exA 40 exS2).1 = 3 := by kernel_rfl
  exact h
theorem exA_3 : sawE startR.rd 3 0 = 0 := by decide
set_option maxHeartbeats 3200000 in
theorem awake22 (w : World) : Calls Try.prog 7 #[] w fun e w' => e = .returned (.bool true) ∧ w.grownBy w' none := by
  have HOB := As.mk (show Arr OpE 5 (w.alloc (.cells (opsCells exA).toArray 57)) (.slice (some ⟨w.heap.size, 0, none⟩) 3 3) exA from ops_block (xs := exA) (Blk.new w 57 (opsCells exA).toArray) (by decide))
  have HG := As.mk (gr_alloc (gr_refl w none) (.cells (opsCells exA).toArray 57))
  go_enter Try.func7, Try.ntmps7
  go_wp2_with fail
  refine (rnew_c HG.out HOB.out exA_right).mono ?_
  rintro e w1 ⟨rb, G, rfl, hra, hg, _⟩
  have HR := As.mk hra
  clear hra hg
  go_wp2_with fail
  refine (gon_c HR.out exA_right exA_n (start_riv exA_right) (by omega)).mono ?_
  rintro e w2 ⟨rfl, G2, hra, _, hri⟩
  have HR2 := As.mk hra
  have HRI := As.mk hri
  clear hra hri
  rw [exA_1.1, exA_1.2.1]
  rw [exA_1.2.2] at HR2
  go_wp2_with fail
  refine (give_c HR2.out 3 0 0 ⟨by omega, by omega⟩ ⟨by omega, by omega⟩ ⟨by omega, by omega⟩ (by omega)).mono ?_
  rintro e w3 ⟨rfl, G3, hra, _⟩
  have HR3 := As.mk hra
  clear hra
  rw [exA_3]
  go_wp2_with fail
  refine (gon_c HR3.out exA_right exA_n (show RIv exA exS2 from ⟨(start_riv exA_right).ex, (start_riv exA_right).le, (start_riv exA_right).lv⟩) (by omega)).mono ?_
  rintro e w4 ⟨rfl, G4, hra, _, _⟩
  have HR4 := As.mk hra
  clear hra
  rw [show (goR exA 40 { startR with rd := sawR startR.rd 3 0 0 }).1 = 3 from exA_2]
  go_wp2_with fail
  go_ret
  exact ⟨rfl, HR4.out.gr⟩
end Go.Proofs.Ytgmhopkajopfcaa
