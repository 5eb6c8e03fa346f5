/- The walks of AuditNone. -/
import Derived.Test.YtpamncakhffnfaaGreatAvs
import Derived.WalkSpells
namespace Go.Proofs.YtpamncakhffnfaaGreat
open Go.RowKit Go.Maps
set_option linter.unusedVariables false
set_option linter.unusedSimpArgs false

set_option maxRecDepth 100000 in
theorem dec_nil (w : World) (t : PTid) : Calls Tryz.prog 5 #[.pointer none, .agg #[.int .i64 t.n, .int .i64 t.e, .int .i64 t.s]] w fun e w' => e = .returned (.tuple #[.bool false, .bool false]) ∧ w.grownBy w' none := by
  have HG := As.mk (gr_alloc (gr_refl w none) (.cells #[.int .i64 t.n, .int .i64 t.e, .int .i64 t.s] 23))
  go_enter Tryz.func5, Tryz.ntmps5
  go_wp2_with fail
  go_ret2
  exact ⟨rfl, HG.out⟩
set_option maxRecDepth 100000 in
theorem look_nil' (w : World) : Calls Tryz.prog 7 #[.pointer none] w fun e w' => e = .returned (.int .i64 1) ∧ w' = w := by
  go_enter Tryz.func7, Tryz.ntmps7
  go_wp2_with fail
  go_ret
  exact ⟨rfl, rfl⟩
set_option maxRecDepth 100000 in
theorem coms_nil (w : World) : Calls Tryz.prog 8 #[.pointer none] w fun e w' => e = .returned (.slice none 0 0) ∧ w' = w := by
  go_enter Tryz.func8, Tryz.ntmps8
  go_wp2_with fail
  go_ret
  exact ⟨rfl, rfl⟩
set_option maxRecDepth 100000 in
theorem own_nil (w : World) (c : Int) : Calls Tryz.prog 9 #[.pointer none, .int .i64 c] w fun e w' => e = .returned (.slice none 0 0) ∧ w' = w := by
  go_enter Tryz.func9, Tryz.ntmps9
  go_wp2_with fail
  go_ret
  exact ⟨rfl, rfl⟩
set_option maxRecDepth 100000 in
theorem config_nil (w : World) : Calls Tryz.prog 11 #[.pointer none] w fun e w' => e = .returned (.agg #[.int .i64 0, .int .i64 0, .int .i64 0]) ∧ w.grownBy w' none := by
  have HG := As.mk (gr_alloc (gr_refl w none) (.cells #[.int .i64 0, .int .i64 0, .int .i64 0] 49))
  go_enter Tryz.func11, Tryz.ntmps11
  go_wp2_with fail
  exact bodyPost_ret (v := .agg #[.int .i64 0, .int .i64 0, .int .i64 0]) (by simp [results, Tryz.results11, go_sem]) rfl ⟨rfl, HG.out⟩
set_option maxRecDepth 100000 in
theorem clone_nil (w : World) : Calls Tryz.prog 13 #[.slice none 0 0] w fun e w' => e = .returned (.slice none 0 0) ∧ w' = w := by
  have hq := fun (w : World) => Lib.run_eql_slice_nil (P := Tryz.prog) w 32 _ none 0 0 0 0 Tryz.underlying32
  go_enter Tryz.func13, Tryz.ntmps13
  go_wp2_with fail
  go_ret
  exact ⟨rfl, rfl⟩
/-- A watch of no cluster. -/
structure NoneW (w : World) (b : Nat) : Prop where
  h : ∃ lb mb, Blk w b 47 #[.pointer none, .slice (some ⟨lb, 0, none⟩) 0 0, .slice none 0 0, .map (some mb), .int .i64 0]
theorem NoneW.grown {w w' : World} {b : Nat} (h : NoneW w b) (hg : w.grownBy w' none) : NoneW w' b := by
  obtain ⟨lb, mb, h⟩ := h.h
  exact ⟨lb, mb, h.grown hg (by simp)⟩
def NewPost (w : World) (e : Ending) (w' : World) : Prop := ∃ b, e = .returned (.pointer (some ⟨b, 0, none⟩)) ∧ NoneW w' b ∧ w.grownBy w' none
theorem make_seen (w : World) : (Instr.makeSlice 44 (.int .i64 0) (.int .i64 0)).run Tryz.prog w = .ok (.slice (some ⟨w.heap.size, 0, none⟩) 0 0) (w.alloc (.cells #[] 60)) := by
  have hi : (Tryz.prog.info? 60).isSome = true := by kernel_rfl
  obtain ⟨i, hi⟩ := Option.isSome_iff_exists.1 hi
  have hz : ((Tryz.prog.info? 60).bind (·.zero)).isSome = true := by kernel_rfl
  rw [hi] at hz
  obtain ⟨z, hz⟩ := Option.isSome_iff_exists.1 hz
  have := run_make (P := Tryz.prog) w 44 60 i z Tryz.underlying44 hi hz .i64 .i64 0 0 (by omega) (by omega) (by omega) (by omega)
  have e : madeCells z.cells (Int.toNat 0 * i.size) = #[] := by unfold madeCells; simp
  rw [e] at this
  simpa using this
set_option maxRecDepth 100000 in
theorem new_nil (w : World) : Calls Tryz.prog 6 #[.pointer none] w (NewPost w) := by
  go_enter Tryz.func6, Tryz.ntmps6
  go_wp2_with fail
  refine (config_nil w).mono ?_
  rintro e w1 ⟨rfl, g1⟩
  have HG := As.mk g1
  have hfd : ∀ w : World, (Instr.field 49 (.agg #[.int .i64 0, .int .i64 0, .int .i64 0]) 0).run Tryz.prog w = .ok (.int .i64 0) w := fun _ => by kernel_rfl
  have hmk := make_seen w1
  have hmm := @run_makeMap Tryz.prog
  clear g1
  go_wp2_with fail
  go_ret
  refine ⟨_, rfl, ⟨_, _, Blk.new_at _ _ _ (by simp)⟩, gr_alloc (gr_alloc (gr_alloc HG.out _) _) _⟩
set_option maxRecDepth 100000 in
set_option maxHeartbeats 1600000 in
theorem look_c (w : World) (b : Nat) (h : NoneW w b) : Calls Tryz.prog 7 #[.pointer (some ⟨b, 0, none⟩)] w fun e w' => e = .returned (.int .i64 0) ∧ w.grownBy w' none := by
  obtain ⟨lb, mb, hb⟩ := h.h
  have HB := As.mk hb
  have c0 := hb.cell 0
  have c1 := hb.cell 1
  have c4 := hb.cell 4
  simp only [List.getElem?_toArray, List.getElem?_cons_zero, List.getElem?_cons_succ] at c0 c1 c4
  clear h hb
  go_enter Tryz.func7, Tryz.ntmps7
  go_wp2_with fail
  go_loopw [3] (fun i wr => i = .int .i64 1 ∧ wr = w) (fun i _ => (intOf i).toNat)
  case atStart => exact ⟨rfl, rfl⟩
  case round =>
    obtain ⟨rfl, rfl⟩ := hrel
    go_wp2_with fail
    go_loopw [4] (fun i w9 => i = .int .i64 0 ∧ w9 = wr) (fun i _ => (intOf i).toNat)
    case atStart => exact ⟨rfl, rfl⟩
    case round =>
      obtain ⟨rfl, rfl⟩ := hrel
      have hfd : ∀ w : World, (Instr.field 49 (.agg #[.int .i64 0, .int .i64 0, .int .i64 0]) 1).run Tryz.prog w = .ok (.int .i64 0) w := fun _ => by kernel_rfl
      go_wp2_with fail
      refine (config_nil _).mono ?_
      rintro e w1 ⟨rfl, g1⟩
      have HG := As.mk g1
      have d4 := g1.cell c4 (by simp)
      clear g1
      go_wp2_with fail
      go_ret
      exact ⟨rfl, HG.out⟩
set_option maxRecDepth 100000 in
theorem coms_c (w : World) (b : Nat) (h : NoneW w b) : Calls Tryz.prog 8 #[.pointer (some ⟨b, 0, none⟩)] w fun e w' => e = .returned (.slice none 0 0) ∧ w' = w := by
  obtain ⟨lb, mb, hb⟩ := h.h
  have c2 := hb.cell 2
  simp only [List.getElem?_toArray, List.getElem?_cons_zero, List.getElem?_cons_succ] at c2
  clear h hb
  go_enter Tryz.func8, Tryz.ntmps8
  go_wp2_with fail
  refine (clone_nil _).mono ?_
  rintro e w1 ⟨rfl, rfl⟩
  go_wp2_with fail
  go_ret
  exact ⟨rfl, rfl⟩
set_option maxRecDepth 100000 in
set_option maxHeartbeats 3200000 in
theorem an_walk (w : World) (t : PTid) (c : Int) : Calls Tryz.prog 3 #[.agg #[.int .i64 t.n, .int .i64 t.e, .int .i64 t.s], .int .i64 c] w fun e w' => e = .returned (.bool true) ∧ w.grownBy w' none := by
  have HG := As.mk (gr_alloc (gr_refl w none) (.cells #[.int .i64 t.n, .int .i64 t.e, .int .i64 t.s] 23))
  have HB := As.mk (Blk.new w 23 #[.int .i64 t.n, .int .i64 t.e, .int .i64 t.s])
  go_enter Tryz.func3, Tryz.ntmps3
  go_wp2_with fail
  generalize w.alloc (.cells #[.int .i64 t.n, .int .i64 t.e, .int .i64 t.s] 23) = W at *
  generalize w.heap.size = g at *
  refine (awake_c W).mono ?_
  rintro e1 w1 ⟨rfl, g1⟩
  replace HG := As.mk (HG.out.trans g1)
  replace HB := As.mk (HB.out.grown g1 (by simp))
  have c0 := HB.out.cell 0
  have c1 := HB.out.cell 1
  have c2 := HB.out.cell 2
  simp only [List.getElem?_toArray, List.getElem?_cons_zero, List.getElem?_cons_succ] at c0 c1 c2
  clear g1
  go_wp2_with fail
  refine (dec_nil w1 t).mono ?_
  rintro e2 w2 ⟨rfl, g2⟩
  replace HG := As.mk (HG.out.trans g2)
  clear g2 c0 c1 c2 HB
  go_wp2_with fail
  refine (new_nil w2).mono ?_
  rintro e3 w3 ⟨b, rfl, hN, g3⟩
  replace HG := As.mk (HG.out.trans g3)
  have HN := As.mk hN
  clear g3 hN
  go_wp2_with fail
  refine (look_nil' w3).mono ?_
  rintro e4 w4 ⟨rfl, rfl⟩
  go_wp2_with fail
  refine (coms_nil w4).mono ?_
  rintro e5 w5 ⟨rfl, rfl⟩
  go_wp2_with fail
  refine (own_nil w5 c).mono ?_
  rintro e6 w6 ⟨rfl, rfl⟩
  go_wp2_with fail
  refine (look_c w6 b HN.out).mono ?_
  rintro e7 w7 ⟨rfl, g7⟩
  replace HG := As.mk (HG.out.trans g7)
  replace HN := As.mk (HN.out.grown g7)
  clear g7
  go_wp2_with fail
  refine (coms_c w7 b HN.out).mono ?_
  rintro e8 w8 ⟨rfl, rfl⟩
  go_wp2_with fail
  go_ret
  exact ⟨rfl, HG.out⟩
end Go.Proofs.YtpamncakhffnfaaGreat
