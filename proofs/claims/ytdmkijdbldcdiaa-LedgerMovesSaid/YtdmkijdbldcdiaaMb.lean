/- The walk of plain. (Printed by wip/gen/gen_mb.py.) -/
import Derived.Test.YtdmkijdbldcdiaaMa
namespace Go.Proofs.Ytdmkijdbldcdiaa
open Go.RowKit
set_option linter.unusedVariables false
set_option linter.unusedSimpArgs false
set_option maxRecDepth 100000

def zT : PTid := ⟨0, 0, 0⟩
/-- A record without the fields that its kind doesn't have. -/
def plainR (r : PRec) : PRec :=
  if (r.kind == 1) = true then ⟨r.kind, zT, [], [], r.node, r.count, r.num, 0, 0, 0, 0, 0, false⟩
  else if (r.kind == 2) = true then ⟨r.kind, zT, [], [], 0, 0, r.num, 0, 0, 0, 0, 0, false⟩
  else if (r.kind == 3) = true then ⟨r.kind, zT, [], [], r.node, 0, 0, r.cell, r.st, r.hop, r.ver, r.val, false⟩
  else if (r.kind == 4) = true then ⟨r.kind, r.tid, r.items, r.nodes, 0, 0, 0, 0, 0, 0, 0, 0, false⟩
  else if (r.kind == 5) = true then ⟨r.kind, r.tid, r.items, r.nodes, 0, 0, 0, 0, 0, 0, 0, 0, false⟩
  else if (r.kind == 6) = true then ⟨r.kind, r.tid, [], [], 0, 0, 0, 0, 0, 0, 0, 0, r.yes⟩
  else if (r.kind == 7) = true then ⟨r.kind, r.tid, [], [], 0, 0, 0, 0, 0, 0, 0, 0, false⟩
  else if (r.kind == 8) = true then ⟨r.kind, zT, [], [], r.node, 0, 0, r.cell, 0, r.hop, 0, 0, false⟩
  else if (r.kind == 9) = true then ⟨r.kind, zT, [], [], 0, 0, 0, r.cell, 0, r.hop, r.ver, r.val, false⟩
  else if (r.kind == 10) = true then ⟨r.kind, zT, [], [], 0, 0, 0, r.cell, 0, r.hop, 0, 0, false⟩
  else if (r.kind == 11) = true then ⟨r.kind, r.tid, [], [], 0, 0, 0, 0, 0, 0, 0, 0, r.yes⟩
  else ⟨r.kind, zT, [], [], 0, 0, 0, 0, 0, 0, 0, 0, false⟩
def plainP (r : PRec) (e : Ending) : Prop := ∃ A1 c1 A2 c2, e = .returned (.agg (reCells (plainR r) A1 c1 A2 c2))
set_option maxHeartbeats 6400000 in
theorem plain1_c (w : World) (r : PRec) (AI : Option Addr) (cI : Nat) (AN : Option Addr) (cN : Nat)  (hk1 : (r.kind == 1) = true) :
    Calls Try.prog 67 #[.agg (reCells r AI cI AN cN)] w fun e w' => plainP r e ∧ w.grownBy w' none := by
  have HE := As.mk (show plainR r = ⟨r.kind, zT, [], [], r.node, r.count, r.num, 0, 0, 0, 0, 0, false⟩ by unfold plainR; rw [if_pos hk1])
  unfold reCells
  go_enter Try.func67, Try.ntmps67
  go_wp2_with fail
  refine wp_region_noPanic ?_
  refine wp_region_D (S := fun w' => Blk w' w.heap.size 43 #[.int .i64 r.kind, .int .i64 r.tid.n, .int .i64 r.tid.e, .int .i64 r.tid.s, .slice AI r.items.length cI, .slice AN r.nodes.length cN, .int .i64 r.node, .int .i64 r.count, .int .i64 r.num, .int .i64 r.cell, .int .i64 r.st, .int .i64 r.hop, .int .i64 r.ver, .int .i64 r.val, .bool r.yes] ∧ True) 11 (by kernel_rfl) (⟨(((Blk.new w 43 #[.int .i64 r.kind, .int .i64 r.tid.n, .int .i64 r.tid.e, .int .i64 r.tid.s, .slice AI r.items.length cI, .slice AN r.nodes.length cN, .int .i64 r.node, .int .i64 r.count, .int .i64 r.num, .int .i64 r.cell, .int .i64 r.st, .int .i64 r.hop, .int .i64 r.ver, .int .i64 r.val, .bool r.yes]).alloc _).alloc _), trivial⟩) (fun hS => ?_)
  refine wpAnyD_take (i := 0) (v := ?vk11) rfl rfl (by kernel_rfl) (by kernel_rfl) (by kernel_rfl) (by kernel_rfl) (fun _ _ _ h => h) (Or.inl ⟨by rfl, ?yk11⟩) hS ?rk11
  case yk11 => (intro w0 _; go_simp; try with_reducible rfl)
  try simp only [yA, yB, yC, Act.put, yD, yE, yF]
  refine wpAnyD_take (i := 1) (v := ?vk12) rfl rfl (by kernel_rfl) (by kernel_rfl) (by kernel_rfl) (by kernel_rfl) (fun _ _ _ h => h) (Or.inl ⟨by rfl, ?yk12⟩) hS ?rk12
  case yk12 => (intro w0 hS0; (try simp only [] at hS0); obtain ⟨hS0_0, hS0_1⟩ := hS0; obtain ⟨q0_0, q0_1, q0_2, q0_3, q0_4, q0_5, q0_6, q0_7, q0_8, q0_9, q0_10, q0_11, q0_12, q0_13, q0_14⟩ := hS0_0.c15; go_simp; try with_reducible rfl)
  try simp only [yA, yB, yC, Act.put, yD, yE, yF]
  refine wpAnyD_take (i := 2) (v := ?vk13) rfl rfl (by kernel_rfl) (by kernel_rfl) (by kernel_rfl) (by kernel_rfl) (fun _ _ _ h => h) (Or.inl ⟨by rfl, ?yk13⟩) hS ?rk13
  case yk13 => (intro w0 _; go_simp; try with_reducible rfl)
  try simp only [yA, yB, yC, Act.put, yD, yE, yF]
  refine wpAnyD_take (i := 3) (v := ?vk14) rfl rfl (by kernel_rfl) (by kernel_rfl) (by kernel_rfl) (by kernel_rfl) (fun _ _ _ h => h) (Or.inl ⟨by rfl, ?yk14⟩) hS ?rk14
  case yk14 => (intro w0 hS0; (try simp only [] at hS0); obtain ⟨hS0_0, hS0_1⟩ := hS0; obtain ⟨q0_0, q0_1, q0_2, q0_3, q0_4, q0_5, q0_6, q0_7, q0_8, q0_9, q0_10, q0_11, q0_12, q0_13, q0_14⟩ := hS0_0.c15; go_simp; try with_reducible rfl)
  try simp only [yA, yB, yC, Act.put, yD, yE, yF]
  refine wpAnyD_take (i := 4) (v := ?vk15) rfl rfl (by kernel_rfl) (by kernel_rfl) (by kernel_rfl) (by kernel_rfl) (fun _ _ _ h => h) (Or.inl ⟨by rfl, ?yk15⟩) hS ?rk15
  case yk15 => (intro w0 _; go_simp; try with_reducible rfl)
  try simp only [yA, yB, yC, Act.put, yD, yE, yF]
  refine wpAnyD_take (i := 5) (v := ?vk16) rfl rfl (by kernel_rfl) (by kernel_rfl) (by kernel_rfl) (by kernel_rfl) (fun _ _ _ h => h) (Or.inl ⟨by rfl, ?yk16⟩) hS ?rk16
  case yk16 => (intro w0 hS0; (try simp only [] at hS0); obtain ⟨hS0_0, hS0_1⟩ := hS0; obtain ⟨q0_0, q0_1, q0_2, q0_3, q0_4, q0_5, q0_6, q0_7, q0_8, q0_9, q0_10, q0_11, q0_12, q0_13, q0_14⟩ := hS0_0.c15; go_simp; try with_reducible rfl)
  try simp only [yA, yB, yC, Act.put, yD, yE, yF]
  refine wpAnyD_take (i := 6) (v := ?vk17) rfl rfl (by kernel_rfl) (by kernel_rfl) (by kernel_rfl) (by kernel_rfl) (fun _ _ _ h => h) (Or.inl ⟨by rfl, ?yk17⟩) hS ?rk17
  case yk17 => (intro w0 _; go_simp; try with_reducible rfl)
  try simp only [yA, yB, yC, Act.put, yD, yE, yF]
  refine wpAnyD_ready (rs := [7]) (by kernel_rfl) (by simp) (AllReadyD.cons (i := 7) rfl (fun K hK => ?_) AllReadyD.nil)
  go_simp
  refine hK.out _ _ (fun _ => ⟨(((Blk.new w 43 #[.int .i64 r.kind, .int .i64 r.tid.n, .int .i64 r.tid.e, .int .i64 r.tid.s, .slice AI r.items.length cI, .slice AN r.nodes.length cN, .int .i64 r.node, .int .i64 r.count, .int .i64 r.num, .int .i64 r.cell, .int .i64 r.st, .int .i64 r.hop, .int .i64 r.ver, .int .i64 r.val, .bool r.yes]).alloc _).alloc _), trivial⟩) (fun hS' => ?_)
  replace hS := hS' (by decide)
  clear hS'
  clear hK K
  try simp only [yA, yB, yC, Act.put, yD, yE, yF]
  refine wpAnyD_take (i := 8) (v := ?vk19) rfl rfl (by kernel_rfl) (by kernel_rfl) (by kernel_rfl) (by kernel_rfl) (fun _ _ _ h => h) (Or.inl ⟨by rfl, ?yk19⟩) hS ?rk19
  case yk19 => (intro w0 _; go_simp; try with_reducible rfl)
  try simp only [yA, yB, yC, Act.put, yD, yE, yF]
  refine wpAnyD_ready (rs := [9]) (by kernel_rfl) (by simp) (AllReadyD.cons (i := 9) rfl (fun K hK => ?_) AllReadyD.nil)
  go_simp
  refine hK.out _ _ (fun _ => ⟨(((Blk.new w 43 #[.int .i64 r.kind, .int .i64 r.tid.n, .int .i64 r.tid.e, .int .i64 r.tid.s, .slice AI r.items.length cI, .slice AN r.nodes.length cN, .int .i64 r.node, .int .i64 r.count, .int .i64 r.num, .int .i64 r.cell, .int .i64 r.st, .int .i64 r.hop, .int .i64 r.ver, .int .i64 r.val, .bool r.yes]).alloc _).alloc _), trivial⟩) (fun hS' => ?_)
  replace hS := hS' (by decide)
  clear hS'
  clear hK K
  try simp only [yA, yB, yC, Act.put, yD, yE, yF]
  refine wpAnyD_take (i := 10) (v := ?vk111) rfl rfl (by kernel_rfl) (by kernel_rfl) (by kernel_rfl) (by kernel_rfl) (fun _ _ _ h => h) (Or.inl ⟨by rfl, ?yk111⟩) hS ?rk111
  case yk111 => (intro w0 _; go_simp; try with_reducible rfl)
  try simp only [yA, yB, yC, Act.put, yD, yE, yF]
  refine wpAnyD_ready (rs := [11]) (by kernel_rfl) (by simp) (AllReadyD.cons (i := 11) rfl (fun K hK => ?_) AllReadyD.nil)
  go_simp
  refine hK.out _ _ (fun h => absurd rfl h) (fun _ => ?_)
  clear hK K
  try simp only [yA, yB, yC, Act.put, yD, yE, yF]
  refine wpAnyD_done (by kernel_rfl) ?_ _
  refine NoPanic.normal ?_
  try simp only [Exit.then]
  clear hS
  go_wp2_with fail
  exact bodyPost_ret (results_cell_row (P := Try.prog) rfl _ _ (w.heap.size + 1) 43 _ (0, 0) _ rfl (Blk.drew (Blk.alloc (Blk.new2 w _ 43 _) _)) Try.underlying43 rfl (by kernel_rfl)) rfl ⟨⟨none, 0, none, 0, by rw [HE.out]; rfl⟩, gr_drew (gr_alloc (gr_alloc (gr_alloc (gr_refl w none) _) _) _)⟩
set_option maxHeartbeats 6400000 in
theorem plain2_c (w : World) (r : PRec) (AI : Option Addr) (cI : Nat) (AN : Option Addr) (cN : Nat) (hx1 : ¬ (r.kind == 1) = true) (hk2 : (r.kind == 2) = true) :
    Calls Try.prog 67 #[.agg (reCells r AI cI AN cN)] w fun e w' => plainP r e ∧ w.grownBy w' none := by
  have HE := As.mk (show plainR r = ⟨r.kind, zT, [], [], 0, 0, r.num, 0, 0, 0, 0, 0, false⟩ by unfold plainR; rw [if_neg hx1]; rw [if_pos hk2])
  have hk1 : (r.kind == 1) = false := by simpa using hx1
  clear hx1
  unfold reCells
  go_enter Try.func67, Try.ntmps67
  go_wp2_with fail
  exact bodyPost_ret (results_cell_row (P := Try.prog) rfl _ _ (w.heap.size + 1) 43 _ (0, 0) _ rfl (Blk.alloc (Blk.new2 w _ 43 _) _) Try.underlying43 rfl (by kernel_rfl)) rfl ⟨⟨none, 0, none, 0, by rw [HE.out]; rfl⟩, (gr_alloc (gr_alloc (gr_alloc (gr_refl w none) _) _) _)⟩
set_option maxHeartbeats 6400000 in
theorem plain3_c (w : World) (r : PRec) (AI : Option Addr) (cI : Nat) (AN : Option Addr) (cN : Nat) (hx1 : ¬ (r.kind == 1) = true) (hx2 : ¬ (r.kind == 2) = true) (hk3 : (r.kind == 3) = true) :
    Calls Try.prog 67 #[.agg (reCells r AI cI AN cN)] w fun e w' => plainP r e ∧ w.grownBy w' none := by
  have HE := As.mk (show plainR r = ⟨r.kind, zT, [], [], r.node, 0, 0, r.cell, r.st, r.hop, r.ver, r.val, false⟩ by unfold plainR; rw [if_neg hx1]; rw [if_neg hx2]; rw [if_pos hk3])
  have hk1 : (r.kind == 1) = false := by simpa using hx1
  have hk2 : (r.kind == 2) = false := by simpa using hx2
  clear hx1 hx2
  unfold reCells
  go_enter Try.func67, Try.ntmps67
  go_wp2_with fail
  refine wp_region_noPanic ?_
  refine wp_region_D (S := fun w' => Blk w' w.heap.size 43 #[.int .i64 r.kind, .int .i64 r.tid.n, .int .i64 r.tid.e, .int .i64 r.tid.s, .slice AI r.items.length cI, .slice AN r.nodes.length cN, .int .i64 r.node, .int .i64 r.count, .int .i64 r.num, .int .i64 r.cell, .int .i64 r.st, .int .i64 r.hop, .int .i64 r.ver, .int .i64 r.val, .bool r.yes] ∧ True) 23 (by kernel_rfl) (⟨(((Blk.new w 43 #[.int .i64 r.kind, .int .i64 r.tid.n, .int .i64 r.tid.e, .int .i64 r.tid.s, .slice AI r.items.length cI, .slice AN r.nodes.length cN, .int .i64 r.node, .int .i64 r.count, .int .i64 r.num, .int .i64 r.cell, .int .i64 r.st, .int .i64 r.hop, .int .i64 r.ver, .int .i64 r.val, .bool r.yes]).alloc _).alloc _), trivial⟩) (fun hS => ?_)
  refine wpAnyD_take (i := 0) (v := ?vk31) rfl rfl (by kernel_rfl) (by kernel_rfl) (by kernel_rfl) (by kernel_rfl) (fun _ _ _ h => h) (Or.inl ⟨by rfl, ?yk31⟩) hS ?rk31
  case yk31 => (intro w0 _; go_simp; try with_reducible rfl)
  try simp only [yA, yB, yC, Act.put, yD, yE, yF]
  refine wpAnyD_take (i := 1) (v := ?vk32) rfl rfl (by kernel_rfl) (by kernel_rfl) (by kernel_rfl) (by kernel_rfl) (fun _ _ _ h => h) (Or.inl ⟨by rfl, ?yk32⟩) hS ?rk32
  case yk32 => (intro w0 hS0; (try simp only [] at hS0); obtain ⟨hS0_0, hS0_1⟩ := hS0; obtain ⟨q0_0, q0_1, q0_2, q0_3, q0_4, q0_5, q0_6, q0_7, q0_8, q0_9, q0_10, q0_11, q0_12, q0_13, q0_14⟩ := hS0_0.c15; go_simp; try with_reducible rfl)
  try simp only [yA, yB, yC, Act.put, yD, yE, yF]
  refine wpAnyD_take (i := 2) (v := ?vk33) rfl rfl (by kernel_rfl) (by kernel_rfl) (by kernel_rfl) (by kernel_rfl) (fun _ _ _ h => h) (Or.inl ⟨by rfl, ?yk33⟩) hS ?rk33
  case yk33 => (intro w0 _; go_simp; try with_reducible rfl)
  try simp only [yA, yB, yC, Act.put, yD, yE, yF]
  refine wpAnyD_take (i := 3) (v := ?vk34) rfl rfl (by kernel_rfl) (by kernel_rfl) (by kernel_rfl) (by kernel_rfl) (fun _ _ _ h => h) (Or.inl ⟨by rfl, ?yk34⟩) hS ?rk34
  case yk34 => (intro w0 hS0; (try simp only [] at hS0); obtain ⟨hS0_0, hS0_1⟩ := hS0; obtain ⟨q0_0, q0_1, q0_2, q0_3, q0_4, q0_5, q0_6, q0_7, q0_8, q0_9, q0_10, q0_11, q0_12, q0_13, q0_14⟩ := hS0_0.c15; go_simp; try with_reducible rfl)
  try simp only [yA, yB, yC, Act.put, yD, yE, yF]
  refine wpAnyD_take (i := 4) (v := ?vk35) rfl rfl (by kernel_rfl) (by kernel_rfl) (by kernel_rfl) (by kernel_rfl) (fun _ _ _ h => h) (Or.inl ⟨by rfl, ?yk35⟩) hS ?rk35
  case yk35 => (intro w0 _; go_simp; try with_reducible rfl)
  try simp only [yA, yB, yC, Act.put, yD, yE, yF]
  refine wpAnyD_take (i := 5) (v := ?vk36) rfl rfl (by kernel_rfl) (by kernel_rfl) (by kernel_rfl) (by kernel_rfl) (fun _ _ _ h => h) (Or.inl ⟨by rfl, ?yk36⟩) hS ?rk36
  case yk36 => (intro w0 hS0; (try simp only [] at hS0); obtain ⟨hS0_0, hS0_1⟩ := hS0; obtain ⟨q0_0, q0_1, q0_2, q0_3, q0_4, q0_5, q0_6, q0_7, q0_8, q0_9, q0_10, q0_11, q0_12, q0_13, q0_14⟩ := hS0_0.c15; go_simp; try with_reducible rfl)
  try simp only [yA, yB, yC, Act.put, yD, yE, yF]
  refine wpAnyD_take (i := 6) (v := ?vk37) rfl rfl (by kernel_rfl) (by kernel_rfl) (by kernel_rfl) (by kernel_rfl) (fun _ _ _ h => h) (Or.inl ⟨by rfl, ?yk37⟩) hS ?rk37
  case yk37 => (intro w0 _; go_simp; try with_reducible rfl)
  try simp only [yA, yB, yC, Act.put, yD, yE, yF]
  refine wpAnyD_take (i := 7) (v := ?vk38) rfl rfl (by kernel_rfl) (by kernel_rfl) (by kernel_rfl) (by kernel_rfl) (fun _ _ _ h => h) (Or.inl ⟨by rfl, ?yk38⟩) hS ?rk38
  case yk38 => (intro w0 hS0; (try simp only [] at hS0); obtain ⟨hS0_0, hS0_1⟩ := hS0; obtain ⟨q0_0, q0_1, q0_2, q0_3, q0_4, q0_5, q0_6, q0_7, q0_8, q0_9, q0_10, q0_11, q0_12, q0_13, q0_14⟩ := hS0_0.c15; go_simp; try with_reducible rfl)
  try simp only [yA, yB, yC, Act.put, yD, yE, yF]
  refine wpAnyD_take (i := 8) (v := ?vk39) rfl rfl (by kernel_rfl) (by kernel_rfl) (by kernel_rfl) (by kernel_rfl) (fun _ _ _ h => h) (Or.inl ⟨by rfl, ?yk39⟩) hS ?rk39
  case yk39 => (intro w0 _; go_simp; try with_reducible rfl)
  try simp only [yA, yB, yC, Act.put, yD, yE, yF]
  refine wpAnyD_take (i := 9) (v := ?vk310) rfl rfl (by kernel_rfl) (by kernel_rfl) (by kernel_rfl) (by kernel_rfl) (fun _ _ _ h => h) (Or.inl ⟨by rfl, ?yk310⟩) hS ?rk310
  case yk310 => (intro w0 hS0; (try simp only [] at hS0); obtain ⟨hS0_0, hS0_1⟩ := hS0; obtain ⟨q0_0, q0_1, q0_2, q0_3, q0_4, q0_5, q0_6, q0_7, q0_8, q0_9, q0_10, q0_11, q0_12, q0_13, q0_14⟩ := hS0_0.c15; go_simp; try with_reducible rfl)
  try simp only [yA, yB, yC, Act.put, yD, yE, yF]
  refine wpAnyD_take (i := 10) (v := ?vk311) rfl rfl (by kernel_rfl) (by kernel_rfl) (by kernel_rfl) (by kernel_rfl) (fun _ _ _ h => h) (Or.inl ⟨by rfl, ?yk311⟩) hS ?rk311
  case yk311 => (intro w0 _; go_simp; try with_reducible rfl)
  try simp only [yA, yB, yC, Act.put, yD, yE, yF]
  refine wpAnyD_take (i := 11) (v := ?vk312) rfl rfl (by kernel_rfl) (by kernel_rfl) (by kernel_rfl) (by kernel_rfl) (fun _ _ _ h => h) (Or.inl ⟨by rfl, ?yk312⟩) hS ?rk312
  case yk312 => (intro w0 hS0; (try simp only [] at hS0); obtain ⟨hS0_0, hS0_1⟩ := hS0; obtain ⟨q0_0, q0_1, q0_2, q0_3, q0_4, q0_5, q0_6, q0_7, q0_8, q0_9, q0_10, q0_11, q0_12, q0_13, q0_14⟩ := hS0_0.c15; go_simp; try with_reducible rfl)
  try simp only [yA, yB, yC, Act.put, yD, yE, yF]
  refine wpAnyD_take (i := 12) (v := ?vk313) rfl rfl (by kernel_rfl) (by kernel_rfl) (by kernel_rfl) (by kernel_rfl) (fun _ _ _ h => h) (Or.inl ⟨by rfl, ?yk313⟩) hS ?rk313
  case yk313 => (intro w0 _; go_simp; try with_reducible rfl)
  try simp only [yA, yB, yC, Act.put, yD, yE, yF]
  refine wpAnyD_ready (rs := [13]) (by kernel_rfl) (by simp) (AllReadyD.cons (i := 13) rfl (fun K hK => ?_) AllReadyD.nil)
  go_simp
  refine hK.out _ _ (fun _ => ⟨(((Blk.new w 43 #[.int .i64 r.kind, .int .i64 r.tid.n, .int .i64 r.tid.e, .int .i64 r.tid.s, .slice AI r.items.length cI, .slice AN r.nodes.length cN, .int .i64 r.node, .int .i64 r.count, .int .i64 r.num, .int .i64 r.cell, .int .i64 r.st, .int .i64 r.hop, .int .i64 r.ver, .int .i64 r.val, .bool r.yes]).alloc _).alloc _), trivial⟩) (fun hS' => ?_)
  replace hS := hS' (by decide)
  clear hS'
  clear hK K
  try simp only [yA, yB, yC, Act.put, yD, yE, yF]
  refine wpAnyD_take (i := 14) (v := ?vk315) rfl rfl (by kernel_rfl) (by kernel_rfl) (by kernel_rfl) (by kernel_rfl) (fun _ _ _ h => h) (Or.inl ⟨by rfl, ?yk315⟩) hS ?rk315
  case yk315 => (intro w0 _; go_simp; try with_reducible rfl)
  try simp only [yA, yB, yC, Act.put, yD, yE, yF]
  refine wpAnyD_ready (rs := [15]) (by kernel_rfl) (by simp) (AllReadyD.cons (i := 15) rfl (fun K hK => ?_) AllReadyD.nil)
  go_simp
  refine hK.out _ _ (fun _ => ⟨(((Blk.new w 43 #[.int .i64 r.kind, .int .i64 r.tid.n, .int .i64 r.tid.e, .int .i64 r.tid.s, .slice AI r.items.length cI, .slice AN r.nodes.length cN, .int .i64 r.node, .int .i64 r.count, .int .i64 r.num, .int .i64 r.cell, .int .i64 r.st, .int .i64 r.hop, .int .i64 r.ver, .int .i64 r.val, .bool r.yes]).alloc _).alloc _), trivial⟩) (fun hS' => ?_)
  replace hS := hS' (by decide)
  clear hS'
  clear hK K
  try simp only [yA, yB, yC, Act.put, yD, yE, yF]
  refine wpAnyD_take (i := 16) (v := ?vk317) rfl rfl (by kernel_rfl) (by kernel_rfl) (by kernel_rfl) (by kernel_rfl) (fun _ _ _ h => h) (Or.inl ⟨by rfl, ?yk317⟩) hS ?rk317
  case yk317 => (intro w0 _; go_simp; try with_reducible rfl)
  try simp only [yA, yB, yC, Act.put, yD, yE, yF]
  refine wpAnyD_ready (rs := [17]) (by kernel_rfl) (by simp) (AllReadyD.cons (i := 17) rfl (fun K hK => ?_) AllReadyD.nil)
  go_simp
  refine hK.out _ _ (fun _ => ⟨(((Blk.new w 43 #[.int .i64 r.kind, .int .i64 r.tid.n, .int .i64 r.tid.e, .int .i64 r.tid.s, .slice AI r.items.length cI, .slice AN r.nodes.length cN, .int .i64 r.node, .int .i64 r.count, .int .i64 r.num, .int .i64 r.cell, .int .i64 r.st, .int .i64 r.hop, .int .i64 r.ver, .int .i64 r.val, .bool r.yes]).alloc _).alloc _), trivial⟩) (fun hS' => ?_)
  replace hS := hS' (by decide)
  clear hS'
  clear hK K
  try simp only [yA, yB, yC, Act.put, yD, yE, yF]
  refine wpAnyD_take (i := 18) (v := ?vk319) rfl rfl (by kernel_rfl) (by kernel_rfl) (by kernel_rfl) (by kernel_rfl) (fun _ _ _ h => h) (Or.inl ⟨by rfl, ?yk319⟩) hS ?rk319
  case yk319 => (intro w0 _; go_simp; try with_reducible rfl)
  try simp only [yA, yB, yC, Act.put, yD, yE, yF]
  refine wpAnyD_ready (rs := [19]) (by kernel_rfl) (by simp) (AllReadyD.cons (i := 19) rfl (fun K hK => ?_) AllReadyD.nil)
  go_simp
  refine hK.out _ _ (fun _ => ⟨(((Blk.new w 43 #[.int .i64 r.kind, .int .i64 r.tid.n, .int .i64 r.tid.e, .int .i64 r.tid.s, .slice AI r.items.length cI, .slice AN r.nodes.length cN, .int .i64 r.node, .int .i64 r.count, .int .i64 r.num, .int .i64 r.cell, .int .i64 r.st, .int .i64 r.hop, .int .i64 r.ver, .int .i64 r.val, .bool r.yes]).alloc _).alloc _), trivial⟩) (fun hS' => ?_)
  replace hS := hS' (by decide)
  clear hS'
  clear hK K
  try simp only [yA, yB, yC, Act.put, yD, yE, yF]
  refine wpAnyD_take (i := 20) (v := ?vk321) rfl rfl (by kernel_rfl) (by kernel_rfl) (by kernel_rfl) (by kernel_rfl) (fun _ _ _ h => h) (Or.inl ⟨by rfl, ?yk321⟩) hS ?rk321
  case yk321 => (intro w0 _; go_simp; try with_reducible rfl)
  try simp only [yA, yB, yC, Act.put, yD, yE, yF]
  refine wpAnyD_ready (rs := [21]) (by kernel_rfl) (by simp) (AllReadyD.cons (i := 21) rfl (fun K hK => ?_) AllReadyD.nil)
  go_simp
  refine hK.out _ _ (fun _ => ⟨(((Blk.new w 43 #[.int .i64 r.kind, .int .i64 r.tid.n, .int .i64 r.tid.e, .int .i64 r.tid.s, .slice AI r.items.length cI, .slice AN r.nodes.length cN, .int .i64 r.node, .int .i64 r.count, .int .i64 r.num, .int .i64 r.cell, .int .i64 r.st, .int .i64 r.hop, .int .i64 r.ver, .int .i64 r.val, .bool r.yes]).alloc _).alloc _), trivial⟩) (fun hS' => ?_)
  replace hS := hS' (by decide)
  clear hS'
  clear hK K
  try simp only [yA, yB, yC, Act.put, yD, yE, yF]
  refine wpAnyD_take (i := 22) (v := ?vk323) rfl rfl (by kernel_rfl) (by kernel_rfl) (by kernel_rfl) (by kernel_rfl) (fun _ _ _ h => h) (Or.inl ⟨by rfl, ?yk323⟩) hS ?rk323
  case yk323 => (intro w0 _; go_simp; try with_reducible rfl)
  try simp only [yA, yB, yC, Act.put, yD, yE, yF]
  refine wpAnyD_ready (rs := [23]) (by kernel_rfl) (by simp) (AllReadyD.cons (i := 23) rfl (fun K hK => ?_) AllReadyD.nil)
  go_simp
  refine hK.out _ _ (fun h => absurd rfl h) (fun _ => ?_)
  clear hK K
  try simp only [yA, yB, yC, Act.put, yD, yE, yF]
  refine wpAnyD_done (by kernel_rfl) ?_ _
  refine NoPanic.normal ?_
  try simp only [Exit.then]
  clear hS
  go_wp2_with fail
  exact bodyPost_ret (results_cell_row (P := Try.prog) rfl _ _ (w.heap.size + 1) 43 _ (0, 0) _ rfl (Blk.drew (Blk.alloc (Blk.new2 w _ 43 _) _)) Try.underlying43 rfl (by kernel_rfl)) rfl ⟨⟨none, 0, none, 0, by rw [HE.out]; rfl⟩, gr_drew (gr_alloc (gr_alloc (gr_alloc (gr_refl w none) _) _) _)⟩
set_option maxHeartbeats 6400000 in
theorem plain4_c (w : World) (r : PRec) (AI : Option Addr) (cI : Nat) (AN : Option Addr) (cN : Nat) (hx1 : ¬ (r.kind == 1) = true) (hx2 : ¬ (r.kind == 2) = true) (hx3 : ¬ (r.kind == 3) = true) (hk4 : (r.kind == 4) = true) :
    Calls Try.prog 67 #[.agg (reCells r AI cI AN cN)] w fun e w' => plainP r e ∧ w.grownBy w' none := by
  have HE := As.mk (show plainR r = ⟨r.kind, r.tid, r.items, r.nodes, 0, 0, 0, 0, 0, 0, 0, 0, false⟩ by unfold plainR; rw [if_neg hx1]; rw [if_neg hx2]; rw [if_neg hx3]; rw [if_pos hk4])
  have hk1 : (r.kind == 1) = false := by simpa using hx1
  have hk2 : (r.kind == 2) = false := by simpa using hx2
  have hk3 : (r.kind == 3) = false := by simpa using hx3
  clear hx1 hx2 hx3
  unfold reCells
  go_enter Try.func67, Try.ntmps67
  go_wp2_with fail
  refine wp_region_noPanic ?_
  refine wp_region_D (S := fun w' => Blk w' w.heap.size 43 #[.int .i64 r.kind, .int .i64 r.tid.n, .int .i64 r.tid.e, .int .i64 r.tid.s, .slice AI r.items.length cI, .slice AN r.nodes.length cN, .int .i64 r.node, .int .i64 r.count, .int .i64 r.num, .int .i64 r.cell, .int .i64 r.st, .int .i64 r.hop, .int .i64 r.ver, .int .i64 r.val, .bool r.yes] ∧ True) 11 (by kernel_rfl) (⟨(((Blk.new w 43 #[.int .i64 r.kind, .int .i64 r.tid.n, .int .i64 r.tid.e, .int .i64 r.tid.s, .slice AI r.items.length cI, .slice AN r.nodes.length cN, .int .i64 r.node, .int .i64 r.count, .int .i64 r.num, .int .i64 r.cell, .int .i64 r.st, .int .i64 r.hop, .int .i64 r.ver, .int .i64 r.val, .bool r.yes]).alloc _).alloc _), trivial⟩) (fun hS => ?_)
  refine wpAnyD_take (i := 0) (v := ?vk41) rfl rfl (by kernel_rfl) (by kernel_rfl) (by kernel_rfl) (by kernel_rfl) (fun _ _ _ h => h) (Or.inl ⟨by rfl, ?yk41⟩) hS ?rk41
  case yk41 => (intro w0 _; go_simp; try with_reducible rfl)
  try simp only [yA, yB, yC, Act.put, yD, yE, yF]
  refine wpAnyD_take (i := 1) (v := ?vk42) rfl rfl (by kernel_rfl) (by kernel_rfl) (by kernel_rfl) (by kernel_rfl) (fun _ _ _ h => h) (Or.inl ⟨by rfl, ?yk42⟩) hS ?rk42
  case yk42 => (intro w0 hS0; (try simp only [] at hS0); obtain ⟨hS0_0, hS0_1⟩ := hS0; obtain ⟨q0_0, q0_1, q0_2, q0_3, q0_4, q0_5, q0_6, q0_7, q0_8, q0_9, q0_10, q0_11, q0_12, q0_13, q0_14⟩ := hS0_0.c15; go_simp; try with_reducible rfl)
  try simp only [yA, yB, yC, Act.put, yD, yE, yF]
  refine wpAnyD_take (i := 2) (v := ?vk43) rfl rfl (by kernel_rfl) (by kernel_rfl) (by kernel_rfl) (by kernel_rfl) (fun _ _ _ h => h) (Or.inl ⟨by rfl, ?yk43⟩) hS ?rk43
  case yk43 => (intro w0 _; go_simp; try with_reducible rfl)
  try simp only [yA, yB, yC, Act.put, yD, yE, yF]
  refine wpAnyD_take (i := 3) (v := ?vk44) rfl rfl (by kernel_rfl) (by kernel_rfl) (by kernel_rfl) (by kernel_rfl) (fun _ _ _ h => h) (Or.inl ⟨by rfl, ?yk44⟩) hS ?rk44
  case yk44 => (intro w0 hS0; (try simp only [] at hS0); obtain ⟨hS0_0, hS0_1⟩ := hS0; obtain ⟨q0_0, q0_1, q0_2, q0_3, q0_4, q0_5, q0_6, q0_7, q0_8, q0_9, q0_10, q0_11, q0_12, q0_13, q0_14⟩ := hS0_0.c15; go_simp; try with_reducible rfl)
  try simp only [yA, yB, yC, Act.put, yD, yE, yF]
  refine wpAnyD_take (i := 4) (v := ?vk45) rfl rfl (by kernel_rfl) (by kernel_rfl) (by kernel_rfl) (by kernel_rfl) (fun _ _ _ h => h) (Or.inl ⟨by rfl, ?yk45⟩) hS ?rk45
  case yk45 => (intro w0 _; go_simp; try with_reducible rfl)
  try simp only [yA, yB, yC, Act.put, yD, yE, yF]
  refine wpAnyD_take (i := 5) (v := ?vk46) rfl rfl (by kernel_rfl) (by kernel_rfl) (by kernel_rfl) (by kernel_rfl) (fun _ _ _ h => h) (Or.inl ⟨by rfl, ?yk46⟩) hS ?rk46
  case yk46 => (intro w0 hS0; (try simp only [] at hS0); obtain ⟨hS0_0, hS0_1⟩ := hS0; obtain ⟨q0_0, q0_1, q0_2, q0_3, q0_4, q0_5, q0_6, q0_7, q0_8, q0_9, q0_10, q0_11, q0_12, q0_13, q0_14⟩ := hS0_0.c15; go_simp; try with_reducible rfl)
  try simp only [yA, yB, yC, Act.put, yD, yE, yF]
  refine wpAnyD_take (i := 6) (v := ?vk47) rfl rfl (by kernel_rfl) (by kernel_rfl) (by kernel_rfl) (by kernel_rfl) (fun _ _ _ h => h) (Or.inl ⟨by rfl, ?yk47⟩) hS ?rk47
  case yk47 => (intro w0 _; go_simp; try with_reducible rfl)
  try simp only [yA, yB, yC, Act.put, yD, yE, yF]
  refine wpAnyD_ready (rs := [7]) (by kernel_rfl) (by simp) (AllReadyD.cons (i := 7) rfl (fun K hK => ?_) AllReadyD.nil)
  go_simp
  refine hK.out _ _ (fun _ => ⟨(((Blk.new w 43 #[.int .i64 r.kind, .int .i64 r.tid.n, .int .i64 r.tid.e, .int .i64 r.tid.s, .slice AI r.items.length cI, .slice AN r.nodes.length cN, .int .i64 r.node, .int .i64 r.count, .int .i64 r.num, .int .i64 r.cell, .int .i64 r.st, .int .i64 r.hop, .int .i64 r.ver, .int .i64 r.val, .bool r.yes]).alloc _).alloc _), trivial⟩) (fun hS' => ?_)
  replace hS := hS' (by decide)
  clear hS'
  clear hK K
  try simp only [yA, yB, yC, Act.put, yD, yE, yF]
  refine wpAnyD_take (i := 8) (v := ?vk49) rfl rfl (by kernel_rfl) (by kernel_rfl) (by kernel_rfl) (by kernel_rfl) (fun _ _ _ h => h) (Or.inl ⟨by rfl, ?yk49⟩) hS ?rk49
  case yk49 => (intro w0 _; go_simp; try with_reducible rfl)
  try simp only [yA, yB, yC, Act.put, yD, yE, yF]
  refine wpAnyD_ready (rs := [9]) (by kernel_rfl) (by simp) (AllReadyD.cons (i := 9) rfl (fun K hK => ?_) AllReadyD.nil)
  go_simp
  refine hK.out _ _ (fun _ => ⟨(((Blk.new w 43 #[.int .i64 r.kind, .int .i64 r.tid.n, .int .i64 r.tid.e, .int .i64 r.tid.s, .slice AI r.items.length cI, .slice AN r.nodes.length cN, .int .i64 r.node, .int .i64 r.count, .int .i64 r.num, .int .i64 r.cell, .int .i64 r.st, .int .i64 r.hop, .int .i64 r.ver, .int .i64 r.val, .bool r.yes]).alloc _).alloc _), trivial⟩) (fun hS' => ?_)
  replace hS := hS' (by decide)
  clear hS'
  clear hK K
  try simp only [yA, yB, yC, Act.put, yD, yE, yF]
  refine wpAnyD_take (i := 10) (v := ?vk411) rfl rfl (by kernel_rfl) (by kernel_rfl) (by kernel_rfl) (by kernel_rfl) (fun _ _ _ h => h) (Or.inl ⟨by rfl, ?yk411⟩) hS ?rk411
  case yk411 => (intro w0 _; go_simp; try with_reducible rfl)
  try simp only [yA, yB, yC, Act.put, yD, yE, yF]
  refine wpAnyD_ready (rs := [11]) (by kernel_rfl) (by simp) (AllReadyD.cons (i := 11) rfl (fun K hK => ?_) AllReadyD.nil)
  go_simp
  refine hK.out _ _ (fun h => absurd rfl h) (fun _ => ?_)
  clear hK K
  try simp only [yA, yB, yC, Act.put, yD, yE, yF]
  refine wpAnyD_done (by kernel_rfl) ?_ _
  refine NoPanic.normal ?_
  try simp only [Exit.then]
  clear hS
  go_wp2_with fail
  exact bodyPost_ret (results_cell_row (P := Try.prog) rfl _ _ (w.heap.size + 1) 43 _ (0, 0) _ rfl (Blk.drew (Blk.alloc (Blk.new2 w _ 43 _) _)) Try.underlying43 rfl (by kernel_rfl)) rfl ⟨⟨AI, cI, AN, cN, by rw [HE.out]; rfl⟩, gr_drew (gr_alloc (gr_alloc (gr_alloc (gr_refl w none) _) _) _)⟩
set_option maxHeartbeats 6400000 in
theorem plain5_c (w : World) (r : PRec) (AI : Option Addr) (cI : Nat) (AN : Option Addr) (cN : Nat) (hx1 : ¬ (r.kind == 1) = true) (hx2 : ¬ (r.kind == 2) = true) (hx3 : ¬ (r.kind == 3) = true) (hx4 : ¬ (r.kind == 4) = true) (hk5 : (r.kind == 5) = true) :
    Calls Try.prog 67 #[.agg (reCells r AI cI AN cN)] w fun e w' => plainP r e ∧ w.grownBy w' none := by
  have HE := As.mk (show plainR r = ⟨r.kind, r.tid, r.items, r.nodes, 0, 0, 0, 0, 0, 0, 0, 0, false⟩ by unfold plainR; rw [if_neg hx1]; rw [if_neg hx2]; rw [if_neg hx3]; rw [if_neg hx4]; rw [if_pos hk5])
  have hk1 : (r.kind == 1) = false := by simpa using hx1
  have hk2 : (r.kind == 2) = false := by simpa using hx2
  have hk3 : (r.kind == 3) = false := by simpa using hx3
  have hk4 : (r.kind == 4) = false := by simpa using hx4
  clear hx1 hx2 hx3 hx4
  unfold reCells
  go_enter Try.func67, Try.ntmps67
  go_wp2_with fail
  refine wp_region_noPanic ?_
  refine wp_region_D (S := fun w' => Blk w' w.heap.size 43 #[.int .i64 r.kind, .int .i64 r.tid.n, .int .i64 r.tid.e, .int .i64 r.tid.s, .slice AI r.items.length cI, .slice AN r.nodes.length cN, .int .i64 r.node, .int .i64 r.count, .int .i64 r.num, .int .i64 r.cell, .int .i64 r.st, .int .i64 r.hop, .int .i64 r.ver, .int .i64 r.val, .bool r.yes] ∧ True) 11 (by kernel_rfl) (⟨(((Blk.new w 43 #[.int .i64 r.kind, .int .i64 r.tid.n, .int .i64 r.tid.e, .int .i64 r.tid.s, .slice AI r.items.length cI, .slice AN r.nodes.length cN, .int .i64 r.node, .int .i64 r.count, .int .i64 r.num, .int .i64 r.cell, .int .i64 r.st, .int .i64 r.hop, .int .i64 r.ver, .int .i64 r.val, .bool r.yes]).alloc _).alloc _), trivial⟩) (fun hS => ?_)
  refine wpAnyD_take (i := 0) (v := ?vk51) rfl rfl (by kernel_rfl) (by kernel_rfl) (by kernel_rfl) (by kernel_rfl) (fun _ _ _ h => h) (Or.inl ⟨by rfl, ?yk51⟩) hS ?rk51
  case yk51 => (intro w0 _; go_simp; try with_reducible rfl)
  try simp only [yA, yB, yC, Act.put, yD, yE, yF]
  refine wpAnyD_take (i := 1) (v := ?vk52) rfl rfl (by kernel_rfl) (by kernel_rfl) (by kernel_rfl) (by kernel_rfl) (fun _ _ _ h => h) (Or.inl ⟨by rfl, ?yk52⟩) hS ?rk52
  case yk52 => (intro w0 hS0; (try simp only [] at hS0); obtain ⟨hS0_0, hS0_1⟩ := hS0; obtain ⟨q0_0, q0_1, q0_2, q0_3, q0_4, q0_5, q0_6, q0_7, q0_8, q0_9, q0_10, q0_11, q0_12, q0_13, q0_14⟩ := hS0_0.c15; go_simp; try with_reducible rfl)
  try simp only [yA, yB, yC, Act.put, yD, yE, yF]
  refine wpAnyD_take (i := 2) (v := ?vk53) rfl rfl (by kernel_rfl) (by kernel_rfl) (by kernel_rfl) (by kernel_rfl) (fun _ _ _ h => h) (Or.inl ⟨by rfl, ?yk53⟩) hS ?rk53
  case yk53 => (intro w0 _; go_simp; try with_reducible rfl)
  try simp only [yA, yB, yC, Act.put, yD, yE, yF]
  refine wpAnyD_take (i := 3) (v := ?vk54) rfl rfl (by kernel_rfl) (by kernel_rfl) (by kernel_rfl) (by kernel_rfl) (fun _ _ _ h => h) (Or.inl ⟨by rfl, ?yk54⟩) hS ?rk54
  case yk54 => (intro w0 hS0; (try simp only [] at hS0); obtain ⟨hS0_0, hS0_1⟩ := hS0; obtain ⟨q0_0, q0_1, q0_2, q0_3, q0_4, q0_5, q0_6, q0_7, q0_8, q0_9, q0_10, q0_11, q0_12, q0_13, q0_14⟩ := hS0_0.c15; go_simp; try with_reducible rfl)
  try simp only [yA, yB, yC, Act.put, yD, yE, yF]
  refine wpAnyD_take (i := 4) (v := ?vk55) rfl rfl (by kernel_rfl) (by kernel_rfl) (by kernel_rfl) (by kernel_rfl) (fun _ _ _ h => h) (Or.inl ⟨by rfl, ?yk55⟩) hS ?rk55
  case yk55 => (intro w0 _; go_simp; try with_reducible rfl)
  try simp only [yA, yB, yC, Act.put, yD, yE, yF]
  refine wpAnyD_take (i := 5) (v := ?vk56) rfl rfl (by kernel_rfl) (by kernel_rfl) (by kernel_rfl) (by kernel_rfl) (fun _ _ _ h => h) (Or.inl ⟨by rfl, ?yk56⟩) hS ?rk56
  case yk56 => (intro w0 hS0; (try simp only [] at hS0); obtain ⟨hS0_0, hS0_1⟩ := hS0; obtain ⟨q0_0, q0_1, q0_2, q0_3, q0_4, q0_5, q0_6, q0_7, q0_8, q0_9, q0_10, q0_11, q0_12, q0_13, q0_14⟩ := hS0_0.c15; go_simp; try with_reducible rfl)
  try simp only [yA, yB, yC, Act.put, yD, yE, yF]
  refine wpAnyD_take (i := 6) (v := ?vk57) rfl rfl (by kernel_rfl) (by kernel_rfl) (by kernel_rfl) (by kernel_rfl) (fun _ _ _ h => h) (Or.inl ⟨by rfl, ?yk57⟩) hS ?rk57
  case yk57 => (intro w0 _; go_simp; try with_reducible rfl)
  try simp only [yA, yB, yC, Act.put, yD, yE, yF]
  refine wpAnyD_ready (rs := [7]) (by kernel_rfl) (by simp) (AllReadyD.cons (i := 7) rfl (fun K hK => ?_) AllReadyD.nil)
  go_simp
  refine hK.out _ _ (fun _ => ⟨(((Blk.new w 43 #[.int .i64 r.kind, .int .i64 r.tid.n, .int .i64 r.tid.e, .int .i64 r.tid.s, .slice AI r.items.length cI, .slice AN r.nodes.length cN, .int .i64 r.node, .int .i64 r.count, .int .i64 r.num, .int .i64 r.cell, .int .i64 r.st, .int .i64 r.hop, .int .i64 r.ver, .int .i64 r.val, .bool r.yes]).alloc _).alloc _), trivial⟩) (fun hS' => ?_)
  replace hS := hS' (by decide)
  clear hS'
  clear hK K
  try simp only [yA, yB, yC, Act.put, yD, yE, yF]
  refine wpAnyD_take (i := 8) (v := ?vk59) rfl rfl (by kernel_rfl) (by kernel_rfl) (by kernel_rfl) (by kernel_rfl) (fun _ _ _ h => h) (Or.inl ⟨by rfl, ?yk59⟩) hS ?rk59
  case yk59 => (intro w0 _; go_simp; try with_reducible rfl)
  try simp only [yA, yB, yC, Act.put, yD, yE, yF]
  refine wpAnyD_ready (rs := [9]) (by kernel_rfl) (by simp) (AllReadyD.cons (i := 9) rfl (fun K hK => ?_) AllReadyD.nil)
  go_simp
  refine hK.out _ _ (fun _ => ⟨(((Blk.new w 43 #[.int .i64 r.kind, .int .i64 r.tid.n, .int .i64 r.tid.e, .int .i64 r.tid.s, .slice AI r.items.length cI, .slice AN r.nodes.length cN, .int .i64 r.node, .int .i64 r.count, .int .i64 r.num, .int .i64 r.cell, .int .i64 r.st, .int .i64 r.hop, .int .i64 r.ver, .int .i64 r.val, .bool r.yes]).alloc _).alloc _), trivial⟩) (fun hS' => ?_)
  replace hS := hS' (by decide)
  clear hS'
  clear hK K
  try simp only [yA, yB, yC, Act.put, yD, yE, yF]
  refine wpAnyD_take (i := 10) (v := ?vk511) rfl rfl (by kernel_rfl) (by kernel_rfl) (by kernel_rfl) (by kernel_rfl) (fun _ _ _ h => h) (Or.inl ⟨by rfl, ?yk511⟩) hS ?rk511
  case yk511 => (intro w0 _; go_simp; try with_reducible rfl)
  try simp only [yA, yB, yC, Act.put, yD, yE, yF]
  refine wpAnyD_ready (rs := [11]) (by kernel_rfl) (by simp) (AllReadyD.cons (i := 11) rfl (fun K hK => ?_) AllReadyD.nil)
  go_simp
  refine hK.out _ _ (fun h => absurd rfl h) (fun _ => ?_)
  clear hK K
  try simp only [yA, yB, yC, Act.put, yD, yE, yF]
  refine wpAnyD_done (by kernel_rfl) ?_ _
  refine NoPanic.normal ?_
  try simp only [Exit.then]
  clear hS
  go_wp2_with fail
  exact bodyPost_ret (results_cell_row (P := Try.prog) rfl _ _ (w.heap.size + 1) 43 _ (0, 0) _ rfl (Blk.drew (Blk.alloc (Blk.new2 w _ 43 _) _)) Try.underlying43 rfl (by kernel_rfl)) rfl ⟨⟨AI, cI, AN, cN, by rw [HE.out]; rfl⟩, gr_drew (gr_alloc (gr_alloc (gr_alloc (gr_refl w none) _) _) _)⟩
set_option maxHeartbeats 6400000 in
theorem plain6_c (w : World) (r : PRec) (AI : Option Addr) (cI : Nat) (AN : Option Addr) (cN : Nat) (hx1 : ¬ (r.kind == 1) = true) (hx2 : ¬ (r.kind == 2) = true) (hx3 : ¬ (r.kind == 3) = true) (hx4 : ¬ (r.kind == 4) = true) (hx5 : ¬ (r.kind == 5) = true) (hk6 : (r.kind == 6) = true) :
    Calls Try.prog 67 #[.agg (reCells r AI cI AN cN)] w fun e w' => plainP r e ∧ w.grownBy w' none := by
  have HE := As.mk (show plainR r = ⟨r.kind, r.tid, [], [], 0, 0, 0, 0, 0, 0, 0, 0, r.yes⟩ by unfold plainR; rw [if_neg hx1]; rw [if_neg hx2]; rw [if_neg hx3]; rw [if_neg hx4]; rw [if_neg hx5]; rw [if_pos hk6])
  have hk1 : (r.kind == 1) = false := by simpa using hx1
  have hk2 : (r.kind == 2) = false := by simpa using hx2
  have hk3 : (r.kind == 3) = false := by simpa using hx3
  have hk4 : (r.kind == 4) = false := by simpa using hx4
  have hk5 : (r.kind == 5) = false := by simpa using hx5
  clear hx1 hx2 hx3 hx4 hx5
  unfold reCells
  go_enter Try.func67, Try.ntmps67
  go_wp2_with fail
  refine wp_region_noPanic ?_
  refine wp_region_D (S := fun w' => Blk w' w.heap.size 43 #[.int .i64 r.kind, .int .i64 r.tid.n, .int .i64 r.tid.e, .int .i64 r.tid.s, .slice AI r.items.length cI, .slice AN r.nodes.length cN, .int .i64 r.node, .int .i64 r.count, .int .i64 r.num, .int .i64 r.cell, .int .i64 r.st, .int .i64 r.hop, .int .i64 r.ver, .int .i64 r.val, .bool r.yes] ∧ True) 7 (by kernel_rfl) (⟨(((Blk.new w 43 #[.int .i64 r.kind, .int .i64 r.tid.n, .int .i64 r.tid.e, .int .i64 r.tid.s, .slice AI r.items.length cI, .slice AN r.nodes.length cN, .int .i64 r.node, .int .i64 r.count, .int .i64 r.num, .int .i64 r.cell, .int .i64 r.st, .int .i64 r.hop, .int .i64 r.ver, .int .i64 r.val, .bool r.yes]).alloc _).alloc _), trivial⟩) (fun hS => ?_)
  refine wpAnyD_take (i := 0) (v := ?vk61) rfl rfl (by kernel_rfl) (by kernel_rfl) (by kernel_rfl) (by kernel_rfl) (fun _ _ _ h => h) (Or.inl ⟨by rfl, ?yk61⟩) hS ?rk61
  case yk61 => (intro w0 _; go_simp; try with_reducible rfl)
  try simp only [yA, yB, yC, Act.put, yD, yE, yF]
  refine wpAnyD_take (i := 1) (v := ?vk62) rfl rfl (by kernel_rfl) (by kernel_rfl) (by kernel_rfl) (by kernel_rfl) (fun _ _ _ h => h) (Or.inl ⟨by rfl, ?yk62⟩) hS ?rk62
  case yk62 => (intro w0 hS0; (try simp only [] at hS0); obtain ⟨hS0_0, hS0_1⟩ := hS0; obtain ⟨q0_0, q0_1, q0_2, q0_3, q0_4, q0_5, q0_6, q0_7, q0_8, q0_9, q0_10, q0_11, q0_12, q0_13, q0_14⟩ := hS0_0.c15; go_simp; try with_reducible rfl)
  try simp only [yA, yB, yC, Act.put, yD, yE, yF]
  refine wpAnyD_take (i := 2) (v := ?vk63) rfl rfl (by kernel_rfl) (by kernel_rfl) (by kernel_rfl) (by kernel_rfl) (fun _ _ _ h => h) (Or.inl ⟨by rfl, ?yk63⟩) hS ?rk63
  case yk63 => (intro w0 _; go_simp; try with_reducible rfl)
  try simp only [yA, yB, yC, Act.put, yD, yE, yF]
  refine wpAnyD_take (i := 3) (v := ?vk64) rfl rfl (by kernel_rfl) (by kernel_rfl) (by kernel_rfl) (by kernel_rfl) (fun _ _ _ h => h) (Or.inl ⟨by rfl, ?yk64⟩) hS ?rk64
  case yk64 => (intro w0 hS0; (try simp only [] at hS0); obtain ⟨hS0_0, hS0_1⟩ := hS0; obtain ⟨q0_0, q0_1, q0_2, q0_3, q0_4, q0_5, q0_6, q0_7, q0_8, q0_9, q0_10, q0_11, q0_12, q0_13, q0_14⟩ := hS0_0.c15; go_simp; try with_reducible rfl)
  try simp only [yA, yB, yC, Act.put, yD, yE, yF]
  refine wpAnyD_take (i := 4) (v := ?vk65) rfl rfl (by kernel_rfl) (by kernel_rfl) (by kernel_rfl) (by kernel_rfl) (fun _ _ _ h => h) (Or.inl ⟨by rfl, ?yk65⟩) hS ?rk65
  case yk65 => (intro w0 _; go_simp; try with_reducible rfl)
  try simp only [yA, yB, yC, Act.put, yD, yE, yF]
  refine wpAnyD_ready (rs := [5]) (by kernel_rfl) (by simp) (AllReadyD.cons (i := 5) rfl (fun K hK => ?_) AllReadyD.nil)
  go_simp
  refine hK.out _ _ (fun _ => ⟨(((Blk.new w 43 #[.int .i64 r.kind, .int .i64 r.tid.n, .int .i64 r.tid.e, .int .i64 r.tid.s, .slice AI r.items.length cI, .slice AN r.nodes.length cN, .int .i64 r.node, .int .i64 r.count, .int .i64 r.num, .int .i64 r.cell, .int .i64 r.st, .int .i64 r.hop, .int .i64 r.ver, .int .i64 r.val, .bool r.yes]).alloc _).alloc _), trivial⟩) (fun hS' => ?_)
  replace hS := hS' (by decide)
  clear hS'
  clear hK K
  try simp only [yA, yB, yC, Act.put, yD, yE, yF]
  refine wpAnyD_take (i := 6) (v := ?vk67) rfl rfl (by kernel_rfl) (by kernel_rfl) (by kernel_rfl) (by kernel_rfl) (fun _ _ _ h => h) (Or.inl ⟨by rfl, ?yk67⟩) hS ?rk67
  case yk67 => (intro w0 _; go_simp; try with_reducible rfl)
  try simp only [yA, yB, yC, Act.put, yD, yE, yF]
  refine wpAnyD_ready (rs := [7]) (by kernel_rfl) (by simp) (AllReadyD.cons (i := 7) rfl (fun K hK => ?_) AllReadyD.nil)
  go_simp
  refine hK.out _ _ (fun h => absurd rfl h) (fun _ => ?_)
  clear hK K
  try simp only [yA, yB, yC, Act.put, yD, yE, yF]
  refine wpAnyD_done (by kernel_rfl) ?_ _
  refine NoPanic.normal ?_
  try simp only [Exit.then]
  clear hS
  go_wp2_with fail
  exact bodyPost_ret (results_cell_row (P := Try.prog) rfl _ _ (w.heap.size + 1) 43 _ (0, 0) _ rfl (Blk.drew (Blk.alloc (Blk.new2 w _ 43 _) _)) Try.underlying43 rfl (by kernel_rfl)) rfl ⟨⟨none, 0, none, 0, by rw [HE.out]; rfl⟩, gr_drew (gr_alloc (gr_alloc (gr_alloc (gr_refl w none) _) _) _)⟩
end Go.Proofs.Ytdmkijdbldcdiaa
