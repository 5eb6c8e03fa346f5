/- The walk of plain, more kinds. (Printed by wip/gen/gen_mb.py.) -/
import Derived.Test.YtdmkijdbldcdiaaMb
namespace Go.Proofs.Ytdmkijdbldcdiaa
open Go.RowKit
set_option linter.unusedVariables false
set_option linter.unusedSimpArgs false
set_option maxRecDepth 100000

set_option maxHeartbeats 6400000 in
theorem plain7_c (w : World) (r : PRec) (AI : Option Addr) (cI : Nat) (AN : Option Addr) (cN : Nat) (hx1 : ¬ (r.kind == 1) = true) (hx2 : ¬ (r.kind == 2) = true) (hx3 : ¬ (r.kind == 3) = true) (hx4 : ¬ (r.kind == 4) = true) (hx5 : ¬ (r.kind == 5) = true) (hx6 : ¬ (r.kind == 6) = true) (hk7 : (r.kind == 7) = true) :
    Calls Try.prog 67 #[.agg (reCells r AI cI AN cN)] w fun e w' => plainP r e ∧ w.grownBy w' none := by
  have HE := As.mk (show plainR r = ⟨r.kind, r.tid, [], [], 0, 0, 0, 0, 0, 0, 0, 0, false⟩ by unfold plainR; rw [if_neg hx1]; rw [if_neg hx2]; rw [if_neg hx3]; rw [if_neg hx4]; rw [if_neg hx5]; rw [if_neg hx6]; rw [if_pos hk7])
  have hk1 : (r.kind == 1) = false := by simpa using hx1
  have hk2 : (r.kind == 2) = false := by simpa using hx2
  have hk3 : (r.kind == 3) = false := by simpa using hx3
  have hk4 : (r.kind == 4) = false := by simpa using hx4
  have hk5 : (r.kind == 5) = false := by simpa using hx5
  have hk6 : (r.kind == 6) = false := by simpa using hx6
  clear hx1 hx2 hx3 hx4 hx5 hx6
  unfold reCells
  go_enter Try.func67, Try.ntmps67
  go_wp2_with fail
  exact bodyPost_ret (results_cell_row (P := Try.prog) rfl _ _ (w.heap.size + 1) 43 _ (0, 0) _ rfl (Blk.alloc (Blk.new2 w _ 43 _) _) Try.underlying43 rfl (by kernel_rfl)) rfl ⟨⟨none, 0, none, 0, by rw [HE.out]; rfl⟩, (gr_alloc (gr_alloc (gr_alloc (gr_refl w none) _) _) _)⟩
set_option maxHeartbeats 6400000 in
theorem plain8_c (w : World) (r : PRec) (AI : Option Addr) (cI : Nat) (AN : Option Addr) (cN : Nat) (hx1 : ¬ (r.kind == 1) = true) (hx2 : ¬ (r.kind == 2) = true) (hx3 : ¬ (r.kind == 3) = true) (hx4 : ¬ (r.kind == 4) = true) (hx5 : ¬ (r.kind == 5) = true) (hx6 : ¬ (r.kind == 6) = true) (hx7 : ¬ (r.kind == 7) = true) (hk8 : (r.kind == 8) = true) :
    Calls Try.prog 67 #[.agg (reCells r AI cI AN cN)] w fun e w' => plainP r e ∧ w.grownBy w' none := by
  have HE := As.mk (show plainR r = ⟨r.kind, zT, [], [], r.node, 0, 0, r.cell, 0, r.hop, 0, 0, false⟩ by unfold plainR; rw [if_neg hx1]; rw [if_neg hx2]; rw [if_neg hx3]; rw [if_neg hx4]; rw [if_neg hx5]; rw [if_neg hx6]; rw [if_neg hx7]; rw [if_pos hk8])
  have hk1 : (r.kind == 1) = false := by simpa using hx1
  have hk2 : (r.kind == 2) = false := by simpa using hx2
  have hk3 : (r.kind == 3) = false := by simpa using hx3
  have hk4 : (r.kind == 4) = false := by simpa using hx4
  have hk5 : (r.kind == 5) = false := by simpa using hx5
  have hk6 : (r.kind == 6) = false := by simpa using hx6
  have hk7 : (r.kind == 7) = false := by simpa using hx7
  clear hx1 hx2 hx3 hx4 hx5 hx6 hx7
  unfold reCells
  go_enter Try.func67, Try.ntmps67
  go_wp2_with fail
  refine wp_region_noPanic ?_
  refine wp_region_D (S := fun w' => Blk w' w.heap.size 43 #[.int .i64 r.kind, .int .i64 r.tid.n, .int .i64 r.tid.e, .int .i64 r.tid.s, .slice AI r.items.length cI, .slice AN r.nodes.length cN, .int .i64 r.node, .int .i64 r.count, .int .i64 r.num, .int .i64 r.cell, .int .i64 r.st, .int .i64 r.hop, .int .i64 r.ver, .int .i64 r.val, .bool r.yes] ∧ True) 11 (by kernel_rfl) (⟨(((Blk.new w 43 #[.int .i64 r.kind, .int .i64 r.tid.n, .int .i64 r.tid.e, .int .i64 r.tid.s, .slice AI r.items.length cI, .slice AN r.nodes.length cN, .int .i64 r.node, .int .i64 r.count, .int .i64 r.num, .int .i64 r.cell, .int .i64 r.st, .int .i64 r.hop, .int .i64 r.ver, .int .i64 r.val, .bool r.yes]).alloc _).alloc _), trivial⟩) (fun hS => ?_)
  refine wpAnyD_take (i := 0) (v := ?vk81) rfl rfl (by kernel_rfl) (by kernel_rfl) (by kernel_rfl) (by kernel_rfl) (fun _ _ _ h => h) (Or.inl ⟨by rfl, ?yk81⟩) hS ?rk81
  case yk81 => (intro w0 _; go_simp; try with_reducible rfl)
  try simp only [yA, yB, yC, Act.put, yD, yE, yF]
  refine wpAnyD_take (i := 1) (v := ?vk82) rfl rfl (by kernel_rfl) (by kernel_rfl) (by kernel_rfl) (by kernel_rfl) (fun _ _ _ h => h) (Or.inl ⟨by rfl, ?yk82⟩) hS ?rk82
  case yk82 => (intro w0 hS0; (try simp only [] at hS0); obtain ⟨hS0_0, hS0_1⟩ := hS0; obtain ⟨q0_0, q0_1, q0_2, q0_3, q0_4, q0_5, q0_6, q0_7, q0_8, q0_9, q0_10, q0_11, q0_12, q0_13, q0_14⟩ := hS0_0.c15; go_simp; try with_reducible rfl)
  try simp only [yA, yB, yC, Act.put, yD, yE, yF]
  refine wpAnyD_take (i := 2) (v := ?vk83) rfl rfl (by kernel_rfl) (by kernel_rfl) (by kernel_rfl) (by kernel_rfl) (fun _ _ _ h => h) (Or.inl ⟨by rfl, ?yk83⟩) hS ?rk83
  case yk83 => (intro w0 _; go_simp; try with_reducible rfl)
  try simp only [yA, yB, yC, Act.put, yD, yE, yF]
  refine wpAnyD_take (i := 3) (v := ?vk84) rfl rfl (by kernel_rfl) (by kernel_rfl) (by kernel_rfl) (by kernel_rfl) (fun _ _ _ h => h) (Or.inl ⟨by rfl, ?yk84⟩) hS ?rk84
  case yk84 => (intro w0 hS0; (try simp only [] at hS0); obtain ⟨hS0_0, hS0_1⟩ := hS0; obtain ⟨q0_0, q0_1, q0_2, q0_3, q0_4, q0_5, q0_6, q0_7, q0_8, q0_9, q0_10, q0_11, q0_12, q0_13, q0_14⟩ := hS0_0.c15; go_simp; try with_reducible rfl)
  try simp only [yA, yB, yC, Act.put, yD, yE, yF]
  refine wpAnyD_take (i := 4) (v := ?vk85) rfl rfl (by kernel_rfl) (by kernel_rfl) (by kernel_rfl) (by kernel_rfl) (fun _ _ _ h => h) (Or.inl ⟨by rfl, ?yk85⟩) hS ?rk85
  case yk85 => (intro w0 _; go_simp; try with_reducible rfl)
  try simp only [yA, yB, yC, Act.put, yD, yE, yF]
  refine wpAnyD_take (i := 5) (v := ?vk86) rfl rfl (by kernel_rfl) (by kernel_rfl) (by kernel_rfl) (by kernel_rfl) (fun _ _ _ h => h) (Or.inl ⟨by rfl, ?yk86⟩) hS ?rk86
  case yk86 => (intro w0 hS0; (try simp only [] at hS0); obtain ⟨hS0_0, hS0_1⟩ := hS0; obtain ⟨q0_0, q0_1, q0_2, q0_3, q0_4, q0_5, q0_6, q0_7, q0_8, q0_9, q0_10, q0_11, q0_12, q0_13, q0_14⟩ := hS0_0.c15; go_simp; try with_reducible rfl)
  try simp only [yA, yB, yC, Act.put, yD, yE, yF]
  refine wpAnyD_take (i := 6) (v := ?vk87) rfl rfl (by kernel_rfl) (by kernel_rfl) (by kernel_rfl) (by kernel_rfl) (fun _ _ _ h => h) (Or.inl ⟨by rfl, ?yk87⟩) hS ?rk87
  case yk87 => (intro w0 _; go_simp; try with_reducible rfl)
  try simp only [yA, yB, yC, Act.put, yD, yE, yF]
  refine wpAnyD_ready (rs := [7]) (by kernel_rfl) (by simp) (AllReadyD.cons (i := 7) rfl (fun K hK => ?_) AllReadyD.nil)
  go_simp
  refine hK.out _ _ (fun _ => ⟨(((Blk.new w 43 #[.int .i64 r.kind, .int .i64 r.tid.n, .int .i64 r.tid.e, .int .i64 r.tid.s, .slice AI r.items.length cI, .slice AN r.nodes.length cN, .int .i64 r.node, .int .i64 r.count, .int .i64 r.num, .int .i64 r.cell, .int .i64 r.st, .int .i64 r.hop, .int .i64 r.ver, .int .i64 r.val, .bool r.yes]).alloc _).alloc _), trivial⟩) (fun hS' => ?_)
  replace hS := hS' (by decide)
  clear hS'
  clear hK K
  try simp only [yA, yB, yC, Act.put, yD, yE, yF]
  refine wpAnyD_take (i := 8) (v := ?vk89) rfl rfl (by kernel_rfl) (by kernel_rfl) (by kernel_rfl) (by kernel_rfl) (fun _ _ _ h => h) (Or.inl ⟨by rfl, ?yk89⟩) hS ?rk89
  case yk89 => (intro w0 _; go_simp; try with_reducible rfl)
  try simp only [yA, yB, yC, Act.put, yD, yE, yF]
  refine wpAnyD_ready (rs := [9]) (by kernel_rfl) (by simp) (AllReadyD.cons (i := 9) rfl (fun K hK => ?_) AllReadyD.nil)
  go_simp
  refine hK.out _ _ (fun _ => ⟨(((Blk.new w 43 #[.int .i64 r.kind, .int .i64 r.tid.n, .int .i64 r.tid.e, .int .i64 r.tid.s, .slice AI r.items.length cI, .slice AN r.nodes.length cN, .int .i64 r.node, .int .i64 r.count, .int .i64 r.num, .int .i64 r.cell, .int .i64 r.st, .int .i64 r.hop, .int .i64 r.ver, .int .i64 r.val, .bool r.yes]).alloc _).alloc _), trivial⟩) (fun hS' => ?_)
  replace hS := hS' (by decide)
  clear hS'
  clear hK K
  try simp only [yA, yB, yC, Act.put, yD, yE, yF]
  refine wpAnyD_take (i := 10) (v := ?vk811) rfl rfl (by kernel_rfl) (by kernel_rfl) (by kernel_rfl) (by kernel_rfl) (fun _ _ _ h => h) (Or.inl ⟨by rfl, ?yk811⟩) hS ?rk811
  case yk811 => (intro w0 _; go_simp; try with_reducible rfl)
  try simp only [yA, yB, yC, Act.put, yD, yE, yF]
  refine wpAnyD_ready (rs := [11]) (by kernel_rfl) (by simp) (AllReadyD.cons (i := 11) rfl (fun K hK => ?_) AllReadyD.nil)
  go_simp
  refine hK.out _ _ (fun h => absurd rfl h) (fun _ => ?_)
  clear hK K
  try simp only [yA, yB, yC, Act.put, yD, yE, yF]
  refine wpAnyD_done (by kernel_rfl) ?_ _
  refine NoPanic.normal ?_
  try simp only [Exit.then]
  clear hS
  go_wp2_with fail
  exact bodyPost_ret (results_cell_row (P := Try.prog) rfl _ _ (w.heap.size + 1) 43 _ (0, 0) _ rfl (Blk.drew (Blk.alloc (Blk.new2 w _ 43 _) _)) Try.underlying43 rfl (by kernel_rfl)) rfl ⟨⟨none, 0, none, 0, by rw [HE.out]; rfl⟩, gr_drew (gr_alloc (gr_alloc (gr_alloc (gr_refl w none) _) _) _)⟩
set_option maxHeartbeats 6400000 in
theorem plain9_c (w : World) (r : PRec) (AI : Option Addr) (cI : Nat) (AN : Option Addr) (cN : Nat) (hx1 : ¬ (r.kind == 1) = true) (hx2 : ¬ (r.kind == 2) = true) (hx3 : ¬ (r.kind == 3) = true) (hx4 : ¬ (r.kind == 4) = true) (hx5 : ¬ (r.kind == 5) = true) (hx6 : ¬ (r.kind == 6) = true) (hx7 : ¬ (r.kind == 7) = true) (hx8 : ¬ (r.kind == 8) = true) (hk9 : (r.kind == 9) = true) :
    Calls Try.prog 67 #[.agg (reCells r AI cI AN cN)] w fun e w' => plainP r e ∧ w.grownBy w' none := by
  have HE := As.mk (show plainR r = ⟨r.kind, zT, [], [], 0, 0, 0, r.cell, 0, r.hop, r.ver, r.val, false⟩ by unfold plainR; rw [if_neg hx1]; rw [if_neg hx2]; rw [if_neg hx3]; rw [if_neg hx4]; rw [if_neg hx5]; rw [if_neg hx6]; rw [if_neg hx7]; rw [if_neg hx8]; rw [if_pos hk9])
  have hk1 : (r.kind == 1) = false := by simpa using hx1
  have hk2 : (r.kind == 2) = false := by simpa using hx2
  have hk3 : (r.kind == 3) = false := by simpa using hx3
  have hk4 : (r.kind == 4) = false := by simpa using hx4
  have hk5 : (r.kind == 5) = false := by simpa using hx5
  have hk6 : (r.kind == 6) = false := by simpa using hx6
  have hk7 : (r.kind == 7) = false := by simpa using hx7
  have hk8 : (r.kind == 8) = false := by simpa using hx8
  clear hx1 hx2 hx3 hx4 hx5 hx6 hx7 hx8
  unfold reCells
  go_enter Try.func67, Try.ntmps67
  go_wp2_with fail
  refine wp_region_noPanic ?_
  refine wp_region_D (S := fun w' => Blk w' w.heap.size 43 #[.int .i64 r.kind, .int .i64 r.tid.n, .int .i64 r.tid.e, .int .i64 r.tid.s, .slice AI r.items.length cI, .slice AN r.nodes.length cN, .int .i64 r.node, .int .i64 r.count, .int .i64 r.num, .int .i64 r.cell, .int .i64 r.st, .int .i64 r.hop, .int .i64 r.ver, .int .i64 r.val, .bool r.yes] ∧ True) 15 (by kernel_rfl) (⟨(((Blk.new w 43 #[.int .i64 r.kind, .int .i64 r.tid.n, .int .i64 r.tid.e, .int .i64 r.tid.s, .slice AI r.items.length cI, .slice AN r.nodes.length cN, .int .i64 r.node, .int .i64 r.count, .int .i64 r.num, .int .i64 r.cell, .int .i64 r.st, .int .i64 r.hop, .int .i64 r.ver, .int .i64 r.val, .bool r.yes]).alloc _).alloc _), trivial⟩) (fun hS => ?_)
  refine wpAnyD_take (i := 0) (v := ?vk91) rfl rfl (by kernel_rfl) (by kernel_rfl) (by kernel_rfl) (by kernel_rfl) (fun _ _ _ h => h) (Or.inl ⟨by rfl, ?yk91⟩) hS ?rk91
  case yk91 => (intro w0 _; go_simp; try with_reducible rfl)
  try simp only [yA, yB, yC, Act.put, yD, yE, yF]
  refine wpAnyD_take (i := 1) (v := ?vk92) rfl rfl (by kernel_rfl) (by kernel_rfl) (by kernel_rfl) (by kernel_rfl) (fun _ _ _ h => h) (Or.inl ⟨by rfl, ?yk92⟩) hS ?rk92
  case yk92 => (intro w0 hS0; (try simp only [] at hS0); obtain ⟨hS0_0, hS0_1⟩ := hS0; obtain ⟨q0_0, q0_1, q0_2, q0_3, q0_4, q0_5, q0_6, q0_7, q0_8, q0_9, q0_10, q0_11, q0_12, q0_13, q0_14⟩ := hS0_0.c15; go_simp; try with_reducible rfl)
  try simp only [yA, yB, yC, Act.put, yD, yE, yF]
  refine wpAnyD_take (i := 2) (v := ?vk93) rfl rfl (by kernel_rfl) (by kernel_rfl) (by kernel_rfl) (by kernel_rfl) (fun _ _ _ h => h) (Or.inl ⟨by rfl, ?yk93⟩) hS ?rk93
  case yk93 => (intro w0 _; go_simp; try with_reducible rfl)
  try simp only [yA, yB, yC, Act.put, yD, yE, yF]
  refine wpAnyD_take (i := 3) (v := ?vk94) rfl rfl (by kernel_rfl) (by kernel_rfl) (by kernel_rfl) (by kernel_rfl) (fun _ _ _ h => h) (Or.inl ⟨by rfl, ?yk94⟩) hS ?rk94
  case yk94 => (intro w0 hS0; (try simp only [] at hS0); obtain ⟨hS0_0, hS0_1⟩ := hS0; obtain ⟨q0_0, q0_1, q0_2, q0_3, q0_4, q0_5, q0_6, q0_7, q0_8, q0_9, q0_10, q0_11, q0_12, q0_13, q0_14⟩ := hS0_0.c15; go_simp; try with_reducible rfl)
  try simp only [yA, yB, yC, Act.put, yD, yE, yF]
  refine wpAnyD_take (i := 4) (v := ?vk95) rfl rfl (by kernel_rfl) (by kernel_rfl) (by kernel_rfl) (by kernel_rfl) (fun _ _ _ h => h) (Or.inl ⟨by rfl, ?yk95⟩) hS ?rk95
  case yk95 => (intro w0 _; go_simp; try with_reducible rfl)
  try simp only [yA, yB, yC, Act.put, yD, yE, yF]
  refine wpAnyD_take (i := 5) (v := ?vk96) rfl rfl (by kernel_rfl) (by kernel_rfl) (by kernel_rfl) (by kernel_rfl) (fun _ _ _ h => h) (Or.inl ⟨by rfl, ?yk96⟩) hS ?rk96
  case yk96 => (intro w0 hS0; (try simp only [] at hS0); obtain ⟨hS0_0, hS0_1⟩ := hS0; obtain ⟨q0_0, q0_1, q0_2, q0_3, q0_4, q0_5, q0_6, q0_7, q0_8, q0_9, q0_10, q0_11, q0_12, q0_13, q0_14⟩ := hS0_0.c15; go_simp; try with_reducible rfl)
  try simp only [yA, yB, yC, Act.put, yD, yE, yF]
  refine wpAnyD_take (i := 6) (v := ?vk97) rfl rfl (by kernel_rfl) (by kernel_rfl) (by kernel_rfl) (by kernel_rfl) (fun _ _ _ h => h) (Or.inl ⟨by rfl, ?yk97⟩) hS ?rk97
  case yk97 => (intro w0 _; go_simp; try with_reducible rfl)
  try simp only [yA, yB, yC, Act.put, yD, yE, yF]
  refine wpAnyD_take (i := 7) (v := ?vk98) rfl rfl (by kernel_rfl) (by kernel_rfl) (by kernel_rfl) (by kernel_rfl) (fun _ _ _ h => h) (Or.inl ⟨by rfl, ?yk98⟩) hS ?rk98
  case yk98 => (intro w0 hS0; (try simp only [] at hS0); obtain ⟨hS0_0, hS0_1⟩ := hS0; obtain ⟨q0_0, q0_1, q0_2, q0_3, q0_4, q0_5, q0_6, q0_7, q0_8, q0_9, q0_10, q0_11, q0_12, q0_13, q0_14⟩ := hS0_0.c15; go_simp; try with_reducible rfl)
  try simp only [yA, yB, yC, Act.put, yD, yE, yF]
  refine wpAnyD_take (i := 8) (v := ?vk99) rfl rfl (by kernel_rfl) (by kernel_rfl) (by kernel_rfl) (by kernel_rfl) (fun _ _ _ h => h) (Or.inl ⟨by rfl, ?yk99⟩) hS ?rk99
  case yk99 => (intro w0 _; go_simp; try with_reducible rfl)
  try simp only [yA, yB, yC, Act.put, yD, yE, yF]
  refine wpAnyD_ready (rs := [9]) (by kernel_rfl) (by simp) (AllReadyD.cons (i := 9) rfl (fun K hK => ?_) AllReadyD.nil)
  go_simp
  refine hK.out _ _ (fun _ => ⟨(((Blk.new w 43 #[.int .i64 r.kind, .int .i64 r.tid.n, .int .i64 r.tid.e, .int .i64 r.tid.s, .slice AI r.items.length cI, .slice AN r.nodes.length cN, .int .i64 r.node, .int .i64 r.count, .int .i64 r.num, .int .i64 r.cell, .int .i64 r.st, .int .i64 r.hop, .int .i64 r.ver, .int .i64 r.val, .bool r.yes]).alloc _).alloc _), trivial⟩) (fun hS' => ?_)
  replace hS := hS' (by decide)
  clear hS'
  clear hK K
  try simp only [yA, yB, yC, Act.put, yD, yE, yF]
  refine wpAnyD_take (i := 10) (v := ?vk911) rfl rfl (by kernel_rfl) (by kernel_rfl) (by kernel_rfl) (by kernel_rfl) (fun _ _ _ h => h) (Or.inl ⟨by rfl, ?yk911⟩) hS ?rk911
  case yk911 => (intro w0 _; go_simp; try with_reducible rfl)
  try simp only [yA, yB, yC, Act.put, yD, yE, yF]
  refine wpAnyD_ready (rs := [11]) (by kernel_rfl) (by simp) (AllReadyD.cons (i := 11) rfl (fun K hK => ?_) AllReadyD.nil)
  go_simp
  refine hK.out _ _ (fun _ => ⟨(((Blk.new w 43 #[.int .i64 r.kind, .int .i64 r.tid.n, .int .i64 r.tid.e, .int .i64 r.tid.s, .slice AI r.items.length cI, .slice AN r.nodes.length cN, .int .i64 r.node, .int .i64 r.count, .int .i64 r.num, .int .i64 r.cell, .int .i64 r.st, .int .i64 r.hop, .int .i64 r.ver, .int .i64 r.val, .bool r.yes]).alloc _).alloc _), trivial⟩) (fun hS' => ?_)
  replace hS := hS' (by decide)
  clear hS'
  clear hK K
  try simp only [yA, yB, yC, Act.put, yD, yE, yF]
  refine wpAnyD_take (i := 12) (v := ?vk913) rfl rfl (by kernel_rfl) (by kernel_rfl) (by kernel_rfl) (by kernel_rfl) (fun _ _ _ h => h) (Or.inl ⟨by rfl, ?yk913⟩) hS ?rk913
  case yk913 => (intro w0 _; go_simp; try with_reducible rfl)
  try simp only [yA, yB, yC, Act.put, yD, yE, yF]
  refine wpAnyD_ready (rs := [13]) (by kernel_rfl) (by simp) (AllReadyD.cons (i := 13) rfl (fun K hK => ?_) AllReadyD.nil)
  go_simp
  refine hK.out _ _ (fun _ => ⟨(((Blk.new w 43 #[.int .i64 r.kind, .int .i64 r.tid.n, .int .i64 r.tid.e, .int .i64 r.tid.s, .slice AI r.items.length cI, .slice AN r.nodes.length cN, .int .i64 r.node, .int .i64 r.count, .int .i64 r.num, .int .i64 r.cell, .int .i64 r.st, .int .i64 r.hop, .int .i64 r.ver, .int .i64 r.val, .bool r.yes]).alloc _).alloc _), trivial⟩) (fun hS' => ?_)
  replace hS := hS' (by decide)
  clear hS'
  clear hK K
  try simp only [yA, yB, yC, Act.put, yD, yE, yF]
  refine wpAnyD_take (i := 14) (v := ?vk915) rfl rfl (by kernel_rfl) (by kernel_rfl) (by kernel_rfl) (by kernel_rfl) (fun _ _ _ h => h) (Or.inl ⟨by rfl, ?yk915⟩) hS ?rk915
  case yk915 => (intro w0 _; go_simp; try with_reducible rfl)
  try simp only [yA, yB, yC, Act.put, yD, yE, yF]
  refine wpAnyD_ready (rs := [15]) (by kernel_rfl) (by simp) (AllReadyD.cons (i := 15) rfl (fun K hK => ?_) AllReadyD.nil)
  go_simp
  refine hK.out _ _ (fun h => absurd rfl h) (fun _ => ?_)
  clear hK K
  try simp only [yA, yB, yC, Act.put, yD, yE, yF]
  refine wpAnyD_done (by kernel_rfl) ?_ _
  refine NoPanic.normal ?_
  try simp only [Exit.then]
  clear hS
  go_wp2_with fail
  exact bodyPost_ret (results_cell_row (P := Try.prog) rfl _ _ (w.heap.size + 1) 43 _ (0, 0) _ rfl (Blk.drew (Blk.alloc (Blk.new2 w _ 43 _) _)) Try.underlying43 rfl (by kernel_rfl)) rfl ⟨⟨none, 0, none, 0, by rw [HE.out]; rfl⟩, gr_drew (gr_alloc (gr_alloc (gr_alloc (gr_refl w none) _) _) _)⟩
set_option maxHeartbeats 6400000 in
theorem plain10_c (w : World) (r : PRec) (AI : Option Addr) (cI : Nat) (AN : Option Addr) (cN : Nat) (hx1 : ¬ (r.kind == 1) = true) (hx2 : ¬ (r.kind == 2) = true) (hx3 : ¬ (r.kind == 3) = true) (hx4 : ¬ (r.kind == 4) = true) (hx5 : ¬ (r.kind == 5) = true) (hx6 : ¬ (r.kind == 6) = true) (hx7 : ¬ (r.kind == 7) = true) (hx8 : ¬ (r.kind == 8) = true) (hx9 : ¬ (r.kind == 9) = true) (hk10 : (r.kind == 10) = true) :
    Calls Try.prog 67 #[.agg (reCells r AI cI AN cN)] w fun e w' => plainP r e ∧ w.grownBy w' none := by
  have HE := As.mk (show plainR r = ⟨r.kind, zT, [], [], 0, 0, 0, r.cell, 0, r.hop, 0, 0, false⟩ by unfold plainR; rw [if_neg hx1]; rw [if_neg hx2]; rw [if_neg hx3]; rw [if_neg hx4]; rw [if_neg hx5]; rw [if_neg hx6]; rw [if_neg hx7]; rw [if_neg hx8]; rw [if_neg hx9]; rw [if_pos hk10])
  have hk1 : (r.kind == 1) = false := by simpa using hx1
  have hk2 : (r.kind == 2) = false := by simpa using hx2
  have hk3 : (r.kind == 3) = false := by simpa using hx3
  have hk4 : (r.kind == 4) = false := by simpa using hx4
  have hk5 : (r.kind == 5) = false := by simpa using hx5
  have hk6 : (r.kind == 6) = false := by simpa using hx6
  have hk7 : (r.kind == 7) = false := by simpa using hx7
  have hk8 : (r.kind == 8) = false := by simpa using hx8
  have hk9 : (r.kind == 9) = false := by simpa using hx9
  clear hx1 hx2 hx3 hx4 hx5 hx6 hx7 hx8 hx9
  unfold reCells
  go_enter Try.func67, Try.ntmps67
  go_wp2_with fail
  refine wp_region_noPanic ?_
  refine wp_region_D (S := fun w' => Blk w' w.heap.size 43 #[.int .i64 r.kind, .int .i64 r.tid.n, .int .i64 r.tid.e, .int .i64 r.tid.s, .slice AI r.items.length cI, .slice AN r.nodes.length cN, .int .i64 r.node, .int .i64 r.count, .int .i64 r.num, .int .i64 r.cell, .int .i64 r.st, .int .i64 r.hop, .int .i64 r.ver, .int .i64 r.val, .bool r.yes] ∧ True) 7 (by kernel_rfl) (⟨(((Blk.new w 43 #[.int .i64 r.kind, .int .i64 r.tid.n, .int .i64 r.tid.e, .int .i64 r.tid.s, .slice AI r.items.length cI, .slice AN r.nodes.length cN, .int .i64 r.node, .int .i64 r.count, .int .i64 r.num, .int .i64 r.cell, .int .i64 r.st, .int .i64 r.hop, .int .i64 r.ver, .int .i64 r.val, .bool r.yes]).alloc _).alloc _), trivial⟩) (fun hS => ?_)
  refine wpAnyD_take (i := 0) (v := ?vk101) rfl rfl (by kernel_rfl) (by kernel_rfl) (by kernel_rfl) (by kernel_rfl) (fun _ _ _ h => h) (Or.inl ⟨by rfl, ?yk101⟩) hS ?rk101
  case yk101 => (intro w0 _; go_simp; try with_reducible rfl)
  try simp only [yA, yB, yC, Act.put, yD, yE, yF]
  refine wpAnyD_take (i := 1) (v := ?vk102) rfl rfl (by kernel_rfl) (by kernel_rfl) (by kernel_rfl) (by kernel_rfl) (fun _ _ _ h => h) (Or.inl ⟨by rfl, ?yk102⟩) hS ?rk102
  case yk102 => (intro w0 hS0; (try simp only [] at hS0); obtain ⟨hS0_0, hS0_1⟩ := hS0; obtain ⟨q0_0, q0_1, q0_2, q0_3, q0_4, q0_5, q0_6, q0_7, q0_8, q0_9, q0_10, q0_11, q0_12, q0_13, q0_14⟩ := hS0_0.c15; go_simp; try with_reducible rfl)
  try simp only [yA, yB, yC, Act.put, yD, yE, yF]
  refine wpAnyD_take (i := 2) (v := ?vk103) rfl rfl (by kernel_rfl) (by kernel_rfl) (by kernel_rfl) (by kernel_rfl) (fun _ _ _ h => h) (Or.inl ⟨by rfl, ?yk103⟩) hS ?rk103
  case yk103 => (intro w0 _; go_simp; try with_reducible rfl)
  try simp only [yA, yB, yC, Act.put, yD, yE, yF]
  refine wpAnyD_take (i := 3) (v := ?vk104) rfl rfl (by kernel_rfl) (by kernel_rfl) (by kernel_rfl) (by kernel_rfl) (fun _ _ _ h => h) (Or.inl ⟨by rfl, ?yk104⟩) hS ?rk104
  case yk104 => (intro w0 hS0; (try simp only [] at hS0); obtain ⟨hS0_0, hS0_1⟩ := hS0; obtain ⟨q0_0, q0_1, q0_2, q0_3, q0_4, q0_5, q0_6, q0_7, q0_8, q0_9, q0_10, q0_11, q0_12, q0_13, q0_14⟩ := hS0_0.c15; go_simp; try with_reducible rfl)
  try simp only [yA, yB, yC, Act.put, yD, yE, yF]
  refine wpAnyD_take (i := 4) (v := ?vk105) rfl rfl (by kernel_rfl) (by kernel_rfl) (by kernel_rfl) (by kernel_rfl) (fun _ _ _ h => h) (Or.inl ⟨by rfl, ?yk105⟩) hS ?rk105
  case yk105 => (intro w0 _; go_simp; try with_reducible rfl)
  try simp only [yA, yB, yC, Act.put, yD, yE, yF]
  refine wpAnyD_ready (rs := [5]) (by kernel_rfl) (by simp) (AllReadyD.cons (i := 5) rfl (fun K hK => ?_) AllReadyD.nil)
  go_simp
  refine hK.out _ _ (fun _ => ⟨(((Blk.new w 43 #[.int .i64 r.kind, .int .i64 r.tid.n, .int .i64 r.tid.e, .int .i64 r.tid.s, .slice AI r.items.length cI, .slice AN r.nodes.length cN, .int .i64 r.node, .int .i64 r.count, .int .i64 r.num, .int .i64 r.cell, .int .i64 r.st, .int .i64 r.hop, .int .i64 r.ver, .int .i64 r.val, .bool r.yes]).alloc _).alloc _), trivial⟩) (fun hS' => ?_)
  replace hS := hS' (by decide)
  clear hS'
  clear hK K
  try simp only [yA, yB, yC, Act.put, yD, yE, yF]
  refine wpAnyD_take (i := 6) (v := ?vk107) rfl rfl (by kernel_rfl) (by kernel_rfl) (by kernel_rfl) (by kernel_rfl) (fun _ _ _ h => h) (Or.inl ⟨by rfl, ?yk107⟩) hS ?rk107
  case yk107 => (intro w0 _; go_simp; try with_reducible rfl)
  try simp only [yA, yB, yC, Act.put, yD, yE, yF]
  refine wpAnyD_ready (rs := [7]) (by kernel_rfl) (by simp) (AllReadyD.cons (i := 7) rfl (fun K hK => ?_) AllReadyD.nil)
  go_simp
  refine hK.out _ _ (fun h => absurd rfl h) (fun _ => ?_)
  clear hK K
  try simp only [yA, yB, yC, Act.put, yD, yE, yF]
  refine wpAnyD_done (by kernel_rfl) ?_ _
  refine NoPanic.normal ?_
  try simp only [Exit.then]
  clear hS
  go_wp2_with fail
  exact bodyPost_ret (results_cell_row (P := Try.prog) rfl _ _ (w.heap.size + 1) 43 _ (0, 0) _ rfl (Blk.drew (Blk.alloc (Blk.new2 w _ 43 _) _)) Try.underlying43 rfl (by kernel_rfl)) rfl ⟨⟨none, 0, none, 0, by rw [HE.out]; rfl⟩, gr_drew (gr_alloc (gr_alloc (gr_alloc (gr_refl w none) _) _) _)⟩
set_option maxHeartbeats 6400000 in
theorem plain11_c (w : World) (r : PRec) (AI : Option Addr) (cI : Nat) (AN : Option Addr) (cN : Nat) (hx1 : ¬ (r.kind == 1) = true) (hx2 : ¬ (r.kind == 2) = true) (hx3 : ¬ (r.kind == 3) = true) (hx4 : ¬ (r.kind == 4) = true) (hx5 : ¬ (r.kind == 5) = true) (hx6 : ¬ (r.kind == 6) = true) (hx7 : ¬ (r.kind == 7) = true) (hx8 : ¬ (r.kind == 8) = true) (hx9 : ¬ (r.kind == 9) = true) (hx10 : ¬ (r.kind == 10) = true) (hk11 : (r.kind == 11) = true) :
    Calls Try.prog 67 #[.agg (reCells r AI cI AN cN)] w fun e w' => plainP r e ∧ w.grownBy w' none := by
  have HE := As.mk (show plainR r = ⟨r.kind, r.tid, [], [], 0, 0, 0, 0, 0, 0, 0, 0, r.yes⟩ by unfold plainR; rw [if_neg hx1]; rw [if_neg hx2]; rw [if_neg hx3]; rw [if_neg hx4]; rw [if_neg hx5]; rw [if_neg hx6]; rw [if_neg hx7]; rw [if_neg hx8]; rw [if_neg hx9]; rw [if_neg hx10]; rw [if_pos hk11])
  have hk1 : (r.kind == 1) = false := by simpa using hx1
  have hk2 : (r.kind == 2) = false := by simpa using hx2
  have hk3 : (r.kind == 3) = false := by simpa using hx3
  have hk4 : (r.kind == 4) = false := by simpa using hx4
  have hk5 : (r.kind == 5) = false := by simpa using hx5
  have hk6 : (r.kind == 6) = false := by simpa using hx6
  have hk7 : (r.kind == 7) = false := by simpa using hx7
  have hk8 : (r.kind == 8) = false := by simpa using hx8
  have hk9 : (r.kind == 9) = false := by simpa using hx9
  have hk10 : (r.kind == 10) = false := by simpa using hx10
  clear hx1 hx2 hx3 hx4 hx5 hx6 hx7 hx8 hx9 hx10
  unfold reCells
  go_enter Try.func67, Try.ntmps67
  go_wp2_with fail
  refine wp_region_noPanic ?_
  refine wp_region_D (S := fun w' => Blk w' w.heap.size 43 #[.int .i64 r.kind, .int .i64 r.tid.n, .int .i64 r.tid.e, .int .i64 r.tid.s, .slice AI r.items.length cI, .slice AN r.nodes.length cN, .int .i64 r.node, .int .i64 r.count, .int .i64 r.num, .int .i64 r.cell, .int .i64 r.st, .int .i64 r.hop, .int .i64 r.ver, .int .i64 r.val, .bool r.yes] ∧ True) 7 (by kernel_rfl) (⟨(((Blk.new w 43 #[.int .i64 r.kind, .int .i64 r.tid.n, .int .i64 r.tid.e, .int .i64 r.tid.s, .slice AI r.items.length cI, .slice AN r.nodes.length cN, .int .i64 r.node, .int .i64 r.count, .int .i64 r.num, .int .i64 r.cell, .int .i64 r.st, .int .i64 r.hop, .int .i64 r.ver, .int .i64 r.val, .bool r.yes]).alloc _).alloc _), trivial⟩) (fun hS => ?_)
  refine wpAnyD_take (i := 0) (v := ?vk111) rfl rfl (by kernel_rfl) (by kernel_rfl) (by kernel_rfl) (by kernel_rfl) (fun _ _ _ h => h) (Or.inl ⟨by rfl, ?yk111⟩) hS ?rk111
  case yk111 => (intro w0 _; go_simp; try with_reducible rfl)
  try simp only [yA, yB, yC, Act.put, yD, yE, yF]
  refine wpAnyD_take (i := 1) (v := ?vk112) rfl rfl (by kernel_rfl) (by kernel_rfl) (by kernel_rfl) (by kernel_rfl) (fun _ _ _ h => h) (Or.inl ⟨by rfl, ?yk112⟩) hS ?rk112
  case yk112 => (intro w0 hS0; (try simp only [] at hS0); obtain ⟨hS0_0, hS0_1⟩ := hS0; obtain ⟨q0_0, q0_1, q0_2, q0_3, q0_4, q0_5, q0_6, q0_7, q0_8, q0_9, q0_10, q0_11, q0_12, q0_13, q0_14⟩ := hS0_0.c15; go_simp; try with_reducible rfl)
  try simp only [yA, yB, yC, Act.put, yD, yE, yF]
  refine wpAnyD_take (i := 2) (v := ?vk113) rfl rfl (by kernel_rfl) (by kernel_rfl) (by kernel_rfl) (by kernel_rfl) (fun _ _ _ h => h) (Or.inl ⟨by rfl, ?yk113⟩) hS ?rk113
  case yk113 => (intro w0 _; go_simp; try with_reducible rfl)
  try simp only [yA, yB, yC, Act.put, yD, yE, yF]
  refine wpAnyD_take (i := 3) (v := ?vk114) rfl rfl (by kernel_rfl) (by kernel_rfl) (by kernel_rfl) (by kernel_rfl) (fun _ _ _ h => h) (Or.inl ⟨by rfl, ?yk114⟩) hS ?rk114
  case yk114 => (intro w0 hS0; (try simp only [] at hS0); obtain ⟨hS0_0, hS0_1⟩ := hS0; obtain ⟨q0_0, q0_1, q0_2, q0_3, q0_4, q0_5, q0_6, q0_7, q0_8, q0_9, q0_10, q0_11, q0_12, q0_13, q0_14⟩ := hS0_0.c15; go_simp; try with_reducible rfl)
  try simp only [yA, yB, yC, Act.put, yD, yE, yF]
  refine wpAnyD_take (i := 4) (v := ?vk115) rfl rfl (by kernel_rfl) (by kernel_rfl) (by kernel_rfl) (by kernel_rfl) (fun _ _ _ h => h) (Or.inl ⟨by rfl, ?yk115⟩) hS ?rk115
  case yk115 => (intro w0 _; go_simp; try with_reducible rfl)
  try simp only [yA, yB, yC, Act.put, yD, yE, yF]
  refine wpAnyD_ready (rs := [5]) (by kernel_rfl) (by simp) (AllReadyD.cons (i := 5) rfl (fun K hK => ?_) AllReadyD.nil)
  go_simp
  refine hK.out _ _ (fun _ => ⟨(((Blk.new w 43 #[.int .i64 r.kind, .int .i64 r.tid.n, .int .i64 r.tid.e, .int .i64 r.tid.s, .slice AI r.items.length cI, .slice AN r.nodes.length cN, .int .i64 r.node, .int .i64 r.count, .int .i64 r.num, .int .i64 r.cell, .int .i64 r.st, .int .i64 r.hop, .int .i64 r.ver, .int .i64 r.val, .bool r.yes]).alloc _).alloc _), trivial⟩) (fun hS' => ?_)
  replace hS := hS' (by decide)
  clear hS'
  clear hK K
  try simp only [yA, yB, yC, Act.put, yD, yE, yF]
  refine wpAnyD_take (i := 6) (v := ?vk117) rfl rfl (by kernel_rfl) (by kernel_rfl) (by kernel_rfl) (by kernel_rfl) (fun _ _ _ h => h) (Or.inl ⟨by rfl, ?yk117⟩) hS ?rk117
  case yk117 => (intro w0 _; go_simp; try with_reducible rfl)
  try simp only [yA, yB, yC, Act.put, yD, yE, yF]
  refine wpAnyD_ready (rs := [7]) (by kernel_rfl) (by simp) (AllReadyD.cons (i := 7) rfl (fun K hK => ?_) AllReadyD.nil)
  go_simp
  refine hK.out _ _ (fun h => absurd rfl h) (fun _ => ?_)
  clear hK K
  try simp only [yA, yB, yC, Act.put, yD, yE, yF]
  refine wpAnyD_done (by kernel_rfl) ?_ _
  refine NoPanic.normal ?_
  try simp only [Exit.then]
  clear hS
  go_wp2_with fail
  exact bodyPost_ret (results_cell_row (P := Try.prog) rfl _ _ (w.heap.size + 1) 43 _ (0, 0) _ rfl (Blk.drew (Blk.alloc (Blk.new2 w _ 43 _) _)) Try.underlying43 rfl (by kernel_rfl)) rfl ⟨⟨none, 0, none, 0, by rw [HE.out]; rfl⟩, gr_drew (gr_alloc (gr_alloc (gr_alloc (gr_refl w none) _) _) _)⟩
set_option maxHeartbeats 6400000 in
theorem plain12_c (w : World) (r : PRec) (AI : Option Addr) (cI : Nat) (AN : Option Addr) (cN : Nat) (hx1 : ¬ (r.kind == 1) = true) (hx2 : ¬ (r.kind == 2) = true) (hx3 : ¬ (r.kind == 3) = true) (hx4 : ¬ (r.kind == 4) = true) (hx5 : ¬ (r.kind == 5) = true) (hx6 : ¬ (r.kind == 6) = true) (hx7 : ¬ (r.kind == 7) = true) (hx8 : ¬ (r.kind == 8) = true) (hx9 : ¬ (r.kind == 9) = true) (hx10 : ¬ (r.kind == 10) = true) (hx11 : ¬ (r.kind == 11) = true) :
    Calls Try.prog 67 #[.agg (reCells r AI cI AN cN)] w fun e w' => plainP r e ∧ w.grownBy w' none := by
  have HE := As.mk (show plainR r = ⟨r.kind, zT, [], [], 0, 0, 0, 0, 0, 0, 0, 0, false⟩ by unfold plainR; rw [if_neg hx1]; rw [if_neg hx2]; rw [if_neg hx3]; rw [if_neg hx4]; rw [if_neg hx5]; rw [if_neg hx6]; rw [if_neg hx7]; rw [if_neg hx8]; rw [if_neg hx9]; rw [if_neg hx10]; rw [if_neg hx11])
  have hk1 : (r.kind == 1) = false := by simpa using hx1
  have hk2 : (r.kind == 2) = false := by simpa using hx2
  have hk3 : (r.kind == 3) = false := by simpa using hx3
  have hk4 : (r.kind == 4) = false := by simpa using hx4
  have hk5 : (r.kind == 5) = false := by simpa using hx5
  have hk6 : (r.kind == 6) = false := by simpa using hx6
  have hk7 : (r.kind == 7) = false := by simpa using hx7
  have hk8 : (r.kind == 8) = false := by simpa using hx8
  have hk9 : (r.kind == 9) = false := by simpa using hx9
  have hk10 : (r.kind == 10) = false := by simpa using hx10
  have hk11 : (r.kind == 11) = false := by simpa using hx11
  clear hx1 hx2 hx3 hx4 hx5 hx6 hx7 hx8 hx9 hx10 hx11
  unfold reCells
  go_enter Try.func67, Try.ntmps67
  go_wp2_with fail
  exact bodyPost_ret (results_cell_row (P := Try.prog) rfl _ _ (w.heap.size + 1) 43 _ (0, 0) _ rfl (Blk.alloc (Blk.new2 w _ 43 _) _) Try.underlying43 rfl (by kernel_rfl)) rfl ⟨⟨none, 0, none, 0, by rw [HE.out]; rfl⟩, (gr_alloc (gr_alloc (gr_alloc (gr_refl w none) _) _) _)⟩
theorem plain_c (w : World) (r : PRec) (AI : Option Addr) (cI : Nat) (AN : Option Addr) (cN : Nat) :
    Calls Try.prog 67 #[.agg (reCells r AI cI AN cN)] w fun e w' => plainP r e ∧ w.grownBy w' none := by
  by_cases hx1 : (r.kind == 1) = true
  · exact plain1_c w r AI cI AN cN hx1
  by_cases hx2 : (r.kind == 2) = true
  · exact plain2_c w r AI cI AN cN hx1 hx2
  by_cases hx3 : (r.kind == 3) = true
  · exact plain3_c w r AI cI AN cN hx1 hx2 hx3
  by_cases hx4 : (r.kind == 4) = true
  · exact plain4_c w r AI cI AN cN hx1 hx2 hx3 hx4
  by_cases hx5 : (r.kind == 5) = true
  · exact plain5_c w r AI cI AN cN hx1 hx2 hx3 hx4 hx5
  by_cases hx6 : (r.kind == 6) = true
  · exact plain6_c w r AI cI AN cN hx1 hx2 hx3 hx4 hx5 hx6
  by_cases hx7 : (r.kind == 7) = true
  · exact plain7_c w r AI cI AN cN hx1 hx2 hx3 hx4 hx5 hx6 hx7
  by_cases hx8 : (r.kind == 8) = true
  · exact plain8_c w r AI cI AN cN hx1 hx2 hx3 hx4 hx5 hx6 hx7 hx8
  by_cases hx9 : (r.kind == 9) = true
  · exact plain9_c w r AI cI AN cN hx1 hx2 hx3 hx4 hx5 hx6 hx7 hx8 hx9
  by_cases hx10 : (r.kind == 10) = true
  · exact plain10_c w r AI cI AN cN hx1 hx2 hx3 hx4 hx5 hx6 hx7 hx8 hx9 hx10
  by_cases hx11 : (r.kind == 11) = true
  · exact plain11_c w r AI cI AN cN hx1 hx2 hx3 hx4 hx5 hx6 hx7 hx8 hx9 hx10 hx11
  exact plain12_c w r AI cI AN cN hx1 hx2 hx3 hx4 hx5 hx6 hx7 hx8 hx9 hx10 hx11
end Go.Proofs.Ytdmkijdbldcdiaa
