/- The walks of remudaref07.number, Same, remudalaw07.Plain. (Printed by wip/gen/gen_qd.py.) -/
import Derived.Test.YtdmkijdbldcdiaaQc
namespace Go.Proofs.Ytdmkijdbldcdiaa
open Go.RowKit
set_option linter.unusedVariables false
set_option linter.unusedSimpArgs false
set_option maxRecDepth 100000

def numF (r : PRec) (k : Nat) : Int := [0, r.node, r.count, r.num, r.cell, r.st, r.hop, r.ver, r.val].getD k 0
set_option maxHeartbeats 3200000 in
theorem number_c (w : World) (r : PRec) (AI : Option Addr) (cI : Nat) (AN : Option Addr) (cN : Nat) (k : Nat) (h1 : 1 ≤ k) (h8 : k ≤ 8) :
    Calls Try.prog 41 #[.agg (reCells r AI cI AN cN), .int .i64 (k : Int)] w fun e w' => e = .returned (.int .i64 (numF r k)) ∧ w.grownBy w' none := by
  have HG := As.mk (gr_alloc (gr_alloc (gr_refl w none) (.cells #[.int .i64 r.kind, .int .i64 r.tid.n, .int .i64 r.tid.e, .int .i64 r.tid.s, .slice AI r.items.length cI, .slice AN r.nodes.length cN, .int .i64 r.node, .int .i64 r.count, .int .i64 r.num, .int .i64 r.cell, .int .i64 r.st, .int .i64 r.hop, .int .i64 r.ver, .int .i64 r.val, .bool r.yes] 76)) (.cells #[.int .i64 0, .int .i64 r.node, .int .i64 r.count, .int .i64 r.num, .int .i64 r.cell, .int .i64 r.st, .int .i64 r.hop, .int .i64 r.ver, .int .i64 r.val] 3))
  unfold reCells
  rcases (show k = 1 ∨ k = 2 ∨ k = 3 ∨ k = 4 ∨ k = 5 ∨ k = 6 ∨ k = 7 ∨ k = 8 by omega) with rfl | rfl | rfl | rfl | rfl | rfl | rfl | rfl
  all_goals
    clear h1 h8
    go_enter Try.func41, Try.ntmps41
    go_wp2_with fail
    go_ret
    exact ⟨rfl, HG.out⟩
set_option maxHeartbeats 6400000 in
theorem Same7_c (w : World) (r : PRec) (AI1 : Option Addr) (cI1 : Nat) (AN1 : Option Addr) (cN1 : Nat) (AI2 : Option Addr) (cI2 : Nat) (AN2 : Option Addr) (cN2 : Nat)
    (hi1 : Arr ItE 5 w (.slice AI1 r.items.length cI1) r.items) (hn1 : Arr IE 1 w (.slice AN1 r.nodes.length cN1) r.nodes) (hi2 : Arr ItE 5 w (.slice AI2 r.items.length cI2) r.items) (hn2 : Arr IE 1 w (.slice AN2 r.nodes.length cN2) r.nodes) :
    Calls Try.prog 22 #[.agg (reCells r AI1 cI1 AN1 cN1), .agg (reCells r AI2 cI2 AN2 cN2)] w fun e w' => e = .returned (.bool true) ∧ w.grownBy w' none := by
  have HG := As.mk (gr_alloc (gr_alloc (gr_refl w none) (.cells #[.int .i64 r.kind, .int .i64 r.tid.n, .int .i64 r.tid.e, .int .i64 r.tid.s, .slice AI1 r.items.length cI1, .slice AN1 r.nodes.length cN1, .int .i64 r.node, .int .i64 r.count, .int .i64 r.num, .int .i64 r.cell, .int .i64 r.st, .int .i64 r.hop, .int .i64 r.ver, .int .i64 r.val, .bool r.yes] 76)) (.cells #[.int .i64 r.kind, .int .i64 r.tid.n, .int .i64 r.tid.e, .int .i64 r.tid.s, .slice AI2 r.items.length cI2, .slice AN2 r.nodes.length cN2, .int .i64 r.node, .int .i64 r.count, .int .i64 r.num, .int .i64 r.cell, .int .i64 r.st, .int .i64 r.hop, .int .i64 r.ver, .int .i64 r.val, .bool r.yes] 76))
  have HX := As.mk ((Blk.new w 76 #[.int .i64 r.kind, .int .i64 r.tid.n, .int .i64 r.tid.e, .int .i64 r.tid.s, .slice AI1 r.items.length cI1, .slice AN1 r.nodes.length cN1, .int .i64 r.node, .int .i64 r.count, .int .i64 r.num, .int .i64 r.cell, .int .i64 r.st, .int .i64 r.hop, .int .i64 r.ver, .int .i64 r.val, .bool r.yes]).alloc (.cells #[.int .i64 r.kind, .int .i64 r.tid.n, .int .i64 r.tid.e, .int .i64 r.tid.s, .slice AI2 r.items.length cI2, .slice AN2 r.nodes.length cN2, .int .i64 r.node, .int .i64 r.count, .int .i64 r.num, .int .i64 r.cell, .int .i64 r.st, .int .i64 r.hop, .int .i64 r.ver, .int .i64 r.val, .bool r.yes] 76))
  have HY := As.mk (Blk.new2 w (.cells #[.int .i64 r.kind, .int .i64 r.tid.n, .int .i64 r.tid.e, .int .i64 r.tid.s, .slice AI1 r.items.length cI1, .slice AN1 r.nodes.length cN1, .int .i64 r.node, .int .i64 r.count, .int .i64 r.num, .int .i64 r.cell, .int .i64 r.st, .int .i64 r.hop, .int .i64 r.ver, .int .i64 r.val, .bool r.yes] 76) 76 #[.int .i64 r.kind, .int .i64 r.tid.n, .int .i64 r.tid.e, .int .i64 r.tid.s, .slice AI2 r.items.length cI2, .slice AN2 r.nodes.length cN2, .int .i64 r.node, .int .i64 r.count, .int .i64 r.num, .int .i64 r.cell, .int .i64 r.st, .int .i64 r.hop, .int .i64 r.ver, .int .i64 r.val, .bool r.yes])
  have HI1 := As.mk hi1
  have HI2 := As.mk hi2
  have HN1 := As.mk hn1
  have HN2 := As.mk hn2
  clear hi1 hi2 hn1 hn2
  unfold reCells
  go_enter Try.func22, Try.ntmps22
  go_wp2_with fail
  generalize (w.alloc (.cells #[.int .i64 r.kind, .int .i64 r.tid.n, .int .i64 r.tid.e, .int .i64 r.tid.s, .slice AI1 r.items.length cI1, .slice AN1 r.nodes.length cN1, .int .i64 r.node, .int .i64 r.count, .int .i64 r.num, .int .i64 r.cell, .int .i64 r.st, .int .i64 r.hop, .int .i64 r.ver, .int .i64 r.val, .bool r.yes] 76)).alloc (.cells #[.int .i64 r.kind, .int .i64 r.tid.n, .int .i64 r.tid.e, .int .i64 r.tid.s, .slice AI2 r.items.length cI2, .slice AN2 r.nodes.length cN2, .int .i64 r.node, .int .i64 r.count, .int .i64 r.num, .int .i64 r.cell, .int .i64 r.st, .int .i64 r.hop, .int .i64 r.ver, .int .i64 r.val, .bool r.yes] 76) = W at *
  go_loopw [5] (fun i wr => ∃ k : Nat, 1 ≤ k ∧ k ≤ 9 ∧ i = .int .i64 k ∧ As (w.grownBy wr none ∧ Blk wr w.heap.size 76 #[.int .i64 r.kind, .int .i64 r.tid.n, .int .i64 r.tid.e, .int .i64 r.tid.s, .slice AI1 r.items.length cI1, .slice AN1 r.nodes.length cN1, .int .i64 r.node, .int .i64 r.count, .int .i64 r.num, .int .i64 r.cell, .int .i64 r.st, .int .i64 r.hop, .int .i64 r.ver, .int .i64 r.val, .bool r.yes] ∧ Blk wr (w.heap.size + 1) 76 #[.int .i64 r.kind, .int .i64 r.tid.n, .int .i64 r.tid.e, .int .i64 r.tid.s, .slice AI2 r.items.length cI2, .slice AN2 r.nodes.length cN2, .int .i64 r.node, .int .i64 r.count, .int .i64 r.num, .int .i64 r.cell, .int .i64 r.st, .int .i64 r.hop, .int .i64 r.ver, .int .i64 r.val, .bool r.yes])) (fun i _ => 9 - (intOf i).toNat)
  case atStart => exact ⟨1, by omega, by omega, rfl, ⟨HG.out, HX.out, HY.out⟩⟩
  case round =>
    obtain ⟨k, hk1, hk9, rfl, HL⟩ := hrel
    clear HG HX HY
    obtain ⟨HG, HX, HY⟩ := HL.out
    clear HL
    replace HG := As.mk HG
    replace HX := As.mk HX
    replace HY := As.mk HY
    by_cases hlt : k ≤ 8
    · have hltI : (k : Int) ≤ 8 := by omega
      go_wp2_with fail
      refine wp_region_noPanic ?_
      refine wp_region_held_drew (S := fun w' => Blk w' w.heap.size 76 #[.int .i64 r.kind, .int .i64 r.tid.n, .int .i64 r.tid.e, .int .i64 r.tid.s, .slice AI1 r.items.length cI1, .slice AN1 r.nodes.length cN1, .int .i64 r.node, .int .i64 r.count, .int .i64 r.num, .int .i64 r.cell, .int .i64 r.st, .int .i64 r.hop, .int .i64 r.ver, .int .i64 r.val, .bool r.yes] ∧ Blk w' (w.heap.size + 1) 76 #[.int .i64 r.kind, .int .i64 r.tid.n, .int .i64 r.tid.e, .int .i64 r.tid.s, .slice AI2 r.items.length cI2, .slice AN2 r.nodes.length cN2, .int .i64 r.node, .int .i64 r.count, .int .i64 r.num, .int .i64 r.cell, .int .i64 r.st, .int .i64 r.hop, .int .i64 r.ver, .int .i64 r.val, .bool r.yes]) (by kernel_rfl) (⟨HX.out.drew, HY.out.drew⟩) (fun hS => ?_)
      refine wpAnyH_take (i := 0) (v := ?va1) rfl (by kernel_rfl) (by kernel_rfl) (by kernel_rfl) (fun _ _ _ h => h) (Or.inl ⟨by rfl, ?ya1⟩) hS ?ra1
      case ya1 => (intro w0 hS0; (try simp only [] at hS0); obtain ⟨hS0_0, hS0_1⟩ := hS0; obtain ⟨q0_0, q0_1, q0_2, q0_3, q0_4, q0_5, q0_6, q0_7, q0_8, q0_9, q0_10, q0_11, q0_12, q0_13, q0_14⟩ := hS0_0.c15; obtain ⟨q1_0, q1_1, q1_2, q1_3, q1_4, q1_5, q1_6, q1_7, q1_8, q1_9, q1_10, q1_11, q1_12, q1_13, q1_14⟩ := hS0_1.c15; go_simp; try with_reducible rfl)
      try simp only [yA, yB, yC, Act.put, yD, yE, yF]
      refine wpAnyH_take (i := 1) (v := ?va2) rfl (by kernel_rfl) (by kernel_rfl) (by kernel_rfl) (fun _ _ _ h => h) (Or.inl ⟨by rfl, ?ya2⟩) hS ?ra2
      case ya2 => (intro w0 _; go_simp; try with_reducible rfl)
      try simp only [yA, yB, yC, Act.put, yD, yE, yF]
      refine wpAnyH_take (i := 3) (v := ?va3) rfl (by kernel_rfl) (by kernel_rfl) (by kernel_rfl) (fun _ _ _ h => h) (Or.inl ⟨by rfl, ?ya3⟩) hS ?ra3
      case ya3 => (intro w0 hS0; (try simp only [] at hS0); obtain ⟨hS0_0, hS0_1⟩ := hS0; obtain ⟨q0_0, q0_1, q0_2, q0_3, q0_4, q0_5, q0_6, q0_7, q0_8, q0_9, q0_10, q0_11, q0_12, q0_13, q0_14⟩ := hS0_0.c15; obtain ⟨q1_0, q1_1, q1_2, q1_3, q1_4, q1_5, q1_6, q1_7, q1_8, q1_9, q1_10, q1_11, q1_12, q1_13, q1_14⟩ := hS0_1.c15; go_simp; try with_reducible rfl)
      try simp only [yA, yB, yC, Act.put, yD, yE, yF]
      refine wpAnyH_take (i := 4) (v := ?va4) rfl (by kernel_rfl) (by kernel_rfl) (by kernel_rfl) (fun _ _ _ h => h) (Or.inl ⟨by rfl, ?ya4⟩) hS ?ra4
      case ya4 => (intro w0 _; go_simp; try with_reducible rfl)
      try simp only [yA, yB, yC, Act.put, yD, yE, yF]
      refine wpAnyH_ready (rs := [2]) (by kernel_rfl) (by simp) (AllReadyH.cons (i := 2) rfl (fun K hK => ?_) AllReadyH.nil)
      go_simp
      refine (number_c _ r AI1 cI1 AN1 cN1 k hk1 hlt).mono ?_
      rintro e0 w2 ⟨rfl, hg1⟩
      have HG2 := As.mk (gr_then (gr_drew HG.out) hg1 (.inl rfl))
      have HX2 := As.mk (HX.out.drew.grown hg1 (by simp))
      have HY2 := As.mk (HY.out.drew.grown hg1 (by simp))
      clear hg1
      go_simp
      refine hK.out _ _ (⟨HX2.out, HY2.out⟩) (fun hS => ?_)
      clear hK K
      try simp only [yA, yB, yC, Act.put, yD, yE, yF]
      refine wpAnyH_ready (rs := [5]) (by kernel_rfl) (by simp) (AllReadyH.cons (i := 5) rfl (fun K hK => ?_) AllReadyH.nil)
      go_simp
      refine (number_c _ r AI2 cI2 AN2 cN2 k hk1 hlt).mono ?_
      rintro e0 w3 ⟨rfl, hg1⟩
      have HG3 := As.mk (gr_then HG2.out hg1 (.inl rfl))
      have HX3 := As.mk (HX2.out.grown hg1 (by simp))
      have HY3 := As.mk (HY2.out.grown hg1 (by simp))
      clear hg1
      go_simp
      refine hK.out _ _ (⟨HX3.out, HY3.out⟩) (fun hS => ?_)
      clear hK K
      try simp only [yA, yB, yC, Act.put, yD, yE, yF]
      refine wpAnyH_take (i := 6) (v := ?va7) rfl (by kernel_rfl) (by kernel_rfl) (by kernel_rfl) (fun _ _ _ h => h) (Or.inl ⟨by rfl, ?ya7⟩) hS ?ra7
      case ya7 => (intro w0 _; go_simp; try with_reducible rfl)
      try simp only [yA, yB, yC, Act.put, yD, yE, yF]
      refine wpAnyH_done (by kernel_rfl) ?_ _
      refine NoPanic.normal ?_
      try simp only [Exit.then]
      clear hS
      go_wp2_with fail
      go_roundw
      case measure => simp [intOf]; omega
      case rel => exact ⟨k + 1, by omega, by omega, by go_num, ⟨HG3.out, HX3.out, HY3.out⟩⟩
    · obtain rfl : k = 9 := by omega
      have hk0 : (0 : Int) ≤ 9 := by omega
      clear hlt hk1 hk9
      obtain ⟨t0, t1, t2, t3, t4, t5, t6, t7, t8, t9, t10, t11, t12, t13, t14⟩ := (HX.out).c15
      obtain ⟨d0, d1, d2, d3, d4, d5, d6, d7, d8, d9, d10, d11, d12, d13, d14⟩ := (HY.out).c15
      go_wp2_with fail
      clear t0 t1 t2 t3 t4 t5 t6 t7 t8 t9 t10 t11 t12 t13 t14 d0 d1 d2 d3 d4 d5 d6 d7 d8 d9 d10 d11 d12 d13 d14
      refine (sameIt_c _ _ r.items _ (HI1.out.itG HG.out) (HI2.out.itG HG.out)).mono ?_
      rintro e w2 ⟨rfl, n1, rfl⟩
      have HG2 := As.mk (gr_drewN HG.out n1)
      have HX2 := As.mk (HX.out.drewN n1)
      have HY2 := As.mk (HY.out.drewN n1)
      generalize wr.drewN n1 = w2 at *
      obtain ⟨t0, t1, t2, t3, t4, t5, t6, t7, t8, t9, t10, t11, t12, t13, t14⟩ := (HX2.out).c15
      obtain ⟨d0, d1, d2, d3, d4, d5, d6, d7, d8, d9, d10, d11, d12, d13, d14⟩ := (HY2.out).c15
      go_wp2_with fail
      refine (sameNo_c _ _ r.nodes _ (HN1.out.inG HG2.out) (HN2.out.inG HG2.out)).mono ?_
      rintro e w3 ⟨rfl, n2, rfl⟩
      go_wp2_with fail
      go_ret
      exact ⟨rfl, gr_drewN HG2.out n2⟩
set_option maxHeartbeats 3200000 in
theorem Plain7_c (w : World) (r : PRec) (AI : Option Addr) (cI : Nat) (AN : Option Addr) (cN : Nat) :
    Calls Try.prog 23 #[.agg (reCells r AI cI AN cN)] w fun e w' => e = .returned (.agg (reCells r AI cI AN cN)) ∧ w.grownBy w' none := by
  unfold reCells
  go_enter Try.func23, Try.ntmps23
  go_wp2_with fail
  exact bodyPost_ret (results_cell_row (P := Try.prog) rfl _ _ (w.heap.size + 1) 76 _ (0, 0) _ rfl (Blk.new2 w (.cells #[.int .i64 r.kind, .int .i64 r.tid.n, .int .i64 r.tid.e, .int .i64 r.tid.s, .slice AI r.items.length cI, .slice AN r.nodes.length cN, .int .i64 r.node, .int .i64 r.count, .int .i64 r.num, .int .i64 r.cell, .int .i64 r.st, .int .i64 r.hop, .int .i64 r.ver, .int .i64 r.val, .bool r.yes] 43) 76 #[.int .i64 r.kind, .int .i64 r.tid.n, .int .i64 r.tid.e, .int .i64 r.tid.s, .slice AI r.items.length cI, .slice AN r.nodes.length cN, .int .i64 r.node, .int .i64 r.count, .int .i64 r.num, .int .i64 r.cell, .int .i64 r.st, .int .i64 r.hop, .int .i64 r.ver, .int .i64 r.val, .bool r.yes]) Try.underlying76 rfl (by kernel_rfl)) rfl ⟨rfl, gr_alloc (gr_alloc (gr_refl w none) _) _⟩
end Go.Proofs.Ytdmkijdbldcdiaa
