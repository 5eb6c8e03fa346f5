/- A run's step. (Printed by wip/gen/gen_rw.py.) -/
import Derived.OpenShut
import Derived.Test.YtgmhopkajopfcaaRx
namespace Go.Proofs.Ytgmhopkajopfcaa
open Go.RowKit Go.Maps
set_option linter.unusedVariables false
set_option linter.unusedSimpArgs false
set_option maxRecDepth 100000

section
variable {w0 w : World} {B nb rb : Nat} {F : Nat → Prop} {lv_ cv : Value} {l : List POp} {s : RS} {M : Nat}
set_option maxHeartbeats 6400000 in
theorem step_ask1 (h : RunW w0 w B nb rb F lv_ cv l s M) (hat : s.at_ ≤ 1000) (kc kr ko : Nat) (n : Int) (hc : kc < 16) (hr : kr < 8) (ho : ko < 8) (hn : K64 n) (hhas : (s.rd.2 (kc : Int)).isSome = false) :
    Calls Try.prog 27 #[(.pointer (some ⟨rb, 0, none⟩)), .agg #[.int .i64 1, .int .i64 (kc : Int), .int .i64 (kr : Int), .int .i64 (ko : Int), .int .i64 n]] w (SPost w0 w rb (fpR F rb lv_ cv) l M 1 (kc : Int) s) := by
  have HC := As.mk hc
  have HKR := As.mk hr
  have HKO := As.mk ho
  have HKN := As.mk hn
  have hcI : (kc : Int) < 16 := by omega
  have hrI : (kr : Int) < 8 := by omega
  have hoI : (ko : Int) < 8 := by omega
  have hc0 : (0 : Int) ≤ (kc : Int) := by omega
  have hr0 : (0 : Int) ≤ (kr : Int) := by omega
  have ho0 : (0 : Int) ≤ (ko : Int) := by omega
  clear hc hr ho hn
  have HT := As.mk (Blk.new w 57 #[.int .i64 1, .int .i64 (kc : Int), .int .i64 (kr : Int), .int .i64 (ko : Int), .int .i64 n])
  have HGA := As.mk (gr_alloc (gr_refl w none) (.cells #[.int .i64 1, .int .i64 (kc : Int), .int .i64 (kr : Int), .int .i64 (ko : Int), .int .i64 n] 57))
  have HR := As.mk (h.grown (gr_alloc (gr_refl w none) (.cells #[.int .i64 1, .int .i64 (kc : Int), .int .i64 (kr : Int), .int .i64 (ko : Int), .int .i64 n] 57)))
  clear h
  go_enter Try.func27, Try.ntmps27
  obtain ⟨t0, t1, t2, t3, t4⟩ := (HT.out).c5
  have HAS := As.mk hhas
  clear hhas
  have HNE := As.mk (show w.heap.size ≠ rb from fun e => Blk.ne HT.out HR.out.blk (by decide) e)
  go_upto_region 4 with fail
  clear t0 t1 t2 t3 t4
  generalize w.alloc (.cells #[.int .i64 1, .int .i64 (kc : Int), .int .i64 (kr : Int), .int .i64 (ko : Int), .int .i64 n] 57) = W at *
  generalize w.heap.size = tb at *
  refine wp_region_noPanic ?_
  refine wp_region_held_drew (S := fun w' => Blk w' tb 57 #[.int .i64 1, .int .i64 (kc : Int), .int .i64 (kr : Int), .int .i64 (ko : Int), .int .i64 n] ∧ Blk w' rb 65 (runC (.pointer (some ⟨nb, 0, none⟩)) lv_ s.at_ s.rg cv s.tk)) (by kernel_rfl) (⟨HT.out.drew, HR.out.blk.drew⟩) (fun hS => ?_)
  refine wpAnyH_take (i := 0) (v := ?va1) rfl (by kernel_rfl) (by kernel_rfl) (by kernel_rfl) (fun _ _ _ h => h) (Or.inl ⟨by rfl, ?ya1⟩) hS ?ra1
  case ya1 => (intro w0 _; go_simp; try with_reducible rfl)
  try simp only [yA, yB, yC, Act.put, yD, yE, yF]
  refine wpAnyH_take (i := 1) (v := ?va2) rfl (by kernel_rfl) (by kernel_rfl) (by kernel_rfl) (fun _ _ _ h => h) (Or.inl ⟨by rfl, ?ya2⟩) hS ?ra2
  case ya2 => (intro w0 _; go_simp; try with_reducible rfl)
  try simp only [yA, yB, yC, Act.put, yD, yE, yF]
  refine wpAnyH_take (i := 2) (v := ?va3) rfl (by kernel_rfl) (by kernel_rfl) (by kernel_rfl) (fun _ _ _ h => h) (Or.inl ⟨by rfl, ?ya3⟩) hS ?ra3
  case ya3 => (intro w0 _; go_simp; try with_reducible rfl)
  try simp only [yA, yB, yC, Act.put, yD, yE, yF]
  refine wpAnyH_take (i := 3) (v := ?va4) rfl (by kernel_rfl) (by kernel_rfl) (by kernel_rfl) (fun _ _ _ h => h) (Or.inl ⟨by rfl, ?ya4⟩) hS ?ra4
  case ya4 => (intro w0 hS0; (try simp only [] at hS0); obtain ⟨hS0_0, hS0_1⟩ := hS0; have q : w0.cell? ⟨rb, 0, none⟩ = some (.pointer (some ⟨nb, 0, none⟩)) := hS0_1.cell 0; go_simp; try with_reducible rfl)
  try simp only [yA, yB, yC, Act.put, yD, yE, yF]
  refine wpAnyH_take (i := 4) (v := ?va5) rfl (by kernel_rfl) (by kernel_rfl) (by kernel_rfl) (fun _ _ _ h => h) (Or.inl ⟨by rfl, ?ya5⟩) hS ?ra5
  case ya5 => (intro w0 _; go_simp; try with_reducible rfl)
  try simp only [yA, yB, yC, Act.put, yD, yE, yF]
  refine wpAnyH_take (i := 5) (v := ?va6) rfl (by kernel_rfl) (by kernel_rfl) (by kernel_rfl) (fun _ _ _ h => h) (Or.inl ⟨by rfl, ?ya6⟩) hS ?ra6
  case ya6 => (intro w0 hS0; (try simp only [] at hS0); obtain ⟨hS0_0, hS0_1⟩ := hS0; obtain ⟨t0, t1, t2, t3, t4⟩ := hS0_0.c5; go_simp; try with_reducible rfl)
  try simp only [yA, yB, yC, Act.put, yD, yE, yF]
  refine wpAnyH_ready (rs := [6]) (by kernel_rfl) (by simp) (AllReadyH.cons (i := 6) rfl (fun K hK => ?_) AllReadyH.nil)
  go_simp
  refine (has_c HR.out.drew.nest (kc : Int) (k64_nat kc (by omega)) _ HAS.out).mono ?_
  rintro e0 w1 ⟨rfl, hg1⟩
  go_simp
  refine shut_gen hK (F := fun w' => As ((RunW w0 w' B nb rb F lv_ cv l s M ∧ NG W w' (fpR F rb lv_ cv) (fpR F rb lv_ cv)) ∧ Blk w' tb 57 #[.int .i64 1, .int .i64 (kc : Int), .int .i64 (kr : Int), .int .i64 (ko : Int), .int .i64 n])) (⟨HT.out.drew.grown hg1 (by simp), HR.out.blk.drew.grown hg1 (by simp)⟩) (⟨⟨HR.out.drew.grown hg1, (ng_drew W).trans (ng_none hg1)⟩, HT.out.drew.grown hg1 (by simp)⟩) (fun w2 hS HF => ?_)
  clear hK K
  clear hg1
  try simp only [yA, yB, yC, Act.put, yD, yE, yF]
  refine wpAnyH_take (i := 7) (v := ?va8) rfl (by kernel_rfl) (by kernel_rfl) (by kernel_rfl) (fun _ _ _ h => h) (Or.inl ⟨by rfl, ?ya8⟩) hS ?ra8
  case ya8 => (intro w0 _; go_simp; try with_reducible rfl)
  try simp only [yA, yB, yC, Act.put, yD, yE, yF]
  refine wpAnyH_done (by kernel_rfl) ?_ _
  refine NoPanic.normal ?_
  try simp only [Exit.then]
  have HNG := As.mk ((ng_none (G := (fpR F rb lv_ cv)) HGA.out).trans HF.out.1.2)
  replace HR := As.mk HF.out.1.1
  replace HT := As.mk HF.out.2
  clear HF hS
  obtain ⟨t0, t1, t2, t3, t4⟩ := (HT.out).c5
  go_upto_region 5 with fail
  go_quiet (fail)
  go_wp2_with fail
  go_ret2
  exact ⟨rfl, _, ⟨_, _, _, _, _, rfl, (HR.out.grown (gr_drewN (gr_refl _ none) _)).mono' (Nat.le_succ M)⟩, HNG.out.trans (ng_none (gr_drewN (gr_refl _ none) _))⟩
set_option maxHeartbeats 6400000 in
theorem step_ask2 (h : RunW w0 w B nb rb F lv_ cv l s M) (hat : s.at_ ≤ 1000) (kc kr ko : Nat) (n : Int) (hc : kc < 16) (hr : kr < 8) (ho : ko < 8) (hn : K64 n) (hhas : (s.rd.2 (kc : Int)).isSome = false) :
    Calls Try.prog 27 #[(.pointer (some ⟨rb, 0, none⟩)), .agg #[.int .i64 2, .int .i64 (kc : Int), .int .i64 (kr : Int), .int .i64 (ko : Int), .int .i64 n]] w (SPost w0 w rb (fpR F rb lv_ cv) l M 1 (kc : Int) s) := by
  have HC := As.mk hc
  have HKR := As.mk hr
  have HKO := As.mk ho
  have HKN := As.mk hn
  have hcI : (kc : Int) < 16 := by omega
  have hrI : (kr : Int) < 8 := by omega
  have hoI : (ko : Int) < 8 := by omega
  have hc0 : (0 : Int) ≤ (kc : Int) := by omega
  have hr0 : (0 : Int) ≤ (kr : Int) := by omega
  have ho0 : (0 : Int) ≤ (ko : Int) := by omega
  clear hc hr ho hn
  have HT := As.mk (Blk.new w 57 #[.int .i64 2, .int .i64 (kc : Int), .int .i64 (kr : Int), .int .i64 (ko : Int), .int .i64 n])
  have HGA := As.mk (gr_alloc (gr_refl w none) (.cells #[.int .i64 2, .int .i64 (kc : Int), .int .i64 (kr : Int), .int .i64 (ko : Int), .int .i64 n] 57))
  have HR := As.mk (h.grown (gr_alloc (gr_refl w none) (.cells #[.int .i64 2, .int .i64 (kc : Int), .int .i64 (kr : Int), .int .i64 (ko : Int), .int .i64 n] 57)))
  clear h
  go_enter Try.func27, Try.ntmps27
  obtain ⟨t0, t1, t2, t3, t4⟩ := (HT.out).c5
  have HAS := As.mk hhas
  clear hhas
  have HNE := As.mk (show w.heap.size ≠ rb from fun e => Blk.ne HT.out HR.out.blk (by decide) e)
  go_upto_region 4 with fail
  clear t0 t1 t2 t3 t4
  generalize w.alloc (.cells #[.int .i64 2, .int .i64 (kc : Int), .int .i64 (kr : Int), .int .i64 (ko : Int), .int .i64 n] 57) = W at *
  generalize w.heap.size = tb at *
  refine wp_region_noPanic ?_
  refine wp_region_held_drew (S := fun w' => Blk w' tb 57 #[.int .i64 2, .int .i64 (kc : Int), .int .i64 (kr : Int), .int .i64 (ko : Int), .int .i64 n] ∧ Blk w' rb 65 (runC (.pointer (some ⟨nb, 0, none⟩)) lv_ s.at_ s.rg cv s.tk)) (by kernel_rfl) (⟨HT.out.drew, HR.out.blk.drew⟩) (fun hS => ?_)
  refine wpAnyH_take (i := 0) (v := ?va1) rfl (by kernel_rfl) (by kernel_rfl) (by kernel_rfl) (fun _ _ _ h => h) (Or.inl ⟨by rfl, ?ya1⟩) hS ?ra1
  case ya1 => (intro w0 _; go_simp; try with_reducible rfl)
  try simp only [yA, yB, yC, Act.put, yD, yE, yF]
  refine wpAnyH_take (i := 1) (v := ?va2) rfl (by kernel_rfl) (by kernel_rfl) (by kernel_rfl) (fun _ _ _ h => h) (Or.inl ⟨by rfl, ?ya2⟩) hS ?ra2
  case ya2 => (intro w0 _; go_simp; try with_reducible rfl)
  try simp only [yA, yB, yC, Act.put, yD, yE, yF]
  refine wpAnyH_take (i := 2) (v := ?va3) rfl (by kernel_rfl) (by kernel_rfl) (by kernel_rfl) (fun _ _ _ h => h) (Or.inl ⟨by rfl, ?ya3⟩) hS ?ra3
  case ya3 => (intro w0 _; go_simp; try with_reducible rfl)
  try simp only [yA, yB, yC, Act.put, yD, yE, yF]
  refine wpAnyH_take (i := 3) (v := ?va4) rfl (by kernel_rfl) (by kernel_rfl) (by kernel_rfl) (fun _ _ _ h => h) (Or.inl ⟨by rfl, ?ya4⟩) hS ?ra4
  case ya4 => (intro w0 hS0; (try simp only [] at hS0); obtain ⟨hS0_0, hS0_1⟩ := hS0; have q : w0.cell? ⟨rb, 0, none⟩ = some (.pointer (some ⟨nb, 0, none⟩)) := hS0_1.cell 0; go_simp; try with_reducible rfl)
  try simp only [yA, yB, yC, Act.put, yD, yE, yF]
  refine wpAnyH_take (i := 4) (v := ?va5) rfl (by kernel_rfl) (by kernel_rfl) (by kernel_rfl) (fun _ _ _ h => h) (Or.inl ⟨by rfl, ?ya5⟩) hS ?ra5
  case ya5 => (intro w0 _; go_simp; try with_reducible rfl)
  try simp only [yA, yB, yC, Act.put, yD, yE, yF]
  refine wpAnyH_take (i := 5) (v := ?va6) rfl (by kernel_rfl) (by kernel_rfl) (by kernel_rfl) (fun _ _ _ h => h) (Or.inl ⟨by rfl, ?ya6⟩) hS ?ra6
  case ya6 => (intro w0 hS0; (try simp only [] at hS0); obtain ⟨hS0_0, hS0_1⟩ := hS0; obtain ⟨t0, t1, t2, t3, t4⟩ := hS0_0.c5; go_simp; try with_reducible rfl)
  try simp only [yA, yB, yC, Act.put, yD, yE, yF]
  refine wpAnyH_ready (rs := [6]) (by kernel_rfl) (by simp) (AllReadyH.cons (i := 6) rfl (fun K hK => ?_) AllReadyH.nil)
  go_simp
  refine (has_c HR.out.drew.nest (kc : Int) (k64_nat kc (by omega)) _ HAS.out).mono ?_
  rintro e0 w1 ⟨rfl, hg1⟩
  go_simp
  refine shut_gen hK (F := fun w' => As ((RunW w0 w' B nb rb F lv_ cv l s M ∧ NG W w' (fpR F rb lv_ cv) (fpR F rb lv_ cv)) ∧ Blk w' tb 57 #[.int .i64 2, .int .i64 (kc : Int), .int .i64 (kr : Int), .int .i64 (ko : Int), .int .i64 n])) (⟨HT.out.drew.grown hg1 (by simp), HR.out.blk.drew.grown hg1 (by simp)⟩) (⟨⟨HR.out.drew.grown hg1, (ng_drew W).trans (ng_none hg1)⟩, HT.out.drew.grown hg1 (by simp)⟩) (fun w2 hS HF => ?_)
  clear hK K
  clear hg1
  try simp only [yA, yB, yC, Act.put, yD, yE, yF]
  refine wpAnyH_take (i := 7) (v := ?va8) rfl (by kernel_rfl) (by kernel_rfl) (by kernel_rfl) (fun _ _ _ h => h) (Or.inl ⟨by rfl, ?ya8⟩) hS ?ra8
  case ya8 => (intro w0 _; go_simp; try with_reducible rfl)
  try simp only [yA, yB, yC, Act.put, yD, yE, yF]
  refine wpAnyH_done (by kernel_rfl) ?_ _
  refine NoPanic.normal ?_
  try simp only [Exit.then]
  have HNG := As.mk ((ng_none (G := (fpR F rb lv_ cv)) HGA.out).trans HF.out.1.2)
  replace HR := As.mk HF.out.1.1
  replace HT := As.mk HF.out.2
  clear HF hS
  obtain ⟨t0, t1, t2, t3, t4⟩ := (HT.out).c5
  go_upto_region 5 with fail
  go_quiet (fail)
  go_wp2_with fail
  go_ret2
  exact ⟨rfl, _, ⟨_, _, _, _, _, rfl, (HR.out.grown (gr_drewN (gr_refl _ none) _)).mono' (Nat.le_succ M)⟩, HNG.out.trans (ng_none (gr_drewN (gr_refl _ none) _))⟩
set_option maxHeartbeats 6400000 in
theorem step_read (h : RunW w0 w B nb rb F lv_ cv l s M) (hat : s.at_ ≤ 1000) (kc kr ko : Nat) (n : Int) (hc : kc < 16) (hr : kr < 8) (ho : ko < 8) (hn : K64 n) (v : Int) (hv : valF s.rd s.lv (kc : Int) = some v) :
    Calls Try.prog 27 #[(.pointer (some ⟨rb, 0, none⟩)), .agg #[.int .i64 1, .int .i64 (kc : Int), .int .i64 (kr : Int), .int .i64 (ko : Int), .int .i64 n]] w (SPost w0 w rb (fpR F rb lv_ cv) l M 0 0 { s with rg := updN s.rg kr v, at_ := s.at_ + 1 }) := by
  have HC := As.mk hc
  have HKR := As.mk hr
  have HKO := As.mk ho
  have HKN := As.mk hn
  have hcI : (kc : Int) < 16 := by omega
  have hrI : (kr : Int) < 8 := by omega
  have hoI : (ko : Int) < 8 := by omega
  have hc0 : (0 : Int) ≤ (kc : Int) := by omega
  have hr0 : (0 : Int) ≤ (kr : Int) := by omega
  have ho0 : (0 : Int) ≤ (ko : Int) := by omega
  clear hc hr ho hn
  have HT := As.mk (Blk.new w 57 #[.int .i64 1, .int .i64 (kc : Int), .int .i64 (kr : Int), .int .i64 (ko : Int), .int .i64 n])
  have HGA := As.mk (gr_alloc (gr_refl w none) (.cells #[.int .i64 1, .int .i64 (kc : Int), .int .i64 (kr : Int), .int .i64 (ko : Int), .int .i64 n] 57))
  have HR := As.mk (h.grown (gr_alloc (gr_refl w none) (.cells #[.int .i64 1, .int .i64 (kc : Int), .int .i64 (kr : Int), .int .i64 (ko : Int), .int .i64 n] 57)))
  clear h
  go_enter Try.func27, Try.ntmps27
  obtain ⟨t0, t1, t2, t3, t4⟩ := (HT.out).c5
  have HV := As.mk hv
  have HAS := As.mk (show (s.rd.2 (kc : Int)).isSome = true by rw [← valF_some s.rd s.lv, hv]; rfl)
  clear hv
  have HNE := As.mk (show w.heap.size ≠ rb from fun e => Blk.ne HT.out HR.out.blk (by decide) e)
  go_upto_region 4 with fail
  clear t0 t1 t2 t3 t4
  generalize w.alloc (.cells #[.int .i64 1, .int .i64 (kc : Int), .int .i64 (kr : Int), .int .i64 (ko : Int), .int .i64 n] 57) = W at *
  generalize w.heap.size = tb at *
  refine wp_region_noPanic ?_
  refine wp_region_held_drew (S := fun w' => Blk w' tb 57 #[.int .i64 1, .int .i64 (kc : Int), .int .i64 (kr : Int), .int .i64 (ko : Int), .int .i64 n] ∧ Blk w' rb 65 (runC (.pointer (some ⟨nb, 0, none⟩)) lv_ s.at_ s.rg cv s.tk)) (by kernel_rfl) (⟨HT.out.drew, HR.out.blk.drew⟩) (fun hS => ?_)
  refine wpAnyH_take (i := 0) (v := ?va1) rfl (by kernel_rfl) (by kernel_rfl) (by kernel_rfl) (fun _ _ _ h => h) (Or.inl ⟨by rfl, ?ya1⟩) hS ?ra1
  case ya1 => (intro w0 _; go_simp; try with_reducible rfl)
  try simp only [yA, yB, yC, Act.put, yD, yE, yF]
  refine wpAnyH_take (i := 1) (v := ?va2) rfl (by kernel_rfl) (by kernel_rfl) (by kernel_rfl) (fun _ _ _ h => h) (Or.inl ⟨by rfl, ?ya2⟩) hS ?ra2
  case ya2 => (intro w0 _; go_simp; try with_reducible rfl)
  try simp only [yA, yB, yC, Act.put, yD, yE, yF]
  refine wpAnyH_take (i := 2) (v := ?va3) rfl (by kernel_rfl) (by kernel_rfl) (by kernel_rfl) (fun _ _ _ h => h) (Or.inl ⟨by rfl, ?ya3⟩) hS ?ra3
  case ya3 => (intro w0 _; go_simp; try with_reducible rfl)
  try simp only [yA, yB, yC, Act.put, yD, yE, yF]
  refine wpAnyH_take (i := 3) (v := ?va4) rfl (by kernel_rfl) (by kernel_rfl) (by kernel_rfl) (fun _ _ _ h => h) (Or.inl ⟨by rfl, ?ya4⟩) hS ?ra4
  case ya4 => (intro w0 hS0; (try simp only [] at hS0); obtain ⟨hS0_0, hS0_1⟩ := hS0; have q : w0.cell? ⟨rb, 0, none⟩ = some (.pointer (some ⟨nb, 0, none⟩)) := hS0_1.cell 0; go_simp; try with_reducible rfl)
  try simp only [yA, yB, yC, Act.put, yD, yE, yF]
  refine wpAnyH_take (i := 4) (v := ?va5) rfl (by kernel_rfl) (by kernel_rfl) (by kernel_rfl) (fun _ _ _ h => h) (Or.inl ⟨by rfl, ?ya5⟩) hS ?ra5
  case ya5 => (intro w0 _; go_simp; try with_reducible rfl)
  try simp only [yA, yB, yC, Act.put, yD, yE, yF]
  refine wpAnyH_take (i := 5) (v := ?va6) rfl (by kernel_rfl) (by kernel_rfl) (by kernel_rfl) (fun _ _ _ h => h) (Or.inl ⟨by rfl, ?ya6⟩) hS ?ra6
  case ya6 => (intro w0 hS0; (try simp only [] at hS0); obtain ⟨hS0_0, hS0_1⟩ := hS0; obtain ⟨t0, t1, t2, t3, t4⟩ := hS0_0.c5; go_simp; try with_reducible rfl)
  try simp only [yA, yB, yC, Act.put, yD, yE, yF]
  refine wpAnyH_ready (rs := [6]) (by kernel_rfl) (by simp) (AllReadyH.cons (i := 6) rfl (fun K hK => ?_) AllReadyH.nil)
  go_simp
  refine (has_c HR.out.drew.nest (kc : Int) (k64_nat kc (by omega)) _ HAS.out).mono ?_
  rintro e0 w1 ⟨rfl, hg1⟩
  go_simp
  refine shut_gen hK (F := fun w' => As ((RunW w0 w' B nb rb F lv_ cv l s M ∧ NG W w' (fpR F rb lv_ cv) (fpR F rb lv_ cv)) ∧ Blk w' tb 57 #[.int .i64 1, .int .i64 (kc : Int), .int .i64 (kr : Int), .int .i64 (ko : Int), .int .i64 n])) (⟨HT.out.drew.grown hg1 (by simp), HR.out.blk.drew.grown hg1 (by simp)⟩) (⟨⟨HR.out.drew.grown hg1, (ng_drew W).trans (ng_none hg1)⟩, HT.out.drew.grown hg1 (by simp)⟩) (fun w2 hS HF => ?_)
  clear hK K
  clear hg1
  try simp only [yA, yB, yC, Act.put, yD, yE, yF]
  refine wpAnyH_take (i := 7) (v := ?va8) rfl (by kernel_rfl) (by kernel_rfl) (by kernel_rfl) (fun _ _ _ h => h) (Or.inl ⟨by rfl, ?ya8⟩) hS ?ra8
  case ya8 => (intro w0 _; go_simp; try with_reducible rfl)
  try simp only [yA, yB, yC, Act.put, yD, yE, yF]
  refine wpAnyH_done (by kernel_rfl) ?_ _
  refine NoPanic.normal ?_
  try simp only [Exit.then]
  have HNG := As.mk ((ng_none (G := (fpR F rb lv_ cv)) HGA.out).trans HF.out.1.2)
  replace HR := As.mk HF.out.1.1
  replace HT := As.mk HF.out.2
  clear HF hS
  obtain ⟨t0, t1, t2, t3, t4⟩ := (HT.out).c5
  go_wp2_with fail
  refine (cell_read HR.out hat kc kr ko n HC.out HKR.out HKO.out HKN.out v HV.out).mono ?_
  rintro e0 w3 ⟨rfl, G', hra, hng⟩
  have HRA := As.mk hra
  have HN3 := As.mk hng
  clear hra hng
  go_wp2_with fail
  go_ret2
  exact ⟨rfl, G', HRA.out, HNG.out.trans HN3.out⟩
set_option maxHeartbeats 6400000 in
theorem step_write (h : RunW w0 w B nb rb F lv_ cv l s M) (hat : s.at_ ≤ 1000) (kc kr ko : Nat) (n : Int) (hc : kc < 16) (hr : kr < 8) (ho : ko < 8) (hn : K64 n) (hrd : (s.rd.2 (kc : Int)).isSome = true) (hK : M < 300000) :
    Calls Try.prog 27 #[(.pointer (some ⟨rb, 0, none⟩)), .agg #[.int .i64 2, .int .i64 (kc : Int), .int .i64 (kr : Int), .int .i64 (ko : Int), .int .i64 n]] w (SPost w0 w rb (fpR F rb lv_ cv) l M 0 0 { s with lv := wriL s.rd s.lv (kc : Int) (s.rg kr), at_ := s.at_ + 1 }) := by
  have HC := As.mk hc
  have HKR := As.mk hr
  have HKO := As.mk ho
  have HKN := As.mk hn
  have hcI : (kc : Int) < 16 := by omega
  have hrI : (kr : Int) < 8 := by omega
  have hoI : (ko : Int) < 8 := by omega
  have hc0 : (0 : Int) ≤ (kc : Int) := by omega
  have hr0 : (0 : Int) ≤ (kr : Int) := by omega
  have ho0 : (0 : Int) ≤ (ko : Int) := by omega
  clear hc hr ho hn
  have HT := As.mk (Blk.new w 57 #[.int .i64 2, .int .i64 (kc : Int), .int .i64 (kr : Int), .int .i64 (ko : Int), .int .i64 n])
  have HGA := As.mk (gr_alloc (gr_refl w none) (.cells #[.int .i64 2, .int .i64 (kc : Int), .int .i64 (kr : Int), .int .i64 (ko : Int), .int .i64 n] 57))
  have HR := As.mk (h.grown (gr_alloc (gr_refl w none) (.cells #[.int .i64 2, .int .i64 (kc : Int), .int .i64 (kr : Int), .int .i64 (ko : Int), .int .i64 n] 57)))
  clear h
  go_enter Try.func27, Try.ntmps27
  obtain ⟨t0, t1, t2, t3, t4⟩ := (HT.out).c5
  have HAS := As.mk hrd
  clear hrd
  have HNE := As.mk (show w.heap.size ≠ rb from fun e => Blk.ne HT.out HR.out.blk (by decide) e)
  go_upto_region 4 with fail
  clear t0 t1 t2 t3 t4
  generalize w.alloc (.cells #[.int .i64 2, .int .i64 (kc : Int), .int .i64 (kr : Int), .int .i64 (ko : Int), .int .i64 n] 57) = W at *
  generalize w.heap.size = tb at *
  refine wp_region_noPanic ?_
  refine wp_region_held_drew (S := fun w' => Blk w' tb 57 #[.int .i64 2, .int .i64 (kc : Int), .int .i64 (kr : Int), .int .i64 (ko : Int), .int .i64 n] ∧ Blk w' rb 65 (runC (.pointer (some ⟨nb, 0, none⟩)) lv_ s.at_ s.rg cv s.tk)) (by kernel_rfl) (⟨HT.out.drew, HR.out.blk.drew⟩) (fun hS => ?_)
  refine wpAnyH_take (i := 0) (v := ?va1) rfl (by kernel_rfl) (by kernel_rfl) (by kernel_rfl) (fun _ _ _ h => h) (Or.inl ⟨by rfl, ?ya1⟩) hS ?ra1
  case ya1 => (intro w0 _; go_simp; try with_reducible rfl)
  try simp only [yA, yB, yC, Act.put, yD, yE, yF]
  refine wpAnyH_take (i := 1) (v := ?va2) rfl (by kernel_rfl) (by kernel_rfl) (by kernel_rfl) (fun _ _ _ h => h) (Or.inl ⟨by rfl, ?ya2⟩) hS ?ra2
  case ya2 => (intro w0 _; go_simp; try with_reducible rfl)
  try simp only [yA, yB, yC, Act.put, yD, yE, yF]
  refine wpAnyH_take (i := 2) (v := ?va3) rfl (by kernel_rfl) (by kernel_rfl) (by kernel_rfl) (fun _ _ _ h => h) (Or.inl ⟨by rfl, ?ya3⟩) hS ?ra3
  case ya3 => (intro w0 _; go_simp; try with_reducible rfl)
  try simp only [yA, yB, yC, Act.put, yD, yE, yF]
  refine wpAnyH_take (i := 3) (v := ?va4) rfl (by kernel_rfl) (by kernel_rfl) (by kernel_rfl) (fun _ _ _ h => h) (Or.inl ⟨by rfl, ?ya4⟩) hS ?ra4
  case ya4 => (intro w0 hS0; (try simp only [] at hS0); obtain ⟨hS0_0, hS0_1⟩ := hS0; have q : w0.cell? ⟨rb, 0, none⟩ = some (.pointer (some ⟨nb, 0, none⟩)) := hS0_1.cell 0; go_simp; try with_reducible rfl)
  try simp only [yA, yB, yC, Act.put, yD, yE, yF]
  refine wpAnyH_take (i := 4) (v := ?va5) rfl (by kernel_rfl) (by kernel_rfl) (by kernel_rfl) (fun _ _ _ h => h) (Or.inl ⟨by rfl, ?ya5⟩) hS ?ra5
  case ya5 => (intro w0 _; go_simp; try with_reducible rfl)
  try simp only [yA, yB, yC, Act.put, yD, yE, yF]
  refine wpAnyH_take (i := 5) (v := ?va6) rfl (by kernel_rfl) (by kernel_rfl) (by kernel_rfl) (fun _ _ _ h => h) (Or.inl ⟨by rfl, ?ya6⟩) hS ?ra6
  case ya6 => (intro w0 hS0; (try simp only [] at hS0); obtain ⟨hS0_0, hS0_1⟩ := hS0; obtain ⟨t0, t1, t2, t3, t4⟩ := hS0_0.c5; go_simp; try with_reducible rfl)
  try simp only [yA, yB, yC, Act.put, yD, yE, yF]
  refine wpAnyH_ready (rs := [6]) (by kernel_rfl) (by simp) (AllReadyH.cons (i := 6) rfl (fun K hK => ?_) AllReadyH.nil)
  go_simp
  refine (has_c HR.out.drew.nest (kc : Int) (k64_nat kc (by omega)) _ HAS.out).mono ?_
  rintro e0 w1 ⟨rfl, hg1⟩
  go_simp
  refine shut_gen hK (F := fun w' => As ((RunW w0 w' B nb rb F lv_ cv l s M ∧ NG W w' (fpR F rb lv_ cv) (fpR F rb lv_ cv)) ∧ Blk w' tb 57 #[.int .i64 2, .int .i64 (kc : Int), .int .i64 (kr : Int), .int .i64 (ko : Int), .int .i64 n])) (⟨HT.out.drew.grown hg1 (by simp), HR.out.blk.drew.grown hg1 (by simp)⟩) (⟨⟨HR.out.drew.grown hg1, (ng_drew W).trans (ng_none hg1)⟩, HT.out.drew.grown hg1 (by simp)⟩) (fun w2 hS HF => ?_)
  clear hK K
  clear hg1
  try simp only [yA, yB, yC, Act.put, yD, yE, yF]
  refine wpAnyH_take (i := 7) (v := ?va8) rfl (by kernel_rfl) (by kernel_rfl) (by kernel_rfl) (fun _ _ _ h => h) (Or.inl ⟨by rfl, ?ya8⟩) hS ?ra8
  case ya8 => (intro w0 _; go_simp; try with_reducible rfl)
  try simp only [yA, yB, yC, Act.put, yD, yE, yF]
  refine wpAnyH_done (by kernel_rfl) ?_ _
  refine NoPanic.normal ?_
  try simp only [Exit.then]
  have HNG := As.mk ((ng_none (G := (fpR F rb lv_ cv)) HGA.out).trans HF.out.1.2)
  replace HR := As.mk HF.out.1.1
  replace HT := As.mk HF.out.2
  clear HF hS
  obtain ⟨t0, t1, t2, t3, t4⟩ := (HT.out).c5
  go_wp2_with fail
  refine (cell_write HR.out hat kc kr ko n HC.out HKR.out HKO.out HKN.out HAS.out hK).mono ?_
  rintro e0 w3 ⟨rfl, G', hra, hng⟩
  have HRA := As.mk hra
  have HN3 := As.mk hng
  clear hra hng
  go_wp2_with fail
  go_ret2
  exact ⟨rfl, G', HRA.out, HNG.out.trans HN3.out⟩
set_option maxHeartbeats 6400000 in
theorem step_either (h : RunW w0 w B nb rb F lv_ cv l s M) (hat : s.at_ ≤ 1000) (kc kr ko : Nat) (n : Int) (hc : kc < 16) (hr : kr < 8) (ho : ko < 8) (hn : K64 n) (hcl : s.cho.length ≤ 100) :
    Calls Try.prog 27 #[(.pointer (some ⟨rb, 0, none⟩)), .agg #[.int .i64 10, .int .i64 (kc : Int), .int .i64 (kr : Int), .int .i64 (ko : Int), .int .i64 n]] w (SPost w0 w rb (fpR F rb lv_ cv) l M 0 0 { s with cho := s.cho ++ [(⟨(s.at_ : Int), (pFind l s.at_).1, (pFind l s.at_).2, s.rg⟩ : RCh)], lv := begL s.lv, at_ := s.at_ + 1 }) := by
  have HC := As.mk hc
  have HKR := As.mk hr
  have HKO := As.mk ho
  have HKN := As.mk hn
  have hcI : (kc : Int) < 16 := by omega
  have hrI : (kr : Int) < 8 := by omega
  have hoI : (ko : Int) < 8 := by omega
  have hc0 : (0 : Int) ≤ (kc : Int) := by omega
  have hr0 : (0 : Int) ≤ (kr : Int) := by omega
  have ho0 : (0 : Int) ≤ (ko : Int) := by omega
  clear hc hr ho hn
  have HT := As.mk (Blk.new w 57 #[.int .i64 10, .int .i64 (kc : Int), .int .i64 (kr : Int), .int .i64 (ko : Int), .int .i64 n])
  have HGA := As.mk (gr_alloc (gr_refl w none) (.cells #[.int .i64 10, .int .i64 (kc : Int), .int .i64 (kr : Int), .int .i64 (ko : Int), .int .i64 n] 57))
  have HR := As.mk (h.grown (gr_alloc (gr_refl w none) (.cells #[.int .i64 10, .int .i64 (kc : Int), .int .i64 (kr : Int), .int .i64 (ko : Int), .int .i64 n] 57)))
  clear h
  go_enter Try.func27, Try.ntmps27
  obtain ⟨t0, t1, t2, t3, t4⟩ := (HT.out).c5
  go_wp2_with fail
  refine (either_c HR.out hat hcl).mono ?_
  rintro e0 w3 ⟨rfl, G', hra, hng⟩
  have HRA := As.mk hra
  have HN3 := As.mk ((ng_none (G := fpR F rb lv_ cv) HGA.out).trans hng)
  clear hra hng
  go_wp2_with fail
  go_ret2
  exact ⟨rfl, G', HRA.out, HN3.out⟩
set_option maxHeartbeats 6400000 in
theorem step_or (h : RunW w0 w B nb rb F lv_ cv l s M) (hat : s.at_ ≤ 1000) (kc kr ko : Nat) (n : Int) (hc : kc < 16) (hr : kr < 8) (ho : ko < 8) (hn : K64 n) (ini : List RCh) (q : RCh) (hcho : s.cho = ini ++ [q]) (e : Nat) (hqe : q.e = e) (he : e ≤ 1000) (hil : ini.length ≤ 100) (hK : M ≤ 300000) :
    Calls Try.prog 27 #[(.pointer (some ⟨rb, 0, none⟩)), .agg #[.int .i64 11, .int .i64 (kc : Int), .int .i64 (kr : Int), .int .i64 (ko : Int), .int .i64 n]] w (SPost w0 w rb (fpR F rb lv_ cv) l M 0 0 { s with cho := ini, lv := merL s.lv, at_ := e + 1 }) := by
  have HC := As.mk hc
  have HKR := As.mk hr
  have HKO := As.mk ho
  have HKN := As.mk hn
  have hcI : (kc : Int) < 16 := by omega
  have hrI : (kr : Int) < 8 := by omega
  have hoI : (ko : Int) < 8 := by omega
  have hc0 : (0 : Int) ≤ (kc : Int) := by omega
  have hr0 : (0 : Int) ≤ (kr : Int) := by omega
  have ho0 : (0 : Int) ≤ (ko : Int) := by omega
  clear hc hr ho hn
  have HT := As.mk (Blk.new w 57 #[.int .i64 11, .int .i64 (kc : Int), .int .i64 (kr : Int), .int .i64 (ko : Int), .int .i64 n])
  have HGA := As.mk (gr_alloc (gr_refl w none) (.cells #[.int .i64 11, .int .i64 (kc : Int), .int .i64 (kr : Int), .int .i64 (ko : Int), .int .i64 n] 57))
  have HR := As.mk (h.grown (gr_alloc (gr_refl w none) (.cells #[.int .i64 11, .int .i64 (kc : Int), .int .i64 (kr : Int), .int .i64 (ko : Int), .int .i64 n] 57)))
  clear h
  go_enter Try.func27, Try.ntmps27
  obtain ⟨t0, t1, t2, t3, t4⟩ := (HT.out).c5
  have HCHO := As.mk hcho
  have HQE := As.mk hqe
  clear hcho hqe
  go_wp2_with fail
  refine (ror_c HR.out hat ini q HCHO.out e HQE.out he hil hK).mono ?_
  rintro e0 w3 ⟨rfl, G', hra, hng⟩
  have HRA := As.mk hra
  have HN3 := As.mk ((ng_none (G := fpR F rb lv_ cv) HGA.out).trans hng)
  clear hra hng
  go_wp2_with fail
  go_ret2
  exact ⟨rfl, G', HRA.out, HN3.out⟩
set_option maxHeartbeats 6400000 in
theorem step_waitr (h : RunW w0 w B nb rb F lv_ cv l s M) (hat : s.at_ ≤ 1000) (kc kr ko : Nat) (n : Int) (hc : kc < 16) (hr : kr < 8) (ho : ko < 8) (hn : K64 n) (hcho : s.cho = []) :
    Calls Try.prog 27 #[(.pointer (some ⟨rb, 0, none⟩)), .agg #[.int .i64 7, .int .i64 (kc : Int), .int .i64 (kr : Int), .int .i64 (ko : Int), .int .i64 n]] w (SPost w0 w rb (fpR F rb lv_ cv) l M 3 0 s) := by
  have HC := As.mk hc
  have HKR := As.mk hr
  have HKO := As.mk ho
  have HKN := As.mk hn
  have hcI : (kc : Int) < 16 := by omega
  have hrI : (kr : Int) < 8 := by omega
  have hoI : (ko : Int) < 8 := by omega
  have hc0 : (0 : Int) ≤ (kc : Int) := by omega
  have hr0 : (0 : Int) ≤ (kr : Int) := by omega
  have ho0 : (0 : Int) ≤ (ko : Int) := by omega
  clear hc hr ho hn
  have HT := As.mk (Blk.new w 57 #[.int .i64 7, .int .i64 (kc : Int), .int .i64 (kr : Int), .int .i64 (ko : Int), .int .i64 n])
  have HGA := As.mk (gr_alloc (gr_refl w none) (.cells #[.int .i64 7, .int .i64 (kc : Int), .int .i64 (kr : Int), .int .i64 (ko : Int), .int .i64 n] 57))
  have HR := As.mk (h.grown (gr_alloc (gr_refl w none) (.cells #[.int .i64 7, .int .i64 (kc : Int), .int .i64 (kr : Int), .int .i64 (ko : Int), .int .i64 n] 57)))
  clear h
  go_enter Try.func27, Try.ntmps27
  obtain ⟨t0, t1, t2, t3, t4⟩ := (HT.out).c5
  have HCHO := As.mk hcho
  clear hcho
  go_upto_region 27 with fail
  generalize w.alloc (.cells #[.int .i64 7, .int .i64 (kc : Int), .int .i64 (kr : Int), .int .i64 (ko : Int), .int .i64 n] 57) = W at *
  generalize w.heap.size = tb at *
  go_quiet (fail)
  clear t0 t1 t2 t3 t4
  replace HR := As.mk (HR.out.grown (gr_drewN (gr_refl W none) nq))
  have HNG := As.mk (ng_none (G := fpR F rb lv_ cv) (gr_drewN HGA.out nq))
  generalize W.drewN nq = W1 at *
  go_wp2_with fail
  refine (retry_none HR.out hat HCHO.out).mono ?_
  rintro e0 w3 ⟨rfl, rfl⟩
  go_wp2_with fail
  go_ret2
  exact ⟨rfl, _, ⟨_, _, _, _, _, rfl, HR.out.mono' (Nat.le_succ M)⟩, HNG.out⟩
set_option maxHeartbeats 6400000 in
theorem step_backr (h : RunW w0 w B nb rb F lv_ cv l s M) (hat : s.at_ ≤ 1000) (kc kr ko : Nat) (n : Int) (hc : kc < 16) (hr : kr < 8) (ho : ko < 8) (hn : K64 n) (ini : List RCh) (q : RCh) (hcho : s.cho = ini ++ [q]) (o : Nat) (hqo : q.o = o) (hqo1 : o ≤ 1000) (hil : ini.length ≤ 100) :
    Calls Try.prog 27 #[(.pointer (some ⟨rb, 0, none⟩)), .agg #[.int .i64 7, .int .i64 (kc : Int), .int .i64 (kr : Int), .int .i64 (ko : Int), .int .i64 n]] w (SPost w0 w rb (fpR F rb lv_ cv) l M 0 0 { s with rg := q.r, cho := ini, lv := undL s.lv, at_ := o + 1 }) := by
  have HC := As.mk hc
  have HKR := As.mk hr
  have HKO := As.mk ho
  have HKN := As.mk hn
  have hcI : (kc : Int) < 16 := by omega
  have hrI : (kr : Int) < 8 := by omega
  have hoI : (ko : Int) < 8 := by omega
  have hc0 : (0 : Int) ≤ (kc : Int) := by omega
  have hr0 : (0 : Int) ≤ (kr : Int) := by omega
  have ho0 : (0 : Int) ≤ (ko : Int) := by omega
  clear hc hr ho hn
  have HT := As.mk (Blk.new w 57 #[.int .i64 7, .int .i64 (kc : Int), .int .i64 (kr : Int), .int .i64 (ko : Int), .int .i64 n])
  have HGA := As.mk (gr_alloc (gr_refl w none) (.cells #[.int .i64 7, .int .i64 (kc : Int), .int .i64 (kr : Int), .int .i64 (ko : Int), .int .i64 n] 57))
  have HR := As.mk (h.grown (gr_alloc (gr_refl w none) (.cells #[.int .i64 7, .int .i64 (kc : Int), .int .i64 (kr : Int), .int .i64 (ko : Int), .int .i64 n] 57)))
  clear h
  go_enter Try.func27, Try.ntmps27
  obtain ⟨t0, t1, t2, t3, t4⟩ := (HT.out).c5
  have HCHO := As.mk hcho
  have HQO := As.mk hqo
  clear hcho hqo
  go_upto_region 27 with fail
  generalize w.alloc (.cells #[.int .i64 7, .int .i64 (kc : Int), .int .i64 (kr : Int), .int .i64 (ko : Int), .int .i64 n] 57) = W at *
  generalize w.heap.size = tb at *
  go_quiet (fail)
  clear t0 t1 t2 t3 t4
  replace HR := As.mk (HR.out.grown (gr_drewN (gr_refl W none) nq))
  have HNG := As.mk (ng_none (G := fpR F rb lv_ cv) (gr_drewN HGA.out nq))
  generalize W.drewN nq = W1 at *
  go_wp2_with fail
  refine (retry_some HR.out hat ini q HCHO.out o HQO.out hqo1 hil).mono ?_
  rintro e0 w3 ⟨rfl, G', hra, hng⟩
  have HRA := As.mk hra
  have HN3 := As.mk (HNG.out.trans hng)
  clear hra hng
  go_wp2_with fail
  go_ret2
  exact ⟨rfl, G', HRA.out, HN3.out⟩
set_option maxHeartbeats 6400000 in
theorem step_waitn (h : RunW w0 w B nb rb F lv_ cv l s M) (hat : s.at_ ≤ 1000) (kc kr ko : Nat) (n : Int) (hc : kc < 16) (hr : kr < 8) (ho : ko < 8) (hn : K64 n) (hz : s.rg kr = 0) (hcho : s.cho = []) :
    Calls Try.prog 27 #[(.pointer (some ⟨rb, 0, none⟩)), .agg #[.int .i64 6, .int .i64 (kc : Int), .int .i64 (kr : Int), .int .i64 (ko : Int), .int .i64 n]] w (SPost w0 w rb (fpR F rb lv_ cv) l M 3 0 s) := by
  have HC := As.mk hc
  have HKR := As.mk hr
  have HKO := As.mk ho
  have HKN := As.mk hn
  have hcI : (kc : Int) < 16 := by omega
  have hrI : (kr : Int) < 8 := by omega
  have hoI : (ko : Int) < 8 := by omega
  have hc0 : (0 : Int) ≤ (kc : Int) := by omega
  have hr0 : (0 : Int) ≤ (kr : Int) := by omega
  have ho0 : (0 : Int) ≤ (ko : Int) := by omega
  clear hc hr ho hn
  have HT := As.mk (Blk.new w 57 #[.int .i64 6, .int .i64 (kc : Int), .int .i64 (kr : Int), .int .i64 (ko : Int), .int .i64 n])
  have HGA := As.mk (gr_alloc (gr_refl w none) (.cells #[.int .i64 6, .int .i64 (kc : Int), .int .i64 (kr : Int), .int .i64 (ko : Int), .int .i64 n] 57))
  have HR := As.mk (h.grown (gr_alloc (gr_refl w none) (.cells #[.int .i64 6, .int .i64 (kc : Int), .int .i64 (kr : Int), .int .i64 (ko : Int), .int .i64 n] 57)))
  clear h
  go_enter Try.func27, Try.ntmps27
  obtain ⟨t0, t1, t2, t3, t4⟩ := (HT.out).c5
  have HCHO := As.mk hcho
  clear hcho
  have qz := (HR.out.blk.cell (3 + kr)).trans (runC_reg _ _ _ _ _ _ kr HKR.out)
  rw [hz] at qz
  go_upto_region 27 with fail
  generalize w.alloc (.cells #[.int .i64 6, .int .i64 (kc : Int), .int .i64 (kr : Int), .int .i64 (ko : Int), .int .i64 n] 57) = W at *
  generalize w.heap.size = tb at *
  go_quiet (fail)
  clear qz hz
  clear t0 t1 t2 t3 t4
  replace HR := As.mk (HR.out.grown (gr_drewN (gr_refl W none) nq))
  have HNG := As.mk (ng_none (G := fpR F rb lv_ cv) (gr_drewN HGA.out nq))
  generalize W.drewN nq = W1 at *
  go_wp2_with fail
  refine (retry_none HR.out hat HCHO.out).mono ?_
  rintro e0 w3 ⟨rfl, rfl⟩
  go_wp2_with fail
  go_ret2
  exact ⟨rfl, _, ⟨_, _, _, _, _, rfl, HR.out.mono' (Nat.le_succ M)⟩, HNG.out⟩
set_option maxHeartbeats 6400000 in
theorem step_backn (h : RunW w0 w B nb rb F lv_ cv l s M) (hat : s.at_ ≤ 1000) (kc kr ko : Nat) (n : Int) (hc : kc < 16) (hr : kr < 8) (ho : ko < 8) (hn : K64 n) (hz : s.rg kr = 0) (ini : List RCh) (q : RCh) (hcho : s.cho = ini ++ [q]) (o : Nat) (hqo : q.o = o) (hqo1 : o ≤ 1000) (hil : ini.length ≤ 100) :
    Calls Try.prog 27 #[(.pointer (some ⟨rb, 0, none⟩)), .agg #[.int .i64 6, .int .i64 (kc : Int), .int .i64 (kr : Int), .int .i64 (ko : Int), .int .i64 n]] w (SPost w0 w rb (fpR F rb lv_ cv) l M 0 0 { s with rg := q.r, cho := ini, lv := undL s.lv, at_ := o + 1 }) := by
  have HC := As.mk hc
  have HKR := As.mk hr
  have HKO := As.mk ho
  have HKN := As.mk hn
  have hcI : (kc : Int) < 16 := by omega
  have hrI : (kr : Int) < 8 := by omega
  have hoI : (ko : Int) < 8 := by omega
  have hc0 : (0 : Int) ≤ (kc : Int) := by omega
  have hr0 : (0 : Int) ≤ (kr : Int) := by omega
  have ho0 : (0 : Int) ≤ (ko : Int) := by omega
  clear hc hr ho hn
  have HT := As.mk (Blk.new w 57 #[.int .i64 6, .int .i64 (kc : Int), .int .i64 (kr : Int), .int .i64 (ko : Int), .int .i64 n])
  have HGA := As.mk (gr_alloc (gr_refl w none) (.cells #[.int .i64 6, .int .i64 (kc : Int), .int .i64 (kr : Int), .int .i64 (ko : Int), .int .i64 n] 57))
  have HR := As.mk (h.grown (gr_alloc (gr_refl w none) (.cells #[.int .i64 6, .int .i64 (kc : Int), .int .i64 (kr : Int), .int .i64 (ko : Int), .int .i64 n] 57)))
  clear h
  go_enter Try.func27, Try.ntmps27
  obtain ⟨t0, t1, t2, t3, t4⟩ := (HT.out).c5
  have HCHO := As.mk hcho
  have HQO := As.mk hqo
  clear hcho hqo
  have qz := (HR.out.blk.cell (3 + kr)).trans (runC_reg _ _ _ _ _ _ kr HKR.out)
  rw [hz] at qz
  go_upto_region 27 with fail
  generalize w.alloc (.cells #[.int .i64 6, .int .i64 (kc : Int), .int .i64 (kr : Int), .int .i64 (ko : Int), .int .i64 n] 57) = W at *
  generalize w.heap.size = tb at *
  go_quiet (fail)
  clear qz hz
  clear t0 t1 t2 t3 t4
  replace HR := As.mk (HR.out.grown (gr_drewN (gr_refl W none) nq))
  have HNG := As.mk (ng_none (G := fpR F rb lv_ cv) (gr_drewN HGA.out nq))
  generalize W.drewN nq = W1 at *
  go_wp2_with fail
  refine (retry_some HR.out hat ini q HCHO.out o HQO.out hqo1 hil).mono ?_
  rintro e0 w3 ⟨rfl, G', hra, hng⟩
  have HRA := As.mk hra
  have HN3 := As.mk (HNG.out.trans hng)
  clear hra hng
  go_wp2_with fail
  go_ret2
  exact ⟨rfl, G', HRA.out, HN3.out⟩
end
end Go.Proofs.Ytgmhopkajopfcaa
