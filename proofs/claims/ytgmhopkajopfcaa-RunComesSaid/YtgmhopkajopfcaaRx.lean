/- A run's cell, either, or, retry. (Printed by wip/gen/gen_rw.py.) -/
import Derived.OpenShut
import Derived.Test.YtgmhopkajopfcaaRw
import Derived.Test.YtgmhopkajopfcaaAp1
import Derived.Test.YtgmhopkajopfcaaFla
namespace Go.Proofs.Ytgmhopkajopfcaa
open Go.RowKit Go.Maps
set_option linter.unusedVariables false
set_option linter.unusedSimpArgs false
set_option maxRecDepth 100000

/-- What a method without an answer leaves. -/
def MPost (w0 w : World) (rb : Nat) (G : Nat → Prop) (l : List POp) (M : Nat) (s' : RS) (e : Ending) (w' : World) : Prop := e = .returned (.tuple #[]) ∧ ∃ G', RunAt w0 w' rb G' l s' M ∧ NG w w' G G'
theorem k64_nat (k : Nat) (h : k ≤ 1000000) : K64 (k : Int) := ⟨by omega, by omega⟩
theorem infoCh : (Try.prog.info? 111).map (fun i => (i.zero, i.size, i.bytes)) = some (some (.agg #[.int .i64 0, .int .i64 0, .int .i64 0, .int .i64 0, .int .i64 0, .int .i64 0, .int .i64 0, .int .i64 0, .int .i64 0, .int .i64 0, .int .i64 0]), 11, 88) := by kernel_rfl
theorem NInv.wri {rd : Rd} {lv : Lv} {M : Nat} (h : NInv M rd lv) (c a : Int) : NInv (M + 1) rd (wriL rd lv c a) := by
  unfold wriL
  split
  · exact h.upd c a
  · exact h.mono (Nat.le_succ M)
theorem NVal.wri {rd : Rd} {lv : Lv} (h : NVal rd lv) {c a : Int} (ha : K64 a) : NVal rd (wriL rd lv c a) := by
  unfold wriL
  split
  · exact h.upd ha
  · exact h
section
variable {w0 w : World} {B nb rb : Nat} {F : Nat → Prop} {lv_ cv : Value} {l : List POp} {s : RS} {M : Nat}
theorem RunW.setA' (h : RunW w0 w B nb rb F lv_ cv l s M) (b : Nat) (bi : Int) (hb : bi = b) : RunW w0 (w.setCell ⟨rb, 2, none⟩ (.int .i64 bi)) B nb rb F lv_ cv l { s with at_ := b } M ∧ NG w (w.setCell ⟨rb, 2, none⟩ (.int .i64 bi)) (fpR F rb lv_ cv) (fpR F rb lv_ cv) := by
  subst hb
  exact h.setA b
set_option maxHeartbeats 6400000 in
theorem cell_read (h : RunW w0 w B nb rb F lv_ cv l s M) (hat : s.at_ ≤ 1000) (kc kr ko : Nat) (n : Int) (hc : kc < 16) (hr : kr < 8) (ho : ko < 8) (hn : K64 n) (v : Int) (hv : valF s.rd s.lv (kc : Int) = some v) :
    Calls Try.prog 40 #[(.pointer (some ⟨rb, 0, none⟩)), .agg #[.int .i64 1, .int .i64 (kc : Int), .int .i64 (kr : Int), .int .i64 (ko : Int), .int .i64 n]] w (MPost w0 w rb (fpR F rb lv_ cv) l (M + 1) { s with rg := updN s.rg kr v, at_ := s.at_ + 1 }) := by
  have HC := As.mk hc
  have HKR := As.mk hr
  have HKO := As.mk ho
  have HKN := As.mk hn
  have hcI : (kc : Int) < 16 := by omega
  have hrI : (kr : Int) < 8 := by omega
  have hc0 : (0 : Int) ≤ (kc : Int) := by omega
  have hr0 : (0 : Int) ≤ (kr : Int) := by omega
  clear hc hr ho hn
  have HT := As.mk (Blk.new w 57 #[.int .i64 1, .int .i64 (kc : Int), .int .i64 (kr : Int), .int .i64 (ko : Int), .int .i64 n])
  have HGA := As.mk (gr_alloc (gr_refl w none) (.cells #[.int .i64 1, .int .i64 (kc : Int), .int .i64 (kr : Int), .int .i64 (ko : Int), .int .i64 n] 57))
  have HR := As.mk (h.grown (gr_alloc (gr_refl w none) (.cells #[.int .i64 1, .int .i64 (kc : Int), .int .i64 (kr : Int), .int .i64 (ko : Int), .int .i64 n] 57)))
  clear h
  go_enter Try.func40, Try.ntmps40
  obtain ⟨t0, t1, t2, t3, t4⟩ := (HT.out).c5
  have HV := As.mk hv
  clear hv
  have HNE := As.mk (show w.heap.size ≠ rb from fun e => Blk.ne HT.out HR.out.blk (by decide) e)
  go_upto_region 2 with fail
  clear t0 t1 t2 t3 t4
  generalize w.alloc (.cells #[.int .i64 1, .int .i64 (kc : Int), .int .i64 (kr : Int), .int .i64 (ko : Int), .int .i64 n] 57) = W at *
  generalize w.heap.size = tb at *
  refine wp_region_noPanic ?_
  refine wp_region_held_drew (S := fun w' => Blk w' tb 57 #[.int .i64 1, .int .i64 (kc : Int), .int .i64 (kr : Int), .int .i64 (ko : Int), .int .i64 n] ∧ w'.cell? ⟨rb, 0, none⟩ = some (.pointer (some ⟨nb, 0, none⟩))) (by kernel_rfl) (⟨HT.out.drew, HR.out.blk.drew.cell 0⟩) (fun hS => ?_)
  refine wpAnyH_take (i := 0) (v := ?va1) rfl (by kernel_rfl) (by kernel_rfl) (by kernel_rfl) (fun _ _ _ h => h) (Or.inl ⟨by rfl, ?ya1⟩) hS ?ra1
  case ya1 => (intro w0 _; go_simp; try with_reducible rfl)
  try simp only [yA, yB, yC, Act.put, yD, yE, yF]
  refine wpAnyH_take (i := 1) (v := ?va2) rfl (by kernel_rfl) (by kernel_rfl) (by kernel_rfl) (fun _ _ _ h => h) (Or.inl ⟨by rfl, ?ya2⟩) hS ?ra2
  case ya2 => (intro w0 _; go_simp; try with_reducible rfl)
  try simp only [yA, yB, yC, Act.put, yD, yE, yF]
  refine wpAnyH_take (i := 2) (v := ?va3) rfl (by kernel_rfl) (by kernel_rfl) (by kernel_rfl) (fun _ _ _ h => h) (Or.inl ⟨by rfl, ?ya3⟩) hS ?ra3
  case ya3 => (intro w0 hS0; (try simp only [] at hS0); obtain ⟨hS0_0, hS0_1⟩ := hS0; obtain ⟨t0, t1, t2, t3, t4⟩ := hS0_0.c5; go_simp; try with_reducible rfl)
  try simp only [yA, yB, yC, Act.put, yD, yE, yF]
  refine wpAnyH_take (i := 3) (v := ?va4) rfl (by kernel_rfl) (by kernel_rfl) (by kernel_rfl) (fun _ _ _ h => h) (Or.inl ⟨by rfl, ?ya4⟩) hS ?ra4
  case ya4 => (intro w0 _; go_simp; try with_reducible rfl)
  try simp only [yA, yB, yC, Act.put, yD, yE, yF]
  refine wpAnyH_take (i := 4) (v := ?va5) rfl (by kernel_rfl) (by kernel_rfl) (by kernel_rfl) (fun _ _ _ h => h) (Or.inl ⟨by rfl, ?ya5⟩) hS ?ra5
  case ya5 => (intro w0 _; go_simp; try with_reducible rfl)
  try simp only [yA, yB, yC, Act.put, yD, yE, yF]
  refine wpAnyH_take (i := 5) (v := ?va6) rfl (by kernel_rfl) (by kernel_rfl) (by kernel_rfl) (fun _ _ _ h => h) (Or.inl ⟨by rfl, ?ya6⟩) hS ?ra6
  case ya6 => (intro w0 _; go_simp; try with_reducible rfl)
  try simp only [yA, yB, yC, Act.put, yD, yE, yF]
  refine wpAnyH_take (i := 6) (v := ?va7) rfl (by kernel_rfl) (by kernel_rfl) (by kernel_rfl) (fun _ _ _ h => h) (Or.inl ⟨by rfl, ?ya7⟩) hS ?ra7
  case ya7 => (intro w0 hS0; (try simp only [] at hS0); obtain ⟨hS0_0, hS0_1⟩ := hS0; have q : w0.cell? ⟨rb, 0, none⟩ = some (.pointer (some ⟨nb, 0, none⟩)) := hS0_1; go_simp; try with_reducible rfl)
  try simp only [yA, yB, yC, Act.put, yD, yE, yF]
  refine wpAnyH_take (i := 7) (v := ?va8) rfl (by kernel_rfl) (by kernel_rfl) (by kernel_rfl) (fun _ _ _ h => h) (Or.inl ⟨by rfl, ?ya8⟩) hS ?ra8
  case ya8 => (intro w0 _; go_simp; try with_reducible rfl)
  try simp only [yA, yB, yC, Act.put, yD, yE, yF]
  refine wpAnyH_take (i := 8) (v := ?va9) rfl (by kernel_rfl) (by kernel_rfl) (by kernel_rfl) (fun _ _ _ h => h) (Or.inl ⟨by rfl, ?ya9⟩) hS ?ra9
  case ya9 => (intro w0 hS0; (try simp only [] at hS0); obtain ⟨hS0_0, hS0_1⟩ := hS0; obtain ⟨t0, t1, t2, t3, t4⟩ := hS0_0.c5; go_simp; try with_reducible rfl)
  try simp only [yA, yB, yC, Act.put, yD, yE, yF]
  refine wpAnyH_take (i := 13) (v := ?va10) rfl (by kernel_rfl) (by kernel_rfl) (by kernel_rfl) (fun _ _ _ h => h) (Or.inl ⟨by rfl, ?ya10⟩) hS ?ra10
  case ya10 => (intro w0 _; go_simp; try with_reducible rfl)
  try simp only [yA, yB, yC, Act.put, yD, yE, yF]
  refine wpAnyH_take (i := 14) (v := ?va11) rfl (by kernel_rfl) (by kernel_rfl) (by kernel_rfl) (fun _ _ _ h => h) (Or.inl ⟨by rfl, ?ya11⟩) hS ?ra11
  case ya11 => (intro w0 _; go_simp; try with_reducible rfl)
  try simp only [yA, yB, yC, Act.put, yD, yE, yF]
  refine wpAnyH_ready (rs := [9]) (by kernel_rfl) (by simp) (AllReadyH.cons (i := 9) rfl (fun K hK => ?_) AllReadyH.nil)
  go_simp
  refine (value_c HR.out.drew.nest (by have := HR.out.inv.five; omega) HR.out.inv.pos (kc : Int) (k64_nat kc (by omega)) _ HV.out).mono ?_
  rintro e0 w1 ⟨rfl, hg1⟩
  simp only [Option.getD_some, Option.isSome_some]
  go_simp
  refine shut_gen hK (F := fun w' => As (RunW w0 w' B nb rb F lv_ cv l s M ∧ NG W w' (fpR F rb lv_ cv) (fpR F rb lv_ cv))) (⟨HT.out.drew.grown hg1 (by simp), (HR.out.blk.drew.grown hg1 (by simp)).cell 0⟩) (⟨HR.out.drew.grown hg1, (ng_drew W).trans (ng_none hg1)⟩) (fun w2 hS HF => ?_)
  clear hK K
  clear hg1
  try simp only [yA, yB, yC, Act.put, yD, yE, yF]
  refine wpAnyH_take (i := 10) (v := ?va13) rfl (by kernel_rfl) (by kernel_rfl) (by kernel_rfl) (fun _ _ _ h => h) (Or.inl ⟨by rfl, ?ya13⟩) hS ?ra13
  case ya13 => (intro w0 _; go_simp; try with_reducible rfl)
  try simp only [yA, yB, yC, Act.put, yD, yE, yF]
  refine wpAnyH_take (i := 11) (v := ?va14) rfl (by kernel_rfl) (by kernel_rfl) (by kernel_rfl) (fun _ _ _ h => h) (Or.inl ⟨by rfl, ?ya14⟩) hS ?ra14
  case ya14 => (intro w0 _; go_simp; try with_reducible rfl)
  try simp only [yA, yB, yC, Act.put, yD, yE, yF]
  refine wpAnyH_take (i := 12) (v := ?va15) rfl (by kernel_rfl) (by kernel_rfl) (by kernel_rfl) (fun _ _ _ h => h) (Or.inl ⟨by rfl, ?ya15⟩) hS ?ra15
  case ya15 => (intro w0 _; go_simp; try with_reducible rfl)
  try simp only [yA, yB, yC, Act.put, yD, yE, yF]
  refine wpAnyH_take (i := 15) (v := ?va16) rfl (by kernel_rfl) (by kernel_rfl) (by kernel_rfl) (fun _ _ _ h => h) (Or.inl ⟨by rfl, ?ya16⟩) hS ?ra16
  case ya16 => (intro w0 _; go_simp; try with_reducible rfl)
  try simp only [yA, yB, yC, Act.put, yD, yE, yF]
  refine wpAnyH_ready (rs := [16]) (by kernel_rfl) (by simp) (AllReadyH.cons (i := 16) rfl (fun K hK => ?_) AllReadyH.nil)
  have q : w2.cell? ⟨rb, 3 + kr, none⟩ = some (.int .i64 (s.rg kr)) := (HF.out.1.blk.cell (3 + kr)).trans (runC_reg _ _ _ _ _ _ kr HKR.out)
  have f : w2.frozen? ⟨rb, 3 + kr, none⟩ = false := HF.out.1.blk.free (3 + kr)
  go_simp
  refine shut_gen hK (F := fun w' => As (RunW w0 w' B nb rb F lv_ cv l { s with rg := updN s.rg kr v } M ∧ NG W w' (fpR F rb lv_ cv) (fpR F rb lv_ cv))) (⟨hS.1.far (fun e => HNE.out e) _, (HF.out.1.setR kr HKR.out v (HF.out.1.val.valF HV.out).1).1.blk.cell 0⟩) (⟨(HF.out.1.setR kr HKR.out v (HF.out.1.val.valF HV.out).1).1, HF.out.2.trans (HF.out.1.setR kr HKR.out v (HF.out.1.val.valF HV.out).1).2⟩) (fun w3 hS HF3 => ?_)
  clear hK K
  try simp only [yA, yB, yC, Act.put, yD, yE, yF]
  refine wpAnyH_done (by kernel_rfl) ?_ _
  refine NoPanic.normal ?_
  try simp only [Exit.then]
  have HNG := As.mk ((ng_none (G := (fpR F rb lv_ cv)) HGA.out).trans HF3.out.2)
  replace HR := As.mk HF3.out.1
  clear HF HF3 hS
  have cat : w3.cell? ⟨rb, 2, none⟩ = some (.int .i64 (s.at_ : Int)) := HR.out.blk.cell 2
  have fat := HR.out.blk.free 2
  have hat0 : (0 : Int) ≤ (s.at_ : Int) := by omega
  have hat1 : (s.at_ : Int) ≤ 1000 := by omega
  go_wp2_with fail
  go_end0
  exact ⟨rfl, _, ⟨_, _, _, _, _, rfl, (HR.out.setA (s.at_ + 1)).1.mono' (by omega)⟩, HNG.out.trans (HR.out.setA (s.at_ + 1)).2⟩
set_option maxHeartbeats 6400000 in
theorem cell_write (h : RunW w0 w B nb rb F lv_ cv l s M) (hat : s.at_ ≤ 1000) (kc kr ko : Nat) (n : Int) (hc : kc < 16) (hr : kr < 8) (ho : ko < 8) (hn : K64 n) (hrd : (s.rd.2 (kc : Int)).isSome = true) (hK : M < 300000) :
    Calls Try.prog 40 #[(.pointer (some ⟨rb, 0, none⟩)), .agg #[.int .i64 2, .int .i64 (kc : Int), .int .i64 (kr : Int), .int .i64 (ko : Int), .int .i64 n]] w (MPost w0 w rb (fpR F rb lv_ cv) l (M + 1) { s with lv := wriL s.rd s.lv (kc : Int) (s.rg kr), at_ := s.at_ + 1 }) := by
  have HC := As.mk hc
  have HKR := As.mk hr
  have HKO := As.mk ho
  have HKN := As.mk hn
  have hcI : (kc : Int) < 16 := by omega
  have hrI : (kr : Int) < 8 := by omega
  have hc0 : (0 : Int) ≤ (kc : Int) := by omega
  have hr0 : (0 : Int) ≤ (kr : Int) := by omega
  clear hc hr ho hn
  have HT := As.mk (Blk.new w 57 #[.int .i64 2, .int .i64 (kc : Int), .int .i64 (kr : Int), .int .i64 (ko : Int), .int .i64 n])
  have HGA := As.mk (gr_alloc (gr_refl w none) (.cells #[.int .i64 2, .int .i64 (kc : Int), .int .i64 (kr : Int), .int .i64 (ko : Int), .int .i64 n] 57))
  have h0 := As.mk h
  have HR := As.mk (h.grown (gr_alloc (gr_refl w none) (.cells #[.int .i64 2, .int .i64 (kc : Int), .int .i64 (kr : Int), .int .i64 (ko : Int), .int .i64 n] 57)))
  clear h
  go_enter Try.func40, Try.ntmps40
  obtain ⟨t0, t1, t2, t3, t4⟩ := (HT.out).c5
  have HRD := As.mk hrd
  have HKK := As.mk hK
  have q0 := (HR.out.blk.cell (3 + kr)).trans (runC_reg _ _ _ _ _ _ kr HKR.out)
  clear hrd hK q0
  have HTF := As.mk (show ¬ F w.heap.size from fun q => absurd (h0.out.nest.fp _ q).2 (Nat.lt_irrefl _))
  clear h0
  go_upto_region 3 with fail
  clear t0 t1 t2 t3 t4
  generalize w.alloc (.cells #[.int .i64 2, .int .i64 (kc : Int), .int .i64 (kr : Int), .int .i64 (ko : Int), .int .i64 n] 57) = W at *
  generalize w.heap.size = tb at *
  refine wp_region_noPanic ?_
  refine wp_region_held_drew (S := fun w' => Blk w' tb 57 #[.int .i64 2, .int .i64 (kc : Int), .int .i64 (kr : Int), .int .i64 (ko : Int), .int .i64 n] ∧ Blk w' rb 65 (runC (.pointer (some ⟨nb, 0, none⟩)) lv_ s.at_ s.rg cv s.tk)) (by kernel_rfl) (⟨HT.out.drew, HR.out.blk.drew⟩) (fun hS => ?_)
  refine wpAnyH_take (i := 0) (v := ?va1) rfl (by kernel_rfl) (by kernel_rfl) (by kernel_rfl) (fun _ _ _ h => h) (Or.inl ⟨by rfl, ?ya1⟩) hS ?ra1
  case ya1 => (intro w0 _; go_simp; try with_reducible rfl)
  try simp only [yA, yB, yC, Act.put, yD, yE, yF]
  refine wpAnyH_take (i := 1) (v := ?va2) rfl (by kernel_rfl) (by kernel_rfl) (by kernel_rfl) (fun _ _ _ h => h) (Or.inl ⟨by rfl, ?ya2⟩) hS ?ra2
  case ya2 => (intro w0 _; go_simp; try with_reducible rfl)
  try simp only [yA, yB, yC, Act.put, yD, yE, yF]
  refine wpAnyH_take (i := 2) (v := ?va3) rfl (by kernel_rfl) (by kernel_rfl) (by kernel_rfl) (fun _ _ _ h => h) (Or.inl ⟨by rfl, ?ya3⟩) hS ?ra3
  case ya3 => (intro w0 _; go_simp; try with_reducible rfl)
  try simp only [yA, yB, yC, Act.put, yD, yE, yF]
  refine wpAnyH_take (i := 3) (v := ?va4) rfl (by kernel_rfl) (by kernel_rfl) (by kernel_rfl) (fun _ _ _ h => h) (Or.inl ⟨by rfl, ?ya4⟩) hS ?ra4
  case ya4 => (intro w0 hS0; (try simp only [] at hS0); obtain ⟨hS0_0, hS0_1⟩ := hS0; have q : w0.cell? ⟨rb, 0, none⟩ = some (.pointer (some ⟨nb, 0, none⟩)) := hS0_1.cell 0; go_simp; try with_reducible rfl)
  try simp only [yA, yB, yC, Act.put, yD, yE, yF]
  refine wpAnyH_take (i := 4) (v := ?va5) rfl (by kernel_rfl) (by kernel_rfl) (by kernel_rfl) (fun _ _ _ h => h) (Or.inl ⟨by rfl, ?ya5⟩) hS ?ra5
  case ya5 => (intro w0 _; go_simp; try with_reducible rfl)
  try simp only [yA, yB, yC, Act.put, yD, yE, yF]
  refine wpAnyH_take (i := 5) (v := ?va6) rfl (by kernel_rfl) (by kernel_rfl) (by kernel_rfl) (fun _ _ _ h => h) (Or.inl ⟨by rfl, ?ya6⟩) hS ?ra6
  case ya6 => (intro w0 hS0; (try simp only [] at hS0); obtain ⟨hS0_0, hS0_1⟩ := hS0; obtain ⟨t0, t1, t2, t3, t4⟩ := hS0_0.c5; go_simp; try with_reducible rfl)
  try simp only [yA, yB, yC, Act.put, yD, yE, yF]
  refine wpAnyH_take (i := 6) (v := ?va7) rfl (by kernel_rfl) (by kernel_rfl) (by kernel_rfl) (fun _ _ _ h => h) (Or.inl ⟨by rfl, ?ya7⟩) hS ?ra7
  case ya7 => (intro w0 _; go_simp; try with_reducible rfl)
  try simp only [yA, yB, yC, Act.put, yD, yE, yF]
  refine wpAnyH_take (i := 7) (v := ?va8) rfl (by kernel_rfl) (by kernel_rfl) (by kernel_rfl) (fun _ _ _ h => h) (Or.inl ⟨by rfl, ?ya8⟩) hS ?ra8
  case ya8 => (intro w0 _; go_simp; try with_reducible rfl)
  try simp only [yA, yB, yC, Act.put, yD, yE, yF]
  refine wpAnyH_take (i := 8) (v := ?va9) rfl (by kernel_rfl) (by kernel_rfl) (by kernel_rfl) (fun _ _ _ h => h) (Or.inl ⟨by rfl, ?ya9⟩) hS ?ra9
  case ya9 => (intro w0 hS0; (try simp only [] at hS0); obtain ⟨hS0_0, hS0_1⟩ := hS0; obtain ⟨t0, t1, t2, t3, t4⟩ := hS0_0.c5; go_simp; try with_reducible rfl)
  try simp only [yA, yB, yC, Act.put, yD, yE, yF]
  refine wpAnyH_take (i := 9) (v := ?va10) rfl (by kernel_rfl) (by kernel_rfl) (by kernel_rfl) (fun _ _ _ h => h) (Or.inl ⟨by rfl, ?ya10⟩) hS ?ra10
  case ya10 => (intro w0 _; go_simp; try with_reducible rfl)
  try simp only [yA, yB, yC, Act.put, yD, yE, yF]
  refine wpAnyH_take (i := 10) (v := ?va11) rfl (by kernel_rfl) (by kernel_rfl) (by kernel_rfl) (fun _ _ _ h => h) (Or.inl ⟨by rfl, ?ya11⟩) hS ?ra11
  case ya11 => (intro w0 _; go_simp; try with_reducible rfl)
  try simp only [yA, yB, yC, Act.put, yD, yE, yF]
  refine wpAnyH_take (i := 11) (v := ?va12) rfl (by kernel_rfl) (by kernel_rfl) (by kernel_rfl) (fun _ _ _ h => h) (Or.inl ⟨by rfl, ?ya12⟩) hS ?ra12
  case ya12 => (intro w0 _; go_simp; try with_reducible rfl)
  try simp only [yA, yB, yC, Act.put, yD, yE, yF]
  refine wpAnyH_take (i := 12) (v := ?va13) rfl (by kernel_rfl) (by kernel_rfl) (by kernel_rfl) (fun _ _ _ h => h) (Or.inl ⟨by rfl, ?ya13⟩) hS ?ra13
  case ya13 => (intro w0 hS0; (try simp only [] at hS0); obtain ⟨hS0_0, hS0_1⟩ := hS0; have q : w0.cell? ⟨rb, 3 + kr, none⟩ = some (.int .i64 (s.rg kr)) := (hS0_1.cell (3 + kr)).trans (runC_reg _ _ _ _ _ _ kr HKR.out); go_simp; try with_reducible rfl)
  try simp only [yA, yB, yC, Act.put, yD, yE, yF]
  refine wpAnyH_ready (rs := [13]) (by kernel_rfl) (by simp) (AllReadyH.cons (i := 13) rfl (fun K hK => ?_) AllReadyH.nil)
  go_simp
  refine (write_c HR.out.drew.nest (by have := HR.out.inv.five; omega) HR.out.inv.pos (fun p hp => by have := HR.out.inv.mem p hp; have := HKK.out; omega) (kc : Int) (s.rg kr) (k64_nat kc (by omega)) (HR.out.regs kr HKR.out)).mono ?_
  rintro e0 w1 ⟨rfl, hn1, hg1⟩
  have HN1 := As.mk (HR.out.drew.nested (s' := { s with lv := wriL s.rd s.lv (kc : Int) (s.rg kr) }) (K' := M + 1) hg1 hn1 (HR.out.inv.wri _ _) (HR.out.val.wri (HR.out.regs kr HKR.out)) rfl rfl rfl rfl)
  go_simp
  refine shut_gen hK (F := fun w' => As (RunW w0 w' B nb rb F lv_ cv l { s with lv := wriL s.rd s.lv (kc : Int) (s.rg kr) } (M + 1) ∧ NG W w' (fpR F rb lv_ cv) (fpR F rb lv_ cv))) (⟨(hg1.old tb HT.out.drew.lt HTF.out).1.trans HT.out.drew, HN1.out.1.blk⟩) (⟨HN1.out.1, (ng_drew W).trans HN1.out.2⟩) (fun w2 hS HF => ?_)
  clear hK K
  clear HN1
  try simp only [yA, yB, yC, Act.put, yD, yE, yF]
  refine wpAnyH_done (by kernel_rfl) ?_ _
  refine NoPanic.normal ?_
  try simp only [Exit.then]
  clear HT
  have HNG := As.mk ((ng_none (G := (fpR F rb lv_ cv)) HGA.out).trans HF.out.2)
  replace HR := As.mk HF.out.1
  clear HF hS
  have cat : w2.cell? ⟨rb, 2, none⟩ = some (.int .i64 (s.at_ : Int)) := HR.out.blk.cell 2
  have fat := HR.out.blk.free 2
  have hat0 : (0 : Int) ≤ (s.at_ : Int) := by omega
  have hat1 : (s.at_ : Int) ≤ 1000 := by omega
  go_wp2_with fail
  go_end0
  exact ⟨rfl, _, ⟨_, _, _, _, _, rfl, (HR.out.setA (s.at_ + 1)).1.mono' (by omega)⟩, HNG.out.trans (HR.out.setA (s.at_ + 1)).2⟩
set_option maxHeartbeats 6400000 in
theorem either_c (h : RunW w0 w B nb rb F lv_ cv l s M) (hat : s.at_ ≤ 1000) (hcl : s.cho.length ≤ 100) :
    Calls Try.prog 41 #[(.pointer (some ⟨rb, 0, none⟩))] w (MPost w0 w rb (fpR F rb lv_ cv) l (M + 1) { s with cho := s.cho ++ [(⟨(s.at_ : Int), (pFind l s.at_).1, (pFind l s.at_).2, s.rg⟩ : RCh)], lv := begL s.lv, at_ := s.at_ + 1 }) := by
  obtain ⟨AL, cL, rfl⟩ := own_shape h.lrow
  obtain ⟨AC, cC, rfl⟩ := own_shape h.crow
  have HR := As.mk h
  clear h
  go_enter Try.func41, Try.ntmps41
  obtain ⟨iC, hC1, hC2, hC3, hC4⟩ := info_parts infoCh
  have HIC := As.mk (And.intro hC1 (And.intro hC2 (And.intro hC3 hC4)))
  clear hC1 hC2 hC3 hC4
  go_upto_region 0 with fail
  refine wp_region_noPanic ?_
  refine wp_region_D (S := fun w' => Blk w' rb 65 (runC (.pointer (some ⟨nb, 0, none⟩)) (.slice AL l.length cL) s.at_ s.rg (.slice AC s.cho.length cC) s.tk)) 36 (by kernel_rfl) (HR.out.blk.drew) (fun hS => ?_)
  refine wpAnyD_take (i := 0) (v := ?va1) rfl rfl (by kernel_rfl) (by kernel_rfl) (by kernel_rfl) (by kernel_rfl) (fun _ _ _ h => h) (Or.inl ⟨by rfl, ?ya1⟩) hS ?ra1
  case ya1 => (intro w0 _; go_simp; try with_reducible rfl)
  try simp only [yA, yB, yC, Act.put, yD, yE, yF]
  refine wpAnyD_take (i := 1) (v := ?va2) rfl rfl (by kernel_rfl) (by kernel_rfl) (by kernel_rfl) (by kernel_rfl) (fun _ _ _ h => h) (Or.inl ⟨by rfl, ?ya2⟩) hS ?ra2
  case ya2 => (intro w0 _; go_simp; try with_reducible rfl)
  try simp only [yA, yB, yC, Act.put, yD, yE, yF]
  refine wpAnyD_take (i := 2) (v := ?va3) rfl rfl (by kernel_rfl) (by kernel_rfl) (by kernel_rfl) (by kernel_rfl) (fun _ _ _ h => h) (Or.inl ⟨by rfl, ?ya3⟩) hS ?ra3
  case ya3 => (intro w0 _; go_simp; try with_reducible rfl)
  try simp only [yA, yB, yC, Act.put, yD, yE, yF]
  refine wpAnyD_take (i := 3) (v := ?va4) rfl rfl (by kernel_rfl) (by kernel_rfl) (by kernel_rfl) (by kernel_rfl) (fun _ _ _ h => h) (Or.inl ⟨by rfl, ?ya4⟩) hS ?ra4
  case ya4 => (intro w0 _; go_simp; try with_reducible rfl)
  try simp only [yA, yB, yC, Act.put, yD, yE, yF]
  refine wpAnyD_take (i := 4) (v := ?va5) rfl rfl (by kernel_rfl) (by kernel_rfl) (by kernel_rfl) (by kernel_rfl) (fun _ _ _ h => h) (Or.inl ⟨by rfl, ?ya5⟩) hS ?ra5
  case ya5 => (intro w0 hS0; (try simp only [] at hS0); have q : w0.cell? ⟨rb, 11, none⟩ = some (.slice AC s.cho.length cC) := hS0.cell 11; go_simp; try with_reducible rfl)
  try simp only [yA, yB, yC, Act.put, yD, yE, yF]
  refine wpAnyD_take (i := 5) (v := ?va6) rfl rfl (by kernel_rfl) (by kernel_rfl) (by kernel_rfl) (by kernel_rfl) (fun _ _ _ h => h) (Or.inl ⟨by rfl, ?ya6⟩) hS ?ra6
  case ya6 => (intro w0 _; go_simp; try with_reducible rfl)
  try simp only [yA, yB, yC, Act.put, yD, yE, yF]
  refine wpAnyD_take (i := 6) (v := ?va7) rfl rfl (by kernel_rfl) (by kernel_rfl) (by kernel_rfl) (by kernel_rfl) (fun _ _ _ h => h) (Or.inl ⟨by rfl, ?ya7⟩) hS ?ra7
  case ya7 => (intro w0 _; go_simp; try with_reducible rfl)
  try simp only [yA, yB, yC, Act.put, yD, yE, yF]
  refine wpAnyD_take (i := 7) (v := ?va8) rfl rfl (by kernel_rfl) (by kernel_rfl) (by kernel_rfl) (by kernel_rfl) (fun _ _ _ h => h) (Or.inl ⟨by rfl, ?ya8⟩) hS ?ra8
  case ya8 => (intro w0 _; go_simp; try with_reducible rfl)
  try simp only [yA, yB, yC, Act.put, yD, yE, yF]
  refine wpAnyD_take (i := 8) (v := ?va9) rfl rfl (by kernel_rfl) (by kernel_rfl) (by kernel_rfl) (by kernel_rfl) (fun _ _ _ h => h) (Or.inl ⟨by rfl, ?ya9⟩) hS ?ra9
  case ya9 => (intro w0 hS0; (try simp only [] at hS0); have q : w0.cell? ⟨rb, 2, none⟩ = some (.int .i64 (s.at_ : Int)) := hS0.cell 2; go_simp; try with_reducible rfl)
  try simp only [yA, yB, yC, Act.put, yD, yE, yF]
  refine wpAnyD_take (i := 9) (v := ?va10) rfl rfl (by kernel_rfl) (by kernel_rfl) (by kernel_rfl) (by kernel_rfl) (fun _ _ _ h => h) (Or.inl ⟨by rfl, ?ya10⟩) hS ?ra10
  case ya10 => (intro w0 _; go_simp; try with_reducible rfl)
  try simp only [yA, yB, yC, Act.put, yD, yE, yF]
  refine wpAnyD_take (i := 10) (v := ?va11) rfl rfl (by kernel_rfl) (by kernel_rfl) (by kernel_rfl) (by kernel_rfl) (fun _ _ _ h => h) (Or.inl ⟨by rfl, ?ya11⟩) hS ?ra11
  case ya11 => (intro w0 _; go_simp; try with_reducible rfl)
  try simp only [yA, yB, yC, Act.put, yD, yE, yF]
  refine wpAnyD_take (i := 11) (v := ?va12) rfl rfl (by kernel_rfl) (by kernel_rfl) (by kernel_rfl) (by kernel_rfl) (fun _ _ _ h => h) (Or.inl ⟨by rfl, ?ya12⟩) hS ?ra12
  case ya12 => (intro w0 _; go_simp; try with_reducible rfl)
  try simp only [yA, yB, yC, Act.put, yD, yE, yF]
  refine wpAnyD_take (i := 12) (v := ?va13) rfl rfl (by kernel_rfl) (by kernel_rfl) (by kernel_rfl) (by kernel_rfl) (fun _ _ _ h => h) (Or.inl ⟨by rfl, ?ya13⟩) hS ?ra13
  case ya13 => (intro w0 hS0; (try simp only [] at hS0); have q : w0.cell? ⟨rb, 1, none⟩ = some (.slice AL l.length cL) := hS0.cell 1; go_simp; try with_reducible rfl)
  try simp only [yA, yB, yC, Act.put, yD, yE, yF]
  refine wpAnyD_take (i := 13) (v := ?va14) rfl rfl (by kernel_rfl) (by kernel_rfl) (by kernel_rfl) (by kernel_rfl) (fun _ _ _ h => h) (Or.inl ⟨by rfl, ?ya14⟩) hS ?ra14
  case ya14 => (intro w0 _; go_simp; try with_reducible rfl)
  try simp only [yA, yB, yC, Act.put, yD, yE, yF]
  refine wpAnyD_take (i := 14) (v := ?va15) rfl rfl (by kernel_rfl) (by kernel_rfl) (by kernel_rfl) (by kernel_rfl) (fun _ _ _ h => h) (Or.inl ⟨by rfl, ?ya15⟩) hS ?ra15
  case ya15 => (intro w0 _; go_simp; try with_reducible rfl)
  try simp only [yA, yB, yC, Act.put, yD, yE, yF]
  refine wpAnyD_take (i := 15) (v := ?va16) rfl rfl (by kernel_rfl) (by kernel_rfl) (by kernel_rfl) (by kernel_rfl) (fun _ _ _ h => h) (Or.inl ⟨by rfl, ?ya16⟩) hS ?ra16
  case ya16 => (intro w0 _; go_simp; try with_reducible rfl)
  try simp only [yA, yB, yC, Act.put, yD, yE, yF]
  refine wpAnyD_take (i := 16) (v := ?va17) rfl rfl (by kernel_rfl) (by kernel_rfl) (by kernel_rfl) (by kernel_rfl) (fun _ _ _ h => h) (Or.inl ⟨by rfl, ?ya17⟩) hS ?ra17
  case ya17 => (intro w0 hS0; (try simp only [] at hS0); have q : w0.cell? ⟨rb, 2, none⟩ = some (.int .i64 (s.at_ : Int)) := hS0.cell 2; go_simp; try with_reducible rfl)
  try simp only [yA, yB, yC, Act.put, yD, yE, yF]
  refine wpAnyD_take (i := 18) (v := ?va18) rfl rfl (by kernel_rfl) (by kernel_rfl) (by kernel_rfl) (by kernel_rfl) (fun _ _ _ h => h) (Or.inl ⟨by rfl, ?ya18⟩) hS ?ra18
  case ya18 => (intro w0 _; go_simp; try with_reducible rfl)
  try simp only [yA, yB, yC, Act.put, yD, yE, yF]
  refine wpAnyD_take (i := 19) (v := ?va19) rfl rfl (by kernel_rfl) (by kernel_rfl) (by kernel_rfl) (by kernel_rfl) (fun _ _ _ h => h) (Or.inl ⟨by rfl, ?ya19⟩) hS ?ra19
  case ya19 => (intro w0 _; go_simp; try with_reducible rfl)
  try simp only [yA, yB, yC, Act.put, yD, yE, yF]
  refine wpAnyD_take (i := 20) (v := ?va20) rfl rfl (by kernel_rfl) (by kernel_rfl) (by kernel_rfl) (by kernel_rfl) (fun _ _ _ h => h) (Or.inl ⟨by rfl, ?ya20⟩) hS ?ra20
  case ya20 => (intro w0 _; go_simp; try with_reducible rfl)
  try simp only [yA, yB, yC, Act.put, yD, yE, yF]
  refine wpAnyD_take (i := 21) (v := ?va21) rfl rfl (by kernel_rfl) (by kernel_rfl) (by kernel_rfl) (by kernel_rfl) (fun _ _ _ h => h) (Or.inl ⟨by rfl, ?ya21⟩) hS ?ra21
  case ya21 => (intro w0 hS0; (try simp only [] at hS0); have q : w0.cell? ⟨rb, 1, none⟩ = some (.slice AL l.length cL) := hS0.cell 1; go_simp; try with_reducible rfl)
  try simp only [yA, yB, yC, Act.put, yD, yE, yF]
  refine wpAnyD_take (i := 22) (v := ?va22) rfl rfl (by kernel_rfl) (by kernel_rfl) (by kernel_rfl) (by kernel_rfl) (fun _ _ _ h => h) (Or.inl ⟨by rfl, ?ya22⟩) hS ?ra22
  case ya22 => (intro w0 _; go_simp; try with_reducible rfl)
  try simp only [yA, yB, yC, Act.put, yD, yE, yF]
  refine wpAnyD_take (i := 23) (v := ?va23) rfl rfl (by kernel_rfl) (by kernel_rfl) (by kernel_rfl) (by kernel_rfl) (fun _ _ _ h => h) (Or.inl ⟨by rfl, ?ya23⟩) hS ?ra23
  case ya23 => (intro w0 _; go_simp; try with_reducible rfl)
  try simp only [yA, yB, yC, Act.put, yD, yE, yF]
  refine wpAnyD_take (i := 24) (v := ?va24) rfl rfl (by kernel_rfl) (by kernel_rfl) (by kernel_rfl) (by kernel_rfl) (fun _ _ _ h => h) (Or.inl ⟨by rfl, ?ya24⟩) hS ?ra24
  case ya24 => (intro w0 _; go_simp; try with_reducible rfl)
  try simp only [yA, yB, yC, Act.put, yD, yE, yF]
  refine wpAnyD_take (i := 25) (v := ?va25) rfl rfl (by kernel_rfl) (by kernel_rfl) (by kernel_rfl) (by kernel_rfl) (fun _ _ _ h => h) (Or.inl ⟨by rfl, ?ya25⟩) hS ?ra25
  case ya25 => (intro w0 hS0; (try simp only [] at hS0); have q : w0.cell? ⟨rb, 2, none⟩ = some (.int .i64 (s.at_ : Int)) := hS0.cell 2; go_simp; try with_reducible rfl)
  try simp only [yA, yB, yC, Act.put, yD, yE, yF]
  refine wpAnyD_take (i := 27) (v := ?va26) rfl rfl (by kernel_rfl) (by kernel_rfl) (by kernel_rfl) (by kernel_rfl) (fun _ _ _ h => h) (Or.inl ⟨by rfl, ?ya26⟩) hS ?ra26
  case ya26 => (intro w0 _; go_simp; try with_reducible rfl)
  try simp only [yA, yB, yC, Act.put, yD, yE, yF]
  refine wpAnyD_take (i := 28) (v := ?va27) rfl rfl (by kernel_rfl) (by kernel_rfl) (by kernel_rfl) (by kernel_rfl) (fun _ _ _ h => h) (Or.inl ⟨by rfl, ?ya27⟩) hS ?ra27
  case ya27 => (intro w0 _; go_simp; try with_reducible rfl)
  try simp only [yA, yB, yC, Act.put, yD, yE, yF]
  refine wpAnyD_take (i := 29) (v := ?va28) rfl rfl (by kernel_rfl) (by kernel_rfl) (by kernel_rfl) (by kernel_rfl) (fun _ _ _ h => h) (Or.inl ⟨by rfl, ?ya28⟩) hS ?ra28
  case ya28 => (intro w0 _; go_simp; try with_reducible rfl)
  try simp only [yA, yB, yC, Act.put, yD, yE, yF]
  refine wpAnyD_take (i := 30) (v := ?va29) rfl rfl (by kernel_rfl) (by kernel_rfl) (by kernel_rfl) (by kernel_rfl) (fun _ _ _ h => h) (Or.inl ⟨by rfl, ?ya29⟩) hS ?ra29
  case ya29 => (intro w0 hS0; (try simp only [] at hS0); have q0 : w0.cell? ⟨rb, 3, none⟩ = some (.int .i64 (s.rg 0)) := hS0.cell 3; have q1 : w0.cell? ⟨rb, 4, none⟩ = some (.int .i64 (s.rg 1)) := hS0.cell 4; have q2 : w0.cell? ⟨rb, 5, none⟩ = some (.int .i64 (s.rg 2)) := hS0.cell 5; have q3 : w0.cell? ⟨rb, 6, none⟩ = some (.int .i64 (s.rg 3)) := hS0.cell 6; have q4 : w0.cell? ⟨rb, 7, none⟩ = some (.int .i64 (s.rg 4)) := hS0.cell 7; have q5 : w0.cell? ⟨rb, 8, none⟩ = some (.int .i64 (s.rg 5)) := hS0.cell 8; have q6 : w0.cell? ⟨rb, 9, none⟩ = some (.int .i64 (s.rg 6)) := hS0.cell 9; have q7 : w0.cell? ⟨rb, 10, none⟩ = some (.int .i64 (s.rg 7)) := hS0.cell 10; go_simp; try with_reducible rfl)
  try simp only [yA, yB, yC, Act.put, yD, yE, yF]
  refine wpAnyD_ready (rs := [17]) (by kernel_rfl) (by simp) (AllReadyD.cons (i := 17) rfl (fun K hK => ?_) AllReadyD.nil)
  go_simp
  refine (or_c _ l (s.at_ : Int) _ (Arr.of_ops HR.out.drew.lrow) (wfK (k64_nat s.at_ (by omega)))).mono ?_
  rintro e0 w1 ⟨rfl, hg1⟩
  go_simp
  refine shut_gen hK (F := fun w' => As (RunW w0 w' B nb rb F (.slice AL l.length cL) (.slice AC s.cho.length cC) l s M ∧ NG w w' (fpR F rb (.slice AL l.length cL) (.slice AC s.cho.length cC)) (fpR F rb (.slice AL l.length cL) (.slice AC s.cho.length cC)))) (fun _ => HR.out.drew.blk.grown hg1 (by simp)) (⟨HR.out.drew.grown hg1, (ng_drew w).trans (ng_none hg1)⟩) (fun w2 hS HF2 => ?_)
  clear hK K
  replace hS := hS (by decide)
  clear hg1
  try simp only [yA, yB, yC, Act.put, yD, yE, yF]
  refine wpAnyD_ready (rs := [26]) (by kernel_rfl) (by simp) (AllReadyD.cons (i := 26) rfl (fun K hK => ?_) AllReadyD.nil)
  go_simp
  refine (end_c _ l (s.at_ : Int) _ (Arr.of_ops HF2.out.1.lrow) (wfK (k64_nat s.at_ (by omega)))).mono ?_
  rintro e0 w3 ⟨rfl, hg1⟩
  go_simp
  refine shut_gen hK (F := fun w' => As (RunW w0 w' B nb rb F (.slice AL l.length cL) (.slice AC s.cho.length cC) l s M ∧ NG w w' (fpR F rb (.slice AL l.length cL) (.slice AC s.cho.length cC)) (fpR F rb (.slice AL l.length cL) (.slice AC s.cho.length cC)))) (fun _ => HF2.out.1.blk.grown hg1 (by simp)) (⟨HF2.out.1.grown hg1, HF2.out.2.trans (ng_none hg1)⟩) (fun w4 hS HF4 => ?_)
  clear hK K
  replace hS := hS (by decide)
  clear hg1 HF2
  try simp only [yA, yB, yC, Act.put, yD, yE, yF]
  refine wpAnyD_take (i := 31) (v := ?va32) rfl rfl (by kernel_rfl) (by kernel_rfl) (by kernel_rfl) (by kernel_rfl) (fun _ _ _ h => h) (Or.inl ⟨by rfl, ?ya32⟩) hS ?ra32
  case ya32 => (intro w0 _; go_simp; try with_reducible rfl)
  try simp only [yA, yB, yC, Act.put, yD, yE, yF]
  refine wpAnyD_ready (rs := [32]) (by kernel_rfl) (by simp) (AllReadyD.cons (i := 32) rfl (fun K hK => ?_) AllReadyD.nil)
  go_simp
  refine shut_gen hK (F := fun w' => As ((RunW w0 w' B nb rb F (.slice AL l.length cL) (.slice AC s.cho.length cC) l s M ∧ NG w w' (fpR F rb (.slice AL l.length cL) (.slice AC s.cho.length cC)) (fpR F rb (.slice AL l.length cL) (.slice AC s.cho.length cC))) ∧ Blk w' w4.heap.size 111 #[.int .i64 (s.at_ : Int), .int .i64 (pFind l s.at_).1, .int .i64 (pFind l s.at_).2, .int .i64 (s.rg 0), .int .i64 (s.rg 1), .int .i64 (s.rg 2), .int .i64 (s.rg 3), .int .i64 (s.rg 4), .int .i64 (s.rg 5), .int .i64 (s.rg 6), .int .i64 (s.rg 7)])) (fun _ => HF4.out.1.blk.alloc _) (⟨⟨HF4.out.1.grown (gr_alloc (gr_refl w4 none) _), HF4.out.2.trans (ng_none (gr_alloc (gr_refl w4 none) _))⟩, Blk.new w4 _ _⟩) (fun w5 hS HF5 => ?_)
  clear hK K
  replace hS := hS (by decide)
  clear HF4
  try simp only [yA, yB, yC, Act.put, yD, yE, yF]
  refine wpAnyD_ready (rs := [33]) (by kernel_rfl) (by simp) (AllReadyD.cons (i := 33) rfl (fun K hK => ?_) AllReadyD.nil)
  refine step_app1 rfl _ _ _ rfl B 111 iC _ 11 88 Try.underlying63 HIC.out.1 HIC.out.2.1 HIC.out.2.2.1 HIC.out.2.2.2 rfl (by omega) (by omega) _ _ _ (by rfl) HF5.out.1.1.crow w4.heap.size (by rfl) _ HF5.out.2 rfl (by simp [Value.oneCell']) (by omega) HF5.out.1.1.lo.2.2 ?_
  intro v' w' ho hg' hv'
  obtain ⟨AV, cV, rfl⟩ := own_shape ho
  refine shut_gen hK (F := fun w' => As (w5.grownBy w' (Value.ownBlock (.slice AC s.cho.length cC)) ∧ w'.ownsRow B 111 11 (.slice AV (s.cho.length + 1) cV) (s.cho.length + 1) (s.cho.flatMap chC ++ chC (⟨(s.at_ : Int), (pFind l s.at_).1, (pFind l s.at_).2, s.rg⟩ : RCh)) ∧ (Value.ownBlock (.slice AV (s.cho.length + 1) cV) = Value.ownBlock (.slice AC s.cho.length cC) ∨ Value.ownBlock (.slice AV (s.cho.length + 1) cV) = some w5.heap.size))) (fun _ => HF5.out.1.1.blk.grown hg' (own_ne HF5.out.1.1.blk HF5.out.1.1.crow (by decide))) (⟨hg', by simpa [chC] using ho, hv'⟩) (fun w6 hS HF6 => ?_)
  clear hK K
  replace hS := hS (by decide)
  clear ho hg' hv'
  try simp only [yA, yB, yC, Act.put, yD, yE, yF]
  refine wpAnyD_ready (rs := [34]) (by kernel_rfl) (by simp) (AllReadyD.cons (i := 34) rfl (fun K hK => ?_) AllReadyD.nil)
  go_simp
  refine hK.out _ _ (fun _ => hS) (fun hS' => ?_)
  replace hS := hS' (by decide)
  clear hS'
  clear hK K
  try simp only [yA, yB, yC, Act.put, yD, yE, yF]
  refine wpAnyD_take (i := 35) (v := ?va36) rfl rfl (by kernel_rfl) (by kernel_rfl) (by kernel_rfl) (by kernel_rfl) (fun _ _ _ h => h) (Or.inl ⟨by rfl, ?ya36⟩) hS ?ra36
  case ya36 => (intro w0 _; go_simp; try with_reducible rfl)
  try simp only [yA, yB, yC, Act.put, yD, yE, yF]
  refine wpAnyD_ready (rs := [36]) (by kernel_rfl) (by simp) (AllReadyD.cons (i := 36) rfl (fun K hK => ?_) AllReadyD.nil)
  have q : w6.cell? ⟨rb, 11, none⟩ = some (.slice AC s.cho.length cC) := hS.cell 11
  have f : w6.frozen? ⟨rb, 11, none⟩ = false := hS.free 11
  have HS6 := As.mk hS
  go_simp
  refine shut_gen2 hK (F := fun w' => As (RunW w0 w' B nb rb F (.slice AL l.length cL) (.slice AV (s.cho.length + 1) cV) l { s with cho := s.cho ++ [(⟨(s.at_ : Int), (pFind l s.at_).1, (pFind l s.at_).2, s.rg⟩ : RCh)] } M ∧ NG w w' (fpR F rb (.slice AL l.length cL) (.slice AC s.cho.length cC)) (fpR F rb (.slice AL l.length cL) (.slice AV (s.cho.length + 1) cV)))) (fun h => absurd rfl h) (⟨(HF5.out.1.1.chosen HF6.out.1 (c' := s.cho ++ [(⟨(s.at_ : Int), (pFind l s.at_).1, (pFind l s.at_).2, s.rg⟩ : RCh)]) (by simpa using HF6.out.2.1) (HF6.out.2.2.elim .inl (fun e => .inr (.inr e))) (fun p hp => (List.mem_append.1 hp).elim (HF5.out.1.1.cregs p) (fun hp => by rw [List.mem_singleton] at hp; subst hp; exact HF5.out.1.1.regs)) (gr_set (gr_refl w6 (some rb)) (a := ⟨rb, 11, none⟩) (.inl rfl) _) (s' := { s with cho := s.cho ++ [(⟨(s.at_ : Int), (pFind l s.at_).1, (pFind l s.at_).2, s.rg⟩ : RCh)] }) (HS6.out.set 11 (.slice AV (s.cho.length + 1) cV)) rfl rfl rfl HF5.out.1.1.regs).1, HF5.out.1.2.trans (HF5.out.1.1.chosen HF6.out.1 (c' := s.cho ++ [(⟨(s.at_ : Int), (pFind l s.at_).1, (pFind l s.at_).2, s.rg⟩ : RCh)]) (by simpa using HF6.out.2.1) (HF6.out.2.2.elim .inl (fun e => .inr (.inr e))) (fun p hp => (List.mem_append.1 hp).elim (HF5.out.1.1.cregs p) (fun hp => by rw [List.mem_singleton] at hp; subst hp; exact HF5.out.1.1.regs)) (gr_set (gr_refl w6 (some rb)) (a := ⟨rb, 11, none⟩) (.inl rfl) _) (s' := { s with cho := s.cho ++ [(⟨(s.at_ : Int), (pFind l s.at_).1, (pFind l s.at_).2, s.rg⟩ : RCh)] }) (HS6.out.set 11 (.slice AV (s.cho.length + 1) cV)) rfl rfl rfl HF5.out.1.1.regs).2⟩) (fun w7 HF7 => ?_)
  clear hK K
  try simp only [yA, yB, yC, Act.put, yD, yE, yF]
  refine wpAnyD_done (by kernel_rfl) ?_ _
  refine NoPanic.normal ?_
  try simp only [Exit.then]
  have HNG := As.mk HF7.out.2
  replace HR := As.mk HF7.out.1
  clear HF7 HF6 HF5 HS6
  have cn : w7.cell? ⟨rb, 0, none⟩ = some (.pointer (some ⟨nb, 0, none⟩)) := HR.out.blk.cell 0
  go_wp2_with fail
  clear cn
  refine (begin_c HR.out.nest HR.out.lo.2.2 (by have := HR.out.inv.five; omega)).mono ?_
  rintro e w8 ⟨rfl, F', hn, hg⟩
  have HN := As.mk (HR.out.nested (s' := { s with cho := s.cho ++ [(⟨(s.at_ : Int), (pFind l s.at_).1, (pFind l s.at_).2, s.rg⟩ : RCh)], lv := begL s.lv }) (K' := M) hg hn HR.out.inv.beg HR.out.val.beg rfl rfl rfl rfl)
  replace HNG := As.mk (HNG.out.trans HN.out.2)
  replace HR := As.mk HN.out.1
  clear HN hn hg
  have cat : w8.cell? ⟨rb, 2, none⟩ = some (.int .i64 (s.at_ : Int)) := HR.out.blk.cell 2
  have fat := HR.out.blk.free 2
  have hat0 : (0 : Int) ≤ (s.at_ : Int) := by omega
  have hat1 : (s.at_ : Int) ≤ 1000 := by omega
  go_wp2_with fail
  go_end0
  exact ⟨rfl, _, ⟨_, _, _, _, _, rfl, (HR.out.setA (s.at_ + 1)).1.mono' (by omega)⟩, HNG.out.trans (HR.out.setA (s.at_ + 1)).2⟩
set_option maxHeartbeats 6400000 in
theorem ror_c (h : RunW w0 w B nb rb F lv_ cv l s M) (hat : s.at_ ≤ 1000) (ini : List RCh) (q : RCh) (hcho : s.cho = ini ++ [q]) (e : Nat) (hqe : q.e = e) (he : e ≤ 1000) (hil : ini.length ≤ 100) (hK : M ≤ 300000) :
    Calls Try.prog 42 #[(.pointer (some ⟨rb, 0, none⟩))] w (MPost w0 w rb (fpR F rb lv_ cv) l (M + 1) { s with cho := ini, lv := merL s.lv, at_ := e + 1 }) := by
  obtain ⟨AL, cL, rfl⟩ := own_shape h.lrow
  have hl0 : s.cho.length = ini.length + 1 := by rw [hcho]; simp
  obtain ⟨gC, cC, rfl⟩ := own_some h.crow (by omega)
  have hcap : ini.length + 1 ≤ cC ∧ cC ≤ 9223372036854775807 := ⟨by have := (own_cap h.crow).2.1; omega, (own_cap h.crow).2.2⟩
  have HCE := As.mk (fun j u (hu : (chC q)[j]? = some u) => own_cellAt h.crow (ini.length * 11 + j) u (flat_atN chC 11 (fun _ => rfl) s.cho ini.length q (by rw [hcho]; simp) j u hu))
  have HCT := As.mk (show ∀ w' : World, w'.ownsRow B 111 11 (.slice (some ⟨gC, 0, none⟩) (ini.length + 1) cC) (ini.length + 1) (s.cho.flatMap chC) → w'.ownsRow B 111 11 (.slice (some ⟨gC, 0, none⟩) ini.length cC) ini.length (ini.flatMap chC) from fun w' h0 => by
    have h1 := own_cut h0 ini.length (by omega)
    have h2 : (s.cho.flatMap chC).take (ini.length * 11) = ini.flatMap chC := by
      rw [hcho, List.flatMap_append, List.take_left' (flat_lenN chC 11 (fun _ => rfl) ini)]
    rw [h2] at h1
    exact h1)
  have HCK := As.mk (show ∀ p ∈ ini, ∀ k, k < 8 → K64 (p.r k) from fun p hp => h.cregs p (by rw [hcho]; exact List.mem_append.2 (.inl hp)))
  have HQK := As.mk (show ∀ k, k < 8 → K64 (q.r k) from h.cregs q (by rw [hcho]; simp))
  have HCH := As.mk hcho
  rw [hl0] at *
  have HL0 := As.mk (show s.cho.length = ini.length + 1 from by rw [HCH.out]; simp)
  have HR := As.mk h
  clear h
  go_enter Try.func42, Try.ntmps42
  have c11 : w.cell? ⟨rb, 11, none⟩ = some (.slice (some ⟨gC, 0, none⟩) (ini.length + 1) cC) := HR.out.blk.cell 11
  have f11 := HR.out.blk.free 11
  have f2 := HR.out.blk.free 2
  have c2 : w.cell? ⟨rb, 2, none⟩ = some (.int .i64 (s.at_ : Int)) := HR.out.blk.cell 2
  have e2 : w.cell? ⟨gC, ini.length * 11 + 2, none⟩ = some (.int .i64 (e : Int)) := by rw [← hqe]; exact HCE.out 2 _ rfl
  have hi0 : (0 : Int) ≤ (ini.length : Int) := by omega
  have hi1 : (ini.length : Int) ≤ 100 := by omega
  have hc1 := hcap.1
  have hc2 := hcap.2
  have he0 : (0 : Int) ≤ (e : Int) := by omega
  have he1 : (e : Int) ≤ 1000 := by omega
  clear hcho hqe
  go_upto_region 3 with fail
  clear c11 f11 f2 c2 e2
  have HP1 := As.mk (HR.out.setA' (e + 1) ((e : Int) + 1) (by omega))
  have HP2 := As.mk (HP1.out.1.chosen (gr_refl _ _) (cv' := (.slice (some ⟨gC, 0, none⟩) ini.length cC)) (c' := ini) (by have h1 := HP1.out.1.crow; rw [show ({ s with at_ := e + 1 } : RS).cho.length = ini.length + 1 from HL0.out] at h1; exact HCT.out _ h1) (.inl rfl) HCK.out (gr_set (gr_refl _ (some rb)) (a := ⟨rb, 11, none⟩) (.inl rfl) (.slice (some ⟨gC, 0, none⟩) ini.length cC)) (s' := { s with at_ := e + 1, cho := ini }) (HP1.out.1.blk.set 11 (.slice (some ⟨gC, 0, none⟩) ini.length cC)) rfl rfl rfl HP1.out.1.regs)
  have HNG := As.mk (HP1.out.2.trans HP2.out.2)
  replace HR := As.mk HP2.out.1
  clear HP1 HP2 HCT HCE
  generalize (w.setCell ⟨rb, 2, none⟩ (.int .i64 ((e : Int) + 1))).setCell ⟨rb, 11, none⟩ (.slice (some ⟨gC, 0, none⟩) ini.length cC) = w3 at *
  have cn : w3.cell? ⟨rb, 0, none⟩ = some (.pointer (some ⟨nb, 0, none⟩)) := HR.out.blk.cell 0
  go_wp2_with fail
  clear cn
  refine (merge_c HR.out.nest HR.out.inv.pos (by have := HR.out.inv.five; omega) (fun p hp => by have := HR.out.inv.mem p hp; omega)).mono ?_
  rintro e1 w8 ⟨rfl, F', hn, hg⟩
  have HN := As.mk (HR.out.nested (s' := { s with at_ := e + 1, cho := ini, lv := merL s.lv }) (K' := M) hg hn HR.out.inv.mer HR.out.val.mer rfl rfl rfl rfl)
  go_wp2_with fail
  go_end0
  exact ⟨rfl, _, ⟨_, _, _, _, _, rfl, HN.out.1.mono' (Nat.le_succ M)⟩, HNG.out.trans HN.out.2⟩
theorem wrapI {x : Int} (h : -9223372036854775808 ≤ x ∧ x ≤ 9223372036854775807) : IntKind.i64.wrap x = x := by
  unfold IntKind.wrap
  simp only [IntKind.bits, IntKind.signed]
  simp
  split <;> omega
theorem RunW.setRegs (h : RunW w0 w B nb rb F lv_ cv l s M) (r : Nat → Int) (hr : ∀ k, k < 8 → K64 (r k)) : (RunW w0 ((((((((w.setCell ⟨rb, 3, none⟩ (.int .i64 (r 0))).setCell ⟨rb, 4, none⟩ (.int .i64 (r 1))).setCell ⟨rb, 5, none⟩ (.int .i64 (r 2))).setCell ⟨rb, 6, none⟩ (.int .i64 (r 3))).setCell ⟨rb, 7, none⟩ (.int .i64 (r 4))).setCell ⟨rb, 8, none⟩ (.int .i64 (r 5))).setCell ⟨rb, 9, none⟩ (.int .i64 (r 6))).setCell ⟨rb, 10, none⟩ (.int .i64 (r 7))) B nb rb F lv_ cv l { s with rg := r } M ∧ NG w ((((((((w.setCell ⟨rb, 3, none⟩ (.int .i64 (r 0))).setCell ⟨rb, 4, none⟩ (.int .i64 (r 1))).setCell ⟨rb, 5, none⟩ (.int .i64 (r 2))).setCell ⟨rb, 6, none⟩ (.int .i64 (r 3))).setCell ⟨rb, 7, none⟩ (.int .i64 (r 4))).setCell ⟨rb, 8, none⟩ (.int .i64 (r 5))).setCell ⟨rb, 9, none⟩ (.int .i64 (r 6))).setCell ⟨rb, 10, none⟩ (.int .i64 (r 7))) (fpR F rb lv_ cv) (fpR F rb lv_ cv)) ∧ w.grownBy ((((((((w.setCell ⟨rb, 3, none⟩ (.int .i64 (r 0))).setCell ⟨rb, 4, none⟩ (.int .i64 (r 1))).setCell ⟨rb, 5, none⟩ (.int .i64 (r 2))).setCell ⟨rb, 6, none⟩ (.int .i64 (r 3))).setCell ⟨rb, 7, none⟩ (.int .i64 (r 4))).setCell ⟨rb, 8, none⟩ (.int .i64 (r 5))).setCell ⟨rb, 9, none⟩ (.int .i64 (r 6))).setCell ⟨rb, 10, none⟩ (.int .i64 (r 7))) (some rb) := by
  have h0 := h.blk.set (3 + 0) (.int .i64 (r 0))
  rw [runC_setR _ _ _ _ _ _ (r 0) 0 (by omega)] at h0
  have h1 := h0.set (3 + 1) (.int .i64 (r 1))
  rw [runC_setR _ _ _ _ _ _ (r 1) 1 (by omega)] at h1
  have h2 := h1.set (3 + 2) (.int .i64 (r 2))
  rw [runC_setR _ _ _ _ _ _ (r 2) 2 (by omega)] at h2
  have h3 := h2.set (3 + 3) (.int .i64 (r 3))
  rw [runC_setR _ _ _ _ _ _ (r 3) 3 (by omega)] at h3
  have h4 := h3.set (3 + 4) (.int .i64 (r 4))
  rw [runC_setR _ _ _ _ _ _ (r 4) 4 (by omega)] at h4
  have h5 := h4.set (3 + 5) (.int .i64 (r 5))
  rw [runC_setR _ _ _ _ _ _ (r 5) 5 (by omega)] at h5
  have h6 := h5.set (3 + 6) (.int .i64 (r 6))
  rw [runC_setR _ _ _ _ _ _ (r 6) 6 (by omega)] at h6
  have h7 := h6.set (3 + 7) (.int .i64 (r 7))
  rw [runC_setR _ _ _ _ _ _ (r 7) 7 (by omega)] at h7
  have e : ∀ np lv a cv tk, runC np lv a (updN (updN (updN (updN (updN (updN (updN (updN s.rg 0 (r 0)) 1 (r 1)) 2 (r 2)) 3 (r 3)) 4 (r 4)) 5 (r 5)) 6 (r 6)) 7 (r 7)) cv tk = runC np lv a r cv tk := fun np lv a cv tk => by
    simp [runC, updN]
  rw [e] at h7
  exact ⟨h.put (s' := { s with rg := r }) (gr_set (gr_set (gr_set (gr_set (gr_set (gr_set (gr_set (gr_set (gr_refl w (some rb)) (a := ⟨rb, 3, none⟩) (.inl rfl) (.int .i64 (r 0))) (a := ⟨rb, 4, none⟩) (.inl rfl) (.int .i64 (r 1))) (a := ⟨rb, 5, none⟩) (.inl rfl) (.int .i64 (r 2))) (a := ⟨rb, 6, none⟩) (.inl rfl) (.int .i64 (r 3))) (a := ⟨rb, 7, none⟩) (.inl rfl) (.int .i64 (r 4))) (a := ⟨rb, 8, none⟩) (.inl rfl) (.int .i64 (r 5))) (a := ⟨rb, 9, none⟩) (.inl rfl) (.int .i64 (r 6))) (a := ⟨rb, 10, none⟩) (.inl rfl) (.int .i64 (r 7))) h7 rfl rfl rfl hr, (gr_set (gr_set (gr_set (gr_set (gr_set (gr_set (gr_set (gr_set (gr_refl w (some rb)) (a := ⟨rb, 3, none⟩) (.inl rfl) (.int .i64 (r 0))) (a := ⟨rb, 4, none⟩) (.inl rfl) (.int .i64 (r 1))) (a := ⟨rb, 5, none⟩) (.inl rfl) (.int .i64 (r 2))) (a := ⟨rb, 6, none⟩) (.inl rfl) (.int .i64 (r 3))) (a := ⟨rb, 7, none⟩) (.inl rfl) (.int .i64 (r 4))) (a := ⟨rb, 8, none⟩) (.inl rfl) (.int .i64 (r 5))) (a := ⟨rb, 9, none⟩) (.inl rfl) (.int .i64 (r 6))) (a := ⟨rb, 10, none⟩) (.inl rfl) (.int .i64 (r 7)))⟩
/-- What retry leaves where there is a choice. -/
def RPost (w0 w : World) (rb : Nat) (G : Nat → Prop) (l : List POp) (M : Nat) (s' : RS) (e : Ending) (w' : World) : Prop := e = .returned (.bool true) ∧ ∃ G', RunAt w0 w' rb G' l s' M ∧ NG w w' G G'
set_option maxHeartbeats 6400000 in
theorem retry_none (h : RunW w0 w B nb rb F lv_ cv l s M) (hat : s.at_ ≤ 1000) (hcho : s.cho = []) :
    Calls Try.prog 43 #[(.pointer (some ⟨rb, 0, none⟩))] w fun e w' => e = .returned (.bool false) ∧ w' = w := by
  have HR := As.mk h
  clear h
  go_enter Try.func43, Try.ntmps43
  obtain ⟨AC, cC, rfl⟩ := own_shape HR.out.crow
  have c11 : w.cell? ⟨rb, 11, none⟩ = some (.slice AC 0 cC) := by
    have h1 := HR.out.blk.cell 11
    have h2 : s.cho.length = 0 := by rw [hcho]; rfl
    rw [h2] at h1
    exact h1
  clear hcho
  go_wp2_with fail
  go_ret
  exact ⟨rfl, rfl⟩
set_option maxHeartbeats 6400000 in
theorem retry_some (h : RunW w0 w B nb rb F lv_ cv l s M) (hat : s.at_ ≤ 1000) (ini : List RCh) (q : RCh) (hcho : s.cho = ini ++ [q]) (o : Nat) (hqo : q.o = o) (hqo1 : o ≤ 1000) (hil : ini.length ≤ 100) :
    Calls Try.prog 43 #[(.pointer (some ⟨rb, 0, none⟩))] w (RPost w0 w rb (fpR F rb lv_ cv) l (M + 1) { s with rg := q.r, cho := ini, lv := undL s.lv, at_ := o + 1 }) := by
  obtain ⟨AL, cL, rfl⟩ := own_shape h.lrow
  have hl0 : s.cho.length = ini.length + 1 := by rw [hcho]; simp
  obtain ⟨gC, cC, rfl⟩ := own_some h.crow (by omega)
  have hcap : ini.length + 1 ≤ cC ∧ cC ≤ 9223372036854775807 := ⟨by have := (own_cap h.crow).2.1; omega, (own_cap h.crow).2.2⟩
  have HCE := As.mk (fun j u (hu : (chC q)[j]? = some u) => own_cellAt h.crow (ini.length * 11 + j) u (flat_atN chC 11 (fun _ => rfl) s.cho ini.length q (by rw [hcho]; simp) j u hu))
  have HCT := As.mk (show ∀ w' : World, w'.ownsRow B 111 11 (.slice (some ⟨gC, 0, none⟩) (ini.length + 1) cC) (ini.length + 1) (s.cho.flatMap chC) → w'.ownsRow B 111 11 (.slice (some ⟨gC, 0, none⟩) ini.length cC) ini.length (ini.flatMap chC) from fun w' h0 => by
    have h1 := own_cut h0 ini.length (by omega)
    have h2 : (s.cho.flatMap chC).take (ini.length * 11) = ini.flatMap chC := by
      rw [hcho, List.flatMap_append, List.take_left' (flat_lenN chC 11 (fun _ => rfl) ini)]
    rw [h2] at h1
    exact h1)
  have HCK := As.mk (show ∀ p ∈ ini, ∀ k, k < 8 → K64 (p.r k) from fun p hp => h.cregs p (by rw [hcho]; exact List.mem_append.2 (.inl hp)))
  have HQK := As.mk (show ∀ k, k < 8 → K64 (q.r k) from h.cregs q (by rw [hcho]; simp))
  have HCH := As.mk hcho
  rw [hl0] at *
  have HL0 := As.mk (show s.cho.length = ini.length + 1 from by rw [HCH.out]; simp)
  have HR := As.mk h
  clear h
  go_enter Try.func43, Try.ntmps43
  have HTF := As.mk (show ¬ F w.heap.size from fun q => absurd (HR.out.nest.fp _ q).2 (Nat.lt_irrefl _))
  have HNE := As.mk (show w.heap.size ≠ rb from fun e => absurd HR.out.blk.lt (by omega))
  have c11 : w.cell? ⟨rb, 11, none⟩ = some (.slice (some ⟨gC, 0, none⟩) (ini.length + 1) cC) := HR.out.blk.cell 11
  have c11' : (w.alloc (.cells #[.int .i64 q.a, .int .i64 q.o, .int .i64 q.e, .int .i64 (q.r 0), .int .i64 (q.r 1), .int .i64 (q.r 2), .int .i64 (q.r 3), .int .i64 (q.r 4), .int .i64 (q.r 5), .int .i64 (q.r 6), .int .i64 (q.r 7)] 111)).cell? ⟨rb, 11, none⟩ = some (.slice (some ⟨gC, 0, none⟩) (ini.length + 1) cC) := (HR.out.blk.alloc (.cells #[.int .i64 q.a, .int .i64 q.o, .int .i64 q.e, .int .i64 (q.r 0), .int .i64 (q.r 1), .int .i64 (q.r 2), .int .i64 (q.r 3), .int .i64 (q.r 4), .int .i64 (q.r 5), .int .i64 (q.r 6), .int .i64 (q.r 7)] 111)).cell 11
  have f11 := (HR.out.blk.alloc (.cells #[.int .i64 q.a, .int .i64 q.o, .int .i64 q.e, .int .i64 (q.r 0), .int .i64 (q.r 1), .int .i64 (q.r 2), .int .i64 (q.r 3), .int .i64 (q.r 4), .int .i64 (q.r 5), .int .i64 (q.r 6), .int .i64 (q.r 7)] 111)).free 11
  have e0 := HCE.out 0 _ rfl
  have e1 := HCE.out 1 _ rfl
  have e2 := HCE.out 2 _ rfl
  have e3 := HCE.out 3 _ rfl
  have e4 := HCE.out 4 _ rfl
  have e5 := HCE.out 5 _ rfl
  have e6 := HCE.out 6 _ rfl
  have e7 := HCE.out 7 _ rfl
  have e8 := HCE.out 8 _ rfl
  have e9 := HCE.out 9 _ rfl
  have e10 := HCE.out 10 _ rfl
  simp only [Nat.add_zero] at e0
  have hi0 : (0 : Int) ≤ (ini.length : Int) := by omega
  have hi1 : (ini.length : Int) ≤ 100 := by omega
  have hc1 := hcap.1
  have hc2 := hcap.2
  have ho0 : (0 : Int) ≤ (o : Int) := by omega
  have ho1 : (o : Int) ≤ 1000 := by omega
  have HQO := As.mk hqo
  have HCB := As.mk (Blk.new w 111 #[.int .i64 q.a, .int .i64 q.o, .int .i64 q.e, .int .i64 (q.r 0), .int .i64 (q.r 1), .int .i64 (q.r 2), .int .i64 (q.r 3), .int .i64 (q.r 4), .int .i64 (q.r 5), .int .i64 (q.r 6), .int .i64 (q.r 7)])
  have HGA := As.mk (gr_alloc (gr_refl w none) (.cells #[.int .i64 q.a, .int .i64 q.o, .int .i64 q.e, .int .i64 (q.r 0), .int .i64 (q.r 1), .int .i64 (q.r 2), .int .i64 (q.r 3), .int .i64 (q.r 4), .int .i64 (q.r 5), .int .i64 (q.r 6), .int .i64 (q.r 7)] 111))
  replace HR := As.mk (HR.out.grown (gr_alloc (gr_refl w none) (.cells #[.int .i64 q.a, .int .i64 q.o, .int .i64 q.e, .int .i64 (q.r 0), .int .i64 (q.r 1), .int .i64 (q.r 2), .int .i64 (q.r 3), .int .i64 (q.r 4), .int .i64 (q.r 5), .int .i64 (q.r 6), .int .i64 (q.r 7)] 111)))
  clear hcho hqo
  go_upto_region 6 with fail
  clear c11 c11' f11 e0 e1 e2 e3 e4 e5 e6 e7 e8 e9 e10
  generalize w.alloc (.cells #[.int .i64 q.a, .int .i64 q.o, .int .i64 q.e, .int .i64 (q.r 0), .int .i64 (q.r 1), .int .i64 (q.r 2), .int .i64 (q.r 3), .int .i64 (q.r 4), .int .i64 (q.r 5), .int .i64 (q.r 6), .int .i64 (q.r 7)] 111) = W at *
  generalize w.heap.size = cb at *
  have HP2 := As.mk (HR.out.chosen (gr_refl _ _) (cv' := (.slice (some ⟨gC, 0, none⟩) ini.length cC)) (c' := ini) (by have h1 := HR.out.crow; rw [HL0.out] at h1; exact HCT.out _ h1) (.inl rfl) HCK.out (gr_set (gr_refl _ (some rb)) (a := ⟨rb, 11, none⟩) (.inl rfl) (.slice (some ⟨gC, 0, none⟩) ini.length cC)) (s' := { s with cho := ini }) (HR.out.blk.set 11 (.slice (some ⟨gC, 0, none⟩) ini.length cC)) rfl rfl rfl HR.out.regs)
  have HNG := As.mk ((ng_none (G := fpR F rb (.slice AL l.length cL) (.slice (some ⟨gC, 0, none⟩) (ini.length + 1) cC)) HGA.out).trans HP2.out.2)
  have HCB2 := As.mk (show Blk (W.setCell ⟨rb, 11, none⟩ (.slice (some ⟨gC, 0, none⟩) ini.length cC)) cb 111 #[.int .i64 q.a, .int .i64 q.o, .int .i64 q.e, .int .i64 (q.r 0), .int .i64 (q.r 1), .int .i64 (q.r 2), .int .i64 (q.r 3), .int .i64 (q.r 4), .int .i64 (q.r 5), .int .i64 (q.r 6), .int .i64 (q.r 7)] from HCB.out.far (fun e => HNE.out e) _)
  replace HR := As.mk HP2.out.1
  clear HP2 HCT HCE HCB HGA
  generalize W.setCell ⟨rb, 11, none⟩ (.slice (some ⟨gC, 0, none⟩) ini.length cC) = w3 at *
  have cn : w3.cell? ⟨rb, 0, none⟩ = some (.pointer (some ⟨nb, 0, none⟩)) := HR.out.blk.cell 0
  go_wp2_with fail
  clear cn
  refine (undo_c HR.out.nest HR.out.inv.pos (by have := HR.out.inv.five; omega)).mono ?_
  rintro e1 w8 ⟨rfl, F', hn, hg⟩
  have HN := As.mk (HR.out.nested (s' := { s with cho := ini, lv := undL s.lv }) (K' := M) hg hn HR.out.inv.und HR.out.val.und rfl rfl rfl rfl)
  have HCB8 := As.mk (show Blk w8 cb 111 #[.int .i64 q.a, .int .i64 q.o, .int .i64 q.e, .int .i64 (q.r 0), .int .i64 (q.r 1), .int .i64 (q.r 2), .int .i64 (q.r 3), .int .i64 (q.r 4), .int .i64 (q.r 5), .int .i64 (q.r 6), .int .i64 (q.r 7)] from (hg.old cb HCB2.out.lt HTF.out).1.trans HCB2.out)
  replace HNG := As.mk (HNG.out.trans HN.out.2)
  replace HR := As.mk HN.out.1
  clear HN hn hg HCB2
  go_upto_region 7 with fail
  refine wp_region_noPanic ?_
  refine wp_region_held_drew (S := fun w' => Blk w' cb 111 #[.int .i64 q.a, .int .i64 q.o, .int .i64 q.e, .int .i64 (q.r 0), .int .i64 (q.r 1), .int .i64 (q.r 2), .int .i64 (q.r 3), .int .i64 (q.r 4), .int .i64 (q.r 5), .int .i64 (q.r 6), .int .i64 (q.r 7)]) (by kernel_rfl) (HCB8.out.drew) (fun hS => ?_)
  refine wpAnyH_take (i := 0) (v := ?va1) rfl (by kernel_rfl) (by kernel_rfl) (by kernel_rfl) (fun _ _ _ h => h) (Or.inl ⟨by rfl, ?ya1⟩) hS ?ra1
  case ya1 => (intro w0 _; go_simp; try with_reducible rfl)
  try simp only [yA, yB, yC, Act.put, yD, yE, yF]
  refine wpAnyH_take (i := 1) (v := ?va2) rfl (by kernel_rfl) (by kernel_rfl) (by kernel_rfl) (fun _ _ _ h => h) (Or.inl ⟨by rfl, ?ya2⟩) hS ?ra2
  case ya2 => (intro w0 _; go_simp; try with_reducible rfl)
  try simp only [yA, yB, yC, Act.put, yD, yE, yF]
  refine wpAnyH_take (i := 2) (v := ?va3) rfl (by kernel_rfl) (by kernel_rfl) (by kernel_rfl) (fun _ _ _ h => h) (Or.inl ⟨by rfl, ?ya3⟩) hS ?ra3
  case ya3 => (intro w0 _; go_simp; try with_reducible rfl)
  try simp only [yA, yB, yC, Act.put, yD, yE, yF]
  refine wpAnyH_take (i := 3) (v := ?va4) rfl (by kernel_rfl) (by kernel_rfl) (by kernel_rfl) (fun _ _ _ h => h) (Or.inl ⟨by rfl, ?ya4⟩) hS ?ra4
  case ya4 => (intro w0 hS0; (try simp only [] at hS0); have q0 : w0.cell? ⟨cb, 3, none⟩ = some (.int .i64 (q.r 0)) := hS0.cell 3; have q1 : w0.cell? ⟨cb, 4, none⟩ = some (.int .i64 (q.r 1)) := hS0.cell 4; have q2 : w0.cell? ⟨cb, 5, none⟩ = some (.int .i64 (q.r 2)) := hS0.cell 5; have q3 : w0.cell? ⟨cb, 6, none⟩ = some (.int .i64 (q.r 3)) := hS0.cell 6; have q4 : w0.cell? ⟨cb, 7, none⟩ = some (.int .i64 (q.r 4)) := hS0.cell 7; have q5 : w0.cell? ⟨cb, 8, none⟩ = some (.int .i64 (q.r 5)) := hS0.cell 8; have q6 : w0.cell? ⟨cb, 9, none⟩ = some (.int .i64 (q.r 6)) := hS0.cell 9; have q7 : w0.cell? ⟨cb, 10, none⟩ = some (.int .i64 (q.r 7)) := hS0.cell 10; go_simp; try with_reducible rfl)
  try simp only [yA, yB, yC, Act.put, yD, yE, yF]
  refine wpAnyH_take (i := 4) (v := ?va5) rfl (by kernel_rfl) (by kernel_rfl) (by kernel_rfl) (fun _ _ _ h => h) (Or.inl ⟨by rfl, ?ya5⟩) hS ?ra5
  case ya5 => (intro w0 _; go_simp; try with_reducible rfl)
  try simp only [yA, yB, yC, Act.put, yD, yE, yF]
  refine wpAnyH_take (i := 5) (v := ?va6) rfl (by kernel_rfl) (by kernel_rfl) (by kernel_rfl) (fun _ _ _ h => h) (Or.inl ⟨by rfl, ?ya6⟩) hS ?ra6
  case ya6 => (intro w0 hS0; (try simp only [] at hS0); have q1 : w0.cell? ⟨cb, 1, none⟩ = some (.int .i64 (o : Int)) := (by rw [← HQO.out]; exact hS0.cell 1); go_simp; try with_reducible rfl)
  try simp only [yA, yB, yC, Act.put, yD, yE, yF]
  refine wpAnyH_take (i := 6) (v := ?va7) rfl (by kernel_rfl) (by kernel_rfl) (by kernel_rfl) (fun _ _ _ h => h) (Or.inl ⟨by rfl, ?ya7⟩) hS ?ra7
  case ya7 => (intro w0 _; go_simp; try with_reducible rfl)
  try simp only [yA, yB, yC, Act.put, yD, yE, yF]
  refine wpAnyH_take (i := 7) (v := ?va8) rfl (by kernel_rfl) (by kernel_rfl) (by kernel_rfl) (fun _ _ _ h => h) (Or.inl ⟨by rfl, ?ya8⟩) hS ?ra8
  case ya8 => (intro w0 _; go_simp; try with_reducible rfl)
  try simp only [yA, yB, yC, Act.put, yD, yE, yF]
  refine wpAnyH_take (i := 8) (v := ?va9) rfl (by kernel_rfl) (by kernel_rfl) (by kernel_rfl) (fun _ _ _ h => h) (Or.inl ⟨by rfl, ?ya9⟩) hS ?ra9
  case ya9 => (intro w0 _; go_simp; try with_reducible rfl)
  try simp only [yA, yB, yC, Act.put, yD, yE, yF]
  refine wpAnyH_ready (rs := [9]) (by kernel_rfl) (by simp) (AllReadyH.cons (i := 9) rfl (fun K hK => ?_) AllReadyH.nil)
  have q0 : w8.cell? ⟨rb, 3, none⟩ = some (.int .i64 (s.rg 0)) := HR.out.blk.cell 3
  have f0 : w8.frozen? ⟨rb, 3, none⟩ = false := HR.out.blk.free 3
  have q1 : w8.cell? ⟨rb, 4, none⟩ = some (.int .i64 (s.rg 1)) := HR.out.blk.cell 4
  have f1 : w8.frozen? ⟨rb, 4, none⟩ = false := HR.out.blk.free 4
  have q2 : w8.cell? ⟨rb, 5, none⟩ = some (.int .i64 (s.rg 2)) := HR.out.blk.cell 5
  have f2 : w8.frozen? ⟨rb, 5, none⟩ = false := HR.out.blk.free 5
  have q3 : w8.cell? ⟨rb, 6, none⟩ = some (.int .i64 (s.rg 3)) := HR.out.blk.cell 6
  have f3 : w8.frozen? ⟨rb, 6, none⟩ = false := HR.out.blk.free 6
  have q4 : w8.cell? ⟨rb, 7, none⟩ = some (.int .i64 (s.rg 4)) := HR.out.blk.cell 7
  have f4 : w8.frozen? ⟨rb, 7, none⟩ = false := HR.out.blk.free 7
  have q5 : w8.cell? ⟨rb, 8, none⟩ = some (.int .i64 (s.rg 5)) := HR.out.blk.cell 8
  have f5 : w8.frozen? ⟨rb, 8, none⟩ = false := HR.out.blk.free 8
  have q6 : w8.cell? ⟨rb, 9, none⟩ = some (.int .i64 (s.rg 6)) := HR.out.blk.cell 9
  have f6 : w8.frozen? ⟨rb, 9, none⟩ = false := HR.out.blk.free 9
  have q7 : w8.cell? ⟨rb, 10, none⟩ = some (.int .i64 (s.rg 7)) := HR.out.blk.cell 10
  have f7 : w8.frozen? ⟨rb, 10, none⟩ = false := HR.out.blk.free 10
  have HS9 := As.mk hS
  go_simp
  refine shut_gen hK (F := fun w' => As (RunW w0 w' B nb rb F' (.slice AL l.length cL) (.slice (some ⟨gC, 0, none⟩) ini.length cC) l { s with rg := q.r, cho := ini, lv := undL s.lv } M ∧ NG w8 w' (fpR F' rb (.slice AL l.length cL) (.slice (some ⟨gC, 0, none⟩) ini.length cC)) (fpR F' rb (.slice AL l.length cL) (.slice (some ⟨gC, 0, none⟩) ini.length cC)))) (by first | exact (HCB8.out.grown (HR.out.setRegs q.r HQK.out).2 (fun e => HNE.out (by injection e))).drew | exact HCB8.out.drew.grown (HR.out.drew.setRegs q.r HQK.out).2 (fun e => HNE.out (by injection e))) (⟨by first | exact ⟨(HR.out.setRegs q.r HQK.out).1.1.drew, (HR.out.setRegs q.r HQK.out).1.2.trans (ng_drew _)⟩ | exact ⟨(HR.out.drew.setRegs q.r HQK.out).1.1, (ng_drew _).trans (HR.out.drew.setRegs q.r HQK.out).1.2⟩⟩) (fun w9 hS HF9 => ?_)
  clear hK K
  try simp only [yA, yB, yC, Act.put, yD, yE, yF]
  refine wpAnyH_take (i := 10) (v := ?va11) rfl (by kernel_rfl) (by kernel_rfl) (by kernel_rfl) (fun _ _ _ h => h) (Or.inl ⟨by rfl, ?ya11⟩) hS ?ra11
  case ya11 => (intro w0 _; go_simp; try with_reducible rfl)
  try simp only [yA, yB, yC, Act.put, yD, yE, yF]
  refine wpAnyH_take (i := 11) (v := ?va12) rfl (by kernel_rfl) (by kernel_rfl) (by kernel_rfl) (fun _ _ _ h => h) (Or.inl ⟨by rfl, ?ya12⟩) hS ?ra12
  case ya12 => (intro w0 _; go_simp; try with_reducible rfl)
  try simp only [yA, yB, yC, Act.put, yD, yE, yF]
  refine wpAnyH_ready (rs := [12]) (by kernel_rfl) (by simp) (AllReadyH.cons (i := 12) rfl (fun K hK => ?_) AllReadyH.nil)
  have q2 : w9.cell? ⟨rb, 2, none⟩ = some (.int .i64 (s.at_ : Int)) := HF9.out.1.blk.cell 2
  have f2 : w9.frozen? ⟨rb, 2, none⟩ = false := HF9.out.1.blk.free 2
  go_simp
  refine shut_gen hK (F := fun w' => As (RunW w0 w' B nb rb F' (.slice AL l.length cL) (.slice (some ⟨gC, 0, none⟩) ini.length cC) l { s with rg := q.r, cho := ini, lv := undL s.lv, at_ := o + 1 } M ∧ NG w8 w' (fpR F' rb (.slice AL l.length cL) (.slice (some ⟨gC, 0, none⟩) ini.length cC)) (fpR F' rb (.slice AL l.length cL) (.slice (some ⟨gC, 0, none⟩) ini.length cC)))) (hS.far (fun e => HNE.out e) _) (⟨(HF9.out.1.setA' (o + 1) (IntKind.i64.wrap ((o : Int) + 1)) (wrapI (by omega))).1, HF9.out.2.trans (HF9.out.1.setA' (o + 1) (IntKind.i64.wrap ((o : Int) + 1)) (wrapI (by omega))).2⟩) (fun w10 hS HF10 => ?_)
  clear hK K
  try simp only [yA, yB, yC, Act.put, yD, yE, yF]
  refine wpAnyH_done (by kernel_rfl) ?_ _
  refine NoPanic.normal ?_
  try simp only [Exit.then]
  go_wp2_with fail
  go_ret
  exact ⟨rfl, _, ⟨_, _, _, _, _, rfl, HF10.out.1.mono' (Nat.le_succ M)⟩, HNG.out.trans HF10.out.2⟩
end
end Go.Proofs.Ytgmhopkajopfcaa
