/- A run's plain operations. (Printed by wip/gen/gen_rw.py.) -/
import Derived.OpenShut
import Derived.Test.YtgmhopkajopfcaaRu
import Derived.Test.YtgmhopkajopfcaaNrh
namespace Go.Proofs.Ytgmhopkajopfcaa
open Go.RowKit Go.Maps
set_option linter.unusedVariables false
set_option linter.unusedSimpArgs false
set_option maxRecDepth 100000

/-- What a step leaves. -/
def SPost (w0 w : World) (rb : Nat) (G : Nat → Prop) (l : List POp) (M : Nat) (a b : Int) (s' : RS) (e : Ending) (w' : World) : Prop := e = .returned (.tuple #[.int .i64 a, .int .i64 b]) ∧ ∃ G', RunAt w0 w' rb G' l s' (M + 1) ∧ NG w w' G G'
theorem shut_gen2 {A B F : World → Prop} {R : Act → World → Prop} {K : Act → World → Prop} {a : Act} {w : World} (hK : Shut (∀ a w, A w → (B w → R a w) → K a w)) (ha : A w) (hf : F w) (k : ∀ w1, F w1 → R a w1) : K a w := hK.out a w ha (fun _ => k w hf)
theorem shut_gen {S F : World → Prop} {R : Act → World → Prop} {K : Act → World → Prop} {a : Act} {w : World} (hK : Shut (∀ a w, S w → (S w → R a w) → K a w)) (hs : S w) (hf : F w) (k : ∀ w1, S w1 → F w1 → R a w1) : K a w := hK.out a w hs (fun h => k w h hf)
section
variable {w0 w : World} {B nb rb : Nat} {F : Nat → Prop} {lv_ cv : Value} {l : List POp} {s : RS} {M : Nat}
theorem RunW.drew (h : RunW w0 w B nb rb F lv_ cv l s M) : RunW w0 w.drew B nb rb F lv_ cv l s M := h.grown (gr_drew (gr_refl w none))
theorem ng_drew {G : Nat → Prop} (w : World) : NG w w.drew G G := NG.ofgr (gr_drew (gr_refl w none)) (fun k e => by cases e)
theorem ng_none {w w' : World} {G : Nat → Prop} (h : w.grownBy w' none) : NG w w' G G := NG.ofgr h (fun k e => by cases e)
theorem RunW.setR (h : RunW w0 w B nb rb F lv_ cv l s M) (k : Nat) (hk : k < 8) (v : Int) (hv : K64 v) : RunW w0 (w.setCell ⟨rb, 3 + k, none⟩ (.int .i64 v)) B nb rb F lv_ cv l { s with rg := updN s.rg k v } M ∧ NG w (w.setCell ⟨rb, 3 + k, none⟩ (.int .i64 v)) (fpR F rb lv_ cv) (fpR F rb lv_ cv) := by
  refine h.put (s' := { s with rg := updN s.rg k v }) (gr_set (gr_refl w (some rb)) (a := ⟨rb, 3 + k, none⟩) (.inl rfl) _) ?_ rfl rfl rfl (fun i hi => ?_)
  · have := h.blk.set (3 + k) (.int .i64 v)
    rw [runC_setR _ _ _ _ _ _ v k hk] at this
    exact this
  · show K64 (updN s.rg k v i)
    unfold updN
    split
    · exact hv
    · exact h.regs i hi
theorem RunW.setA (h : RunW w0 w B nb rb F lv_ cv l s M) (b : Nat) : RunW w0 (w.setCell ⟨rb, 2, none⟩ (.int .i64 (b : Int))) B nb rb F lv_ cv l { s with at_ := b } M ∧ NG w (w.setCell ⟨rb, 2, none⟩ (.int .i64 (b : Int))) (fpR F rb lv_ cv) (fpR F rb lv_ cv) :=
  h.put (s' := { s with at_ := b }) (gr_set (gr_refl w (some rb)) (a := ⟨rb, 2, none⟩) (.inl rfl) _) (h.blk.set 2 (.int .i64 (b : Int))) rfl rfl rfl h.regs
theorem RunW.setT (h : RunW w0 w B nb rb F lv_ cv l s M) (k : Nat) (hk : k < 16) (v : Bool) : RunW w0 (w.setCell ⟨rb, 12 + k, none⟩ (.bool v)) B nb rb F lv_ cv l { s with tk := updN s.tk k v } M ∧ NG w (w.setCell ⟨rb, 12 + k, none⟩ (.bool v)) (fpR F rb lv_ cv) (fpR F rb lv_ cv) := by
  refine h.put (s' := { s with tk := updN s.tk k v }) (gr_set (gr_refl w (some rb)) (a := ⟨rb, 12 + k, none⟩) (.inl rfl) _) ?_ rfl rfl rfl h.regs
  have := h.blk.set (12 + k) (.bool v)
  rw [runC_setT _ _ _ _ _ _ v k hk] at this
  exact this
theorem RunW.mono' (h : RunW w0 w B nb rb F lv_ cv l s M) {K' : Nat} (hk : M ≤ K') : RunW w0 w B nb rb F lv_ cv l s K' := ⟨h.nest, h.inv.mono hk, h.val, h.blk, h.lrow, h.crow, h.nF, h.lo, h.gr, h.regs, h.cregs⟩
set_option maxHeartbeats 6400000 in
theorem step_set (h : RunW w0 w B nb rb F lv_ cv l s M) (hat : s.at_ ≤ 1000) (kc kr ko : Nat) (n : Int) (hc : kc < 16) (hr : kr < 8) (ho : ko < 8) (hn : K64 n) :
    Calls Try.prog 27 #[(.pointer (some ⟨rb, 0, none⟩)), .agg #[.int .i64 3, .int .i64 (kc : Int), .int .i64 (kr : Int), .int .i64 (ko : Int), .int .i64 n]] w (SPost w0 w rb (fpR F rb lv_ cv) l M 0 0 { s with rg := updN s.rg kr n, at_ := s.at_ + 1 }) := by
  have HC := As.mk hc
  have HKR := As.mk hr
  have HKO := As.mk ho
  have HKN := As.mk hn
  have hcI : (kc : Int) < 16 := by omega
  have hrI : (kr : Int) < 8 := by omega
  have hoI : (ko : Int) < 8 := by omega
  have hc0 : (0 : Int) ≤ (kc : Int) := by omega
  have hr0 : (0 : Int) ≤ (kr : Int) := by omega
  have ho0 : (0 : Int) ≤ (ko : Int) := by omega
  clear hc hr ho hn
  have HT := As.mk (Blk.new w 57 #[.int .i64 3, .int .i64 (kc : Int), .int .i64 (kr : Int), .int .i64 (ko : Int), .int .i64 n])
  have HGA := As.mk (gr_alloc (gr_refl w none) (.cells #[.int .i64 3, .int .i64 (kc : Int), .int .i64 (kr : Int), .int .i64 (ko : Int), .int .i64 n] 57))
  have HR := As.mk (h.grown (gr_alloc (gr_refl w none) (.cells #[.int .i64 3, .int .i64 (kc : Int), .int .i64 (kr : Int), .int .i64 (ko : Int), .int .i64 n] 57)))
  clear h
  go_enter Try.func27, Try.ntmps27
  obtain ⟨t0, t1, t2, t3, t4⟩ := (HT.out).c5
  go_upto_region 12 with fail
  clear t0 t1 t2 t3 t4
  generalize w.alloc (.cells #[.int .i64 3, .int .i64 (kc : Int), .int .i64 (kr : Int), .int .i64 (ko : Int), .int .i64 n] 57) = W at *
  generalize w.heap.size = tb at *
  refine wp_region_noPanic ?_
  refine wp_region_D (S := fun w' => Blk w' tb 57 #[.int .i64 3, .int .i64 (kc : Int), .int .i64 (kr : Int), .int .i64 (ko : Int), .int .i64 n] ∧ Blk w' rb 65 (runC (.pointer (some ⟨nb, 0, none⟩)) lv_ s.at_ s.rg cv s.tk)) 8 (by kernel_rfl) (⟨HT.out.drew, HR.out.blk.drew⟩) (fun hS => ?_)
  refine wpAnyD_take (i := 0) (v := ?va1) rfl rfl (by kernel_rfl) (by kernel_rfl) (by kernel_rfl) (by kernel_rfl) (fun _ _ _ h => h) (Or.inl ⟨by rfl, ?ya1⟩) hS ?ra1
  case ya1 => (intro w0 _; go_simp; try with_reducible rfl)
  try simp only [yA, yB, yC, Act.put, yD, yE, yF]
  refine wpAnyD_take (i := 1) (v := ?va2) rfl rfl (by kernel_rfl) (by kernel_rfl) (by kernel_rfl) (by kernel_rfl) (fun _ _ _ h => h) (Or.inl ⟨by rfl, ?ya2⟩) hS ?ra2
  case ya2 => (intro w0 _; go_simp; try with_reducible rfl)
  try simp only [yA, yB, yC, Act.put, yD, yE, yF]
  refine wpAnyD_take (i := 2) (v := ?va3) rfl rfl (by kernel_rfl) (by kernel_rfl) (by kernel_rfl) (by kernel_rfl) (fun _ _ _ h => h) (Or.inl ⟨by rfl, ?ya3⟩) hS ?ra3
  case ya3 => (intro w0 hS0; (try simp only [] at hS0); obtain ⟨hS0_0, hS0_1⟩ := hS0; obtain ⟨t0, t1, t2, t3, t4⟩ := hS0_0.c5; go_simp; try with_reducible rfl)
  try simp only [yA, yB, yC, Act.put, yD, yE, yF]
  refine wpAnyD_take (i := 3) (v := ?va4) rfl rfl (by kernel_rfl) (by kernel_rfl) (by kernel_rfl) (by kernel_rfl) (fun _ _ _ h => h) (Or.inl ⟨by rfl, ?ya4⟩) hS ?ra4
  case ya4 => (intro w0 _; go_simp; try with_reducible rfl)
  try simp only [yA, yB, yC, Act.put, yD, yE, yF]
  refine wpAnyD_take (i := 4) (v := ?va5) rfl rfl (by kernel_rfl) (by kernel_rfl) (by kernel_rfl) (by kernel_rfl) (fun _ _ _ h => h) (Or.inl ⟨by rfl, ?ya5⟩) hS ?ra5
  case ya5 => (intro w0 hS0; (try simp only [] at hS0); obtain ⟨hS0_0, hS0_1⟩ := hS0; obtain ⟨t0, t1, t2, t3, t4⟩ := hS0_0.c5; go_simp; try with_reducible rfl)
  try simp only [yA, yB, yC, Act.put, yD, yE, yF]
  refine wpAnyD_ready (rs := [5]) (by kernel_rfl) (by simp) (AllReadyD.cons (i := 5) rfl (fun K hK => ?_) AllReadyD.nil)
  go_simp
  refine hK.out _ _ (fun _ => hS) (fun hS' => ?_)
  replace hS := hS' (by decide)
  clear hS'
  clear hK K
  try simp only [yA, yB, yC, Act.put, yD, yE, yF]
  refine wpAnyD_ready (rs := [6]) (by kernel_rfl) (by simp) (AllReadyD.cons (i := 6) rfl (fun K hK => ?_) AllReadyD.nil)
  go_simp
  refine hK.out _ _ (fun _ => hS) (fun hS' => ?_)
  replace hS := hS' (by decide)
  clear hS'
  clear hK K
  try simp only [yA, yB, yC, Act.put, yD, yE, yF]
  refine wpAnyD_take (i := 7) (v := ?va8) rfl rfl (by kernel_rfl) (by kernel_rfl) (by kernel_rfl) (by kernel_rfl) (fun _ _ _ h => h) (Or.inl ⟨by rfl, ?ya8⟩) hS ?ra8
  case ya8 => (intro w0 _; go_simp; try with_reducible rfl)
  try simp only [yA, yB, yC, Act.put, yD, yE, yF]
  refine wpAnyD_ready (rs := [8]) (by kernel_rfl) (by simp) (AllReadyD.cons (i := 8) rfl (fun K hK => ?_) AllReadyD.nil)
  have q : W.cell? ⟨rb, 3 + kr, none⟩ = some (.int .i64 (s.rg kr)) := (HR.out.blk.cell (3 + kr)).trans (runC_reg _ _ _ _ _ _ kr HKR.out)
  have f : W.frozen? ⟨rb, 3 + kr, none⟩ = false := HR.out.blk.free (3 + kr)
  go_simp
  refine shut_gen2 hK (F := fun w' => As (RunW w0 w' B nb rb F lv_ cv l { s with rg := updN s.rg kr (n) } M ∧ NG W w' (fpR F rb lv_ cv) (fpR F rb lv_ cv))) (fun h => absurd rfl h) (⟨by first | exact ⟨(HR.out.setR kr HKR.out _ HKN.out).1.drew, (HR.out.setR kr HKR.out _ HKN.out).2.trans (ng_drew _)⟩ | exact ⟨(HR.out.drew.setR kr HKR.out _ HKN.out).1, (ng_drew _).trans (HR.out.drew.setR kr HKR.out _ HKN.out).2⟩⟩) (fun w1 HF => ?_)
  clear hK K
  try simp only [yA, yB, yC, Act.put, yD, yE, yF]
  refine wpAnyD_done (by kernel_rfl) ?_ _
  refine NoPanic.normal ?_
  try simp only [Exit.then]
  clear HT
  have HNG := As.mk ((ng_none (G := fpR F rb lv_ cv) HGA.out).trans HF.out.2)
  replace HR := As.mk HF.out.1
  clear HF
  have cat : w1.cell? ⟨rb, 2, none⟩ = some (.int .i64 (s.at_ : Int)) := HR.out.blk.cell 2
  have fat := HR.out.blk.free 2
  have hat0 : (0 : Int) ≤ (s.at_ : Int) := by omega
  have hat1 : (s.at_ : Int) ≤ 1000 := by omega
  go_wp2_with fail
  go_ret2
  exact ⟨rfl, _, ⟨_, _, _, _, _, rfl, (HR.out.setA (s.at_ + 1)).1.mono' (Nat.le_succ M)⟩, HNG.out.trans (HR.out.setA (s.at_ + 1)).2⟩
theorem k64_wrap (x : Int) : K64 (IntKind.i64.wrap x) := by
  have h := wf_wrap .i64 x
  simp [Lit.wf, IntKind.min, IntKind.max, IntKind.signed, IntKind.bits] at h
  exact ⟨by omega, by omega⟩
set_option maxHeartbeats 6400000 in
theorem step_add (h : RunW w0 w B nb rb F lv_ cv l s M) (hat : s.at_ ≤ 1000) (kc kr ko : Nat) (n : Int) (hc : kc < 16) (hr : kr < 8) (ho : ko < 8) (hn : K64 n) :
    Calls Try.prog 27 #[(.pointer (some ⟨rb, 0, none⟩)), .agg #[.int .i64 4, .int .i64 (kc : Int), .int .i64 (kr : Int), .int .i64 (ko : Int), .int .i64 n]] w (SPost w0 w rb (fpR F rb lv_ cv) l M 0 0 { s with rg := updN s.rg kr (IntKind.i64.wrap (s.rg kr + s.rg ko)), at_ := s.at_ + 1 }) := by
  have HC := As.mk hc
  have HKR := As.mk hr
  have HKO := As.mk ho
  have HKN := As.mk hn
  have hcI : (kc : Int) < 16 := by omega
  have hrI : (kr : Int) < 8 := by omega
  have hoI : (ko : Int) < 8 := by omega
  have hc0 : (0 : Int) ≤ (kc : Int) := by omega
  have hr0 : (0 : Int) ≤ (kr : Int) := by omega
  have ho0 : (0 : Int) ≤ (ko : Int) := by omega
  clear hc hr ho hn
  have HT := As.mk (Blk.new w 57 #[.int .i64 4, .int .i64 (kc : Int), .int .i64 (kr : Int), .int .i64 (ko : Int), .int .i64 n])
  have HGA := As.mk (gr_alloc (gr_refl w none) (.cells #[.int .i64 4, .int .i64 (kc : Int), .int .i64 (kr : Int), .int .i64 (ko : Int), .int .i64 n] 57))
  have HR := As.mk (h.grown (gr_alloc (gr_refl w none) (.cells #[.int .i64 4, .int .i64 (kc : Int), .int .i64 (kr : Int), .int .i64 (ko : Int), .int .i64 n] 57)))
  clear h
  go_enter Try.func27, Try.ntmps27
  obtain ⟨t0, t1, t2, t3, t4⟩ := (HT.out).c5
  go_upto_region 14 with fail
  clear t0 t1 t2 t3 t4
  generalize w.alloc (.cells #[.int .i64 4, .int .i64 (kc : Int), .int .i64 (kr : Int), .int .i64 (ko : Int), .int .i64 n] 57) = W at *
  generalize w.heap.size = tb at *
  refine wp_region_noPanic ?_
  refine wp_region_D (S := fun w' => Blk w' tb 57 #[.int .i64 4, .int .i64 (kc : Int), .int .i64 (kr : Int), .int .i64 (ko : Int), .int .i64 n] ∧ Blk w' rb 65 (runC (.pointer (some ⟨nb, 0, none⟩)) lv_ s.at_ s.rg cv s.tk)) 18 (by kernel_rfl) (⟨HT.out.drew, HR.out.blk.drew⟩) (fun hS => ?_)
  refine wpAnyD_take (i := 0) (v := ?va1) rfl rfl (by kernel_rfl) (by kernel_rfl) (by kernel_rfl) (by kernel_rfl) (fun _ _ _ h => h) (Or.inl ⟨by rfl, ?ya1⟩) hS ?ra1
  case ya1 => (intro w0 _; go_simp; try with_reducible rfl)
  try simp only [yA, yB, yC, Act.put, yD, yE, yF]
  refine wpAnyD_take (i := 1) (v := ?va2) rfl rfl (by kernel_rfl) (by kernel_rfl) (by kernel_rfl) (by kernel_rfl) (fun _ _ _ h => h) (Or.inl ⟨by rfl, ?ya2⟩) hS ?ra2
  case ya2 => (intro w0 _; go_simp; try with_reducible rfl)
  try simp only [yA, yB, yC, Act.put, yD, yE, yF]
  refine wpAnyD_take (i := 2) (v := ?va3) rfl rfl (by kernel_rfl) (by kernel_rfl) (by kernel_rfl) (by kernel_rfl) (fun _ _ _ h => h) (Or.inl ⟨by rfl, ?ya3⟩) hS ?ra3
  case ya3 => (intro w0 hS0; (try simp only [] at hS0); obtain ⟨hS0_0, hS0_1⟩ := hS0; obtain ⟨t0, t1, t2, t3, t4⟩ := hS0_0.c5; go_simp; try with_reducible rfl)
  try simp only [yA, yB, yC, Act.put, yD, yE, yF]
  refine wpAnyD_take (i := 3) (v := ?va4) rfl rfl (by kernel_rfl) (by kernel_rfl) (by kernel_rfl) (by kernel_rfl) (fun _ _ _ h => h) (Or.inl ⟨by rfl, ?ya4⟩) hS ?ra4
  case ya4 => (intro w0 _; go_simp; try with_reducible rfl)
  try simp only [yA, yB, yC, Act.put, yD, yE, yF]
  refine wpAnyD_take (i := 4) (v := ?va5) rfl rfl (by kernel_rfl) (by kernel_rfl) (by kernel_rfl) (by kernel_rfl) (fun _ _ _ h => h) (Or.inl ⟨by rfl, ?ya5⟩) hS ?ra5
  case ya5 => (intro w0 _; go_simp; try with_reducible rfl)
  try simp only [yA, yB, yC, Act.put, yD, yE, yF]
  refine wpAnyD_take (i := 5) (v := ?va6) rfl rfl (by kernel_rfl) (by kernel_rfl) (by kernel_rfl) (by kernel_rfl) (fun _ _ _ h => h) (Or.inl ⟨by rfl, ?ya6⟩) hS ?ra6
  case ya6 => (intro w0 _; go_simp; try with_reducible rfl)
  try simp only [yA, yB, yC, Act.put, yD, yE, yF]
  refine wpAnyD_take (i := 6) (v := ?va7) rfl rfl (by kernel_rfl) (by kernel_rfl) (by kernel_rfl) (by kernel_rfl) (fun _ _ _ h => h) (Or.inl ⟨by rfl, ?ya7⟩) hS ?ra7
  case ya7 => (intro w0 hS0; (try simp only [] at hS0); obtain ⟨hS0_0, hS0_1⟩ := hS0; have q : w0.cell? ⟨rb, 3 + kr, none⟩ = some (.int .i64 (s.rg kr)) := (hS0_1.cell (3 + kr)).trans (runC_reg _ _ _ _ _ _ kr HKR.out); go_simp; try with_reducible rfl)
  try simp only [yA, yB, yC, Act.put, yD, yE, yF]
  refine wpAnyD_take (i := 7) (v := ?va8) rfl rfl (by kernel_rfl) (by kernel_rfl) (by kernel_rfl) (by kernel_rfl) (fun _ _ _ h => h) (Or.inl ⟨by rfl, ?ya8⟩) hS ?ra8
  case ya8 => (intro w0 _; go_simp; try with_reducible rfl)
  try simp only [yA, yB, yC, Act.put, yD, yE, yF]
  refine wpAnyD_take (i := 8) (v := ?va9) rfl rfl (by kernel_rfl) (by kernel_rfl) (by kernel_rfl) (by kernel_rfl) (fun _ _ _ h => h) (Or.inl ⟨by rfl, ?ya9⟩) hS ?ra9
  case ya9 => (intro w0 _; go_simp; try with_reducible rfl)
  try simp only [yA, yB, yC, Act.put, yD, yE, yF]
  refine wpAnyD_take (i := 9) (v := ?va10) rfl rfl (by kernel_rfl) (by kernel_rfl) (by kernel_rfl) (by kernel_rfl) (fun _ _ _ h => h) (Or.inl ⟨by rfl, ?ya10⟩) hS ?ra10
  case ya10 => (intro w0 hS0; (try simp only [] at hS0); obtain ⟨hS0_0, hS0_1⟩ := hS0; obtain ⟨t0, t1, t2, t3, t4⟩ := hS0_0.c5; go_simp; try with_reducible rfl)
  try simp only [yA, yB, yC, Act.put, yD, yE, yF]
  refine wpAnyD_take (i := 10) (v := ?va11) rfl rfl (by kernel_rfl) (by kernel_rfl) (by kernel_rfl) (by kernel_rfl) (fun _ _ _ h => h) (Or.inl ⟨by rfl, ?ya11⟩) hS ?ra11
  case ya11 => (intro w0 _; go_simp; try with_reducible rfl)
  try simp only [yA, yB, yC, Act.put, yD, yE, yF]
  refine wpAnyD_take (i := 11) (v := ?va12) rfl rfl (by kernel_rfl) (by kernel_rfl) (by kernel_rfl) (by kernel_rfl) (fun _ _ _ h => h) (Or.inl ⟨by rfl, ?ya12⟩) hS ?ra12
  case ya12 => (intro w0 _; go_simp; try with_reducible rfl)
  try simp only [yA, yB, yC, Act.put, yD, yE, yF]
  refine wpAnyD_take (i := 12) (v := ?va13) rfl rfl (by kernel_rfl) (by kernel_rfl) (by kernel_rfl) (by kernel_rfl) (fun _ _ _ h => h) (Or.inl ⟨by rfl, ?ya13⟩) hS ?ra13
  case ya13 => (intro w0 _; go_simp; try with_reducible rfl)
  try simp only [yA, yB, yC, Act.put, yD, yE, yF]
  refine wpAnyD_take (i := 13) (v := ?va14) rfl rfl (by kernel_rfl) (by kernel_rfl) (by kernel_rfl) (by kernel_rfl) (fun _ _ _ h => h) (Or.inl ⟨by rfl, ?ya14⟩) hS ?ra14
  case ya14 => (intro w0 hS0; (try simp only [] at hS0); obtain ⟨hS0_0, hS0_1⟩ := hS0; have q : w0.cell? ⟨rb, 3 + ko, none⟩ = some (.int .i64 (s.rg ko)) := (hS0_1.cell (3 + ko)).trans (runC_reg _ _ _ _ _ _ ko HKO.out); go_simp; try with_reducible rfl)
  try simp only [yA, yB, yC, Act.put, yD, yE, yF]
  refine wpAnyD_take (i := 14) (v := ?va15) rfl rfl (by kernel_rfl) (by kernel_rfl) (by kernel_rfl) (by kernel_rfl) (fun _ _ _ h => h) (Or.inl ⟨by rfl, ?ya15⟩) hS ?ra15
  case ya15 => (intro w0 _; go_simp; try with_reducible rfl)
  try simp only [yA, yB, yC, Act.put, yD, yE, yF]
  refine wpAnyD_ready (rs := [15]) (by kernel_rfl) (by simp) (AllReadyD.cons (i := 15) rfl (fun K hK => ?_) AllReadyD.nil)
  go_simp
  refine hK.out _ _ (fun _ => hS) (fun hS' => ?_)
  replace hS := hS' (by decide)
  clear hS'
  clear hK K
  try simp only [yA, yB, yC, Act.put, yD, yE, yF]
  refine wpAnyD_ready (rs := [16]) (by kernel_rfl) (by simp) (AllReadyD.cons (i := 16) rfl (fun K hK => ?_) AllReadyD.nil)
  go_simp
  refine hK.out _ _ (fun _ => hS) (fun hS' => ?_)
  replace hS := hS' (by decide)
  clear hS'
  clear hK K
  try simp only [yA, yB, yC, Act.put, yD, yE, yF]
  refine wpAnyD_take (i := 17) (v := ?va18) rfl rfl (by kernel_rfl) (by kernel_rfl) (by kernel_rfl) (by kernel_rfl) (fun _ _ _ h => h) (Or.inl ⟨by rfl, ?ya18⟩) hS ?ra18
  case ya18 => (intro w0 _; go_simp; try with_reducible rfl)
  try simp only [yA, yB, yC, Act.put, yD, yE, yF]
  refine wpAnyD_ready (rs := [18]) (by kernel_rfl) (by simp) (AllReadyD.cons (i := 18) rfl (fun K hK => ?_) AllReadyD.nil)
  have q : W.cell? ⟨rb, 3 + kr, none⟩ = some (.int .i64 (s.rg kr)) := (HR.out.blk.cell (3 + kr)).trans (runC_reg _ _ _ _ _ _ kr HKR.out)
  have f : W.frozen? ⟨rb, 3 + kr, none⟩ = false := HR.out.blk.free (3 + kr)
  go_simp
  refine shut_gen2 hK (F := fun w' => As (RunW w0 w' B nb rb F lv_ cv l { s with rg := updN s.rg kr (IntKind.i64.wrap (s.rg kr + s.rg ko)) } M ∧ NG W w' (fpR F rb lv_ cv) (fpR F rb lv_ cv))) (fun h => absurd rfl h) (⟨by first | exact ⟨(HR.out.setR kr HKR.out _ (k64_wrap _)).1.drew, (HR.out.setR kr HKR.out _ (k64_wrap _)).2.trans (ng_drew _)⟩ | exact ⟨(HR.out.drew.setR kr HKR.out _ (k64_wrap _)).1, (ng_drew _).trans (HR.out.drew.setR kr HKR.out _ (k64_wrap _)).2⟩⟩) (fun w1 HF => ?_)
  clear hK K
  try simp only [yA, yB, yC, Act.put, yD, yE, yF]
  refine wpAnyD_done (by kernel_rfl) ?_ _
  refine NoPanic.normal ?_
  try simp only [Exit.then]
  clear HT
  have HNG := As.mk ((ng_none (G := fpR F rb lv_ cv) HGA.out).trans HF.out.2)
  replace HR := As.mk HF.out.1
  clear HF
  have cat : w1.cell? ⟨rb, 2, none⟩ = some (.int .i64 (s.at_ : Int)) := HR.out.blk.cell 2
  have fat := HR.out.blk.free 2
  have hat0 : (0 : Int) ≤ (s.at_ : Int) := by omega
  have hat1 : (s.at_ : Int) ≤ 1000 := by omega
  go_wp2_with fail
  go_ret2
  exact ⟨rfl, _, ⟨_, _, _, _, _, rfl, (HR.out.setA (s.at_ + 1)).1.mono' (Nat.le_succ M)⟩, HNG.out.trans (HR.out.setA (s.at_ + 1)).2⟩
set_option maxHeartbeats 6400000 in
theorem step_sub (h : RunW w0 w B nb rb F lv_ cv l s M) (hat : s.at_ ≤ 1000) (kc kr ko : Nat) (n : Int) (hc : kc < 16) (hr : kr < 8) (ho : ko < 8) (hn : K64 n) :
    Calls Try.prog 27 #[(.pointer (some ⟨rb, 0, none⟩)), .agg #[.int .i64 5, .int .i64 (kc : Int), .int .i64 (kr : Int), .int .i64 (ko : Int), .int .i64 n]] w (SPost w0 w rb (fpR F rb lv_ cv) l M 0 0 { s with rg := updN s.rg kr (IntKind.i64.wrap (s.rg kr - s.rg ko)), at_ := s.at_ + 1 }) := by
  have HC := As.mk hc
  have HKR := As.mk hr
  have HKO := As.mk ho
  have HKN := As.mk hn
  have hcI : (kc : Int) < 16 := by omega
  have hrI : (kr : Int) < 8 := by omega
  have hoI : (ko : Int) < 8 := by omega
  have hc0 : (0 : Int) ≤ (kc : Int) := by omega
  have hr0 : (0 : Int) ≤ (kr : Int) := by omega
  have ho0 : (0 : Int) ≤ (ko : Int) := by omega
  clear hc hr ho hn
  have HT := As.mk (Blk.new w 57 #[.int .i64 5, .int .i64 (kc : Int), .int .i64 (kr : Int), .int .i64 (ko : Int), .int .i64 n])
  have HGA := As.mk (gr_alloc (gr_refl w none) (.cells #[.int .i64 5, .int .i64 (kc : Int), .int .i64 (kr : Int), .int .i64 (ko : Int), .int .i64 n] 57))
  have HR := As.mk (h.grown (gr_alloc (gr_refl w none) (.cells #[.int .i64 5, .int .i64 (kc : Int), .int .i64 (kr : Int), .int .i64 (ko : Int), .int .i64 n] 57)))
  clear h
  go_enter Try.func27, Try.ntmps27
  obtain ⟨t0, t1, t2, t3, t4⟩ := (HT.out).c5
  go_upto_region 16 with fail
  clear t0 t1 t2 t3 t4
  generalize w.alloc (.cells #[.int .i64 5, .int .i64 (kc : Int), .int .i64 (kr : Int), .int .i64 (ko : Int), .int .i64 n] 57) = W at *
  generalize w.heap.size = tb at *
  refine wp_region_noPanic ?_
  refine wp_region_D (S := fun w' => Blk w' tb 57 #[.int .i64 5, .int .i64 (kc : Int), .int .i64 (kr : Int), .int .i64 (ko : Int), .int .i64 n] ∧ Blk w' rb 65 (runC (.pointer (some ⟨nb, 0, none⟩)) lv_ s.at_ s.rg cv s.tk)) 18 (by kernel_rfl) (⟨HT.out.drew, HR.out.blk.drew⟩) (fun hS => ?_)
  refine wpAnyD_take (i := 0) (v := ?va1) rfl rfl (by kernel_rfl) (by kernel_rfl) (by kernel_rfl) (by kernel_rfl) (fun _ _ _ h => h) (Or.inl ⟨by rfl, ?ya1⟩) hS ?ra1
  case ya1 => (intro w0 _; go_simp; try with_reducible rfl)
  try simp only [yA, yB, yC, Act.put, yD, yE, yF]
  refine wpAnyD_take (i := 1) (v := ?va2) rfl rfl (by kernel_rfl) (by kernel_rfl) (by kernel_rfl) (by kernel_rfl) (fun _ _ _ h => h) (Or.inl ⟨by rfl, ?ya2⟩) hS ?ra2
  case ya2 => (intro w0 _; go_simp; try with_reducible rfl)
  try simp only [yA, yB, yC, Act.put, yD, yE, yF]
  refine wpAnyD_take (i := 2) (v := ?va3) rfl rfl (by kernel_rfl) (by kernel_rfl) (by kernel_rfl) (by kernel_rfl) (fun _ _ _ h => h) (Or.inl ⟨by rfl, ?ya3⟩) hS ?ra3
  case ya3 => (intro w0 hS0; (try simp only [] at hS0); obtain ⟨hS0_0, hS0_1⟩ := hS0; obtain ⟨t0, t1, t2, t3, t4⟩ := hS0_0.c5; go_simp; try with_reducible rfl)
  try simp only [yA, yB, yC, Act.put, yD, yE, yF]
  refine wpAnyD_take (i := 3) (v := ?va4) rfl rfl (by kernel_rfl) (by kernel_rfl) (by kernel_rfl) (by kernel_rfl) (fun _ _ _ h => h) (Or.inl ⟨by rfl, ?ya4⟩) hS ?ra4
  case ya4 => (intro w0 _; go_simp; try with_reducible rfl)
  try simp only [yA, yB, yC, Act.put, yD, yE, yF]
  refine wpAnyD_take (i := 4) (v := ?va5) rfl rfl (by kernel_rfl) (by kernel_rfl) (by kernel_rfl) (by kernel_rfl) (fun _ _ _ h => h) (Or.inl ⟨by rfl, ?ya5⟩) hS ?ra5
  case ya5 => (intro w0 _; go_simp; try with_reducible rfl)
  try simp only [yA, yB, yC, Act.put, yD, yE, yF]
  refine wpAnyD_take (i := 5) (v := ?va6) rfl rfl (by kernel_rfl) (by kernel_rfl) (by kernel_rfl) (by kernel_rfl) (fun _ _ _ h => h) (Or.inl ⟨by rfl, ?ya6⟩) hS ?ra6
  case ya6 => (intro w0 _; go_simp; try with_reducible rfl)
  try simp only [yA, yB, yC, Act.put, yD, yE, yF]
  refine wpAnyD_take (i := 6) (v := ?va7) rfl rfl (by kernel_rfl) (by kernel_rfl) (by kernel_rfl) (by kernel_rfl) (fun _ _ _ h => h) (Or.inl ⟨by rfl, ?ya7⟩) hS ?ra7
  case ya7 => (intro w0 hS0; (try simp only [] at hS0); obtain ⟨hS0_0, hS0_1⟩ := hS0; have q : w0.cell? ⟨rb, 3 + kr, none⟩ = some (.int .i64 (s.rg kr)) := (hS0_1.cell (3 + kr)).trans (runC_reg _ _ _ _ _ _ kr HKR.out); go_simp; try with_reducible rfl)
  try simp only [yA, yB, yC, Act.put, yD, yE, yF]
  refine wpAnyD_take (i := 7) (v := ?va8) rfl rfl (by kernel_rfl) (by kernel_rfl) (by kernel_rfl) (by kernel_rfl) (fun _ _ _ h => h) (Or.inl ⟨by rfl, ?ya8⟩) hS ?ra8
  case ya8 => (intro w0 _; go_simp; try with_reducible rfl)
  try simp only [yA, yB, yC, Act.put, yD, yE, yF]
  refine wpAnyD_take (i := 8) (v := ?va9) rfl rfl (by kernel_rfl) (by kernel_rfl) (by kernel_rfl) (by kernel_rfl) (fun _ _ _ h => h) (Or.inl ⟨by rfl, ?ya9⟩) hS ?ra9
  case ya9 => (intro w0 _; go_simp; try with_reducible rfl)
  try simp only [yA, yB, yC, Act.put, yD, yE, yF]
  refine wpAnyD_take (i := 9) (v := ?va10) rfl rfl (by kernel_rfl) (by kernel_rfl) (by kernel_rfl) (by kernel_rfl) (fun _ _ _ h => h) (Or.inl ⟨by rfl, ?ya10⟩) hS ?ra10
  case ya10 => (intro w0 hS0; (try simp only [] at hS0); obtain ⟨hS0_0, hS0_1⟩ := hS0; obtain ⟨t0, t1, t2, t3, t4⟩ := hS0_0.c5; go_simp; try with_reducible rfl)
  try simp only [yA, yB, yC, Act.put, yD, yE, yF]
  refine wpAnyD_take (i := 10) (v := ?va11) rfl rfl (by kernel_rfl) (by kernel_rfl) (by kernel_rfl) (by kernel_rfl) (fun _ _ _ h => h) (Or.inl ⟨by rfl, ?ya11⟩) hS ?ra11
  case ya11 => (intro w0 _; go_simp; try with_reducible rfl)
  try simp only [yA, yB, yC, Act.put, yD, yE, yF]
  refine wpAnyD_take (i := 11) (v := ?va12) rfl rfl (by kernel_rfl) (by kernel_rfl) (by kernel_rfl) (by kernel_rfl) (fun _ _ _ h => h) (Or.inl ⟨by rfl, ?ya12⟩) hS ?ra12
  case ya12 => (intro w0 _; go_simp; try with_reducible rfl)
  try simp only [yA, yB, yC, Act.put, yD, yE, yF]
  refine wpAnyD_take (i := 12) (v := ?va13) rfl rfl (by kernel_rfl) (by kernel_rfl) (by kernel_rfl) (by kernel_rfl) (fun _ _ _ h => h) (Or.inl ⟨by rfl, ?ya13⟩) hS ?ra13
  case ya13 => (intro w0 _; go_simp; try with_reducible rfl)
  try simp only [yA, yB, yC, Act.put, yD, yE, yF]
  refine wpAnyD_take (i := 13) (v := ?va14) rfl rfl (by kernel_rfl) (by kernel_rfl) (by kernel_rfl) (by kernel_rfl) (fun _ _ _ h => h) (Or.inl ⟨by rfl, ?ya14⟩) hS ?ra14
  case ya14 => (intro w0 hS0; (try simp only [] at hS0); obtain ⟨hS0_0, hS0_1⟩ := hS0; have q : w0.cell? ⟨rb, 3 + ko, none⟩ = some (.int .i64 (s.rg ko)) := (hS0_1.cell (3 + ko)).trans (runC_reg _ _ _ _ _ _ ko HKO.out); go_simp; try with_reducible rfl)
  try simp only [yA, yB, yC, Act.put, yD, yE, yF]
  refine wpAnyD_take (i := 14) (v := ?va15) rfl rfl (by kernel_rfl) (by kernel_rfl) (by kernel_rfl) (by kernel_rfl) (fun _ _ _ h => h) (Or.inl ⟨by rfl, ?ya15⟩) hS ?ra15
  case ya15 => (intro w0 _; go_simp; try with_reducible rfl)
  try simp only [yA, yB, yC, Act.put, yD, yE, yF]
  refine wpAnyD_ready (rs := [15]) (by kernel_rfl) (by simp) (AllReadyD.cons (i := 15) rfl (fun K hK => ?_) AllReadyD.nil)
  go_simp
  refine hK.out _ _ (fun _ => hS) (fun hS' => ?_)
  replace hS := hS' (by decide)
  clear hS'
  clear hK K
  try simp only [yA, yB, yC, Act.put, yD, yE, yF]
  refine wpAnyD_ready (rs := [16]) (by kernel_rfl) (by simp) (AllReadyD.cons (i := 16) rfl (fun K hK => ?_) AllReadyD.nil)
  go_simp
  refine hK.out _ _ (fun _ => hS) (fun hS' => ?_)
  replace hS := hS' (by decide)
  clear hS'
  clear hK K
  try simp only [yA, yB, yC, Act.put, yD, yE, yF]
  refine wpAnyD_take (i := 17) (v := ?va18) rfl rfl (by kernel_rfl) (by kernel_rfl) (by kernel_rfl) (by kernel_rfl) (fun _ _ _ h => h) (Or.inl ⟨by rfl, ?ya18⟩) hS ?ra18
  case ya18 => (intro w0 _; go_simp; try with_reducible rfl)
  try simp only [yA, yB, yC, Act.put, yD, yE, yF]
  refine wpAnyD_ready (rs := [18]) (by kernel_rfl) (by simp) (AllReadyD.cons (i := 18) rfl (fun K hK => ?_) AllReadyD.nil)
  have q : W.cell? ⟨rb, 3 + kr, none⟩ = some (.int .i64 (s.rg kr)) := (HR.out.blk.cell (3 + kr)).trans (runC_reg _ _ _ _ _ _ kr HKR.out)
  have f : W.frozen? ⟨rb, 3 + kr, none⟩ = false := HR.out.blk.free (3 + kr)
  go_simp
  refine shut_gen2 hK (F := fun w' => As (RunW w0 w' B nb rb F lv_ cv l { s with rg := updN s.rg kr (IntKind.i64.wrap (s.rg kr - s.rg ko)) } M ∧ NG W w' (fpR F rb lv_ cv) (fpR F rb lv_ cv))) (fun h => absurd rfl h) (⟨by first | exact ⟨(HR.out.setR kr HKR.out _ (k64_wrap _)).1.drew, (HR.out.setR kr HKR.out _ (k64_wrap _)).2.trans (ng_drew _)⟩ | exact ⟨(HR.out.drew.setR kr HKR.out _ (k64_wrap _)).1, (ng_drew _).trans (HR.out.drew.setR kr HKR.out _ (k64_wrap _)).2⟩⟩) (fun w1 HF => ?_)
  clear hK K
  try simp only [yA, yB, yC, Act.put, yD, yE, yF]
  refine wpAnyD_done (by kernel_rfl) ?_ _
  refine NoPanic.normal ?_
  try simp only [Exit.then]
  clear HT
  have HNG := As.mk ((ng_none (G := fpR F rb lv_ cv) HGA.out).trans HF.out.2)
  replace HR := As.mk HF.out.1
  clear HF
  have cat : w1.cell? ⟨rb, 2, none⟩ = some (.int .i64 (s.at_ : Int)) := HR.out.blk.cell 2
  have fat := HR.out.blk.free 2
  have hat0 : (0 : Int) ≤ (s.at_ : Int) := by omega
  have hat1 : (s.at_ : Int) ≤ 1000 := by omega
  go_wp2_with fail
  go_ret2
  exact ⟨rfl, _, ⟨_, _, _, _, _, rfl, (HR.out.setA (s.at_ + 1)).1.mono' (Nat.le_succ M)⟩, HNG.out.trans (HR.out.setA (s.at_ + 1)).2⟩
set_option maxHeartbeats 6400000 in
theorem step_end (h : RunW w0 w B nb rb F lv_ cv l s M) (hat : s.at_ ≤ 1000) (kc kr ko : Nat) (n : Int) (hc : kc < 16) (hr : kr < 8) (ho : ko < 8) (hn : K64 n) :
    Calls Try.prog 27 #[(.pointer (some ⟨rb, 0, none⟩)), .agg #[.int .i64 12, .int .i64 (kc : Int), .int .i64 (kr : Int), .int .i64 (ko : Int), .int .i64 n]] w (SPost w0 w rb (fpR F rb lv_ cv) l M 0 0 { s with at_ := s.at_ + 1 }) := by
  have HC := As.mk hc
  have HKR := As.mk hr
  have HKO := As.mk ho
  have HKN := As.mk hn
  have hcI : (kc : Int) < 16 := by omega
  have hrI : (kr : Int) < 8 := by omega
  have hoI : (ko : Int) < 8 := by omega
  have hc0 : (0 : Int) ≤ (kc : Int) := by omega
  have hr0 : (0 : Int) ≤ (kr : Int) := by omega
  have ho0 : (0 : Int) ≤ (ko : Int) := by omega
  clear hc hr ho hn
  have HT := As.mk (Blk.new w 57 #[.int .i64 12, .int .i64 (kc : Int), .int .i64 (kr : Int), .int .i64 (ko : Int), .int .i64 n])
  have HGA := As.mk (gr_alloc (gr_refl w none) (.cells #[.int .i64 12, .int .i64 (kc : Int), .int .i64 (kr : Int), .int .i64 (ko : Int), .int .i64 n] 57))
  have HR := As.mk (h.grown (gr_alloc (gr_refl w none) (.cells #[.int .i64 12, .int .i64 (kc : Int), .int .i64 (kr : Int), .int .i64 (ko : Int), .int .i64 n] 57)))
  clear h
  go_enter Try.func27, Try.ntmps27
  obtain ⟨t0, t1, t2, t3, t4⟩ := (HT.out).c5
  have HNG := As.mk (ng_none (G := fpR F rb lv_ cv) HGA.out)
  go_upto_region 31 with fail
  clear t0 t1 t2 t3 t4
  generalize w.alloc (.cells #[.int .i64 12, .int .i64 (kc : Int), .int .i64 (kr : Int), .int .i64 (ko : Int), .int .i64 n] 57) = W at *
  generalize w.heap.size = tb at *
  have cat : W.cell? ⟨rb, 2, none⟩ = some (.int .i64 (s.at_ : Int)) := HR.out.blk.cell 2
  have fat := HR.out.blk.free 2
  have hat0 : (0 : Int) ≤ (s.at_ : Int) := by omega
  have hat1 : (s.at_ : Int) ≤ 1000 := by omega
  go_wp2_with fail
  go_ret2
  exact ⟨rfl, _, ⟨_, _, _, _, _, rfl, (HR.out.setA (s.at_ + 1)).1.mono' (Nat.le_succ M)⟩, HNG.out.trans (HR.out.setA (s.at_ + 1)).2⟩
set_option maxHeartbeats 6400000 in
theorem step_took (h : RunW w0 w B nb rb F lv_ cv l s M) (hat : s.at_ ≤ 1000) (kc kr ko : Nat) (n : Int) (hc : kc < 16) (hr : kr < 8) (ho : ko < 8) (hn : K64 n) (htk : s.tk kc = true) :
    Calls Try.prog 27 #[(.pointer (some ⟨rb, 0, none⟩)), .agg #[.int .i64 9, .int .i64 (kc : Int), .int .i64 (kr : Int), .int .i64 (ko : Int), .int .i64 n]] w (SPost w0 w rb (fpR F rb lv_ cv) l M 0 0 { s with at_ := s.at_ + 1 }) := by
  have HC := As.mk hc
  have HKR := As.mk hr
  have HKO := As.mk ho
  have HKN := As.mk hn
  have hcI : (kc : Int) < 16 := by omega
  have hrI : (kr : Int) < 8 := by omega
  have hoI : (ko : Int) < 8 := by omega
  have hc0 : (0 : Int) ≤ (kc : Int) := by omega
  have hr0 : (0 : Int) ≤ (kr : Int) := by omega
  have ho0 : (0 : Int) ≤ (ko : Int) := by omega
  clear hc hr ho hn
  have HT := As.mk (Blk.new w 57 #[.int .i64 9, .int .i64 (kc : Int), .int .i64 (kr : Int), .int .i64 (ko : Int), .int .i64 n])
  have HGA := As.mk (gr_alloc (gr_refl w none) (.cells #[.int .i64 9, .int .i64 (kc : Int), .int .i64 (kr : Int), .int .i64 (ko : Int), .int .i64 n] 57))
  have HR := As.mk (h.grown (gr_alloc (gr_refl w none) (.cells #[.int .i64 9, .int .i64 (kc : Int), .int .i64 (kr : Int), .int .i64 (ko : Int), .int .i64 n] 57)))
  clear h
  go_enter Try.func27, Try.ntmps27
  obtain ⟨t0, t1, t2, t3, t4⟩ := (HT.out).c5
  have q := (HR.out.blk.cell (12 + kc)).trans (runC_tk _ _ _ _ _ _ kc HC.out)
  rw [htk] at q
  go_upto_region 9 with fail
  generalize w.alloc (.cells #[.int .i64 9, .int .i64 (kc : Int), .int .i64 (kr : Int), .int .i64 (ko : Int), .int .i64 n] 57) = W at *
  generalize w.heap.size = tb at *
  go_quiet (fail)
  clear q t0 t1 t2 t3 t4
  go_upto_region 31 with fail
  replace HR := As.mk (HR.out.grown (gr_drewN (gr_refl W none) nq))
  have HNG := As.mk (ng_none (G := fpR F rb lv_ cv) (gr_drewN HGA.out nq))
  generalize W.drewN nq = W1 at *
  have cat : W1.cell? ⟨rb, 2, none⟩ = some (.int .i64 (s.at_ : Int)) := HR.out.blk.cell 2
  have fat := HR.out.blk.free 2
  have hat0 : (0 : Int) ≤ (s.at_ : Int) := by omega
  have hat1 : (s.at_ : Int) ≤ 1000 := by omega
  go_wp2_with fail
  go_ret2
  exact ⟨rfl, _, ⟨_, _, _, _, _, rfl, (HR.out.setA (s.at_ + 1)).1.mono' (Nat.le_succ M)⟩, HNG.out.trans (HR.out.setA (s.at_ + 1)).2⟩
set_option maxHeartbeats 6400000 in
theorem step_take (h : RunW w0 w B nb rb F lv_ cv l s M) (hat : s.at_ ≤ 1000) (kc kr ko : Nat) (n : Int) (hc : kc < 16) (hr : kr < 8) (ho : ko < 8) (hn : K64 n) (htk : s.tk kc = false) :
    Calls Try.prog 27 #[(.pointer (some ⟨rb, 0, none⟩)), .agg #[.int .i64 9, .int .i64 (kc : Int), .int .i64 (kr : Int), .int .i64 (ko : Int), .int .i64 n]] w (SPost w0 w rb (fpR F rb lv_ cv) l M 2 (kc : Int) s) := by
  have HC := As.mk hc
  have HKR := As.mk hr
  have HKO := As.mk ho
  have HKN := As.mk hn
  have hcI : (kc : Int) < 16 := by omega
  have hrI : (kr : Int) < 8 := by omega
  have hoI : (ko : Int) < 8 := by omega
  have hc0 : (0 : Int) ≤ (kc : Int) := by omega
  have hr0 : (0 : Int) ≤ (kr : Int) := by omega
  have ho0 : (0 : Int) ≤ (ko : Int) := by omega
  clear hc hr ho hn
  have HT := As.mk (Blk.new w 57 #[.int .i64 9, .int .i64 (kc : Int), .int .i64 (kr : Int), .int .i64 (ko : Int), .int .i64 n])
  have HGA := As.mk (gr_alloc (gr_refl w none) (.cells #[.int .i64 9, .int .i64 (kc : Int), .int .i64 (kr : Int), .int .i64 (ko : Int), .int .i64 n] 57))
  have HR := As.mk (h.grown (gr_alloc (gr_refl w none) (.cells #[.int .i64 9, .int .i64 (kc : Int), .int .i64 (kr : Int), .int .i64 (ko : Int), .int .i64 n] 57)))
  clear h
  go_enter Try.func27, Try.ntmps27
  obtain ⟨t0, t1, t2, t3, t4⟩ := (HT.out).c5
  have q := (HR.out.blk.cell (12 + kc)).trans (runC_tk _ _ _ _ _ _ kc HC.out)
  rw [htk] at q
  go_upto_region 9 with fail
  generalize w.alloc (.cells #[.int .i64 9, .int .i64 (kc : Int), .int .i64 (kr : Int), .int .i64 (ko : Int), .int .i64 n] 57) = W at *
  generalize w.heap.size = tb at *
  go_quiet (fail)
  go_upto_region 10 with fail
  go_quiet (fail)
  go_wp2_with fail
  go_ret2
  exact ⟨rfl, _, ⟨_, _, _, _, _, rfl, (HR.out.grown (gr_drewN (gr_drewN (gr_refl W none) _) _)).mono' (Nat.le_succ M)⟩, ng_none (gr_drewN (gr_drewN HGA.out _) _)⟩
set_option maxHeartbeats 6400000 in
theorem step_abort (h : RunW w0 w B nb rb F lv_ cv l s M) (hat : s.at_ ≤ 1000) (kc kr ko : Nat) (n : Int) (hc : kc < 16) (hr : kr < 8) (ho : ko < 8) (hn : K64 n) :
    Calls Try.prog 27 #[(.pointer (some ⟨rb, 0, none⟩)), .agg #[.int .i64 8, .int .i64 (kc : Int), .int .i64 (kr : Int), .int .i64 (ko : Int), .int .i64 n]] w (SPost w0 w rb (fpR F rb lv_ cv) l M 4 0 s) := by
  have HC := As.mk hc
  have HKR := As.mk hr
  have HKO := As.mk ho
  have HKN := As.mk hn
  have hcI : (kc : Int) < 16 := by omega
  have hrI : (kr : Int) < 8 := by omega
  have hoI : (ko : Int) < 8 := by omega
  have hc0 : (0 : Int) ≤ (kc : Int) := by omega
  have hr0 : (0 : Int) ≤ (kr : Int) := by omega
  have ho0 : (0 : Int) ≤ (ko : Int) := by omega
  clear hc hr ho hn
  have HT := As.mk (Blk.new w 57 #[.int .i64 8, .int .i64 (kc : Int), .int .i64 (kr : Int), .int .i64 (ko : Int), .int .i64 n])
  have HGA := As.mk (gr_alloc (gr_refl w none) (.cells #[.int .i64 8, .int .i64 (kc : Int), .int .i64 (kr : Int), .int .i64 (ko : Int), .int .i64 n] 57))
  have HR := As.mk (h.grown (gr_alloc (gr_refl w none) (.cells #[.int .i64 8, .int .i64 (kc : Int), .int .i64 (kr : Int), .int .i64 (ko : Int), .int .i64 n] 57)))
  clear h
  go_enter Try.func27, Try.ntmps27
  obtain ⟨t0, t1, t2, t3, t4⟩ := (HT.out).c5
  have HNG := As.mk (ng_none (G := fpR F rb lv_ cv) HGA.out)
  go_wp2_with fail
  go_ret2
  exact ⟨rfl, _, ⟨_, _, _, _, _, rfl, HR.out.mono' (Nat.le_succ M)⟩, HNG.out⟩
set_option maxHeartbeats 6400000 in
theorem step_need (h : RunW w0 w B nb rb F lv_ cv l s M) (hat : s.at_ ≤ 1000) (kc kr ko : Nat) (n : Int) (hc : kc < 16) (hr : kr < 8) (ho : ko < 8) (hn : K64 n) (hnz : s.rg kr ≠ 0) :
    Calls Try.prog 27 #[(.pointer (some ⟨rb, 0, none⟩)), .agg #[.int .i64 6, .int .i64 (kc : Int), .int .i64 (kr : Int), .int .i64 (ko : Int), .int .i64 n]] w (SPost w0 w rb (fpR F rb lv_ cv) l M 0 0 { s with at_ := s.at_ + 1 }) := by
  have HC := As.mk hc
  have HKR := As.mk hr
  have HKO := As.mk ho
  have HKN := As.mk hn
  have hcI : (kc : Int) < 16 := by omega
  have hrI : (kr : Int) < 8 := by omega
  have hoI : (ko : Int) < 8 := by omega
  have hc0 : (0 : Int) ≤ (kc : Int) := by omega
  have hr0 : (0 : Int) ≤ (kr : Int) := by omega
  have ho0 : (0 : Int) ≤ (ko : Int) := by omega
  clear hc hr ho hn
  have HT := As.mk (Blk.new w 57 #[.int .i64 6, .int .i64 (kc : Int), .int .i64 (kr : Int), .int .i64 (ko : Int), .int .i64 n])
  have HGA := As.mk (gr_alloc (gr_refl w none) (.cells #[.int .i64 6, .int .i64 (kc : Int), .int .i64 (kr : Int), .int .i64 (ko : Int), .int .i64 n] 57))
  have HR := As.mk (h.grown (gr_alloc (gr_refl w none) (.cells #[.int .i64 6, .int .i64 (kc : Int), .int .i64 (kr : Int), .int .i64 (ko : Int), .int .i64 n] 57)))
  clear h
  go_enter Try.func27, Try.ntmps27
  obtain ⟨t0, t1, t2, t3, t4⟩ := (HT.out).c5
  have q := (HR.out.blk.cell (3 + kr)).trans (runC_reg _ _ _ _ _ _ kr HKR.out)
  have hnz' : (s.rg kr != 0) = true := by simpa using hnz
  go_upto_region 27 with fail
  generalize w.alloc (.cells #[.int .i64 6, .int .i64 (kc : Int), .int .i64 (kr : Int), .int .i64 (ko : Int), .int .i64 n] 57) = W at *
  generalize w.heap.size = tb at *
  go_quiet (fail)
  clear q t0 t1 t2 t3 t4
  go_upto_region 31 with fail
  replace HR := As.mk (HR.out.grown (gr_drewN (gr_refl W none) nq))
  have HNG := As.mk (ng_none (G := fpR F rb lv_ cv) (gr_drewN HGA.out nq))
  generalize W.drewN nq = W1 at *
  have cat : W1.cell? ⟨rb, 2, none⟩ = some (.int .i64 (s.at_ : Int)) := HR.out.blk.cell 2
  have fat := HR.out.blk.free 2
  have hat0 : (0 : Int) ≤ (s.at_ : Int) := by omega
  have hat1 : (s.at_ : Int) ≤ 1000 := by omega
  go_wp2_with fail
  go_ret2
  exact ⟨rfl, _, ⟨_, _, _, _, _, rfl, (HR.out.setA (s.at_ + 1)).1.mono' (Nat.le_succ M)⟩, HNG.out.trans (HR.out.setA (s.at_ + 1)).2⟩
end
end Go.Proofs.Ytgmhopkajopfcaa
