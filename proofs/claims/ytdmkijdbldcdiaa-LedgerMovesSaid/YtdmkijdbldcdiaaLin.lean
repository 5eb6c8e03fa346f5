/- The walks of slices.Insert over rows of structs. (Printed by wip/gen/gen_li.py.) -/
import Derived.Test.YtdmkijdbldcdiaaLk
import Derived.Test.YtdmkijdbldcdiaaLc
import Derived.Deep.RegionLaw
import Derived.Laws.Externs
namespace Go.Proofs.Ytdmkijdbldcdiaa
open Go.RowKit
set_option linter.unusedVariables false
set_option linter.unusedSimpArgs false
set_option maxRecDepth 100000

/-- What Insert leaves. -/
def InsPost (w : World) (base : Nat) (t : TypeId) (s : Nat) (v : Value) (m : Nat) (xs : List Value) (e : Ending) (w' : World) : Prop :=
  ∃ v', e = .returned v' ∧ w'.ownsRow base t s v' m xs ∧ w.grownBy w' v.ownBlock ∧ (v'.ownBlock = v.ownBlock ∨ ∃ k, v'.ownBlock = some k ∧ w.heap.size ≤ k)
set_option maxHeartbeats 3200000 in
theorem insPr_end (w : World) (base : Nat) (hbase : base ≤ w.heap.size) (v : Value) (n : Nat) (F : List Value) (hown : w.ownsRow base 60 5 v n F) (hn : n ≤ 1000) (g : Nat) (c : List Value) (hg : Blk w g 60 c.toArray) (hc : c.length = 5) (h1c : ∀ u ∈ c, u.oneCell' = true) :
    Calls Try.prog 88 #[v, .int .i64 (n : Int), .slice (some ⟨g, 0, none⟩) 1 1] w (InsPost w base 60 5 v (n + 1) (F ++ c)) := by
  obtain ⟨i0, hi, hz0, hz1, hz2⟩ := info_parts infoPr
  have HI := As.mk (And.intro hi (And.intro hz0 (And.intro hz1 hz2)))
  have HO := As.mk hown
  have HC := As.mk (And.intro hg (And.intro hc (And.intro h1c hbase)))
  have HF := As.mk hown.1
  clear hi hz0 hz1 hz2 hg hc h1c hbase
  rcases hown.2 with ⟨rfl, rfl⟩ | ⟨gb, cap, cur, rfl, hb, hh, q1, q2, q3, q4⟩
  · clear hown
    go_enter Try.func88, Try.ntmps88
    go_wp2_with (at_builtin; refine wpList_app1 (by rfl) _ _ _ (by rfl) base 60 i0 _ 5 72 Try.underlying28 HI.out.1 HI.out.2.1 HI.out.2.2.1 HI.out.2.2.2 rfl (by omega) (by omega) _ 0 F (by rfl) HO.out g (by rfl) _ HC.out.1 (by simpa using HC.out.2.1) (by simpa using HC.out.2.2.1) (by omega) HC.out.2.2.2 ?_; intro v' w' ho hg' hv'; have HN := As.mk (And.intro ho (And.intro hg' hv')); clear ho hg' hv')
    go_ret
    exact ⟨_, rfl, HN.out.1, HN.out.2.1, HN.out.2.2.imp_right fun h => ⟨_, h, Nat.le_refl _⟩⟩
  · have hcap : cap ≤ 9223372036854775807 := by simpa [maxLen] using q2
    have HCap := As.mk q1
    clear hown hh q3 q4 hb q2
    by_cases hcn : cap = n
    · subst hcn
      go_enter Try.func88, Try.ntmps88
      go_wp2_with (at_builtin; refine wpList_app1 (by rfl) _ _ _ (by rfl) base 60 i0 _ 5 72 Try.underlying28 HI.out.1 HI.out.2.1 HI.out.2.2.1 HI.out.2.2.2 rfl (by omega) (by omega) _ cap F (by rfl) HO.out g (by rfl) _ HC.out.1 (by simpa using HC.out.2.1) (by simpa using HC.out.2.2.1) (by omega) HC.out.2.2.2 ?_; intro v' w' ho hg' hv'; have HN := As.mk (And.intro ho (And.intro hg' hv')); clear ho hg' hv')
      go_ret
      exact ⟨_, rfl, HN.out.1, HN.out.2.1, HN.out.2.2.imp_right fun h => ⟨_, h, Nat.le_refl _⟩⟩
    · go_enter Try.func88, Try.ntmps88
      go_wp2_with (at_builtin; refine wpList_app1 (by rfl) _ _ _ (by rfl) base 60 i0 _ 5 72 Try.underlying28 HI.out.1 HI.out.2.1 HI.out.2.2.1 HI.out.2.2.2 rfl (by omega) (by omega) _ n F (by rfl) HO.out g (by rfl) _ HC.out.1 (by simpa using HC.out.2.1) (by simpa using HC.out.2.2.1) (by omega) HC.out.2.2.2 ?_; intro v' w' ho hg' hv'; have HN := As.mk (And.intro ho (And.intro hg' hv')); clear ho hg' hv')
      go_ret
      exact ⟨_, rfl, HN.out.1, HN.out.2.1, HN.out.2.2.imp_right fun h => ⟨_, h, Nat.le_refl _⟩⟩
theorem infPr : (Try.prog.info? 60).map (·.size) = some 5 := by kernel_rfl
theorem ovPr (w : World) (g gb : Nat) (hne : g ≠ gb) (cs cur : Array Value) (h1 : Blk w g 60 cs) (h2 : Blk w gb 60 cur) (hk : cur.size ≠ 0) (o lb cb : Nat) :
    (callFunc 95 #[.slice (some ⟨g, 0, none⟩) 1 1, .slice (some ⟨gb, o, none⟩) lb cb]).run Try.prog w = .ok (.value (.bool false)) w := by
  obtain ⟨i0, hi, hz0, hz1, hz2⟩ := info_parts infoPr
  have hz : ∀ w, (Go.sizeOf 60).run Try.prog w = .ok 5 w := fun w => by simp [sizeOf, typeInfo, hi, hz1]
  rw [run_callFunc_extern Try.func95 (by kernel_rfl) (by kernel_rfl) (by kernel_rfl) (e := Extern.SlicesOverlaps.overlaps #[28, 28] #[4]) (by kernel_rfl),
    Lib.run_overlaps_apart w 28 4 60 Try.underlying28 5 hz ⟨g, 0, none⟩ ⟨gb, o, none⟩ 1 1 lb cb hne 60 60 cs.size cur.size (by simp only [World.shape?]; rw [h1]) (by simp only [World.shape?]; rw [h2]) hk (h1.free 0) (h1.free _)]
  rfl
set_option maxHeartbeats 3200000 in
theorem insPr_mid (w : World) (base : Nat) (gb cap n i : Nat) (F : List Value) (hown : w.ownsRow base 60 5 (.slice (some ⟨gb, 0, none⟩) n cap) n F) (h1 : ∀ u ∈ F, u.oneCell' = true) (hi : i < n) (hn : n ≤ 1000) (hcap : n < cap) (g : Nat) (c : List Value) (hg : Blk w g 60 c.toArray) (hc : c.length = 5) (h1c : ∀ u ∈ c, u.oneCell' = true) (hne : g ≠ gb) :
    Calls Try.prog 88 #[.slice (some ⟨gb, 0, none⟩) n cap, .int .i64 (i : Int), .slice (some ⟨g, 0, none⟩) 1 1] w (InsPost w base 60 5 (.slice (some ⟨gb, 0, none⟩) n cap) (n + 1) (F.take (i * 5) ++ (c ++ F.drop (i * 5)))) := by
  obtain ⟨rest, hW, hWl, hbs, hnc, hcm⟩ := own_whole hown
  have hF := hown.1
  have hcap63 : cap ≤ 9223372036854775807 := by simpa [maxLen] using hcm
  have hov := fun (o lb cb : Nat) => ovPr w g gb hne _ _ hg hW (by simp only [List.size_toArray]; rw [hWl]; exact Nat.mul_ne_zero (by omega) (by omega)) o lb cb
  have x1 : ¬ ((1 : Int) = 0) := by omega
  have x2 : ¬ ((i : Int) = (n : Int)) := by omega
  have x3 : ¬ ((cap : Int) < (n : Int) + 1) := by omega
  have HW := As.mk (And.intro hW (And.intro hWl (And.intro hbs hcm)))
  have HC := As.mk (And.intro hg (And.intro hc h1c))
  have H1 := As.mk h1
  have HF := As.mk hF
  clear hW hWl hbs hcm hg hc h1c h1 hF hown hnc
  go_enter Try.func88, Try.ntmps88
  go_wp2_with (simp only [hov])
  have hw1 : IntKind.i64.wrap ((i : Int) + 1) = (i : Int) + 1 := by rw [IntKind.wrap_i64]; omega
  have hb1 : (0 : Int) ≤ (i : Int) + 1 := by omega
  have htn : ((i : Int) + 1).toNat = i + 1 := by omega
  have hb2 : ¬ cap = i + 1 := by omega
  have hb3 : (i : Int) + 1 ≤ (n : Int) + 1 := by omega
  have hb5 : (i : Int) ≤ (n : Int) := by omega
  have hb4 : ¬ cap = i := by omega
  have hb8 : (i : Int) ≤ (n : Int) + 1 := by omega
  have hb6 : i ≤ n := by omega
  have hb7 : i ≤ n + 1 := by omega
  refine wp_region_noPanic ?_
  refine wp_region_held_drew (S := fun w' => True) (by kernel_rfl) (trivial) (fun hS => ?_)
  refine wpAnyH_take (i := 0) (v := ?va1) rfl (by kernel_rfl) (by kernel_rfl) (by kernel_rfl) (fun _ _ _ h => h) (Or.inl ⟨by rfl, ?ya1⟩) hS ?ra1
  case ya1 => (intro w0 _; go_simp; try with_reducible rfl)
  try simp only [yA, yB, yC, Act.put, yD, yE, yF]
  refine wpAnyH_take (i := 1) (v := ?va2) rfl (by kernel_rfl) (by kernel_rfl) (by kernel_rfl) (fun _ _ _ h => h) (Or.inl ⟨by rfl, ?ya2⟩) hS ?ra2
  case ya2 => (intro w0 _; go_simp; try with_reducible rfl)
  try simp only [yA, yB, yC, Act.put, yD, yE, yF]
  refine wpAnyH_take (i := 2) (v := ?va3) rfl (by kernel_rfl) (by kernel_rfl) (by kernel_rfl) (fun _ _ _ h => h) (Or.inl ⟨by rfl, ?ya3⟩) hS ?ra3
  case ya3 => (intro w0 _; go_simp; try with_reducible rfl)
  try simp only [yA, yB, yC, Act.put, yD, yE, yF]
  refine wpAnyH_take (i := 3) (v := ?va4) rfl (by kernel_rfl) (by kernel_rfl) (by kernel_rfl) (fun _ _ _ h => h) (Or.inl ⟨by rfl, ?ya4⟩) hS ?ra4
  case ya4 => (intro w0 _; go_simp; try with_reducible rfl)
  try simp only [yA, yB, yC, Act.put, yD, yE, yF]
  refine wpAnyH_take (i := 4) (v := ?va5) rfl (by kernel_rfl) (by kernel_rfl) (by kernel_rfl) (fun _ _ _ h => h) (Or.inl ⟨by rfl, ?ya5⟩) hS ?ra5
  case ya5 => (intro w0 _; go_simp; try with_reducible rfl)
  try simp only [yA, yB, yC, Act.put, yD, yE, yF]
  refine wpAnyH_take (i := 5) (v := ?va6) rfl (by kernel_rfl) (by kernel_rfl) (by kernel_rfl) (fun _ _ _ h => h) (Or.inl ⟨by rfl, ?ya6⟩) hS ?ra6
  case ya6 => (intro w0 _; go_simp; try with_reducible rfl)
  try simp only [yA, yB, yC, Act.put, yD, yE, yF]
  refine wpAnyH_take (i := 6) (v := ?va7) rfl (by kernel_rfl) (by kernel_rfl) (by kernel_rfl) (fun _ _ _ h => h) (Or.inl ⟨by rfl, ?ya7⟩) hS ?ra7
  case ya7 => (intro w0 _; go_simp; try with_reducible rfl)
  try simp only [yA, yB, yC, Act.put, yD, yE, yF]
  refine wpAnyH_take (i := 7) (v := ?va8) rfl (by kernel_rfl) (by kernel_rfl) (by kernel_rfl) (fun _ _ _ h => h) (Or.inl ⟨by rfl, ?ya8⟩) hS ?ra8
  case ya8 => (intro w0 _; go_simp; try with_reducible rfl)
  try simp only [yA, yB, yC, Act.put, yD, yE, yF]
  refine wpAnyH_ready (rs := [8]) (by kernel_rfl) (by simp) (AllReadyH.cons (i := 8) rfl (fun K hK => ?_) AllReadyH.nil)
  refine step_copyN rfl _ _ _ _ rfl _ _ rfl rfl (run_copyN Try.prog _ _ _ _ 60 5 gb _ _ _ _ _ _ (F ++ rest) 60 (F.drop (i * 5)) Try.underlying28 infPr HW.out.1.drew ?hn1 ?hsrc1 ?hfit1 ?h11) ?_
  case hn1 => rw [List.length_drop, HF.out, ← Nat.sub_mul]; congr 1; simp only [Nat.min_def]; split <;> omega
  case hsrc1 => intro j u hu; rw [List.getElem?_drop] at hu; rw [Addr.add_lit, show (w.drew.cell? ⟨gb, i * 5 + j, none⟩) = w.cell? ⟨gb, i * 5 + j, none⟩ from rfl, HW.out.1.cell, List.getElem?_toArray, List.getElem?_append_left (List.getElem?_eq_some_iff.1 hu).1]; exact hu
  case hfit1 => rw [HW.out.2.1, List.length_drop, HF.out]; have := Nat.mul_le_mul_right 5 hcap; have := Nat.mul_le_mul_right 5 hi; omega
  case h11 => exact fun u hu => H1.out u (List.mem_of_mem_drop hu)
  refine hK.out _ _ (trivial) (fun hS => ?_)
  clear hK K
  try simp only [yA, yB, yC, Act.put, yD, yE, yF]
  refine wpAnyH_done (by kernel_rfl) ?_ _
  refine NoPanic.normal ?_
  try simp only [Exit.then]
  clear hS
  have HR := As.mk (show 5 ≤ rest.length by have h1 := HW.out.2.1; have h2 := HF.out; rw [List.length_append] at h1; have := Nat.mul_le_mul_right 5 hcap; omega)
  have HTD := As.mk (show F.take (i * 5) ++ F.drop (i * 5) = F from List.take_append_drop _ _)
  have HTL := As.mk (show (F.take (i * 5)).length = i * 5 by rw [List.length_take, HF.out]; have := Nat.mul_le_mul_right 5 hb6; omega)
  have HSP := As.mk (splice_ins (F.take (i * 5)) (F.drop (i * 5)) rest c (i * 5) 5 HTL.out HC.out.2.1 HR.out)
  rw [HTD.out, show i * 5 + 5 = (i + 1) * 5 by omega] at HSP
  have HB2 := As.mk (HW.out.1.drew.setRow (splice (F ++ rest) ((i + 1) * 5) (F.drop (i * 5))).toArray)
  have HG2 := As.mk (gr_setRow (gr_drew (gr_refl w (some gb))) (.inl rfl) (splice (F ++ rest) ((i + 1) * 5) (F.drop (i * 5))).toArray)
  have HC2 := As.mk (HC.out.1.drew.setRow_far hne (splice (F ++ rest) ((i + 1) * 5) (F.drop (i * 5))).toArray)
  have HL2 := As.mk (show (splice (F ++ rest) ((i + 1) * 5) (F.drop (i * 5))).length = cap * 5 by rw [length_splice _ _ _ (by rw [HW.out.2.1, List.length_drop, HF.out]; have := Nat.mul_le_mul_right 5 hcap; have := Nat.mul_le_mul_right 5 hi; omega), HW.out.2.1])
  generalize splice (F ++ rest) ((i + 1) * 5) (F.drop (i * 5)) = cur1 at *
  generalize w.drew.setRow gb cur1.toArray = W2 at *
  clear hov hw1 hb1 htn hb2 hb3
  have hcp2 := run_copyN Try.prog W2 28 28 3 60 5 gb (i * 5) (n + 1 - i) (cap - i) ⟨g, 0, none⟩ 1 1 cur1 60 c Try.underlying28 infPr HB2.out (by rw [HC.out.2.1]; simp only [Nat.min_def]; split <;> omega) (World.news_of_block (by simpa [Blk] using HC2.out)) (by rw [HL2.out, HC.out.2.1]; have := Nat.mul_le_mul_right 5 hcap; have := Nat.mul_le_mul_right 5 hi; omega) HC.out.2.2
  have HB3 := As.mk (HB2.out.setRow (splice cur1 (i * 5) c).toArray)
  have HG3 := As.mk (gr_setRow HG2.out (.inl rfl) (splice cur1 (i * 5) c).toArray)
  have HL3 := As.mk (show (splice cur1 (i * 5) c).length = cap * 5 by rw [length_splice _ _ _ (by rw [HL2.out, HC.out.2.1]; have := Nat.mul_le_mul_right 5 hcap; have := Nat.mul_le_mul_right 5 hi; omega), HL2.out])
  generalize splice cur1 (i * 5) c = cur2 at *
  go_wp2_with fail
  go_ret
  generalize W2.setRow gb cur2.toArray = W3 at *
  have hHB := HB3.out
  have hHL := HL3.out
  rw [HSP.out] at hHB hHL
  refine ⟨_, rfl, own_of_whole hHB ?_ hHL HW.out.2.2.1 (by omega) HW.out.2.2.2, HG3.out, .inl rfl⟩
  rw [List.length_append, List.length_append, HC.out.2.1]
  have h1 := congrArg List.length HTD.out
  rw [List.length_append, HF.out] at h1
  rw [show (n + 1) * 5 = n * 5 + 5 by omega]
  omega
set_option maxHeartbeats 3200000 in
theorem insPr_grow (w : World) (base : Nat) (hbase : base ≤ w.heap.size) (gb n i : Nat) (F : List Value) (hown : w.ownsRow base 60 5 (.slice (some ⟨gb, 0, none⟩) n n) n F) (h1 : ∀ u ∈ F, u.oneCell' = true) (hi : i < n) (hn : n ≤ 1000) (g : Nat) (c : List Value) (hg : Blk w g 60 c.toArray) (hc : c.length = 5) (h1c : ∀ u ∈ c, u.oneCell' = true) :
    Calls Try.prog 88 #[.slice (some ⟨gb, 0, none⟩) n n, .int .i64 (i : Int), .slice (some ⟨g, 0, none⟩) 1 1] w (InsPost w base 60 5 (.slice (some ⟨gb, 0, none⟩) n n) (n + 1) (F.take (i * 5) ++ (c ++ F.drop (i * 5)))) := by
  obtain ⟨i0, hi0, hz0, hz1, hz2⟩ := info_parts infoPr
  have hF := hown.1
  have HTD := As.mk (show F.take (i * 5) ++ F.drop (i * 5) = F from List.take_append_drop _ _)
  have HTL := As.mk (show (F.take (i * 5)).length = i * 5 by rw [List.length_take, hF]; have := Nat.mul_le_mul_right 5 hi; omega)
  have HDL := As.mk (show (F.drop (i * 5)).length = (n - i) * 5 by rw [List.length_drop, hF, ← Nat.sub_mul])
  obtain ⟨cap, Z, hc1, hc2, hZ, hap⟩ := run_growz Try.prog w 28 3 28 60 i0 _ 5 72 Try.underlying28 Try.underlying3 hi0 hz0 hz1 hz2 rfl (by omega) (by omega) gb n i (F.take (i * 5)) HTL.out (fun j u hu => own_cellAt hown j u (by
    rw [List.getElem?_take] at hu
    split at hu
    · exact hu
    · cases hu)) hi hn
  have HAP := As.mk hap
  have HB1 := As.mk (Blk.new w.drew 60 (F.take (i * 5) ++ Z).toArray)
  have HG1 := As.mk (gr_alloc (gr_drew (gr_refl w none)) (.cells (F.take (i * 5) ++ Z).toArray 60))
  have HC1 := As.mk (hg.grown HG1.out (by simp))
  have HC := As.mk (And.intro hc (And.intro h1c (And.intro (own_gr0 hown HG1.out) h1)))
  have HZ := As.mk hZ
  have HCAP := As.mk (And.intro hc1 (And.intro hc2 hbase))
  have hne : g ≠ w.heap.size := Nat.ne_of_lt hg.lt
  have hgb : gb ≠ w.heap.size := Nat.ne_of_lt (hown.lt gb rfl).2
  have hcap63 : cap ≤ 9223372036854775807 := by simpa [maxLen] using hc2
  have x1 : ¬ ((1 : Int) = 0) := by omega
  have x2 : ¬ ((i : Int) = (n : Int)) := by omega
  have hci : ¬ cap = i := by omega
  have hci1 : ¬ cap = i + 1 := by omega
  have hni : ¬ n = i := by omega
  have hin : i ≤ n := by omega
  have hin1 : i ≤ n + 1 := by omega
  have y1 : (i : Int) ≤ (n : Int) := by omega
  have y2 : (i : Int) ≤ (n : Int) + 1 := by omega
  clear hi0 hz0 hz1 hz2 hap hZ hc hg h1c hbase hown hF h1
  go_enter Try.func88, Try.ntmps88
  have HZL := As.mk (show (F.take (i * 5) ++ Z).length = cap * 5 by rw [List.length_append, HTL.out, HZ.out, ← Nat.add_mul]; congr 1; have := HCAP.out.1; omega)
  have HB1 := As.mk ((Blk.new w 60 (F.take (i * 5) ++ Z).toArray).drew)
  have HG1 := As.mk (gr_drew (gr_alloc (gr_refl w none) (.cells (F.take (i * 5) ++ Z).toArray 60)))
  have HCD := As.mk (show Blk (w.alloc (.cells (F.take (i * 5) ++ Z).toArray 60)).drew g 60 c.toArray from HC1.out)
  have HOD := As.mk (show (w.alloc (.cells (F.take (i * 5) ++ Z).toArray 60)).drew.ownsRow base 60 5 (.slice (some ⟨gb, 0, none⟩) n n) n F from HC.out.2.2.1)
  have hfit1 : i * 5 + c.length ≤ (F.take (i * 5) ++ Z).length := by rw [HZL.out, HC.out.1]; have := Nat.mul_le_mul_right 5 (show i + 1 ≤ cap by have := HCAP.out.1; omega); omega
  have hcp1 := run_copyN Try.prog (w.alloc (.cells (F.take (i * 5) ++ Z).toArray 60)).drew 28 28 3 60 5 w.heap.size (i * 5) (n + 1 - i) (cap - i) ⟨g, 0, none⟩ 1 1 (F.take (i * 5) ++ Z) 60 c Try.underlying28 infPr HB1.out (by rw [HC.out.1]; simp only [Nat.min_def]; split <;> omega) (World.news_of_block (by simpa [Blk] using HCD.out)) hfit1 HC.out.2.1
  have HFT := As.mk hfit1
  clear hfit1 HC1
  go_wp2_with (at_builtin; refine Lib.wpList_append_run _ (by rfl) _ _ _ _ (by rfl) _ _ (by rfl) (by rfl) _ _ HAP.out ?_)
  have HB2 := As.mk (HB1.out.setRow (splice (F.take (i * 5) ++ Z) (i * 5) c).toArray)
  have HG2 := As.mk (gr_setRow HG1.out (.inr (Nat.le_refl _)) (splice (F.take (i * 5) ++ Z) (i * 5) c).toArray)
  have HO2 := As.mk (own_grown HOD.out (gr_setRow (gr_refl _ (some w.heap.size)) (.inl rfl) (splice (F.take (i * 5) ++ Z) (i * 5) c).toArray) (.inr (fun q => by injection q with q; exact hgb q)))
  have HL2 := As.mk ((length_splice _ _ _ HFT.out).trans HZL.out)
  have HRD := As.mk (show 5 + (F.drop (i * 5)).length ≤ Z.length by rw [HZ.out, HDL.out]; have := Nat.mul_le_mul_right 5 (show (n - i) + 1 ≤ cap - i by have := HCAP.out.1; omega); omega)
  have HSP := As.mk (splice_grow (F.take (i * 5)) Z c (F.drop (i * 5)) (i * 5) 5 HTL.out HC.out.1 HRD.out)
  rw [show i * 5 + 5 = (i + 1) * 5 by omega] at HSP
  generalize splice (F.take (i * 5) ++ Z) (i * 5) c = cur1 at *
  generalize (w.alloc (.cells (F.take (i * 5) ++ Z).toArray 60)).drew.setRow w.heap.size cur1.toArray = W2 at *
  generalize hGG : w.heap.size = G at *
  have HGG := As.mk hGG
  clear hGG hcp1 HB1 HG1 HCD HOD HAP HFT
  have hw1 : IntKind.i64.wrap ((i : Int) + 1) = (i : Int) + 1 := by rw [IntKind.wrap_i64]; omega
  have hb1 : (0 : Int) ≤ (i : Int) + 1 := by omega
  have htn : ((i : Int) + 1).toNat = i + 1 := by omega
  have hb3 : (i : Int) + 1 ≤ (n : Int) + 1 := by omega
  have hfit2 := As.mk (show (i + 1) * 5 + (F.drop (i * 5)).length ≤ cur1.length by rw [HL2.out, HDL.out, ← Nat.add_mul]; exact Nat.mul_le_mul_right 5 (by have := HCAP.out.1; omega))
  refine wp_region_noPanic ?_
  refine wp_region_held_drew (S := fun w' => True) (by kernel_rfl) (trivial) (fun hS => ?_)
  refine wpAnyH_take (i := 0) (v := ?vg1) rfl (by kernel_rfl) (by kernel_rfl) (by kernel_rfl) (fun _ _ _ h => h) (Or.inl ⟨by rfl, ?yg1⟩) hS ?rg1
  case yg1 => (intro w0 _; go_simp; try with_reducible rfl)
  try simp only [yA, yB, yC, Act.put, yD, yE, yF]
  refine wpAnyH_take (i := 1) (v := ?vg2) rfl (by kernel_rfl) (by kernel_rfl) (by kernel_rfl) (fun _ _ _ h => h) (Or.inl ⟨by rfl, ?yg2⟩) hS ?rg2
  case yg2 => (intro w0 _; go_simp; try with_reducible rfl)
  try simp only [yA, yB, yC, Act.put, yD, yE, yF]
  refine wpAnyH_take (i := 2) (v := ?vg3) rfl (by kernel_rfl) (by kernel_rfl) (by kernel_rfl) (fun _ _ _ h => h) (Or.inl ⟨by rfl, ?yg3⟩) hS ?rg3
  case yg3 => (intro w0 _; go_simp; try with_reducible rfl)
  try simp only [yA, yB, yC, Act.put, yD, yE, yF]
  refine wpAnyH_take (i := 3) (v := ?vg4) rfl (by kernel_rfl) (by kernel_rfl) (by kernel_rfl) (fun _ _ _ h => h) (Or.inl ⟨by rfl, ?yg4⟩) hS ?rg4
  case yg4 => (intro w0 _; go_simp; try with_reducible rfl)
  try simp only [yA, yB, yC, Act.put, yD, yE, yF]
  refine wpAnyH_take (i := 4) (v := ?vg5) rfl (by kernel_rfl) (by kernel_rfl) (by kernel_rfl) (fun _ _ _ h => h) (Or.inl ⟨by rfl, ?yg5⟩) hS ?rg5
  case yg5 => (intro w0 _; go_simp; try with_reducible rfl)
  try simp only [yA, yB, yC, Act.put, yD, yE, yF]
  refine wpAnyH_take (i := 5) (v := ?vg6) rfl (by kernel_rfl) (by kernel_rfl) (by kernel_rfl) (fun _ _ _ h => h) (Or.inl ⟨by rfl, ?yg6⟩) hS ?rg6
  case yg6 => (intro w0 _; go_simp; try with_reducible rfl)
  try simp only [yA, yB, yC, Act.put, yD, yE, yF]
  refine wpAnyH_take (i := 6) (v := ?vg7) rfl (by kernel_rfl) (by kernel_rfl) (by kernel_rfl) (fun _ _ _ h => h) (Or.inl ⟨by rfl, ?yg7⟩) hS ?rg7
  case yg7 => (intro w0 _; go_simp; try with_reducible rfl)
  try simp only [yA, yB, yC, Act.put, yD, yE, yF]
  refine wpAnyH_take (i := 7) (v := ?vg8) rfl (by kernel_rfl) (by kernel_rfl) (by kernel_rfl) (fun _ _ _ h => h) (Or.inl ⟨by rfl, ?yg8⟩) hS ?rg8
  case yg8 => (intro w0 _; go_simp; try with_reducible rfl)
  try simp only [yA, yB, yC, Act.put, yD, yE, yF]
  refine wpAnyH_ready (rs := [8]) (by kernel_rfl) (by simp) (AllReadyH.cons (i := 8) rfl (fun K hK => ?_) AllReadyH.nil)
  refine step_copyN rfl _ _ _ _ rfl _ _ rfl rfl (run_copyN Try.prog _ _ _ _ 60 5 G _ _ _ _ _ _ cur1 60 (F.drop (i * 5)) Try.underlying28 infPr HB2.out.drew ?hn1 ?hsrc1 ?hfit1 ?h11) ?_
  case hn1 => rw [HDL.out]; congr 1; simp only [Nat.min_def]; split <;> omega
  case hsrc1 => intro j u hu; rw [List.getElem?_drop] at hu; rw [Addr.add_lit]; exact own_cellAt HO2.out (i * 5 + j) u hu
  case hfit1 => exact hfit2.out
  case h11 => exact fun u hu => HC.out.2.2.2 u (List.mem_of_mem_drop hu)
  refine hK.out _ _ (trivial) (fun hS => ?_)
  clear hK K
  try simp only [yA, yB, yC, Act.put, yD, yE, yF]
  refine wpAnyH_done (by kernel_rfl) ?_ _
  refine NoPanic.normal ?_
  try simp only [Exit.then]
  clear hS
  have HB3 := As.mk (HB2.out.drew.setRow (splice cur1 ((i + 1) * 5) (F.drop (i * 5))).toArray)
  have HG3 := As.mk (gr_setRow (gr_drew HG2.out) (.inr (by rw [HGG.out]; exact Nat.le_refl _)) (splice cur1 ((i + 1) * 5) (F.drop (i * 5))).toArray)
  have HL3 := As.mk ((length_splice _ _ _ hfit2.out).trans HL2.out)
  generalize splice cur1 ((i + 1) * 5) (F.drop (i * 5)) = cur2 at *
  generalize W2.drew.setRow G cur2.toArray = W3 at *
  go_wp2_with fail
  go_ret
  have hHB := HB3.out
  have hHL := HL3.out
  rw [HSP.out] at hHB hHL
  refine ⟨_, rfl, own_of_whole hHB ?_ hHL HCAP.out.2.2 HCAP.out.1 HCAP.out.2.1, gr_none_some HG3.out _, .inr ⟨G, rfl, by rw [HGG.out]; exact Nat.le_refl _⟩⟩
  rw [List.length_append, List.length_append, HC.out.1, HTL.out, HDL.out, Nat.succ_mul]
  have hx : i * 5 + (n - i) * 5 = n * 5 := by rw [← Nat.add_mul]; congr 1; omega
  omega
/-- slices.Insert of one element into a row that the call owns. -/
theorem insPr_c (w : World) (base : Nat) (hbase : base ≤ w.heap.size) (v : Value) (n i : Nat) (F : List Value) (hown : w.ownsRow base 60 5 v n F) (h1 : ∀ u ∈ F, u.oneCell' = true) (hi : i ≤ n) (hn : n ≤ 1000) (g : Nat) (c : List Value) (hg : Blk w g 60 c.toArray) (hc : c.length = 5) (h1c : ∀ u ∈ c, u.oneCell' = true) (hne : some g ≠ v.ownBlock) :
    Calls Try.prog 88 #[v, .int .i64 (i : Int), .slice (some ⟨g, 0, none⟩) 1 1] w (InsPost w base 60 5 v (n + 1) (F.take (i * 5) ++ (c ++ F.drop (i * 5)))) := by
  by_cases hin : i = n
  · subst hin
    have hF := hown.1
    rw [List.take_of_length_le (by omega), List.drop_eq_nil_of_le (by omega), List.append_nil]
    exact insPr_end w base hbase v i F hown hn g c hg hc h1c
  · obtain ⟨gb, cap, rfl⟩ := own_some hown (by omega)
    have hle : n ≤ cap := by obtain ⟨_, _, _, _, h, _⟩ := own_whole hown; exact h
    by_cases hcn : cap = n
    · subst hcn
      exact insPr_grow w base hbase gb cap i F hown h1 (by omega) hn g c hg hc h1c
    · exact insPr_mid w base gb cap n i F hown h1 (by omega) hn (by omega) g c hg hc h1c (fun e => hne (by rw [e]; rfl))
set_option maxHeartbeats 3200000 in
theorem insDe_end (w : World) (base : Nat) (hbase : base ≤ w.heap.size) (v : Value) (n : Nat) (F : List Value) (hown : w.ownsRow base 55 4 v n F) (hn : n ≤ 1000) (g : Nat) (c : List Value) (hg : Blk w g 55 c.toArray) (hc : c.length = 4) (h1c : ∀ u ∈ c, u.oneCell' = true) :
    Calls Try.prog 99 #[v, .int .i64 (n : Int), .slice (some ⟨g, 0, none⟩) 1 1] w (InsPost w base 55 4 v (n + 1) (F ++ c)) := by
  obtain ⟨i0, hi, hz0, hz1, hz2⟩ := info_parts infoDe
  have HI := As.mk (And.intro hi (And.intro hz0 (And.intro hz1 hz2)))
  have HO := As.mk hown
  have HC := As.mk (And.intro hg (And.intro hc (And.intro h1c hbase)))
  have HF := As.mk hown.1
  clear hi hz0 hz1 hz2 hg hc h1c hbase
  rcases hown.2 with ⟨rfl, rfl⟩ | ⟨gb, cap, cur, rfl, hb, hh, q1, q2, q3, q4⟩
  · clear hown
    go_enter Try.func99, Try.ntmps99
    go_wp2_with (at_builtin; refine wpList_app1 (by rfl) _ _ _ (by rfl) base 55 i0 _ 4 32 Try.underlying29 HI.out.1 HI.out.2.1 HI.out.2.2.1 HI.out.2.2.2 rfl (by omega) (by omega) _ 0 F (by rfl) HO.out g (by rfl) _ HC.out.1 (by simpa using HC.out.2.1) (by simpa using HC.out.2.2.1) (by omega) HC.out.2.2.2 ?_; intro v' w' ho hg' hv'; have HN := As.mk (And.intro ho (And.intro hg' hv')); clear ho hg' hv')
    go_ret
    exact ⟨_, rfl, HN.out.1, HN.out.2.1, HN.out.2.2.imp_right fun h => ⟨_, h, Nat.le_refl _⟩⟩
  · have hcap : cap ≤ 9223372036854775807 := by simpa [maxLen] using q2
    have HCap := As.mk q1
    clear hown hh q3 q4 hb q2
    by_cases hcn : cap = n
    · subst hcn
      go_enter Try.func99, Try.ntmps99
      go_wp2_with (at_builtin; refine wpList_app1 (by rfl) _ _ _ (by rfl) base 55 i0 _ 4 32 Try.underlying29 HI.out.1 HI.out.2.1 HI.out.2.2.1 HI.out.2.2.2 rfl (by omega) (by omega) _ cap F (by rfl) HO.out g (by rfl) _ HC.out.1 (by simpa using HC.out.2.1) (by simpa using HC.out.2.2.1) (by omega) HC.out.2.2.2 ?_; intro v' w' ho hg' hv'; have HN := As.mk (And.intro ho (And.intro hg' hv')); clear ho hg' hv')
      go_ret
      exact ⟨_, rfl, HN.out.1, HN.out.2.1, HN.out.2.2.imp_right fun h => ⟨_, h, Nat.le_refl _⟩⟩
    · go_enter Try.func99, Try.ntmps99
      go_wp2_with (at_builtin; refine wpList_app1 (by rfl) _ _ _ (by rfl) base 55 i0 _ 4 32 Try.underlying29 HI.out.1 HI.out.2.1 HI.out.2.2.1 HI.out.2.2.2 rfl (by omega) (by omega) _ n F (by rfl) HO.out g (by rfl) _ HC.out.1 (by simpa using HC.out.2.1) (by simpa using HC.out.2.2.1) (by omega) HC.out.2.2.2 ?_; intro v' w' ho hg' hv'; have HN := As.mk (And.intro ho (And.intro hg' hv')); clear ho hg' hv')
      go_ret
      exact ⟨_, rfl, HN.out.1, HN.out.2.1, HN.out.2.2.imp_right fun h => ⟨_, h, Nat.le_refl _⟩⟩
theorem infDe : (Try.prog.info? 55).map (·.size) = some 4 := by kernel_rfl
theorem ovDe (w : World) (g gb : Nat) (hne : g ≠ gb) (cs cur : Array Value) (h1 : Blk w g 55 cs) (h2 : Blk w gb 55 cur) (hk : cur.size ≠ 0) (o lb cb : Nat) :
    (callFunc 102 #[.slice (some ⟨g, 0, none⟩) 1 1, .slice (some ⟨gb, o, none⟩) lb cb]).run Try.prog w = .ok (.value (.bool false)) w := by
  obtain ⟨i0, hi, hz0, hz1, hz2⟩ := info_parts infoDe
  have hz : ∀ w, (Go.sizeOf 55).run Try.prog w = .ok 4 w := fun w => by simp [sizeOf, typeInfo, hi, hz1]
  rw [run_callFunc_extern Try.func102 (by kernel_rfl) (by kernel_rfl) (by kernel_rfl) (e := Extern.SlicesOverlaps.overlaps #[29, 29] #[4]) (by kernel_rfl),
    Lib.run_overlaps_apart w 29 4 55 Try.underlying29 4 hz ⟨g, 0, none⟩ ⟨gb, o, none⟩ 1 1 lb cb hne 55 55 cs.size cur.size (by simp only [World.shape?]; rw [h1]) (by simp only [World.shape?]; rw [h2]) hk (h1.free 0) (h1.free _)]
  rfl
set_option maxHeartbeats 3200000 in
theorem insDe_mid (w : World) (base : Nat) (gb cap n i : Nat) (F : List Value) (hown : w.ownsRow base 55 4 (.slice (some ⟨gb, 0, none⟩) n cap) n F) (h1 : ∀ u ∈ F, u.oneCell' = true) (hi : i < n) (hn : n ≤ 1000) (hcap : n < cap) (g : Nat) (c : List Value) (hg : Blk w g 55 c.toArray) (hc : c.length = 4) (h1c : ∀ u ∈ c, u.oneCell' = true) (hne : g ≠ gb) :
    Calls Try.prog 99 #[.slice (some ⟨gb, 0, none⟩) n cap, .int .i64 (i : Int), .slice (some ⟨g, 0, none⟩) 1 1] w (InsPost w base 55 4 (.slice (some ⟨gb, 0, none⟩) n cap) (n + 1) (F.take (i * 4) ++ (c ++ F.drop (i * 4)))) := by
  obtain ⟨rest, hW, hWl, hbs, hnc, hcm⟩ := own_whole hown
  have hF := hown.1
  have hcap63 : cap ≤ 9223372036854775807 := by simpa [maxLen] using hcm
  have hov := fun (o lb cb : Nat) => ovDe w g gb hne _ _ hg hW (by simp only [List.size_toArray]; rw [hWl]; exact Nat.mul_ne_zero (by omega) (by omega)) o lb cb
  have x1 : ¬ ((1 : Int) = 0) := by omega
  have x2 : ¬ ((i : Int) = (n : Int)) := by omega
  have x3 : ¬ ((cap : Int) < (n : Int) + 1) := by omega
  have HW := As.mk (And.intro hW (And.intro hWl (And.intro hbs hcm)))
  have HC := As.mk (And.intro hg (And.intro hc h1c))
  have H1 := As.mk h1
  have HF := As.mk hF
  clear hW hWl hbs hcm hg hc h1c h1 hF hown hnc
  go_enter Try.func99, Try.ntmps99
  go_wp2_with (simp only [hov])
  have hw1 : IntKind.i64.wrap ((i : Int) + 1) = (i : Int) + 1 := by rw [IntKind.wrap_i64]; omega
  have hb1 : (0 : Int) ≤ (i : Int) + 1 := by omega
  have htn : ((i : Int) + 1).toNat = i + 1 := by omega
  have hb2 : ¬ cap = i + 1 := by omega
  have hb3 : (i : Int) + 1 ≤ (n : Int) + 1 := by omega
  have hb5 : (i : Int) ≤ (n : Int) := by omega
  have hb4 : ¬ cap = i := by omega
  have hb8 : (i : Int) ≤ (n : Int) + 1 := by omega
  have hb6 : i ≤ n := by omega
  have hb7 : i ≤ n + 1 := by omega
  refine wp_region_noPanic ?_
  refine wp_region_held_drew (S := fun w' => True) (by kernel_rfl) (trivial) (fun hS => ?_)
  refine wpAnyH_take (i := 0) (v := ?va1) rfl (by kernel_rfl) (by kernel_rfl) (by kernel_rfl) (fun _ _ _ h => h) (Or.inl ⟨by rfl, ?ya1⟩) hS ?ra1
  case ya1 => (intro w0 _; go_simp; try with_reducible rfl)
  try simp only [yA, yB, yC, Act.put, yD, yE, yF]
  refine wpAnyH_take (i := 1) (v := ?va2) rfl (by kernel_rfl) (by kernel_rfl) (by kernel_rfl) (fun _ _ _ h => h) (Or.inl ⟨by rfl, ?ya2⟩) hS ?ra2
  case ya2 => (intro w0 _; go_simp; try with_reducible rfl)
  try simp only [yA, yB, yC, Act.put, yD, yE, yF]
  refine wpAnyH_take (i := 2) (v := ?va3) rfl (by kernel_rfl) (by kernel_rfl) (by kernel_rfl) (fun _ _ _ h => h) (Or.inl ⟨by rfl, ?ya3⟩) hS ?ra3
  case ya3 => (intro w0 _; go_simp; try with_reducible rfl)
  try simp only [yA, yB, yC, Act.put, yD, yE, yF]
  refine wpAnyH_take (i := 3) (v := ?va4) rfl (by kernel_rfl) (by kernel_rfl) (by kernel_rfl) (fun _ _ _ h => h) (Or.inl ⟨by rfl, ?ya4⟩) hS ?ra4
  case ya4 => (intro w0 _; go_simp; try with_reducible rfl)
  try simp only [yA, yB, yC, Act.put, yD, yE, yF]
  refine wpAnyH_take (i := 4) (v := ?va5) rfl (by kernel_rfl) (by kernel_rfl) (by kernel_rfl) (fun _ _ _ h => h) (Or.inl ⟨by rfl, ?ya5⟩) hS ?ra5
  case ya5 => (intro w0 _; go_simp; try with_reducible rfl)
  try simp only [yA, yB, yC, Act.put, yD, yE, yF]
  refine wpAnyH_take (i := 5) (v := ?va6) rfl (by kernel_rfl) (by kernel_rfl) (by kernel_rfl) (fun _ _ _ h => h) (Or.inl ⟨by rfl, ?ya6⟩) hS ?ra6
  case ya6 => (intro w0 _; go_simp; try with_reducible rfl)
  try simp only [yA, yB, yC, Act.put, yD, yE, yF]
  refine wpAnyH_take (i := 6) (v := ?va7) rfl (by kernel_rfl) (by kernel_rfl) (by kernel_rfl) (fun _ _ _ h => h) (Or.inl ⟨by rfl, ?ya7⟩) hS ?ra7
  case ya7 => (intro w0 _; go_simp; try with_reducible rfl)
  try simp only [yA, yB, yC, Act.put, yD, yE, yF]
  refine wpAnyH_take (i := 7) (v := ?va8) rfl (by kernel_rfl) (by kernel_rfl) (by kernel_rfl) (fun _ _ _ h => h) (Or.inl ⟨by rfl, ?ya8⟩) hS ?ra8
  case ya8 => (intro w0 _; go_simp; try with_reducible rfl)
  try simp only [yA, yB, yC, Act.put, yD, yE, yF]
  refine wpAnyH_ready (rs := [8]) (by kernel_rfl) (by simp) (AllReadyH.cons (i := 8) rfl (fun K hK => ?_) AllReadyH.nil)
  refine step_copyN rfl _ _ _ _ rfl _ _ rfl rfl (run_copyN Try.prog _ _ _ _ 55 4 gb _ _ _ _ _ _ (F ++ rest) 55 (F.drop (i * 4)) Try.underlying29 infDe HW.out.1.drew ?hn1 ?hsrc1 ?hfit1 ?h11) ?_
  case hn1 => rw [List.length_drop, HF.out, ← Nat.sub_mul]; congr 1; simp only [Nat.min_def]; split <;> omega
  case hsrc1 => intro j u hu; rw [List.getElem?_drop] at hu; rw [Addr.add_lit, show (w.drew.cell? ⟨gb, i * 4 + j, none⟩) = w.cell? ⟨gb, i * 4 + j, none⟩ from rfl, HW.out.1.cell, List.getElem?_toArray, List.getElem?_append_left (List.getElem?_eq_some_iff.1 hu).1]; exact hu
  case hfit1 => rw [HW.out.2.1, List.length_drop, HF.out]; have := Nat.mul_le_mul_right 4 hcap; have := Nat.mul_le_mul_right 4 hi; omega
  case h11 => exact fun u hu => H1.out u (List.mem_of_mem_drop hu)
  refine hK.out _ _ (trivial) (fun hS => ?_)
  clear hK K
  try simp only [yA, yB, yC, Act.put, yD, yE, yF]
  refine wpAnyH_done (by kernel_rfl) ?_ _
  refine NoPanic.normal ?_
  try simp only [Exit.then]
  clear hS
  have HR := As.mk (show 4 ≤ rest.length by have h1 := HW.out.2.1; have h2 := HF.out; rw [List.length_append] at h1; have := Nat.mul_le_mul_right 4 hcap; omega)
  have HTD := As.mk (show F.take (i * 4) ++ F.drop (i * 4) = F from List.take_append_drop _ _)
  have HTL := As.mk (show (F.take (i * 4)).length = i * 4 by rw [List.length_take, HF.out]; have := Nat.mul_le_mul_right 4 hb6; omega)
  have HSP := As.mk (splice_ins (F.take (i * 4)) (F.drop (i * 4)) rest c (i * 4) 4 HTL.out HC.out.2.1 HR.out)
  rw [HTD.out, show i * 4 + 4 = (i + 1) * 4 by omega] at HSP
  have HB2 := As.mk (HW.out.1.drew.setRow (splice (F ++ rest) ((i + 1) * 4) (F.drop (i * 4))).toArray)
  have HG2 := As.mk (gr_setRow (gr_drew (gr_refl w (some gb))) (.inl rfl) (splice (F ++ rest) ((i + 1) * 4) (F.drop (i * 4))).toArray)
  have HC2 := As.mk (HC.out.1.drew.setRow_far hne (splice (F ++ rest) ((i + 1) * 4) (F.drop (i * 4))).toArray)
  have HL2 := As.mk (show (splice (F ++ rest) ((i + 1) * 4) (F.drop (i * 4))).length = cap * 4 by rw [length_splice _ _ _ (by rw [HW.out.2.1, List.length_drop, HF.out]; have := Nat.mul_le_mul_right 4 hcap; have := Nat.mul_le_mul_right 4 hi; omega), HW.out.2.1])
  generalize splice (F ++ rest) ((i + 1) * 4) (F.drop (i * 4)) = cur1 at *
  generalize w.drew.setRow gb cur1.toArray = W2 at *
  clear hov hw1 hb1 htn hb2 hb3
  have hcp2 := run_copyN Try.prog W2 29 29 3 55 4 gb (i * 4) (n + 1 - i) (cap - i) ⟨g, 0, none⟩ 1 1 cur1 55 c Try.underlying29 infDe HB2.out (by rw [HC.out.2.1]; simp only [Nat.min_def]; split <;> omega) (World.news_of_block (by simpa [Blk] using HC2.out)) (by rw [HL2.out, HC.out.2.1]; have := Nat.mul_le_mul_right 4 hcap; have := Nat.mul_le_mul_right 4 hi; omega) HC.out.2.2
  have HB3 := As.mk (HB2.out.setRow (splice cur1 (i * 4) c).toArray)
  have HG3 := As.mk (gr_setRow HG2.out (.inl rfl) (splice cur1 (i * 4) c).toArray)
  have HL3 := As.mk (show (splice cur1 (i * 4) c).length = cap * 4 by rw [length_splice _ _ _ (by rw [HL2.out, HC.out.2.1]; have := Nat.mul_le_mul_right 4 hcap; have := Nat.mul_le_mul_right 4 hi; omega), HL2.out])
  generalize splice cur1 (i * 4) c = cur2 at *
  go_wp2_with fail
  go_ret
  generalize W2.setRow gb cur2.toArray = W3 at *
  have hHB := HB3.out
  have hHL := HL3.out
  rw [HSP.out] at hHB hHL
  refine ⟨_, rfl, own_of_whole hHB ?_ hHL HW.out.2.2.1 (by omega) HW.out.2.2.2, HG3.out, .inl rfl⟩
  rw [List.length_append, List.length_append, HC.out.2.1]
  have h1 := congrArg List.length HTD.out
  rw [List.length_append, HF.out] at h1
  rw [show (n + 1) * 4 = n * 4 + 4 by omega]
  omega
set_option maxHeartbeats 3200000 in
theorem insDe_grow (w : World) (base : Nat) (hbase : base ≤ w.heap.size) (gb n i : Nat) (F : List Value) (hown : w.ownsRow base 55 4 (.slice (some ⟨gb, 0, none⟩) n n) n F) (h1 : ∀ u ∈ F, u.oneCell' = true) (hi : i < n) (hn : n ≤ 1000) (g : Nat) (c : List Value) (hg : Blk w g 55 c.toArray) (hc : c.length = 4) (h1c : ∀ u ∈ c, u.oneCell' = true) :
    Calls Try.prog 99 #[.slice (some ⟨gb, 0, none⟩) n n, .int .i64 (i : Int), .slice (some ⟨g, 0, none⟩) 1 1] w (InsPost w base 55 4 (.slice (some ⟨gb, 0, none⟩) n n) (n + 1) (F.take (i * 4) ++ (c ++ F.drop (i * 4)))) := by
  obtain ⟨i0, hi0, hz0, hz1, hz2⟩ := info_parts infoDe
  have hF := hown.1
  have HTD := As.mk (show F.take (i * 4) ++ F.drop (i * 4) = F from List.take_append_drop _ _)
  have HTL := As.mk (show (F.take (i * 4)).length = i * 4 by rw [List.length_take, hF]; have := Nat.mul_le_mul_right 4 hi; omega)
  have HDL := As.mk (show (F.drop (i * 4)).length = (n - i) * 4 by rw [List.length_drop, hF, ← Nat.sub_mul])
  obtain ⟨cap, Z, hc1, hc2, hZ, hap⟩ := run_growz Try.prog w 29 3 29 55 i0 _ 4 32 Try.underlying29 Try.underlying3 hi0 hz0 hz1 hz2 rfl (by omega) (by omega) gb n i (F.take (i * 4)) HTL.out (fun j u hu => own_cellAt hown j u (by
    rw [List.getElem?_take] at hu
    split at hu
    · exact hu
    · cases hu)) hi hn
  have HAP := As.mk hap
  have HB1 := As.mk (Blk.new w.drew 55 (F.take (i * 4) ++ Z).toArray)
  have HG1 := As.mk (gr_alloc (gr_drew (gr_refl w none)) (.cells (F.take (i * 4) ++ Z).toArray 55))
  have HC1 := As.mk (hg.grown HG1.out (by simp))
  have HC := As.mk (And.intro hc (And.intro h1c (And.intro (own_gr0 hown HG1.out) h1)))
  have HZ := As.mk hZ
  have HCAP := As.mk (And.intro hc1 (And.intro hc2 hbase))
  have hne : g ≠ w.heap.size := Nat.ne_of_lt hg.lt
  have hgb : gb ≠ w.heap.size := Nat.ne_of_lt (hown.lt gb rfl).2
  have hcap63 : cap ≤ 9223372036854775807 := by simpa [maxLen] using hc2
  have x1 : ¬ ((1 : Int) = 0) := by omega
  have x2 : ¬ ((i : Int) = (n : Int)) := by omega
  have hci : ¬ cap = i := by omega
  have hci1 : ¬ cap = i + 1 := by omega
  have hni : ¬ n = i := by omega
  have hin : i ≤ n := by omega
  have hin1 : i ≤ n + 1 := by omega
  have y1 : (i : Int) ≤ (n : Int) := by omega
  have y2 : (i : Int) ≤ (n : Int) + 1 := by omega
  clear hi0 hz0 hz1 hz2 hap hZ hc hg h1c hbase hown hF h1
  go_enter Try.func99, Try.ntmps99
  have HZL := As.mk (show (F.take (i * 4) ++ Z).length = cap * 4 by rw [List.length_append, HTL.out, HZ.out, ← Nat.add_mul]; congr 1; have := HCAP.out.1; omega)
  have HB1 := As.mk ((Blk.new w 55 (F.take (i * 4) ++ Z).toArray).drew)
  have HG1 := As.mk (gr_drew (gr_alloc (gr_refl w none) (.cells (F.take (i * 4) ++ Z).toArray 55)))
  have HCD := As.mk (show Blk (w.alloc (.cells (F.take (i * 4) ++ Z).toArray 55)).drew g 55 c.toArray from HC1.out)
  have HOD := As.mk (show (w.alloc (.cells (F.take (i * 4) ++ Z).toArray 55)).drew.ownsRow base 55 4 (.slice (some ⟨gb, 0, none⟩) n n) n F from HC.out.2.2.1)
  have hfit1 : i * 4 + c.length ≤ (F.take (i * 4) ++ Z).length := by rw [HZL.out, HC.out.1]; have := Nat.mul_le_mul_right 4 (show i + 1 ≤ cap by have := HCAP.out.1; omega); omega
  have hcp1 := run_copyN Try.prog (w.alloc (.cells (F.take (i * 4) ++ Z).toArray 55)).drew 29 29 3 55 4 w.heap.size (i * 4) (n + 1 - i) (cap - i) ⟨g, 0, none⟩ 1 1 (F.take (i * 4) ++ Z) 55 c Try.underlying29 infDe HB1.out (by rw [HC.out.1]; simp only [Nat.min_def]; split <;> omega) (World.news_of_block (by simpa [Blk] using HCD.out)) hfit1 HC.out.2.1
  have HFT := As.mk hfit1
  clear hfit1 HC1
  go_wp2_with (at_builtin; refine Lib.wpList_append_run _ (by rfl) _ _ _ _ (by rfl) _ _ (by rfl) (by rfl) _ _ HAP.out ?_)
  have HB2 := As.mk (HB1.out.setRow (splice (F.take (i * 4) ++ Z) (i * 4) c).toArray)
  have HG2 := As.mk (gr_setRow HG1.out (.inr (Nat.le_refl _)) (splice (F.take (i * 4) ++ Z) (i * 4) c).toArray)
  have HO2 := As.mk (own_grown HOD.out (gr_setRow (gr_refl _ (some w.heap.size)) (.inl rfl) (splice (F.take (i * 4) ++ Z) (i * 4) c).toArray) (.inr (fun q => by injection q with q; exact hgb q)))
  have HL2 := As.mk ((length_splice _ _ _ HFT.out).trans HZL.out)
  have HRD := As.mk (show 4 + (F.drop (i * 4)).length ≤ Z.length by rw [HZ.out, HDL.out]; have := Nat.mul_le_mul_right 4 (show (n - i) + 1 ≤ cap - i by have := HCAP.out.1; omega); omega)
  have HSP := As.mk (splice_grow (F.take (i * 4)) Z c (F.drop (i * 4)) (i * 4) 4 HTL.out HC.out.1 HRD.out)
  rw [show i * 4 + 4 = (i + 1) * 4 by omega] at HSP
  generalize splice (F.take (i * 4) ++ Z) (i * 4) c = cur1 at *
  generalize (w.alloc (.cells (F.take (i * 4) ++ Z).toArray 55)).drew.setRow w.heap.size cur1.toArray = W2 at *
  generalize hGG : w.heap.size = G at *
  have HGG := As.mk hGG
  clear hGG hcp1 HB1 HG1 HCD HOD HAP HFT
  have hw1 : IntKind.i64.wrap ((i : Int) + 1) = (i : Int) + 1 := by rw [IntKind.wrap_i64]; omega
  have hb1 : (0 : Int) ≤ (i : Int) + 1 := by omega
  have htn : ((i : Int) + 1).toNat = i + 1 := by omega
  have hb3 : (i : Int) + 1 ≤ (n : Int) + 1 := by omega
  have hfit2 := As.mk (show (i + 1) * 4 + (F.drop (i * 4)).length ≤ cur1.length by rw [HL2.out, HDL.out, ← Nat.add_mul]; exact Nat.mul_le_mul_right 4 (by have := HCAP.out.1; omega))
  refine wp_region_noPanic ?_
  refine wp_region_held_drew (S := fun w' => True) (by kernel_rfl) (trivial) (fun hS => ?_)
  refine wpAnyH_take (i := 0) (v := ?vg1) rfl (by kernel_rfl) (by kernel_rfl) (by kernel_rfl) (fun _ _ _ h => h) (Or.inl ⟨by rfl, ?yg1⟩) hS ?rg1
  case yg1 => (intro w0 _; go_simp; try with_reducible rfl)
  try simp only [yA, yB, yC, Act.put, yD, yE, yF]
  refine wpAnyH_take (i := 1) (v := ?vg2) rfl (by kernel_rfl) (by kernel_rfl) (by kernel_rfl) (fun _ _ _ h => h) (Or.inl ⟨by rfl, ?yg2⟩) hS ?rg2
  case yg2 => (intro w0 _; go_simp; try with_reducible rfl)
  try simp only [yA, yB, yC, Act.put, yD, yE, yF]
  refine wpAnyH_take (i := 2) (v := ?vg3) rfl (by kernel_rfl) (by kernel_rfl) (by kernel_rfl) (fun _ _ _ h => h) (Or.inl ⟨by rfl, ?yg3⟩) hS ?rg3
  case yg3 => (intro w0 _; go_simp; try with_reducible rfl)
  try simp only [yA, yB, yC, Act.put, yD, yE, yF]
  refine wpAnyH_take (i := 3) (v := ?vg4) rfl (by kernel_rfl) (by kernel_rfl) (by kernel_rfl) (fun _ _ _ h => h) (Or.inl ⟨by rfl, ?yg4⟩) hS ?rg4
  case yg4 => (intro w0 _; go_simp; try with_reducible rfl)
  try simp only [yA, yB, yC, Act.put, yD, yE, yF]
  refine wpAnyH_take (i := 4) (v := ?vg5) rfl (by kernel_rfl) (by kernel_rfl) (by kernel_rfl) (fun _ _ _ h => h) (Or.inl ⟨by rfl, ?yg5⟩) hS ?rg5
  case yg5 => (intro w0 _; go_simp; try with_reducible rfl)
  try simp only [yA, yB, yC, Act.put, yD, yE, yF]
  refine wpAnyH_take (i := 5) (v := ?vg6) rfl (by kernel_rfl) (by kernel_rfl) (by kernel_rfl) (fun _ _ _ h => h) (Or.inl ⟨by rfl, ?yg6⟩) hS ?rg6
  case yg6 => (intro w0 _; go_simp; try with_reducible rfl)
  try simp only [yA, yB, yC, Act.put, yD, yE, yF]
  refine wpAnyH_take (i := 6) (v := ?vg7) rfl (by kernel_rfl) (by kernel_rfl) (by kernel_rfl) (fun _ _ _ h => h) (Or.inl ⟨by rfl, ?yg7⟩) hS ?rg7
  case yg7 => (intro w0 _; go_simp; try with_reducible rfl)
  try simp only [yA, yB, yC, Act.put, yD, yE, yF]
  refine wpAnyH_take (i := 7) (v := ?vg8) rfl (by kernel_rfl) (by kernel_rfl) (by kernel_rfl) (fun _ _ _ h => h) (Or.inl ⟨by rfl, ?yg8⟩) hS ?rg8
  case yg8 => (intro w0 _; go_simp; try with_reducible rfl)
  try simp only [yA, yB, yC, Act.put, yD, yE, yF]
  refine wpAnyH_ready (rs := [8]) (by kernel_rfl) (by simp) (AllReadyH.cons (i := 8) rfl (fun K hK => ?_) AllReadyH.nil)
  refine step_copyN rfl _ _ _ _ rfl _ _ rfl rfl (run_copyN Try.prog _ _ _ _ 55 4 G _ _ _ _ _ _ cur1 55 (F.drop (i * 4)) Try.underlying29 infDe HB2.out.drew ?hn1 ?hsrc1 ?hfit1 ?h11) ?_
  case hn1 => rw [HDL.out]; congr 1; simp only [Nat.min_def]; split <;> omega
  case hsrc1 => intro j u hu; rw [List.getElem?_drop] at hu; rw [Addr.add_lit]; exact own_cellAt HO2.out (i * 4 + j) u hu
  case hfit1 => exact hfit2.out
  case h11 => exact fun u hu => HC.out.2.2.2 u (List.mem_of_mem_drop hu)
  refine hK.out _ _ (trivial) (fun hS => ?_)
  clear hK K
  try simp only [yA, yB, yC, Act.put, yD, yE, yF]
  refine wpAnyH_done (by kernel_rfl) ?_ _
  refine NoPanic.normal ?_
  try simp only [Exit.then]
  clear hS
  have HB3 := As.mk (HB2.out.drew.setRow (splice cur1 ((i + 1) * 4) (F.drop (i * 4))).toArray)
  have HG3 := As.mk (gr_setRow (gr_drew HG2.out) (.inr (by rw [HGG.out]; exact Nat.le_refl _)) (splice cur1 ((i + 1) * 4) (F.drop (i * 4))).toArray)
  have HL3 := As.mk ((length_splice _ _ _ hfit2.out).trans HL2.out)
  generalize splice cur1 ((i + 1) * 4) (F.drop (i * 4)) = cur2 at *
  generalize W2.drew.setRow G cur2.toArray = W3 at *
  go_wp2_with fail
  go_ret
  have hHB := HB3.out
  have hHL := HL3.out
  rw [HSP.out] at hHB hHL
  refine ⟨_, rfl, own_of_whole hHB ?_ hHL HCAP.out.2.2 HCAP.out.1 HCAP.out.2.1, gr_none_some HG3.out _, .inr ⟨G, rfl, by rw [HGG.out]; exact Nat.le_refl _⟩⟩
  rw [List.length_append, List.length_append, HC.out.1, HTL.out, HDL.out, Nat.succ_mul]
  have hx : i * 4 + (n - i) * 4 = n * 4 := by rw [← Nat.add_mul]; congr 1; omega
  omega
/-- slices.Insert of one element into a row that the call owns. -/
theorem insDe_c (w : World) (base : Nat) (hbase : base ≤ w.heap.size) (v : Value) (n i : Nat) (F : List Value) (hown : w.ownsRow base 55 4 v n F) (h1 : ∀ u ∈ F, u.oneCell' = true) (hi : i ≤ n) (hn : n ≤ 1000) (g : Nat) (c : List Value) (hg : Blk w g 55 c.toArray) (hc : c.length = 4) (h1c : ∀ u ∈ c, u.oneCell' = true) (hne : some g ≠ v.ownBlock) :
    Calls Try.prog 99 #[v, .int .i64 (i : Int), .slice (some ⟨g, 0, none⟩) 1 1] w (InsPost w base 55 4 v (n + 1) (F.take (i * 4) ++ (c ++ F.drop (i * 4)))) := by
  by_cases hin : i = n
  · subst hin
    have hF := hown.1
    rw [List.take_of_length_le (by omega), List.drop_eq_nil_of_le (by omega), List.append_nil]
    exact insDe_end w base hbase v i F hown hn g c hg hc h1c
  · obtain ⟨gb, cap, rfl⟩ := own_some hown (by omega)
    have hle : n ≤ cap := by obtain ⟨_, _, _, _, h, _⟩ := own_whole hown; exact h
    by_cases hcn : cap = n
    · subst hcn
      exact insDe_grow w base hbase gb cap i F hown h1 (by omega) hn g c hg hc h1c
    · exact insDe_mid w base gb cap n i F hown h1 (by omega) hn (by omega) g c hg hc h1c (fun e => hne (by rw [e]; rfl))
end Go.Proofs.Ytdmkijdbldcdiaa
