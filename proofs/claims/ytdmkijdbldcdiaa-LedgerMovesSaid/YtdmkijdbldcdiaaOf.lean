/- The document's example: awake. (Printed by wip/gen/gen_of.py.) -/
import Derived.Test.YtdmkijdbldcdiaaOe
namespace Go.Proofs.Ytdmkijdbldcdiaa
open Go.RowKit
set_option linter.unusedVariables false
set_option linter.unusedSimpArgs false
set_option maxRecDepth 100000

def t111 : PTid := ⟨1, 1, 1⟩
def awR1 : PRec := ⟨4, t111, [⟨0, 0, 0, true, 7⟩], [1], 0, 0, 0, 0, 0, 0, 0, 0, false⟩
def awR2 : PRec := ⟨6, t111, [], [], 0, 0, 0, 0, 0, 0, 0, 0, true⟩
def awS : PSt := ⟨1, 2, 2, 0, [⟨1, 0, 0, 0, 0⟩, ⟨0, 0, 0, 0, 0⟩], [], [], []⟩
def awU : PSt := ⟨1, 2, 2, 0, [⟨1, 0, 0, 1, 7⟩, ⟨0, 0, 0, 0, 0⟩], [], [⟨t111, true⟩], []⟩
theorem aw1 : firstE 1 2 2 = (0, awS) := by kernel_rfl
theorem aw2 : applyL awS [awR1, awR2] = (0, awU) := by kernel_rfl
theorem aw0 : SInv awS := by
  have h1 : (firstE 1 2 2).1 = 0 := by rw [aw1]
  have h2 := firstE_ok h1
  have h3 := first_inv h2.1
  have h4 := h2.2
  rw [aw1] at h4
  rw [show awS = firstS 1 2 2 from congrArg Prod.snd h4]
  exact h3
theorem Arr.re2 {w : World} {g gi gn : Nat} (h : Blk w g 43 #[.int .i64 4, .int .i64 1, .int .i64 1, .int .i64 1, .slice (some ⟨gi, 0, none⟩) 1 1, .slice (some ⟨gn, 0, none⟩) 1 1, .int .i64 0, .int .i64 0, .int .i64 0, .int .i64 0, .int .i64 0, .int .i64 0, .int .i64 0, .int .i64 0, .bool false, .int .i64 6, .int .i64 1, .int .i64 1, .int .i64 1, .slice none 0 0, .slice none 0 0, .int .i64 0, .int .i64 0, .int .i64 0, .int .i64 0, .int .i64 0, .int .i64 0, .int .i64 0, .int .i64 0, .bool true]) (hI : Blk w gi 66 #[.int .i64 0, .int .i64 0, .int .i64 0, .bool true, .int .i64 7]) (hN : Blk w gn 3 #[.int .i64 1]) : Arr ReE 15 w (.slice (some ⟨g, 0, none⟩) 2 2) [awR1, awR2] :=
  Arr.block (xs := [awR1, awR2]) h (by simp) (by simp) fun j x hx => by
    have hj : j < 2 := by
      have := (List.getElem?_eq_some_iff.1 hx).1
      simpa using this
    rcases (show j = 0 ∨ j = 1 by omega) with rfl | rfl
    · simp only [List.getElem?_cons_zero, Option.some.injEq] at hx
      subst hx
      refine ⟨_, ⟨some ⟨gi, 0, none⟩, 1, some ⟨gn, 0, none⟩, 1, rfl, Arr.block (xs := [(⟨0, 0, 0, true, 7⟩ : PIt)]) hI (by simp) (by simp) fun j x hx => ?_, Arr.block (xs := [(1 : Int)]) hN (by simp) (by simp) fun j x hx => ?_⟩, rfl, fun i u hu => ?_⟩
      · obtain rfl : j = 0 := by
          have := (List.getElem?_eq_some_iff.1 hx).1
          simp at this; omega
        simp only [List.getElem?_cons_zero, Option.some.injEq] at hx
        subst hx
        exact ⟨_, rfl, rfl, fun i u hu => by rw [Nat.zero_mul, Nat.zero_add]; simpa using hu⟩
      · obtain rfl : j = 0 := by
          have := (List.getElem?_eq_some_iff.1 hx).1
          simp at this; omega
        simp only [List.getElem?_cons_zero, Option.some.injEq] at hx
        subst hx
        exact ⟨_, rfl, rfl, fun i u hu => by rw [Nat.zero_mul, Nat.zero_add]; simpa using hu⟩
      · have hi : i < 15 := (List.getElem?_eq_some_iff.1 hu).1
        rw [Nat.zero_mul, Nat.zero_add, ← hu]
        have : i = 0 ∨ i = 1 ∨ i = 2 ∨ i = 3 ∨ i = 4 ∨ i = 5 ∨ i = 6 ∨ i = 7 ∨ i = 8 ∨ i = 9 ∨ i = 10 ∨ i = 11 ∨ i = 12 ∨ i = 13 ∨ i = 14 := by omega
        rcases this with rfl | rfl | rfl | rfl | rfl | rfl | rfl | rfl | rfl | rfl | rfl | rfl | rfl | rfl | rfl <;> rfl
    · simp only [List.getElem?_cons_succ, List.getElem?_cons_zero, Option.some.injEq] at hx
      subst hx
      refine ⟨_, ⟨none, 0, none, 0, rfl, Arr.nil0, Arr.nil0⟩, rfl, fun i u hu => ?_⟩
      have hi : i < 15 := (List.getElem?_eq_some_iff.1 hu).1
      rw [← hu]
      have : i = 0 ∨ i = 1 ∨ i = 2 ∨ i = 3 ∨ i = 4 ∨ i = 5 ∨ i = 6 ∨ i = 7 ∨ i = 8 ∨ i = 9 ∨ i = 10 ∨ i = 11 ∨ i = 12 ∨ i = 13 ∨ i = 14 := by omega
      rcases this with rfl | rfl | rfl | rfl | rfl | rfl | rfl | rfl | rfl | rfl | rfl | rfl | rfl | rfl | rfl <;> rfl
set_option maxHeartbeats 6400000 in
theorem awake_c (w : World) : Calls Try.prog 8 #[] w fun e w' => e = .returned (.bool true) ∧ w.grownBy w' none := by
  go_enter Try.func8, Try.ntmps8
  go_wp2_with fail
  refine (First_c w 1 2 2).mono ?_
  rw [aw1]
  rintro e w1 ⟨fP, fQ, fD, fC, qs0, cs0, rfl, hg1, hr1⟩
  obtain ⟨fP, fp, rfl⟩ := own_shape hr1.pl
  obtain ⟨fQ, fq, rfl⟩ := own_shape hr1.pr
  obtain ⟨fD, fd, rfl⟩ := own_shape hr1.de
  obtain ⟨fC, fc, rfl⟩ := own_shape hr1.cm
  have HG1 := As.mk hg1
  have HR1 := As.mk hr1
  clear hg1 hr1
  unfold stCells
  have hga := gr_alloc (gr_alloc (gr_alloc (gr_alloc (gr_alloc (gr_refl w1 none) (.cells #[.int .i64 awS.node, .int .i64 awS.nodes, .int .i64 awS.cells, .int .i64 awS.epoch, .slice fP awS.places.length fp, .slice fQ qs0.length fq, .slice fD awS.decided.length fd, .slice fC cs0.length fc] 32)) (.cells #[.int .i64 1, .int .i64 1, .int .i64 1] 39)) (.cells #[.int .i64 0, .int .i64 0, .int .i64 0, .bool true, .int .i64 7] 66)) (.cells #[.int .i64 1] 3)) (.cells #[.int .i64 4, .int .i64 1, .int .i64 1, .int .i64 1, .slice (some ⟨w1.heap.size + 1 + 1, 0, none⟩) 1 1, .slice (some ⟨w1.heap.size + 1 + 1 + 1, 0, none⟩) 1 1, .int .i64 0, .int .i64 0, .int .i64 0, .int .i64 0, .int .i64 0, .int .i64 0, .int .i64 0, .int .i64 0, .bool false, .int .i64 6, .int .i64 1, .int .i64 1, .int .i64 1, .slice none 0 0, .slice none 0 0, .int .i64 0, .int .i64 0, .int .i64 0, .int .i64 0, .int .i64 0, .int .i64 0, .int .i64 0, .int .i64 0, .bool true] 43)
  have HG2 := As.mk (gr_then HG1.out hga (.inl rfl))
  have HR2 := As.mk (HR1.out.grown hga)
  have HBS := As.mk (((((Blk.new w1 32 #[.int .i64 awS.node, .int .i64 awS.nodes, .int .i64 awS.cells, .int .i64 awS.epoch, .slice fP awS.places.length fp, .slice fQ qs0.length fq, .slice fD awS.decided.length fd, .slice fC cs0.length fc]).alloc (.cells #[.int .i64 1, .int .i64 1, .int .i64 1] 39)).alloc (.cells #[.int .i64 0, .int .i64 0, .int .i64 0, .bool true, .int .i64 7] 66)).alloc (.cells #[.int .i64 1] 3)).alloc (.cells #[.int .i64 4, .int .i64 1, .int .i64 1, .int .i64 1, .slice (some ⟨w1.heap.size + 1 + 1, 0, none⟩) 1 1, .slice (some ⟨w1.heap.size + 1 + 1 + 1, 0, none⟩) 1 1, .int .i64 0, .int .i64 0, .int .i64 0, .int .i64 0, .int .i64 0, .int .i64 0, .int .i64 0, .int .i64 0, .bool false, .int .i64 6, .int .i64 1, .int .i64 1, .int .i64 1, .slice none 0 0, .slice none 0 0, .int .i64 0, .int .i64 0, .int .i64 0, .int .i64 0, .int .i64 0, .int .i64 0, .int .i64 0, .int .i64 0, .bool true] 43))
  have HBI := As.mk (((Blk.new_at ((w1.alloc (.cells #[.int .i64 awS.node, .int .i64 awS.nodes, .int .i64 awS.cells, .int .i64 awS.epoch, .slice fP awS.places.length fp, .slice fQ qs0.length fq, .slice fD awS.decided.length fd, .slice fC cs0.length fc] 32)).alloc (.cells #[.int .i64 1, .int .i64 1, .int .i64 1] 39)) 66 #[.int .i64 0, .int .i64 0, .int .i64 0, .bool true, .int .i64 7] (g := w1.heap.size + 1 + 1) (by simp)).alloc (.cells #[.int .i64 1] 3)).alloc (.cells #[.int .i64 4, .int .i64 1, .int .i64 1, .int .i64 1, .slice (some ⟨w1.heap.size + 1 + 1, 0, none⟩) 1 1, .slice (some ⟨w1.heap.size + 1 + 1 + 1, 0, none⟩) 1 1, .int .i64 0, .int .i64 0, .int .i64 0, .int .i64 0, .int .i64 0, .int .i64 0, .int .i64 0, .int .i64 0, .bool false, .int .i64 6, .int .i64 1, .int .i64 1, .int .i64 1, .slice none 0 0, .slice none 0 0, .int .i64 0, .int .i64 0, .int .i64 0, .int .i64 0, .int .i64 0, .int .i64 0, .int .i64 0, .int .i64 0, .bool true] 43))
  have HBN := As.mk ((Blk.new_at (((w1.alloc (.cells #[.int .i64 awS.node, .int .i64 awS.nodes, .int .i64 awS.cells, .int .i64 awS.epoch, .slice fP awS.places.length fp, .slice fQ qs0.length fq, .slice fD awS.decided.length fd, .slice fC cs0.length fc] 32)).alloc (.cells #[.int .i64 1, .int .i64 1, .int .i64 1] 39)).alloc (.cells #[.int .i64 0, .int .i64 0, .int .i64 0, .bool true, .int .i64 7] 66)) 3 #[.int .i64 1] (g := w1.heap.size + 1 + 1 + 1) (by simp)).alloc (.cells #[.int .i64 4, .int .i64 1, .int .i64 1, .int .i64 1, .slice (some ⟨w1.heap.size + 1 + 1, 0, none⟩) 1 1, .slice (some ⟨w1.heap.size + 1 + 1 + 1, 0, none⟩) 1 1, .int .i64 0, .int .i64 0, .int .i64 0, .int .i64 0, .int .i64 0, .int .i64 0, .int .i64 0, .int .i64 0, .bool false, .int .i64 6, .int .i64 1, .int .i64 1, .int .i64 1, .slice none 0 0, .slice none 0 0, .int .i64 0, .int .i64 0, .int .i64 0, .int .i64 0, .int .i64 0, .int .i64 0, .int .i64 0, .int .i64 0, .bool true] 43))
  have HBR := As.mk (Blk.new_at ((((w1.alloc (.cells #[.int .i64 awS.node, .int .i64 awS.nodes, .int .i64 awS.cells, .int .i64 awS.epoch, .slice fP awS.places.length fp, .slice fQ qs0.length fq, .slice fD awS.decided.length fd, .slice fC cs0.length fc] 32)).alloc (.cells #[.int .i64 1, .int .i64 1, .int .i64 1] 39)).alloc (.cells #[.int .i64 0, .int .i64 0, .int .i64 0, .bool true, .int .i64 7] 66)).alloc (.cells #[.int .i64 1] 3)) 43 #[.int .i64 4, .int .i64 1, .int .i64 1, .int .i64 1, .slice (some ⟨w1.heap.size + 1 + 1, 0, none⟩) 1 1, .slice (some ⟨w1.heap.size + 1 + 1 + 1, 0, none⟩) 1 1, .int .i64 0, .int .i64 0, .int .i64 0, .int .i64 0, .int .i64 0, .int .i64 0, .int .i64 0, .int .i64 0, .bool false, .int .i64 6, .int .i64 1, .int .i64 1, .int .i64 1, .slice none 0 0, .slice none 0 0, .int .i64 0, .int .i64 0, .int .i64 0, .int .i64 0, .int .i64 0, .int .i64 0, .int .i64 0, .int .i64 0, .bool true] (g := w1.heap.size + 1 + 1 + 1 + 1) (by simp))
  clear hga
  go_wp2_with fail
  generalize ((((w1.alloc (.cells #[.int .i64 awS.node, .int .i64 awS.nodes, .int .i64 awS.cells, .int .i64 awS.epoch, .slice fP awS.places.length fp, .slice fQ qs0.length fq, .slice fD awS.decided.length fd, .slice fC cs0.length fc] 32)).alloc (.cells #[.int .i64 1, .int .i64 1, .int .i64 1] 39)).alloc (.cells #[.int .i64 0, .int .i64 0, .int .i64 0, .bool true, .int .i64 7] 66)).alloc (.cells #[.int .i64 1] 3)).alloc (.cells #[.int .i64 4, .int .i64 1, .int .i64 1, .int .i64 1, .slice (some ⟨w1.heap.size + 1 + 1, 0, none⟩) 1 1, .slice (some ⟨w1.heap.size + 1 + 1 + 1, 0, none⟩) 1 1, .int .i64 0, .int .i64 0, .int .i64 0, .int .i64 0, .int .i64 0, .int .i64 0, .int .i64 0, .int .i64 0, .bool false, .int .i64 6, .int .i64 1, .int .i64 1, .int .i64 1, .slice none 0 0, .slice none 0 0, .int .i64 0, .int .i64 0, .int .i64 0, .int .i64 0, .int .i64 0, .int .i64 0, .int .i64 0, .int .i64 0, .bool true] 43) = WX at *
  refine (Apply_c WX awS _ _ _ _ HR2.out.read aw0 _ [awR1, awR2] (Arr.re2 HBR.out HBI.out HBN.out)).mono ?_
  rw [aw2]
  rintro e w2 ⟨aP, aQ, aD, aC, qs1, cs1, rfl, hg1, hr1⟩
  obtain ⟨aP, ap, rfl⟩ := own_shape hr1.pl
  obtain ⟨aQ, aq, rfl⟩ := own_shape hr1.pr
  obtain ⟨aD, ad, rfl⟩ := own_shape hr1.de
  obtain ⟨aC, ac, rfl⟩ := own_shape hr1.cm
  have hga := gr_alloc (gr_refl w2 none) (.cells #[.int .i64 awU.node, .int .i64 awU.nodes, .int .i64 awU.cells, .int .i64 awU.epoch, .slice aP awU.places.length ap, .slice aQ qs1.length aq, .slice aD awU.decided.length ad, .slice aC cs1.length ac] 32)
  have HG3 := As.mk (gr_then (gr_then HG2.out hg1 (.inl rfl)) hga (.inl rfl))
  have HS3 := As.mk ((HBS.out.grown hg1 (by simp)).grown hga (by simp))
  have HU3 := As.mk (Blk.new w2 32 #[.int .i64 awU.node, .int .i64 awU.nodes, .int .i64 awU.cells, .int .i64 awU.epoch, .slice aP awU.places.length ap, .slice aQ qs1.length aq, .slice aD awU.decided.length ad, .slice aC cs1.length ac])
  have HR3 := As.mk ((HR2.out.grown hg1).grown hga)
  have HT3 := As.mk (hr1.grown hga)
  clear hg1 hr1 hga HG2 HBS HBI HBN HBR HR2
  unfold stCells
  obtain ⟨q0, q1, q2, q3, q4, q5, q6, q7⟩ := (HS3.out).c8
  go_wp2_with fail
  clear q0 q1 q2 q3 q4 q5 q6 q7
  generalize w2.alloc (.cells #[.int .i64 awU.node, .int .i64 awU.nodes, .int .i64 awU.cells, .int .i64 awU.epoch, .slice aP awU.places.length ap, .slice aQ qs1.length aq, .slice aD awU.decided.length ad, .slice aC cs1.length ac] 32) = WY at *
  refine (owns_c WY awS _ _ _ _ HR3.out.read 0 true (by kernel_rfl)).mono ?_
  rintro e w3 ⟨rfl, hg1⟩
  replace HG3 := As.mk (gr_then HG3.out hg1 (.inl rfl))
  replace HS3 := As.mk (HS3.out.grown hg1 (by simp))
  replace HU3 := As.mk (HU3.out.grown hg1 (by simp))
  replace HR3 := As.mk (HR3.out.grown hg1)
  replace HT3 := As.mk (HT3.out.grown hg1)
  clear hg1
  obtain ⟨q0, q1, q2, q3, q4, q5, q6, q7⟩ := (HS3.out).c8
  go_wp2_with fail
  clear q0 q1 q2 q3 q4 q5 q6 q7
  refine (owns_c w3 awS _ _ _ _ HR3.out.read 1 false (by kernel_rfl)).mono ?_
  rintro e w4 ⟨rfl, hg1⟩
  replace HG3 := As.mk (gr_then HG3.out hg1 (.inl rfl))
  replace HS3 := As.mk (HS3.out.grown hg1 (by simp))
  replace HU3 := As.mk (HU3.out.grown hg1 (by simp))
  replace HR3 := As.mk (HR3.out.grown hg1)
  replace HT3 := As.mk (HT3.out.grown hg1)
  clear hg1
  obtain ⟨q0, q1, q2, q3, q4, q5, q6, q7⟩ := (HS3.out).c8
  obtain ⟨u0, u1, u2, u3, u4, u5, u6, u7⟩ := (HU3.out).c8
  obtain ⟨gS, kS, eS⟩ := own_some HR3.out.pl (by decide)
  obtain ⟨gU, kU, eU⟩ := own_some HT3.out.pl (by decide)
  injection eS with eS1 _ eS3
  injection eU with eU1 _ eU3
  subst eS1 eS3 eU1 eU3
  have z3 := own_cellAt HR3.out.pl 3 _ rfl
  have y3 := own_cellAt HT3.out.pl 3 _ rfl
  have y4 := own_cellAt HT3.out.pl 4 _ rfl
  have hlS : awS.places.length = 2 := rfl
  have hlU : awU.places.length = 2 := rfl
  have hle1 := (own_whole HR3.out.pl)
  have hle2 := (own_whole HT3.out.pl)
  go_wp2_with fail
  go_ret
  exact ⟨rfl, HG3.out⟩
end Go.Proofs.Ytdmkijdbldcdiaa
