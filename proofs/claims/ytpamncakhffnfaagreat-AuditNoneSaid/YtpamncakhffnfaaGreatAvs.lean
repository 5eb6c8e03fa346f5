/- The walk of awake. -/
import Derived.Test.YtpamncakhffnfaaGreatAus
namespace Go.Proofs.YtpamncakhffnfaaGreat
open Go.RowKit Go.Maps
set_option linter.unusedVariables false
set_option linter.unusedSimpArgs false

def exA : PCo := ⟨⟨1, 1, 1⟩, [⟨0, 0, 0, true, 5⟩], 0⟩
def exB : PCo := ⟨⟨1, 1, 2⟩, [⟨0, 1, 5, false, 0⟩], 0⟩
def exC : PCo := ⟨⟨1, 1, 2⟩, [⟨0, 0, 0, false, 0⟩], 0⟩
theorem may_exA : mayC (startR 1) (fun _ => none) exA = 0 := by decide
theorem up_exA : exA.items.foldl updR (startR 1) = [(1, 5)] := by decide
theorem may_exB : mayC [(1, 5)] (updK (fun _ => none) exA.tid true) exB = 0 := by
  unfold mayC
  rw [updK_other _ _ _ (by intro h; injection h with _ _ h; exact absurd h (by decide))]
  decide
theorem may_exC : mayC [(1, 5)] (updK (fun _ => none) exA.tid true) exC = 13 := by
  unfold mayC
  rw [updK_other _ _ _ (by intro h; injection h with _ _ h; exact absurd h (by decide))]
  decide
theorem pl_AB : (plC 1 [exA, exB]).2 = (2, 0) := by
  unfold plC
  rw [playFrom, if_pos may_exA, up_exA, playFrom, if_pos may_exB, playFrom]
  rfl
theorem pl_AC : (plC 1 [exA, exC]).2 = (1, 13) := by
  unfold plC
  rw [playFrom, if_pos may_exA, up_exA, playFrom, if_neg (by rw [may_exC]; decide)]
  rw [may_exC]
  rfl
theorem arr1 {w : World} {g : Nat} {t : TypeId} {c v a n : Int} {b : Bool} (h : Blk w g t #[.int .i64 c, .int .i64 v, .int .i64 a, .bool b, .int .i64 n]) : Arr ItE 5 w (.slice (some ⟨g, 0, none⟩) 1 1) [⟨c, v, a, b, n⟩] :=
  Arr.block (E := ItE) (xs := [(⟨c, v, a, b, n⟩ : PIt)]) h (by simp) (by simp) (fun j x hx => by
    rcases j with _ | j
    · simp at hx; subst hx; exact ⟨_, rfl, rfl, fun i u hu => by simpa using hu⟩
    · simp at hx)
theorem arr2 {w : World} {g : Nat} {t : TypeId} {v1 v2 : Value} {x y : PCo} (h : Blk w g t #[.int .i64 x.tid.n, .int .i64 x.tid.e, .int .i64 x.tid.s, v1, .int .i64 x.at_, .int .i64 y.tid.n, .int .i64 y.tid.e, .int .i64 y.tid.s, v2, .int .i64 y.at_])
    (h1 : Arr ItE 5 w v1 x.items) (h2 : Arr ItE 5 w v2 y.items) : Arr CoE 5 w (.slice (some ⟨g, 0, none⟩) 2 2) [x, y] :=
  Arr.block (E := CoE) (xs := [x, y]) h (by simp) (by simp) (fun j z hz => by
    rcases j with _ | _ | j
    · simp at hz; subst hz
      exact ⟨_, ⟨v1, rfl, h1⟩, rfl, fun i u hu => by
        have hi : i < 5 := by have := (List.getElem?_eq_some_iff.1 hu).1; simpa using this
        match i, hi with
        | 0, _ => exact hu
        | 1, _ => exact hu
        | 2, _ => exact hu
        | 3, _ => exact hu
        | 4, _ => exact hu⟩
    · simp at hz; subst hz
      exact ⟨_, ⟨v2, rfl, h2⟩, rfl, fun i u hu => by
        have hi : i < 5 := by have := (List.getElem?_eq_some_iff.1 hu).1; simpa using this
        match i, hi with
        | 0, _ => exact hu
        | 1, _ => exact hu
        | 2, _ => exact hu
        | 3, _ => exact hu
        | 4, _ => exact hu⟩
    · simp at hz)
set_option maxRecDepth 100000 in
set_option maxHeartbeats 3200000 in
theorem awake_c (w : World) : Calls Tryz.prog 4 #[] w fun e w' => e = .returned (.bool true) ∧ w.grownBy w' none := by
  have b0 := As.mk (((((((Blk.new_at w 38 #[.int .i64 0, .int .i64 0, .int .i64 0, .bool true, .int .i64 5] (g := w.heap.size) (by simp)).alloc (.cells #[.int .i64 1, .int .i64 1, .int .i64 1, .slice (some ⟨w.heap.size, 0, none⟩) 1 1, .int .i64 0] 41)).alloc (.cells #[.int .i64 0, .int .i64 1, .int .i64 5, .bool false, .int .i64 0] 38)).alloc (.cells #[.int .i64 1, .int .i64 1, .int .i64 2, .slice (some ⟨w.heap.size + 1 + 1, 0, none⟩) 1 1, .int .i64 0] 41)).alloc (.cells #[.int .i64 0, .int .i64 0, .int .i64 0, .bool false, .int .i64 0] 38)).alloc (.cells #[.int .i64 1, .int .i64 1, .int .i64 2, .slice (some ⟨w.heap.size + 1 + 1 + 1 + 1, 0, none⟩) 1 1, .int .i64 0] 41)).alloc (.cells #[.int .i64 1, .int .i64 1, .int .i64 1, .slice (some ⟨w.heap.size, 0, none⟩) 1 1, .int .i64 0, .int .i64 1, .int .i64 1, .int .i64 2, .slice (some ⟨w.heap.size + 1 + 1, 0, none⟩) 1 1, .int .i64 0] 41))
  have b1 := As.mk ((((((Blk.new_at (w.alloc (.cells #[.int .i64 0, .int .i64 0, .int .i64 0, .bool true, .int .i64 5] 38)) 41 #[.int .i64 1, .int .i64 1, .int .i64 1, .slice (some ⟨w.heap.size, 0, none⟩) 1 1, .int .i64 0] (g := w.heap.size + 1) (by simp)).alloc (.cells #[.int .i64 0, .int .i64 1, .int .i64 5, .bool false, .int .i64 0] 38)).alloc (.cells #[.int .i64 1, .int .i64 1, .int .i64 2, .slice (some ⟨w.heap.size + 1 + 1, 0, none⟩) 1 1, .int .i64 0] 41)).alloc (.cells #[.int .i64 0, .int .i64 0, .int .i64 0, .bool false, .int .i64 0] 38)).alloc (.cells #[.int .i64 1, .int .i64 1, .int .i64 2, .slice (some ⟨w.heap.size + 1 + 1 + 1 + 1, 0, none⟩) 1 1, .int .i64 0] 41)).alloc (.cells #[.int .i64 1, .int .i64 1, .int .i64 1, .slice (some ⟨w.heap.size, 0, none⟩) 1 1, .int .i64 0, .int .i64 1, .int .i64 1, .int .i64 2, .slice (some ⟨w.heap.size + 1 + 1, 0, none⟩) 1 1, .int .i64 0] 41))
  have b2 := As.mk (((((Blk.new_at ((w.alloc (.cells #[.int .i64 0, .int .i64 0, .int .i64 0, .bool true, .int .i64 5] 38)).alloc (.cells #[.int .i64 1, .int .i64 1, .int .i64 1, .slice (some ⟨w.heap.size, 0, none⟩) 1 1, .int .i64 0] 41)) 38 #[.int .i64 0, .int .i64 1, .int .i64 5, .bool false, .int .i64 0] (g := w.heap.size + 1 + 1) (by simp)).alloc (.cells #[.int .i64 1, .int .i64 1, .int .i64 2, .slice (some ⟨w.heap.size + 1 + 1, 0, none⟩) 1 1, .int .i64 0] 41)).alloc (.cells #[.int .i64 0, .int .i64 0, .int .i64 0, .bool false, .int .i64 0] 38)).alloc (.cells #[.int .i64 1, .int .i64 1, .int .i64 2, .slice (some ⟨w.heap.size + 1 + 1 + 1 + 1, 0, none⟩) 1 1, .int .i64 0] 41)).alloc (.cells #[.int .i64 1, .int .i64 1, .int .i64 1, .slice (some ⟨w.heap.size, 0, none⟩) 1 1, .int .i64 0, .int .i64 1, .int .i64 1, .int .i64 2, .slice (some ⟨w.heap.size + 1 + 1, 0, none⟩) 1 1, .int .i64 0] 41))
  have b3 := As.mk ((((Blk.new_at (((w.alloc (.cells #[.int .i64 0, .int .i64 0, .int .i64 0, .bool true, .int .i64 5] 38)).alloc (.cells #[.int .i64 1, .int .i64 1, .int .i64 1, .slice (some ⟨w.heap.size, 0, none⟩) 1 1, .int .i64 0] 41)).alloc (.cells #[.int .i64 0, .int .i64 1, .int .i64 5, .bool false, .int .i64 0] 38)) 41 #[.int .i64 1, .int .i64 1, .int .i64 2, .slice (some ⟨w.heap.size + 1 + 1, 0, none⟩) 1 1, .int .i64 0] (g := w.heap.size + 1 + 1 + 1) (by simp)).alloc (.cells #[.int .i64 0, .int .i64 0, .int .i64 0, .bool false, .int .i64 0] 38)).alloc (.cells #[.int .i64 1, .int .i64 1, .int .i64 2, .slice (some ⟨w.heap.size + 1 + 1 + 1 + 1, 0, none⟩) 1 1, .int .i64 0] 41)).alloc (.cells #[.int .i64 1, .int .i64 1, .int .i64 1, .slice (some ⟨w.heap.size, 0, none⟩) 1 1, .int .i64 0, .int .i64 1, .int .i64 1, .int .i64 2, .slice (some ⟨w.heap.size + 1 + 1, 0, none⟩) 1 1, .int .i64 0] 41))
  have b4 := As.mk (((Blk.new_at ((((w.alloc (.cells #[.int .i64 0, .int .i64 0, .int .i64 0, .bool true, .int .i64 5] 38)).alloc (.cells #[.int .i64 1, .int .i64 1, .int .i64 1, .slice (some ⟨w.heap.size, 0, none⟩) 1 1, .int .i64 0] 41)).alloc (.cells #[.int .i64 0, .int .i64 1, .int .i64 5, .bool false, .int .i64 0] 38)).alloc (.cells #[.int .i64 1, .int .i64 1, .int .i64 2, .slice (some ⟨w.heap.size + 1 + 1, 0, none⟩) 1 1, .int .i64 0] 41)) 38 #[.int .i64 0, .int .i64 0, .int .i64 0, .bool false, .int .i64 0] (g := w.heap.size + 1 + 1 + 1 + 1) (by simp)).alloc (.cells #[.int .i64 1, .int .i64 1, .int .i64 2, .slice (some ⟨w.heap.size + 1 + 1 + 1 + 1, 0, none⟩) 1 1, .int .i64 0] 41)).alloc (.cells #[.int .i64 1, .int .i64 1, .int .i64 1, .slice (some ⟨w.heap.size, 0, none⟩) 1 1, .int .i64 0, .int .i64 1, .int .i64 1, .int .i64 2, .slice (some ⟨w.heap.size + 1 + 1, 0, none⟩) 1 1, .int .i64 0] 41))
  have b5 := As.mk ((Blk.new_at (((((w.alloc (.cells #[.int .i64 0, .int .i64 0, .int .i64 0, .bool true, .int .i64 5] 38)).alloc (.cells #[.int .i64 1, .int .i64 1, .int .i64 1, .slice (some ⟨w.heap.size, 0, none⟩) 1 1, .int .i64 0] 41)).alloc (.cells #[.int .i64 0, .int .i64 1, .int .i64 5, .bool false, .int .i64 0] 38)).alloc (.cells #[.int .i64 1, .int .i64 1, .int .i64 2, .slice (some ⟨w.heap.size + 1 + 1, 0, none⟩) 1 1, .int .i64 0] 41)).alloc (.cells #[.int .i64 0, .int .i64 0, .int .i64 0, .bool false, .int .i64 0] 38)) 41 #[.int .i64 1, .int .i64 1, .int .i64 2, .slice (some ⟨w.heap.size + 1 + 1 + 1 + 1, 0, none⟩) 1 1, .int .i64 0] (g := w.heap.size + 1 + 1 + 1 + 1 + 1) (by simp)).alloc (.cells #[.int .i64 1, .int .i64 1, .int .i64 1, .slice (some ⟨w.heap.size, 0, none⟩) 1 1, .int .i64 0, .int .i64 1, .int .i64 1, .int .i64 2, .slice (some ⟨w.heap.size + 1 + 1, 0, none⟩) 1 1, .int .i64 0] 41))
  have b6 := As.mk (Blk.new_at ((((((w.alloc (.cells #[.int .i64 0, .int .i64 0, .int .i64 0, .bool true, .int .i64 5] 38)).alloc (.cells #[.int .i64 1, .int .i64 1, .int .i64 1, .slice (some ⟨w.heap.size, 0, none⟩) 1 1, .int .i64 0] 41)).alloc (.cells #[.int .i64 0, .int .i64 1, .int .i64 5, .bool false, .int .i64 0] 38)).alloc (.cells #[.int .i64 1, .int .i64 1, .int .i64 2, .slice (some ⟨w.heap.size + 1 + 1, 0, none⟩) 1 1, .int .i64 0] 41)).alloc (.cells #[.int .i64 0, .int .i64 0, .int .i64 0, .bool false, .int .i64 0] 38)).alloc (.cells #[.int .i64 1, .int .i64 1, .int .i64 2, .slice (some ⟨w.heap.size + 1 + 1 + 1 + 1, 0, none⟩) 1 1, .int .i64 0] 41)) 41 #[.int .i64 1, .int .i64 1, .int .i64 1, .slice (some ⟨w.heap.size, 0, none⟩) 1 1, .int .i64 0, .int .i64 1, .int .i64 1, .int .i64 2, .slice (some ⟨w.heap.size + 1 + 1, 0, none⟩) 1 1, .int .i64 0] (g := w.heap.size + 1 + 1 + 1 + 1 + 1 + 1) (by simp))
  have HG := As.mk (gr_alloc (gr_alloc (gr_alloc (gr_alloc (gr_alloc (gr_alloc (gr_alloc (gr_refl w none) (.cells #[.int .i64 0, .int .i64 0, .int .i64 0, .bool true, .int .i64 5] 38)) (.cells #[.int .i64 1, .int .i64 1, .int .i64 1, .slice (some ⟨w.heap.size, 0, none⟩) 1 1, .int .i64 0] 41)) (.cells #[.int .i64 0, .int .i64 1, .int .i64 5, .bool false, .int .i64 0] 38)) (.cells #[.int .i64 1, .int .i64 1, .int .i64 2, .slice (some ⟨w.heap.size + 1 + 1, 0, none⟩) 1 1, .int .i64 0] 41)) (.cells #[.int .i64 0, .int .i64 0, .int .i64 0, .bool false, .int .i64 0] 38)) (.cells #[.int .i64 1, .int .i64 1, .int .i64 2, .slice (some ⟨w.heap.size + 1 + 1 + 1 + 1, 0, none⟩) 1 1, .int .i64 0] 41)) (.cells #[.int .i64 1, .int .i64 1, .int .i64 1, .slice (some ⟨w.heap.size, 0, none⟩) 1 1, .int .i64 0, .int .i64 1, .int .i64 1, .int .i64 2, .slice (some ⟨w.heap.size + 1 + 1, 0, none⟩) 1 1, .int .i64 0] 41))
  go_enter Tryz.func4, Tryz.ntmps4
  go_wp2_with fail
  generalize (((((((w.alloc (.cells #[.int .i64 0, .int .i64 0, .int .i64 0, .bool true, .int .i64 5] 38)).alloc (.cells #[.int .i64 1, .int .i64 1, .int .i64 1, .slice (some ⟨w.heap.size, 0, none⟩) 1 1, .int .i64 0] 41)).alloc (.cells #[.int .i64 0, .int .i64 1, .int .i64 5, .bool false, .int .i64 0] 38)).alloc (.cells #[.int .i64 1, .int .i64 1, .int .i64 2, .slice (some ⟨w.heap.size + 1 + 1, 0, none⟩) 1 1, .int .i64 0] 41)).alloc (.cells #[.int .i64 0, .int .i64 0, .int .i64 0, .bool false, .int .i64 0] 38)).alloc (.cells #[.int .i64 1, .int .i64 1, .int .i64 2, .slice (some ⟨w.heap.size + 1 + 1 + 1 + 1, 0, none⟩) 1 1, .int .i64 0] 41)).alloc (.cells #[.int .i64 1, .int .i64 1, .int .i64 1, .slice (some ⟨w.heap.size, 0, none⟩) 1 1, .int .i64 0, .int .i64 1, .int .i64 1, .int .i64 2, .slice (some ⟨w.heap.size + 1 + 1, 0, none⟩) 1 1, .int .i64 0] 41)) = W7 at *
  generalize w.heap.size = g at *
  refine (serial_c W7 _ [exA, exB] (arr2 (x := exA) (y := exB) b6.out (arr1 b0.out) (arr1 b2.out)) (by simp) 1 (by omega) (by omega) 2 0 (congrArg Prod.fst pl_AB) (congrArg Prod.snd pl_AB)).mono ?_
  rintro e1 w1 ⟨rfl, g1⟩
  have HG1 := As.mk (HG.out.trans g1)
  replace b0 := As.mk (b0.out.grown g1 (by simp))
  replace b1 := As.mk (b1.out.grown g1 (by simp))
  replace b4 := As.mk (b4.out.grown g1 (by simp))
  replace b5 := As.mk (b5.out.grown g1 (by simp))
  clear g1 HG b2 b3 b6
  have c0 := b1.out.cell 0
  have c1 := b1.out.cell 1
  have c2 := b1.out.cell 2
  have c3 := b1.out.cell 3
  have c4 := b1.out.cell 4
  have d0 := b5.out.cell 0
  have d1 := b5.out.cell 1
  have d2 := b5.out.cell 2
  have d3 := b5.out.cell 3
  have d4 := b5.out.cell 4
  simp only [List.getElem?_toArray, List.getElem?_cons_zero, List.getElem?_cons_succ] at c0 c1 c2 c3 c4 d0 d1 d2 d3 d4
  have HX := As.mk (gr_alloc (gr_refl w1 none) (.cells #[.int .i64 1, .int .i64 1, .int .i64 1, .slice (some ⟨g, 0, none⟩) 1 1, .int .i64 0, .int .i64 1, .int .i64 1, .int .i64 2, .slice (some ⟨g + 1 + 1 + 1 + 1, 0, none⟩) 1 1, .int .i64 0] 41))
  have b7 := As.mk (Blk.new w1 41 #[.int .i64 1, .int .i64 1, .int .i64 1, .slice (some ⟨g, 0, none⟩) 1 1, .int .i64 0, .int .i64 1, .int .i64 1, .int .i64 2, .slice (some ⟨g + 1 + 1 + 1 + 1, 0, none⟩) 1 1, .int .i64 0])
  go_wp2_with fail
  refine (serial_c _ _ [exA, exC] (arr2 (x := exA) (y := exC) b7.out (arr1 (b0.out.grown HX.out (by simp))) (arr1 (b4.out.grown HX.out (by simp)))) (by simp) 1 (by omega) (by omega) 1 13 (congrArg Prod.fst pl_AC) (congrArg Prod.snd pl_AC)).mono ?_
  rintro e2 w2 ⟨rfl, g2⟩
  have HE := As.mk (HG1.out.trans (HX.out.trans g2))
  clear g2 HG1 HX c0 c1 c2 c3 c4 d0 d1 d2 d3 d4
  go_wp2_with fail
  go_ret
  exact ⟨rfl, HE.out⟩
end Go.Proofs.YtpamncakhffnfaaGreat
