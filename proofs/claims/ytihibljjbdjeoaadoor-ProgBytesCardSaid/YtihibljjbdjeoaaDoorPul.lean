/- The walks of law 20's example and of ProgUnlike. -/
import Derived.Test.YtihibljjbdjeoaaDoorPu
namespace Go.Proofs.YtihibljjbdjeoaaDoor
open Go.RowKit
set_option linter.unusedVariables false

def exL : List POp := [⟨1, 3, 0, 0, 0⟩, ⟨6, 0, 0, 0, 0⟩, ⟨2, 3, 1, 0, 0⟩]
def exB : ByteArray := ⟨#[114, 101, 97, 100, 32, 114, 48, 32, 99, 51, 10, 110, 101, 101, 100, 32, 114, 48, 10, 119, 114, 105, 116, 101, 32, 99, 51, 32, 114, 49, 10]⟩
theorem exL_right : pRight exL = true := by decide
theorem exL_lines : linesS exL = exB := by
  have n0 : num 0 = ⟨#[48]⟩ := num_small 0 (by decide)
  have n1 : num 1 = ⟨#[49]⟩ := num_small 1 (by decide)
  have n3 : num 3 = ⟨#[51]⟩ := num_small 3 (by decide)
  have e1 : lineOf ⟨1, 3, 0, 0, 0⟩ = nameK 1 ++ regS 0 ++ celS 3 := rfl
  have e2 : lineOf ⟨6, 0, 0, 0, 0⟩ = nameK 6 ++ regS 0 := rfl
  have e3 : lineOf ⟨2, 3, 1, 0, 0⟩ = nameK 2 ++ celS 3 ++ regS 1 := rfl
  unfold linesS
  rw [if_pos exL_right]
  unfold linesB exL
  simp only [List.flatMap_cons, List.flatMap_nil, e1, e2, e3, regS, celS, n0, n1, n3]
  rfl
theorem exL_wf : ∀ x ∈ exL, OpWf x := by
  have z : In64' 0 := ⟨by decide, by decide⟩
  have o : In64' 1 := ⟨by decide, by decide⟩
  have t : In64' 3 := ⟨by decide, by decide⟩
  intro x hx
  simp only [exL, List.mem_cons, List.not_mem_nil, or_false] at hx
  rcases hx with rfl | rfl | rfl
  · exact ⟨t, z, z, z⟩
  · exact ⟨z, z, z, z⟩
  · exact ⟨t, o, z, z⟩
theorem ops_block {w : World} {g : Nat} {t : TypeId} {xs : List POp} (h : Blk w g t (opsCells xs).toArray) (hm : xs.length ≤ 1000) : Arr OpE 5 w (.slice (some ⟨g, 0, none⟩) xs.length xs.length) xs :=
  Arr.block h (Nat.le_refl _) (by omega) (fun j x hx => ⟨_, rfl, rfl, fun i u hu => by simpa using opsCells_at xs j x hx i u hu⟩)
set_option maxRecDepth 100000 in
set_option maxHeartbeats 3200000 in
theorem awake20 (w : World) (ht : Tab w) : Calls Tryd.prog 17 #[] w fun e w' => e = .returned (.bool true) ∧ w.grownBy w' none := by
  have HT := As.mk ht
  have HA := As.mk (ops_block (xs := exL) (Blk.new w 48 (opsCells exL).toArray) (by decide))
  have G0 := As.mk (gr_alloc (gr_refl w none) (.cells (opsCells exL).toArray 48))
  clear ht
  go_enter Tryd.func17, Tryd.ntmps17
  go_wp2_with fail
  refine (pRight_c _ exL _ HA.out _ exL_right).mono ?_
  rintro e w1 ⟨rfl, g1⟩
  have G1 := As.mk (gr_then G0.out g1 (.inl rfl))
  have HA1 := As.mk (HA.out.below g1 (fun _ _ => OpE.any _ _))
  clear g1
  go_wp2_with fail
  have HL := As.mk (lines_c _ exL w1 (HT.out.gr G1.out) HA1.out exL_wf)
  rw [exL_lines] at HL
  refine HL.out.mono ?_
  rintro e w2 ⟨rfl, g2⟩
  have G2 := As.mk (gr_then G1.out g2 (.inl rfl))
  clear g2
  unfold exB
  go_wp2_with fail
  go_ret
  exact ⟨rfl, G2.out⟩
set_option maxRecDepth 100000 in
set_option maxHeartbeats 6400000 in
theorem pul_walk (v1 v2 : Value) (a b : List POp) (w : World) (ht : Tab w) (ha : Arr OpE 5 w v1 a) (hb : Arr OpE 5 w v2 b) (wa : ∀ x ∈ a, OpWf x) (wb : ∀ x ∈ b, OpWf x) :
    Calls Tryd.prog 5 #[v1, v2] w fun e w' => e = .returned (.bool true) ∧ w.grownBy w' none := by
  obtain ⟨A1, c1, rfl⟩ := ha.len
  obtain ⟨A2, c2, rfl⟩ := hb.len
  have HT := As.mk ht
  have HA := As.mk ha
  have HB := As.mk hb
  have WA := As.mk wa
  have WB := As.mk wb
  clear ht ha hb wa wb
  go_enter Tryd.func5, Tryd.ntmps5
  go_upto_region 3 with (go_at_call 17; refine (awake20 _ HT.out).mono ?_; rintro e w1 ⟨rfl, hg⟩)
  have G := As.mk hg
  clear hg
  cases h1 : pRight a
  · go_wp2_with fail
    refine (pRight_c _ a _ (HA.out.below G.out (fun _ _ => OpE.any _ _)) _ h1).mono ?_
    rintro e w2 ⟨rfl, g2⟩
    have G2 := As.mk (gr_then G.out g2 (.inl rfl))
    clear g2
    go_wp2_with fail
    go_ret
    exact ⟨rfl, G2.out⟩
  · go_wp2_with fail
    refine (pRight_c _ a _ (HA.out.below G.out (fun _ _ => OpE.any _ _)) _ h1).mono ?_
    rintro e w2 ⟨rfl, g2⟩
    have G2 := As.mk (gr_then G.out g2 (.inl rfl))
    clear g2 G
    cases h2 : pRight b
    · go_wp2_with fail
      refine (pRight_c _ b _ (HB.out.below G2.out (fun _ _ => OpE.any _ _)) _ h2).mono ?_
      rintro e w3 ⟨rfl, g3⟩
      have G3 := As.mk (gr_then G2.out g3 (.inl rfl))
      clear g3
      go_wp2_with fail
      go_ret
      exact ⟨rfl, G3.out⟩
    · go_wp2_with fail
      refine (pRight_c _ b _ (HB.out.below G2.out (fun _ _ => OpE.any _ _)) _ h2).mono ?_
      rintro e w3 ⟨rfl, g3⟩
      have G3 := As.mk (gr_then G2.out g3 (.inl rfl))
      clear g3 G2
      go_wp2_with fail
      refine (lines_c _ a _ (HT.out.gr G3.out) (HA.out.below G3.out (fun _ _ => OpE.any _ _)) WA.out).mono ?_
      rintro e w4 ⟨rfl, g4⟩
      have G4 := As.mk (gr_then G3.out g4 (.inl rfl))
      clear g4 G3
      go_wp2_with fail
      refine (lines_c _ b _ (HT.out.gr G4.out) (HB.out.below G4.out (fun _ _ => OpE.any _ _)) WB.out).mono ?_
      rintro e w5 ⟨rfl, g5⟩
      have G5 := As.mk (gr_then G4.out g5 (.inl rfl))
      clear g5 G4
      have hla := (pRight_all h1).1
      have hlb := (pRight_all h2).1
      have HI := As.mk (linesS_iff h1 h2)
      go_wp2_with fail
      refine (plain20_walk _ a _ _ rfl (HA.out.below G5.out (fun _ _ => OpE.any _ _)) (by omega)).mono ?_
      rintro e w6 ⟨va, rfl, oa, g6⟩
      have G6 := As.mk (gr_then G5.out g6 (.inl rfl))
      have PA := As.mk (Arr.of_ops oa)
      obtain ⟨A3, c3, rfl⟩ := PA.out.len
      clear g6 G5 oa
      go_wp2_with fail
      refine (plain20_walk _ b _ _ rfl (HB.out.below G6.out (fun _ _ => OpE.any _ _)) (by omega)).mono ?_
      rintro e w7 ⟨vb, rfl, ob, g7⟩
      have G7 := As.mk (gr_then G6.out g7 (.inl rfl))
      have PB := As.mk (Arr.of_ops ob)
      have PA2 := As.mk (PA.out.below g7 (fun _ _ => OpE.any _ _))
      obtain ⟨A4, c4, rfl⟩ := PB.out.len
      clear g7 G6 ob PA
      go_wp2_with fail
      refine (same20_c _ _ a b _ PA2.out PB.out).mono ?_
      rintro e w8 ⟨rfl, nd, rfl⟩
      by_cases hab : a = b
      · subst hab
        have hs : sameOps a a = true := (sameOps_iff a a).2 rfl
        rw [hs]
        go_wp2_with fail
        go_ret
        exact ⟨by simp, gr_drewN G7.out _⟩
      · have hs : sameOps a b = false := by
          rw [← Bool.not_eq_true, sameOps_iff]
          exact hab
        have hl : ((linesS a).toList == (linesS b).toList) = false := by
          rw [beq_eq_false_iff_ne]
          intro h
          rw [ByteArray.toList_eq, ByteArray.toList_eq] at h
          exact hab (HI.out.1 (ByteArray.ext (Array.toList_inj.1 h)))
        rw [hs]
        go_wp2_with fail
        go_ret
        exact ⟨by simp, gr_drewN G7.out _⟩
end Go.Proofs.YtihibljjbdjeoaaDoor
