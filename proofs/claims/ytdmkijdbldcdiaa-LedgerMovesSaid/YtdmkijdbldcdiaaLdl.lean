/- The walks of slices.Delete of one element over rows of structs. (Printed by wip/gen/gen_ld.py.) -/
import Derived.Test.YtdmkijdbldcdiaaLk
import Derived.Test.YtdmkijdbldcdiaaLc
import Derived.Deep.RegionLaw
namespace Go.Proofs.Ytdmkijdbldcdiaa
open Go.RowKit
set_option linter.unusedVariables false
set_option linter.unusedSimpArgs false
set_option maxRecDepth 100000

/-- What Delete leaves. -/
def DelPost (w : World) (base : Nat) (t : TypeId) (s gb cap m : Nat) (xs : List Value) (e : Ending) (w' : World) : Prop :=
  e = .returned (.slice (some ⟨gb, 0, none⟩) m cap) ∧ w'.ownsRow base t s (.slice (some ⟨gb, 0, none⟩) m cap) m xs ∧ w.grownBy w' (some gb)
set_option maxHeartbeats 3200000 in
theorem delPr_c (w : World) (base : Nat) (gb cap m i : Nat) (F : List Value) (hown : w.ownsRow base 60 5 (.slice (some ⟨gb, 0, none⟩) (m + 1) cap) (m + 1) F) (h1 : ∀ u ∈ F, u.oneCell' = true) (hi : i ≤ m) (hn : m ≤ 1000) :
    Calls Try.prog 80 #[.slice (some ⟨gb, 0, none⟩) (m + 1) cap, .int .i64 (i : Int), .int .i64 ((i : Int) + 1)] w (DelPost w base 60 5 gb cap m (F.take (i * 5) ++ F.drop ((i + 1) * 5))) := by
  obtain ⟨i0, hi0, hz0, hz1, hz2⟩ := info_parts infoPr
  obtain ⟨rest, hW, hWl, hbs, hnc, hcm⟩ := own_whole hown
  have hF := hown.1
  have hcap63 : cap ≤ 9223372036854775807 := by simpa [maxLen] using hcm
  have HTL := As.mk (show (F.take (i * 5)).length = i * 5 by rw [List.length_take, hF]; omega)
  have HDL := As.mk (show (F.drop ((i + 1) * 5)).length = (m - i) * 5 by rw [List.length_drop, hF]; omega)
  have hsum : i * 5 + (m - i) * 5 = m * 5 := by omega
  have hnc2 : m * 5 + 1 * 5 ≤ cap * 5 := by omega
  have hfit : i * 5 + (F.drop ((i + 1) * 5)).length ≤ (F ++ rest).length := by rw [HDL.out, hWl]; omega
  have hone : ∀ u ∈ F.drop ((i + 1) * 5), u.oneCell' = true := fun u hu => h1 u (List.mem_of_mem_drop hu)
  have hrd : ∀ j u, (F.drop ((i + 1) * 5))[j]? = some u → w.cell? ⟨gb, (i + 1) * 5 + j, none⟩ = some u := fun j u hu => by
    rw [List.getElem?_drop] at hu
    exact own_cellAt hown _ u hu
  have HAP := As.mk (show ∀ (ad : Addr) (c : Nat), (0 < m - i → ad = ⟨gb, (i + 1) * 5, none⟩) → (Builtin.append_ #[28, 28] 28 #[.slice (some ⟨gb, 0, none⟩) i cap, .slice (some ad) (m - i) c]).run Try.prog w.drew = .ok (.slice (some ⟨gb, 0, none⟩) m cap) (w.drew.setRow gb (splice (F ++ rest) (i * 5) (F.drop ((i + 1) * 5))).toArray) from fun ad c had => by
    have := run_app_room Try.prog w.drew 28 28 60 i0 5 Try.underlying28 hi0 hz1 gb i cap (F ++ rest) hW.drew ad (m - i) c (F.drop ((i + 1) * 5)) HDL.out (fun j u hu => by
      have hj := (List.getElem?_eq_some_iff.1 hu).1
      rw [HDL.out] at hj
      rw [had (by omega), Addr.add_lit]
      exact hrd j u hu) hone (by omega) hfit
    rwa [show i + (m - i) = m by omega] at this)
  have HB1 := As.mk (hW.drew.setRow (splice (F ++ rest) (i * 5) (F.drop ((i + 1) * 5))).toArray)
  have HG1 := As.mk (gr_setRow (gr_drew (gr_refl w (some gb))) (.inl rfl) (splice (F ++ rest) (i * 5) (F.drop ((i + 1) * 5))).toArray)
  have HL1 := As.mk ((length_splice _ _ _ hfit).trans hWl)
  have HT1 := As.mk (show (splice (F ++ rest) (i * 5) (F.drop ((i + 1) * 5))).take (m * 5) = F.take (i * 5) ++ F.drop ((i + 1) * 5) by
    unfold splice
    rw [← List.append_assoc, List.take_append_of_le_length (by rw [List.length_append, List.length_take, hWl, HDL.out]; omega), List.take_of_length_le (by rw [List.length_append, List.length_take, hWl, HDL.out]; omega),
      List.take_append_of_le_length (by rw [hF]; omega)])
  have HW := As.mk (And.intro hbs (And.intro hnc (And.intro hcm (And.intro hsum hnc2))))
  generalize splice (F ++ rest) (i * 5) (F.drop ((i + 1) * 5)) = cur1 at *
  generalize w.drew.setRow gb cur1.toArray = W1 at *
  obtain ⟨zs, hzl, hclr⟩ := run_clearN Try.prog W1 28 0 60 i0 _ 5 Try.underlying28 hi0 hz0 rfl (by simp [Value.cells, Value.oneCell']) gb (m * 5) 1 (cap - m) (by omega) cur1 HB1.out (by rw [HL1.out]; exact hnc2)
  have HCL := As.mk hclr
  have hfz : m * 5 + zs.length ≤ cur1.length := by rw [HL1.out, hzl]; exact hnc2
  have HB2 := As.mk (HB1.out.setRow (splice cur1 (m * 5) zs).toArray)
  have HG2 := As.mk (gr_setRow HG1.out (.inl rfl) (splice cur1 (m * 5) zs).toArray)
  have HL2 := As.mk ((length_splice _ _ _ hfz).trans HL1.out)
  have HT2 := As.mk (show (splice cur1 (m * 5) zs).take (m * 5) = F.take (i * 5) ++ F.drop ((i + 1) * 5) by
    rw [← HT1.out]
    unfold splice
    rw [List.take_append_of_le_length (by rw [List.length_take]; omega), List.take_of_length_le (by rw [List.length_take]; omega)])
  generalize splice cur1 (m * 5) zs = cur2 at *
  generalize W1.setRow gb cur2.toArray = W2 at *
  clear hi0 hz0 hz1 hz2 hW hWl hbs hcm hown h1 hrd hone hfit hF hsum hnc2 hzl hfz hclr
  have x1 : ¬ ((i : Int) = (i : Int) + 1) := by omega
  have y1 : (i : Int) + 1 ≤ (m : Int) + 1 := by omega
  have y2 : (0 : Int) ≤ (i : Int) + 1 := by omega
  have y3 : ((i : Int) + 1).toNat = i + 1 := by omega
  have y4 : i ≤ m + 1 := by omega
  have y5 : (i : Int) ≤ (m : Int) + 1 := by omega
  have y6 : (i : Int) ≤ (i : Int) + 1 := by omega
  have y7 : ¬ cap = m := by omega
  have y8 : (i : Int) ≤ (cap : Int) := by omega
  by_cases hci : cap = i + 1
  · subst hci
    obtain rfl : m = i := by have := HW.out.2.1; omega
    have HAP0 := HAP.out ⟨gb, 0, none⟩ 0 (fun h => absurd h (by omega))
    rw [Nat.sub_self] at HAP0
    have HAP1 := As.mk HAP0
    clear HAP0
    rw [show m + 1 - m = 1 by omega] at HCL
    go_enter Try.func80, Try.ntmps80
    go_wp2_with fail
    refine wp_region_noPanic ?_
    refine wp_region_held_drew (S := fun w' => True) (by kernel_rfl) (trivial) (fun hS => ?_)
    refine wpAnyH_take (i := 0) (v := ?vb1) rfl (by kernel_rfl) (by kernel_rfl) (by kernel_rfl) (fun _ _ _ h => h) (Or.inl ⟨by rfl, ?yb1⟩) hS ?rb1
    case yb1 => (intro w0 _; go_simp; try with_reducible rfl)
    try simp only [yA, yB, yC, Act.put, yD, yE, yF]
    refine wpAnyH_take (i := 1) (v := ?vb2) rfl (by kernel_rfl) (by kernel_rfl) (by kernel_rfl) (fun _ _ _ h => h) (Or.inl ⟨by rfl, ?yb2⟩) hS ?rb2
    case yb2 => (intro w0 _; go_simp; try with_reducible rfl)
    try simp only [yA, yB, yC, Act.put, yD, yE, yF]
    refine wpAnyH_take (i := 2) (v := ?vb3) rfl (by kernel_rfl) (by kernel_rfl) (by kernel_rfl) (fun _ _ _ h => h) (Or.inl ⟨by rfl, ?yb3⟩) hS ?rb3
    case yb3 => (intro w0 _; go_simp; try with_reducible rfl)
    try simp only [yA, yB, yC, Act.put, yD, yE, yF]
    refine wpAnyH_take (i := 3) (v := ?vb4) rfl (by kernel_rfl) (by kernel_rfl) (by kernel_rfl) (fun _ _ _ h => h) (Or.inl ⟨by rfl, ?yb4⟩) hS ?rb4
    case yb4 => (intro w0 _; go_simp; try with_reducible rfl)
    try simp only [yA, yB, yC, Act.put, yD, yE, yF]
    refine wpAnyH_take (i := 4) (v := ?vb5) rfl (by kernel_rfl) (by kernel_rfl) (by kernel_rfl) (fun _ _ _ h => h) (Or.inl ⟨by rfl, ?yb5⟩) hS ?rb5
    case yb5 => (intro w0 _; go_simp; try with_reducible rfl)
    try simp only [yA, yB, yC, Act.put, yD, yE, yF]
    refine wpAnyH_take (i := 5) (v := ?vb6) rfl (by kernel_rfl) (by kernel_rfl) (by kernel_rfl) (fun _ _ _ h => h) (Or.inl ⟨by rfl, ?yb6⟩) hS ?rb6
    case yb6 => (intro w0 _; go_simp; try with_reducible rfl)
    try simp only [yA, yB, yC, Act.put, yD, yE, yF]
    refine wpAnyH_ready (rs := [6]) (by kernel_rfl) (by simp) (AllReadyH.cons (i := 6) rfl (fun K hK => ?_) AllReadyH.nil)
    refine step_appendN rfl _ _ _ _ rfl _ _ rfl rfl HAP1.out ?_
    refine hK.out _ _ (trivial) (fun hS => ?_)
    clear hK K
    try simp only [yA, yB, yC, Act.put, yD, yE, yF]
    refine wpAnyH_take (i := 7) (v := ?vb8) rfl (by kernel_rfl) (by kernel_rfl) (by kernel_rfl) (fun _ _ _ h => h) (Or.inl ⟨by rfl, ?yb8⟩) hS ?rb8
    case yb8 => (intro w0 _; go_simp; try with_reducible rfl)
    try simp only [yA, yB, yC, Act.put, yD, yE, yF]
    refine wpAnyH_done (by kernel_rfl) ?_ _
    refine NoPanic.normal ?_
    try simp only [Exit.then]
    clear hS
    go_wp2_with (refine wpList_clearN (by rfl) _ _ (by rfl) _ (by rfl) HCL.out ?_)
    go_ret
    have hB := HB2.out
    refine ⟨rfl, own_of_whole (rest := cur2.drop (m * 5)) ?_ ?_ ?_ HW.out.1 (by have := HW.out.2.1; omega) HW.out.2.2.1, HG2.out⟩
    · rw [← HT2.out, List.take_append_drop]
      exact hB
    · rw [List.length_append, HTL.out, HDL.out]; exact HW.out.2.2.2.1
    · rw [← HT2.out, List.take_append_drop]; exact HL2.out
  · have hci2 : ¬ cap = i := by omega
    go_enter Try.func80, Try.ntmps80
    go_wp2_with fail
    refine wp_region_noPanic ?_
    refine wp_region_held_drew (S := fun w' => True) (by kernel_rfl) (trivial) (fun hS => ?_)
    refine wpAnyH_take (i := 0) (v := ?va1) rfl (by kernel_rfl) (by kernel_rfl) (by kernel_rfl) (fun _ _ _ h => h) (Or.inl ⟨by rfl, ?ya1⟩) hS ?ra1
    case ya1 => (intro w0 _; go_simp; try with_reducible rfl)
    try simp only [yA, yB, yC, Act.put, yD, yE, yF]
    refine wpAnyH_take (i := 1) (v := ?va2) rfl (by kernel_rfl) (by kernel_rfl) (by kernel_rfl) (fun _ _ _ h => h) (Or.inl ⟨by rfl, ?ya2⟩) hS ?ra2
    case ya2 => (intro w0 _; go_simp; try with_reducible rfl)
    try simp only [yA, yB, yC, Act.put, yD, yE, yF]
    refine wpAnyH_take (i := 2) (v := ?va3) rfl (by kernel_rfl) (by kernel_rfl) (by kernel_rfl) (fun _ _ _ h => h) (Or.inl ⟨by rfl, ?ya3⟩) hS ?ra3
    case ya3 => (intro w0 _; go_simp; try with_reducible rfl)
    try simp only [yA, yB, yC, Act.put, yD, yE, yF]
    refine wpAnyH_take (i := 3) (v := ?va4) rfl (by kernel_rfl) (by kernel_rfl) (by kernel_rfl) (fun _ _ _ h => h) (Or.inl ⟨by rfl, ?ya4⟩) hS ?ra4
    case ya4 => (intro w0 _; go_simp; try with_reducible rfl)
    try simp only [yA, yB, yC, Act.put, yD, yE, yF]
    refine wpAnyH_take (i := 4) (v := ?va5) rfl (by kernel_rfl) (by kernel_rfl) (by kernel_rfl) (fun _ _ _ h => h) (Or.inl ⟨by rfl, ?ya5⟩) hS ?ra5
    case ya5 => (intro w0 _; go_simp; try with_reducible rfl)
    try simp only [yA, yB, yC, Act.put, yD, yE, yF]
    refine wpAnyH_take (i := 5) (v := ?va6) rfl (by kernel_rfl) (by kernel_rfl) (by kernel_rfl) (fun _ _ _ h => h) (Or.inl ⟨by rfl, ?ya6⟩) hS ?ra6
    case ya6 => (intro w0 _; go_simp; try with_reducible rfl)
    try simp only [yA, yB, yC, Act.put, yD, yE, yF]
    refine wpAnyH_ready (rs := [6]) (by kernel_rfl) (by simp) (AllReadyH.cons (i := 6) rfl (fun K hK => ?_) AllReadyH.nil)
    refine step_appendN rfl _ _ _ _ rfl _ _ rfl rfl (HAP.out _ _ (fun _ => rfl)) ?_
    refine hK.out _ _ (trivial) (fun hS => ?_)
    clear hK K
    try simp only [yA, yB, yC, Act.put, yD, yE, yF]
    refine wpAnyH_take (i := 7) (v := ?va8) rfl (by kernel_rfl) (by kernel_rfl) (by kernel_rfl) (fun _ _ _ h => h) (Or.inl ⟨by rfl, ?ya8⟩) hS ?ra8
    case ya8 => (intro w0 _; go_simp; try with_reducible rfl)
    try simp only [yA, yB, yC, Act.put, yD, yE, yF]
    refine wpAnyH_done (by kernel_rfl) ?_ _
    refine NoPanic.normal ?_
    try simp only [Exit.then]
    clear hS
    go_wp2_with (refine wpList_clearN (by rfl) _ _ (by rfl) _ (by rfl) HCL.out ?_)
    go_ret
    have hB := HB2.out
    refine ⟨rfl, own_of_whole (rest := cur2.drop (m * 5)) ?_ ?_ ?_ HW.out.1 (by have := HW.out.2.1; omega) HW.out.2.2.1, HG2.out⟩
    · rw [← HT2.out, List.take_append_drop]
      exact hB
    · rw [List.length_append, HTL.out, HDL.out]; exact HW.out.2.2.2.1
    · rw [← HT2.out, List.take_append_drop]; exact HL2.out
end Go.Proofs.Ytdmkijdbldcdiaa
