/- The walks of the document's nest's Write, and of its Saw that refuses. -/
import Derived.Test.YtggkejkleficoaaNrs
namespace Go.Proofs.Ytggkejkleficoaa
open Go.RowKit Go.Maps
set_option linter.unusedVariables false
set_option linter.unusedSimpArgs false

set_option maxRecDepth 100000 in
theorem saw_bad {w : World} {rb : Nat} (c ver a : Int) (h : cellOk c = false ∨ ver < 0 ∨ 1099511627776 < ver) :
    Calls Try.prog 18 #[NP rb, .int .i64 c, .int .i64 ver, .int .i64 a] w fun e w' => e = .returned (.int .i64 1) ∧ w' = w := by
  unfold NP
  by_cases h1 : c < 0
  · clear h
    go_enter Try.func18, Try.ntmps18
    go_wp2_with fail
    go_ret
    exact ⟨rfl, rfl⟩
  · by_cases h2 : 15 < c
    · clear h
      go_enter Try.func18, Try.ntmps18
      go_wp2_with fail
      go_ret
      exact ⟨rfl, rfl⟩
    · by_cases h3 : ver < 0
      · clear h
        go_enter Try.func18, Try.ntmps18
        go_wp2_with fail
        go_ret
        exact ⟨rfl, rfl⟩
      · have h4 : 1099511627776 < ver := by
          rcases h with q | q | q
          · unfold cellOk at q; simp at q; omega
          · omega
          · exact q
        clear h
        go_enter Try.func18, Try.ntmps18
        go_wp2_with fail
        go_ret
        exact ⟨rfl, rfl⟩
set_option maxRecDepth 100000 in
theorem saw_there {w : World} {B rb : Nat} {G : Nat → Prop} {Rs : List PIt} {Ls : List (List PPr)} (h : RefAt w B rb G Rs Ls) (hl : Rs.length ≤ 100000) (c ver a : Int) (hc : 0 ≤ c ∧ c ≤ 15 ∧ 0 ≤ ver ∧ ver ≤ 1099511627776) (hno : ∃ x ∈ Rs, x.c = c) :
    Calls Try.prog 18 #[NP rb, .int .i64 c, .int .i64 ver, .int .i64 a] w fun e w' => e = .returned (.int .i64 9) ∧ w' = w := by
  have HH := As.mk h
  have hc1 : ¬ c < 0 := by omega
  have hc2 : ¬ 15 < c := by omega
  have hc3 : ¬ ver < 0 := by omega
  have hc4 : ¬ 1099511627776 < ver := by omega
  have HNO := As.mk hno
  clear h hc hno
  unfold NP
  go_enter Try.func18, Try.ntmps18
  go_wp2_with fail
  refine (at_r HH.out (by omega) c).mono ?_
  rintro e w1 ⟨⟨r, rfl, hA⟩, rfl⟩
  have hr : ¬ r < 0 ∧ 0 ≤ r := by
    rcases hA with ⟨i, x, rfl, hi, hx⟩ | ⟨h1, h2⟩
    · omega
    · obtain ⟨x, hx, he⟩ := HNO.out
      exact absurd he (h2 x hx)
  obtain ⟨hr0, hr1⟩ := hr
  clear hA
  go_wp2_with fail
  go_ret
  exact ⟨rfl, rfl⟩
set_option maxRecDepth 100000 in
theorem write_bad {w : World} {rb : Nat} (c a : Int) (h : cellOk c = false) :
    Calls Try.prog 19 #[NP rb, .int .i64 c, .int .i64 a] w fun e w' => e = .returned (.int .i64 1) ∧ w' = w := by
  unfold NP
  by_cases h1 : c < 0
  · clear h
    go_enter Try.func19, Try.ntmps19
    go_wp2_with fail
    go_ret
    exact ⟨rfl, rfl⟩
  · have h2 : 15 < c := by unfold cellOk at h; simp at h; omega
    clear h
    go_enter Try.func19, Try.ntmps19
    go_wp2_with fail
    go_ret
    exact ⟨rfl, rfl⟩
set_option maxRecDepth 100000 in
theorem write_no {w : World} {B rb : Nat} {G : Nat → Prop} {Rs : List PIt} {Ls : List (List PPr)} (h : RefAt w B rb G Rs Ls) (hl : Rs.length ≤ 100000) (c a : Int) (hc : 0 ≤ c ∧ c ≤ 15) (hno : ∀ x ∈ Rs, x.c ≠ c) :
    Calls Try.prog 19 #[NP rb, .int .i64 c, .int .i64 a] w fun e w' => e = .returned (.int .i64 16) ∧ w' = w := by
  have HH := As.mk h
  have hc1 : ¬ c < 0 := by omega
  have hc2 : ¬ 15 < c := by omega
  have HNO := As.mk hno
  clear h hc hno
  unfold NP
  go_enter Try.func19, Try.ntmps19
  go_wp2_with fail
  refine (at_r HH.out (by omega) c).mono ?_
  rintro e w1 ⟨⟨r, rfl, hA⟩, rfl⟩
  obtain rfl : r = -1 := by
    rcases hA with ⟨i, x, _, hi, hx⟩ | ⟨h1, _⟩
    · exact absurd hx (HNO.out x (List.mem_of_getElem? hi))
    · exact h1
  clear hA
  go_wp2_with fail
  go_ret
  exact ⟨rfl, rfl⟩
set_option maxRecDepth 100000 in
set_option maxHeartbeats 12800000 in
theorem write_r {w : World} {B rb : Nat} {G : Nat → Prop} {Rs : List PIt} {ini : List (List PPr)} {L : List PPr} (h : RefAt w B rb G Rs (ini ++ [L])) (hB : B ≤ w.heap.size) (hl : Rs.length ≤ 100000) (hl2 : ini.length ≤ 5) (hL : L.length ≤ 100000) (c a : Int) (hc : 0 ≤ c ∧ c ≤ 15) (hno : ∃ x ∈ Rs, x.c = c) :
    Calls Try.prog 19 #[NP rb, .int .i64 c, .int .i64 a] w fun e w' => e = .returned (.int .i64 0) ∧ ∃ G', RefAt w' B rb G' Rs (ini ++ [L ++ [⟨c, a⟩]]) ∧ NG w w' G G' := by
  obtain ⟨i1, hj, hy0, hy1, hy2⟩ := info_parts infoPair
  have HJ := As.mk (And.intro hj (And.intro hy0 (And.intro hy1 hy2)))
  clear hj hy0 hy1 hy2
  have HH := As.mk (And.intro h hB)
  have hc1 : ¬ c < 0 := by omega
  have hc2 : ¬ 15 < c := by omega
  have HNO := As.mk hno
  clear h hB hc hno
  unfold NP
  go_enter Try.func19, Try.ntmps19
  go_wp2_with fail
  refine (at_r HH.out.1 (by omega) c).mono ?_
  rintro e wr ⟨⟨r, rfl, hA⟩, rfl⟩
  have hr : ¬ r < 0 ∧ 0 ≤ r := by
    rcases hA with ⟨i, x, rfl, hi, hx⟩ | ⟨h1, h2⟩
    · omega
    · obtain ⟨x, hx, he⟩ := HNO.out
      exact absurd he (h2 x hx)
  obtain ⟨hr0, hr1⟩ := hr
  clear hA
  obtain ⟨v0, v1, vs, hW, hG, hlo⟩ := HH.out.1
  have c1 := hW.blk.cell 1
  have hlen : vs.length = ini.length + 1 := by rw [hW.len]; simp
  obtain ⟨g, cap, rfl⟩ := own_some hW.outer (by omega)
  rw [hlen] at c1
  have hvl : ini.length < vs.length := by omega
  have hM := hW.inner ini.length vs[ini.length] L (List.getElem?_eq_getElem hvl) (by rw [List.getElem?_append_right (Nat.le_refl _)]; simp)
  have d0 : wr.cell? ⟨g, ini.length, none⟩ = some vs[ini.length] := own_cellAt hW.outer _ _ (List.getElem?_eq_getElem hvl)
  have hO6 := hW.outer
  rw [hlen] at hO6 hW hG
  generalize vs[ini.length] = vm at *
  obtain ⟨Am, capm, rfl⟩ := own_shape hM
  have HO6 := As.mk hO6
  have HW := As.mk (And.intro hW hG)
  have HM := As.mk hM
  have hvl6 := As.mk hlen
  have HS0 := As.mk (show ∀ {w' : World}, wr.grownBy w' none → w'.cell? ⟨rb, 1, none⟩ = some (.slice (some ⟨g, 0, none⟩) (ini.length + 1) cap) ∧ w'.cell? ⟨g, ini.length, none⟩ = some (.slice Am L.length capm) from fun hg => ⟨hg.cell c1 (by simp), hg.cell d0 (by simp)⟩)
  have hnw : IntKind.i64.wrap (ini.length : Int) = (ini.length : Int) := by simp [IntKind.wrap, IntKind.bits, IntKind.signed]; omega
  have hnl : (ini.length : Int) < (ini.length : Int) + 1 := by omega
  have hn1 : (0 : Int) ≤ (ini.length : Int) := by omega
  clear hW hG hlo hM hO6 hvl hlen
  go_wp2_with fail
  refine wp_region_noPanic ?_
  refine wp_region_D (S := fun w' => w'.cell? ⟨rb, 1, none⟩ = some (.slice (some ⟨g, 0, none⟩) (ini.length + 1) cap) ∧ w'.cell? ⟨g, ini.length, none⟩ = some (.slice Am L.length capm)) 20 (by kernel_rfl) (HS0.out (gr_drew (gr_refl wr none))) (fun _ => ?_)
  have HG := As.mk (show wr.grownBy wr.drew none from gr_drew (gr_refl _ _))
  generalize wr.drew = W7 at *
  refine wpAnyD_take (i := 0) (v := ?v0w) rfl rfl (by kernel_rfl) (by kernel_rfl) (by kernel_rfl) (by kernel_rfl) (fun _ _ _ h => h) (Or.inl ⟨by rfl, ?y0w⟩) (HS0.out HG.out) ?r0w
  case y0w => (intro w0_ hs_; have hs1_ := hs_.1; have hs2_ := hs_.2; go_simp; try with_reducible rfl)
  try simp only [List.getElem_toArray, List.getElem_cons_zero, List.getElem_cons_succ, Act.put, List.setIfInBounds_toArray, List.set_cons_zero, List.set_cons_succ]
  refine wpAnyD_take (i := 1) (v := ?v1w) rfl rfl (by kernel_rfl) (by kernel_rfl) (by kernel_rfl) (by kernel_rfl) (fun _ _ _ h => h) (Or.inl ⟨by rfl, ?y1w⟩) (HS0.out HG.out) ?r1w
  case y1w => (intro w0_ hs_; have hs1_ := hs_.1; have hs2_ := hs_.2; go_simp; try with_reducible rfl)
  try simp only [List.getElem_toArray, List.getElem_cons_zero, List.getElem_cons_succ, Act.put, List.setIfInBounds_toArray, List.set_cons_zero, List.set_cons_succ]
  refine wpAnyD_take (i := 2) (v := ?v2w) rfl rfl (by kernel_rfl) (by kernel_rfl) (by kernel_rfl) (by kernel_rfl) (fun _ _ _ h => h) (Or.inl ⟨by rfl, ?y2w⟩) (HS0.out HG.out) ?r2w
  case y2w => (intro w0_ hs_; have hs1_ := hs_.1; have hs2_ := hs_.2; go_simp; try with_reducible rfl)
  try simp only [List.getElem_toArray, List.getElem_cons_zero, List.getElem_cons_succ, Act.put, List.setIfInBounds_toArray, List.set_cons_zero, List.set_cons_succ]
  refine wpAnyD_take (i := 3) (v := ?v3w) rfl rfl (by kernel_rfl) (by kernel_rfl) (by kernel_rfl) (by kernel_rfl) (fun _ _ _ h => h) (Or.inl ⟨by rfl, ?y3w⟩) (HS0.out HG.out) ?r3w
  case y3w => (intro w0_ hs_; have hs1_ := hs_.1; have hs2_ := hs_.2; go_simp; try with_reducible rfl)
  try simp only [List.getElem_toArray, List.getElem_cons_zero, List.getElem_cons_succ, Act.put, List.setIfInBounds_toArray, List.set_cons_zero, List.set_cons_succ]
  refine wpAnyD_take (i := 4) (v := ?v4w) rfl rfl (by kernel_rfl) (by kernel_rfl) (by kernel_rfl) (by kernel_rfl) (fun _ _ _ h => h) (Or.inl ⟨by rfl, ?y4w⟩) (HS0.out HG.out) ?r4w
  case y4w => (intro w0_ hs_; have hs1_ := hs_.1; have hs2_ := hs_.2; go_simp; try with_reducible rfl)
  try simp only [List.getElem_toArray, List.getElem_cons_zero, List.getElem_cons_succ, Act.put, List.setIfInBounds_toArray, List.set_cons_zero, List.set_cons_succ]
  refine wpAnyD_take (i := 6) (v := ?v6w) rfl rfl (by kernel_rfl) (by kernel_rfl) (by kernel_rfl) (by kernel_rfl) (fun _ _ _ h => h) (Or.inl ⟨by rfl, ?y6w⟩) (HS0.out HG.out) ?r6w
  case y6w => (intro w0_ hs_; have hs1_ := hs_.1; have hs2_ := hs_.2; go_simp; try with_reducible rfl)
  try simp only [List.getElem_toArray, List.getElem_cons_zero, List.getElem_cons_succ, Act.put, List.setIfInBounds_toArray, List.set_cons_zero, List.set_cons_succ]
  refine wpAnyD_take (i := 7) (v := ?v7w) rfl rfl (by kernel_rfl) (by kernel_rfl) (by kernel_rfl) (by kernel_rfl) (fun _ _ _ h => h) (Or.inl ⟨by rfl, ?y7w⟩) (HS0.out HG.out) ?r7w
  case y7w => (intro w0_ hs_; have hs1_ := hs_.1; have hs2_ := hs_.2; go_simp; try with_reducible rfl)
  try simp only [List.getElem_toArray, List.getElem_cons_zero, List.getElem_cons_succ, Act.put, List.setIfInBounds_toArray, List.set_cons_zero, List.set_cons_succ]
  refine wpAnyD_take (i := 8) (v := ?v8w) rfl rfl (by kernel_rfl) (by kernel_rfl) (by kernel_rfl) (by kernel_rfl) (fun _ _ _ h => h) (Or.inl ⟨by rfl, ?y8w⟩) (HS0.out HG.out) ?r8w
  case y8w => (intro w0_ hs_; have hs1_ := hs_.1; have hs2_ := hs_.2; go_simp; try with_reducible rfl)
  try simp only [List.getElem_toArray, List.getElem_cons_zero, List.getElem_cons_succ, Act.put, List.setIfInBounds_toArray, List.set_cons_zero, List.set_cons_succ]
  refine wpAnyD_take (i := 9) (v := ?v9w) rfl rfl (by kernel_rfl) (by kernel_rfl) (by kernel_rfl) (by kernel_rfl) (fun _ _ _ h => h) (Or.inl ⟨by rfl, ?y9w⟩) (HS0.out HG.out) ?r9w
  case y9w => (intro w0_ hs_; have hs1_ := hs_.1; have hs2_ := hs_.2; go_simp; try with_reducible rfl)
  try simp only [List.getElem_toArray, List.getElem_cons_zero, List.getElem_cons_succ, Act.put, List.setIfInBounds_toArray, List.set_cons_zero, List.set_cons_succ]
  refine wpAnyD_take (i := 10) (v := ?v10w) rfl rfl (by kernel_rfl) (by kernel_rfl) (by kernel_rfl) (by kernel_rfl) (fun _ _ _ h => h) (Or.inl ⟨by rfl, ?y10w⟩) (HS0.out HG.out) ?r10w
  case y10w => (intro w0_ hs_; have hs1_ := hs_.1; have hs2_ := hs_.2; go_simp; try with_reducible rfl)
  try simp only [List.getElem_toArray, List.getElem_cons_zero, List.getElem_cons_succ, Act.put, List.setIfInBounds_toArray, List.set_cons_zero, List.set_cons_succ]
  refine wpAnyD_take (i := 11) (v := ?v11w) rfl rfl (by kernel_rfl) (by kernel_rfl) (by kernel_rfl) (by kernel_rfl) (fun _ _ _ h => h) (Or.inl ⟨by rfl, ?y11w⟩) (HS0.out HG.out) ?r11w
  case y11w => (intro w0_ hs_; have hs1_ := hs_.1; have hs2_ := hs_.2; go_simp; try with_reducible rfl)
  try simp only [List.getElem_toArray, List.getElem_cons_zero, List.getElem_cons_succ, Act.put, List.setIfInBounds_toArray, List.set_cons_zero, List.set_cons_succ]
  refine wpAnyD_take (i := 12) (v := ?v12w) rfl rfl (by kernel_rfl) (by kernel_rfl) (by kernel_rfl) (by kernel_rfl) (fun _ _ _ h => h) (Or.inl ⟨by rfl, ?y12w⟩) (HS0.out HG.out) ?r12w
  case y12w => (intro w0_ hs_; have hs1_ := hs_.1; have hs2_ := hs_.2; go_simp; try with_reducible rfl)
  try simp only [List.getElem_toArray, List.getElem_cons_zero, List.getElem_cons_succ, Act.put, List.setIfInBounds_toArray, List.set_cons_zero, List.set_cons_succ]
  refine wpAnyD_take (i := 14) (v := ?v14w) rfl rfl (by kernel_rfl) (by kernel_rfl) (by kernel_rfl) (by kernel_rfl) (fun _ _ _ h => h) (Or.inl ⟨by rfl, ?y14w⟩) (HS0.out HG.out) ?r14w
  case y14w => (intro w0_ hs_; have hs1_ := hs_.1; have hs2_ := hs_.2; go_simp; try with_reducible rfl)
  try simp only [List.getElem_toArray, List.getElem_cons_zero, List.getElem_cons_succ, Act.put, List.setIfInBounds_toArray, List.set_cons_zero, List.set_cons_succ]
  refine wpAnyD_take (i := 15) (v := ?v15w) rfl rfl (by kernel_rfl) (by kernel_rfl) (by kernel_rfl) (by kernel_rfl) (fun _ _ _ h => h) (Or.inl ⟨by rfl, ?y15w⟩) (HS0.out HG.out) ?r15w
  case y15w => (intro w0_ hs_; have hs1_ := hs_.1; have hs2_ := hs_.2; go_simp; try with_reducible rfl)
  try simp only [List.getElem_toArray, List.getElem_cons_zero, List.getElem_cons_succ, Act.put, List.setIfInBounds_toArray, List.set_cons_zero, List.set_cons_succ]
  refine wpAnyD_take (i := 16) (v := ?v16w) rfl rfl (by kernel_rfl) (by kernel_rfl) (by kernel_rfl) (by kernel_rfl) (fun _ _ _ h => h) (Or.inl ⟨by rfl, ?y16w⟩) (HS0.out HG.out) ?r16w
  case y16w => (intro w0_ hs_; have hs1_ := hs_.1; have hs2_ := hs_.2; go_simp; try with_reducible rfl)
  try simp only [List.getElem_toArray, List.getElem_cons_zero, List.getElem_cons_succ, Act.put, List.setIfInBounds_toArray, List.set_cons_zero, List.set_cons_succ]
  refine wpAnyD_ready (rs := [5, 17]) (by kernel_rfl) (by simp) (AllReadyD.cons (i := 5) rfl (fun K hK => ?f5w) (AllReadyD.cons (i := 17) rfl (fun K hK => ?f17w) AllReadyD.nil))
  case f5w =>
    go_simp
    have nE := As.mk (show (W7.alloc (.cells #[] 69)).ownsRow wr.heap.size 69 2 (.slice (some ⟨W7.heap.size, 0, none⟩) 0 0) 0 [] from ⟨rfl, .inr ⟨W7.heap.size, 0, #[], rfl, HG.out.size, heap_alloc_new W7 _, Nat.le_refl _, by simp only [maxLen]; omega, rfl, rfl⟩⟩)
    have nG := As.mk (gr_alloc HG.out (.cells #[] 69))
    clear HG
    have HG := nG
    have HE := nE
    clear nG nE
    refine hK.out _ _ (fun _ => HS0.out HG.out) (fun _ => ?_)
    clear hK K
    try simp only [List.getElem_toArray, List.getElem_cons_zero, List.getElem_cons_succ, Act.put, List.setIfInBounds_toArray, List.set_cons_zero, List.set_cons_succ]
    have hlt1 := As.mk (show W7.heap.size < (W7.alloc (.cells #[] 69)).heap.size by simp)
    generalize W7.alloc (.cells #[] 69) = V5_ at *
    generalize W7.heap.size = ge at *
    refine wpAnyD_ready (rs := [13, 17]) (by kernel_rfl) (by simp) (AllReadyD.cons (i := 13) rfl (fun K hK => ?f13w5_) (AllReadyD.cons (i := 17) rfl (fun K hK => ?f17w5_) AllReadyD.nil))
    case f13w5_ =>
      refine step_append_any rfl _ _ _ rfl wr.heap.size 69 i1 _ 2 16 Try.underlying65 HJ.out.1 HJ.out.2.1 HJ.out.2.2.1 HJ.out.2.2.2 rfl (by omega) (.slice (some ⟨ge, 0, none⟩) 0 0) 0 [] rfl HE.out (.slice Am L.length capm) L.length (prCells L) rfl (own_src (own_gr0 HM.out HG.out) (prCells_one L)) ⟨_, _, rfl⟩ (by simp only [maxLen]; omega) (by omega) HG.out.size ?_
      intro va5_13_ V5_13_ hva hga _ hsm
      rw [Nat.zero_add, List.nil_append] at hva
      rw [Nat.zero_add] at hsm
      obtain ⟨q5_13_, r5_13_, rfl⟩ := hsm
      have nG := As.mk (gr_then HG.out hga (.inr (.inr (fun q hq => (HE.out.lt q hq).1))))
      clear HG
      have HG := nG
      clear nG hga
      have HA := As.mk hva
      clear HE hva
      refine hK.out _ _ (fun _ => HS0.out HG.out) (fun _ => ?_)
      clear hK K
      try simp only [List.getElem_toArray, List.getElem_cons_zero, List.getElem_cons_succ, Act.put, List.setIfInBounds_toArray, List.set_cons_zero, List.set_cons_succ]
      refine wpAnyD_ready (rs := [17]) (by kernel_rfl) (by simp) (AllReadyD.cons (i := 17) rfl (fun K hK => ?_) AllReadyD.nil)
      go_simp
      have nN := As.mk (Blk.new V5_13_ 69 #[.int .i64 c, .int .i64 a])
      have nG := As.mk (gr_alloc HG.out (.cells #[.int .i64 c, .int .i64 a] 69))
      have nA := As.mk (own_alloc' HA.out (.cells #[.int .i64 c, .int .i64 a] 69))
      clear HA
      have HA := nA
      clear nA
      clear HG
      have HG := nG
      have HN := nN
      clear nG nN
      refine hK.out _ _ (fun _ => HS0.out HG.out) (fun _ => ?_)
      clear hK K
      try simp only [List.getElem_toArray, List.getElem_cons_zero, List.getElem_cons_succ, Act.put, List.setIfInBounds_toArray, List.set_cons_zero, List.set_cons_succ]
      have hlt13 := As.mk (show V5_13_.heap.size < (V5_13_.alloc (.cells #[.int .i64 c, .int .i64 a] 69)).heap.size by simp)
      generalize V5_13_.alloc (.cells #[.int .i64 c, .int .i64 a] 69) = V5_13_17_ at *
      generalize V5_13_.heap.size = gn at *
      refine wpAnyD_ready (rs := [18]) (by kernel_rfl) (by simp) (AllReadyD.cons (i := 18) rfl (fun K hK => ?_) AllReadyD.nil)
      refine step_append_any rfl _ _ _ rfl wr.heap.size 69 i1 _ 2 16 Try.underlying65 HJ.out.1 HJ.out.2.1 HJ.out.2.2.1 HJ.out.2.2.2 rfl (by omega) (.slice (some ⟨q5_13_, 0, none⟩) L.length r5_13_) L.length (prCells L) rfl HA.out (.slice (some ⟨gn, 0, none⟩) 1 1) 1 [.int .i64 c, .int .i64 a] rfl (.inr ⟨⟨gn, 0, none⟩, 1, rfl, rfl, World.news_of_block (cs := #[.int .i64 c, .int .i64 a]) (t := 69) (fr := (0, 0)) HN.out, by simp [Value.oneCell']⟩) ⟨_, _, rfl⟩ (by simp only [maxLen]; omega) (by omega) HG.out.size ?_
      intro va5_13_17_18_ V5_13_17_18_ hva hga _ hsm
      obtain ⟨q5_13_17_18_, r5_13_17_18_, rfl⟩ := hsm
      have nG := As.mk (gr_then HG.out hga (.inr (.inr (fun q hq => (HA.out.lt q hq).1))))
      clear HG
      have HG := nG
      clear nG hga
      have HF3 := As.mk (show V5_13_17_18_.ownsRow wr.heap.size 69 2 (.slice (some ⟨q5_13_17_18_, 0, none⟩) (L.length + 1) r5_13_17_18_) (L ++ [⟨c, a⟩] : List PPr).length (prCells (L ++ [⟨c, a⟩])) from by
        rw [List.length_append, prCells_app]
        exact hva)
      clear HA HN hva
      refine hK.out _ _ (fun _ => HS0.out HG.out) (fun _ => ?_)
      clear hK K
      try simp only [List.getElem_toArray, List.getElem_cons_zero, List.getElem_cons_succ, Act.put, List.setIfInBounds_toArray, List.set_cons_zero, List.set_cons_succ]
      refine wpAnyD_ready (rs := [19]) (by kernel_rfl) (by simp) (AllReadyD.cons (i := 19) rfl (fun K hK => ?_) AllReadyD.nil)
      go_simp
      refine hK.out _ _ (fun _ => HS0.out HG.out) (fun _ => ?_)
      clear hK K
      try simp only [List.getElem_toArray, List.getElem_cons_zero, List.getElem_cons_succ, Act.put, List.setIfInBounds_toArray, List.set_cons_zero, List.set_cons_succ]
      refine wpAnyD_ready (rs := [20]) (by kernel_rfl) (by simp) (AllReadyD.cons (i := 20) rfl (fun K hK => ?_) AllReadyD.nil)
      have hc24 := HS0.out HG.out
      have hf24 := own_freeAt (own_gr0 HO6.out HG.out) ini.length
      have hc24a := hc24.2
      go_simp
      have hpl := RefW.putL (L' := L ++ [⟨c, a⟩]) (i := ini.length) HH.out.1 (by rw [hvl6.out]; exact HW.out.1) (by rw [hvl6.out]; exact HW.out.2) HH.out.2 HG.out (by rw [hvl6.out]; omega) HF3.out
      obtain ⟨G', hR', hN', -⟩ := hpl
      have HF := As.mk (And.intro hR' hN')
      clear hR' hN' hc24 hf24 hc24a
      refine hK.out _ _ (fun h => absurd rfl h) (fun _ => ?_)
      clear hK K
      try simp only [List.getElem_toArray, List.getElem_cons_zero, List.getElem_cons_succ, Act.put, List.setIfInBounds_toArray, List.set_cons_zero, List.set_cons_succ]
      refine wpAnyD_done (by kernel_rfl) ?_ _
      refine NoPanic.normal ?_
      go_wp2_with fail
      have hset : (ini ++ [L]).set ini.length (L ++ [⟨c, a⟩]) = ini ++ [L ++ [⟨c, a⟩]] := by simp
      rw [hset] at HF
      go_ret
      exact ⟨rfl, G', HF.out.1, HF.out.2⟩
    case f17w5_ =>
      go_simp
      have nN := As.mk (Blk.new V5_ 69 #[.int .i64 c, .int .i64 a])
      have nG := As.mk (gr_alloc HG.out (.cells #[.int .i64 c, .int .i64 a] 69))
      have nE := As.mk (own_alloc' HE.out (.cells #[.int .i64 c, .int .i64 a] 69))
      clear HE
      have HE := nE
      clear nE
      clear HG
      have HG := nG
      have HN := nN
      clear nG nN
      refine hK.out _ _ (fun _ => HS0.out HG.out) (fun _ => ?_)
      clear hK K
      try simp only [List.getElem_toArray, List.getElem_cons_zero, List.getElem_cons_succ, Act.put, List.setIfInBounds_toArray, List.set_cons_zero, List.set_cons_succ]
      have hne13 := As.mk (show some V5_.heap.size ≠ (Value.slice (some ⟨ge, 0, none⟩) 0 0).ownBlock from fun q => by have := hlt1.out; have q : V5_.heap.size = ge := Option.some.inj q; omega)
      have hlt13 := As.mk (show V5_.heap.size < (V5_.alloc (.cells #[.int .i64 c, .int .i64 a] 69)).heap.size by simp)
      generalize V5_.alloc (.cells #[.int .i64 c, .int .i64 a] 69) = V5_17_ at *
      generalize V5_.heap.size = gn at *
      refine wpAnyD_ready (rs := [13]) (by kernel_rfl) (by simp) (AllReadyD.cons (i := 13) rfl (fun K hK => ?_) AllReadyD.nil)
      refine step_append_any rfl _ _ _ rfl wr.heap.size 69 i1 _ 2 16 Try.underlying65 HJ.out.1 HJ.out.2.1 HJ.out.2.2.1 HJ.out.2.2.2 rfl (by omega) (.slice (some ⟨ge, 0, none⟩) 0 0) 0 [] rfl HE.out (.slice Am L.length capm) L.length (prCells L) rfl (own_src (own_gr0 HM.out HG.out) (prCells_one L)) ⟨_, _, rfl⟩ (by simp only [maxLen]; omega) (by omega) HG.out.size ?_
      intro va5_17_13_ V5_17_13_ hva hga _ hsm
      rw [Nat.zero_add, List.nil_append] at hva
      rw [Nat.zero_add] at hsm
      obtain ⟨q5_17_13_, r5_17_13_, rfl⟩ := hsm
      have nG := As.mk (gr_then HG.out hga (.inr (.inr (fun q hq => (HE.out.lt q hq).1))))
      have nN := As.mk (HN.out.grown hga (fun q => hne13.out q))
      clear HN
      have HN := nN
      clear nN
      clear HG
      have HG := nG
      clear nG hga
      have HA := As.mk hva
      clear HE hva
      refine hK.out _ _ (fun _ => HS0.out HG.out) (fun _ => ?_)
      clear hK K
      try simp only [List.getElem_toArray, List.getElem_cons_zero, List.getElem_cons_succ, Act.put, List.setIfInBounds_toArray, List.set_cons_zero, List.set_cons_succ]
      refine wpAnyD_ready (rs := [18]) (by kernel_rfl) (by simp) (AllReadyD.cons (i := 18) rfl (fun K hK => ?_) AllReadyD.nil)
      refine step_append_any rfl _ _ _ rfl wr.heap.size 69 i1 _ 2 16 Try.underlying65 HJ.out.1 HJ.out.2.1 HJ.out.2.2.1 HJ.out.2.2.2 rfl (by omega) (.slice (some ⟨q5_17_13_, 0, none⟩) L.length r5_17_13_) L.length (prCells L) rfl HA.out (.slice (some ⟨gn, 0, none⟩) 1 1) 1 [.int .i64 c, .int .i64 a] rfl (.inr ⟨⟨gn, 0, none⟩, 1, rfl, rfl, World.news_of_block (cs := #[.int .i64 c, .int .i64 a]) (t := 69) (fr := (0, 0)) HN.out, by simp [Value.oneCell']⟩) ⟨_, _, rfl⟩ (by simp only [maxLen]; omega) (by omega) HG.out.size ?_
      intro va5_17_13_18_ V5_17_13_18_ hva hga _ hsm
      obtain ⟨q5_17_13_18_, r5_17_13_18_, rfl⟩ := hsm
      have nG := As.mk (gr_then HG.out hga (.inr (.inr (fun q hq => (HA.out.lt q hq).1))))
      clear HG
      have HG := nG
      clear nG hga
      have HF3 := As.mk (show V5_17_13_18_.ownsRow wr.heap.size 69 2 (.slice (some ⟨q5_17_13_18_, 0, none⟩) (L.length + 1) r5_17_13_18_) (L ++ [⟨c, a⟩] : List PPr).length (prCells (L ++ [⟨c, a⟩])) from by
        rw [List.length_append, prCells_app]
        exact hva)
      clear HA HN hva
      refine hK.out _ _ (fun _ => HS0.out HG.out) (fun _ => ?_)
      clear hK K
      try simp only [List.getElem_toArray, List.getElem_cons_zero, List.getElem_cons_succ, Act.put, List.setIfInBounds_toArray, List.set_cons_zero, List.set_cons_succ]
      refine wpAnyD_ready (rs := [19]) (by kernel_rfl) (by simp) (AllReadyD.cons (i := 19) rfl (fun K hK => ?_) AllReadyD.nil)
      go_simp
      refine hK.out _ _ (fun _ => HS0.out HG.out) (fun _ => ?_)
      clear hK K
      try simp only [List.getElem_toArray, List.getElem_cons_zero, List.getElem_cons_succ, Act.put, List.setIfInBounds_toArray, List.set_cons_zero, List.set_cons_succ]
      refine wpAnyD_ready (rs := [20]) (by kernel_rfl) (by simp) (AllReadyD.cons (i := 20) rfl (fun K hK => ?_) AllReadyD.nil)
      have hc24 := HS0.out HG.out
      have hf24 := own_freeAt (own_gr0 HO6.out HG.out) ini.length
      have hc24a := hc24.2
      go_simp
      have hpl := RefW.putL (L' := L ++ [⟨c, a⟩]) (i := ini.length) HH.out.1 (by rw [hvl6.out]; exact HW.out.1) (by rw [hvl6.out]; exact HW.out.2) HH.out.2 HG.out (by rw [hvl6.out]; omega) HF3.out
      obtain ⟨G', hR', hN', -⟩ := hpl
      have HF := As.mk (And.intro hR' hN')
      clear hR' hN' hc24 hf24 hc24a
      refine hK.out _ _ (fun h => absurd rfl h) (fun _ => ?_)
      clear hK K
      try simp only [List.getElem_toArray, List.getElem_cons_zero, List.getElem_cons_succ, Act.put, List.setIfInBounds_toArray, List.set_cons_zero, List.set_cons_succ]
      refine wpAnyD_done (by kernel_rfl) ?_ _
      refine NoPanic.normal ?_
      go_wp2_with fail
      have hset : (ini ++ [L]).set ini.length (L ++ [⟨c, a⟩]) = ini ++ [L ++ [⟨c, a⟩]] := by simp
      rw [hset] at HF
      go_ret
      exact ⟨rfl, G', HF.out.1, HF.out.2⟩
  case f17w =>
    go_simp
    have nN := As.mk (Blk.new W7 69 #[.int .i64 c, .int .i64 a])
    have nG := As.mk (gr_alloc HG.out (.cells #[.int .i64 c, .int .i64 a] 69))
    clear HG
    have HG := nG
    have HN := nN
    clear nG nN
    refine hK.out _ _ (fun _ => HS0.out HG.out) (fun _ => ?_)
    clear hK K
    try simp only [List.getElem_toArray, List.getElem_cons_zero, List.getElem_cons_succ, Act.put, List.setIfInBounds_toArray, List.set_cons_zero, List.set_cons_succ]
    have hlt13 := As.mk (show W7.heap.size < (W7.alloc (.cells #[.int .i64 c, .int .i64 a] 69)).heap.size by simp)
    generalize W7.alloc (.cells #[.int .i64 c, .int .i64 a] 69) = V17_ at *
    generalize W7.heap.size = gn at *
    refine wpAnyD_ready (rs := [5]) (by kernel_rfl) (by simp) (AllReadyD.cons (i := 5) rfl (fun K hK => ?_) AllReadyD.nil)
    go_simp
    have nE := As.mk (show (V17_.alloc (.cells #[] 69)).ownsRow wr.heap.size 69 2 (.slice (some ⟨V17_.heap.size, 0, none⟩) 0 0) 0 [] from ⟨rfl, .inr ⟨V17_.heap.size, 0, #[], rfl, HG.out.size, heap_alloc_new V17_ _, Nat.le_refl _, by simp only [maxLen]; omega, rfl, rfl⟩⟩)
    have nG := As.mk (gr_alloc HG.out (.cells #[] 69))
    have nN := As.mk (HN.out.alloc (.cells #[] 69))
    clear HN
    have HN := nN
    clear nN
    clear HG
    have HG := nG
    have HE := nE
    clear nG nE
    refine hK.out _ _ (fun _ => HS0.out HG.out) (fun _ => ?_)
    clear hK K
    try simp only [List.getElem_toArray, List.getElem_cons_zero, List.getElem_cons_succ, Act.put, List.setIfInBounds_toArray, List.set_cons_zero, List.set_cons_succ]
    have hne13 := As.mk (show some gn ≠ (Value.slice (some ⟨V17_.heap.size, 0, none⟩) 0 0).ownBlock from fun q => by have := hlt13.out; have q : gn = V17_.heap.size := Option.some.inj q; omega)
    have hlt1 := As.mk (show V17_.heap.size < (V17_.alloc (.cells #[] 69)).heap.size by simp)
    generalize V17_.alloc (.cells #[] 69) = V17_5_ at *
    generalize V17_.heap.size = ge at *
    refine wpAnyD_ready (rs := [13]) (by kernel_rfl) (by simp) (AllReadyD.cons (i := 13) rfl (fun K hK => ?_) AllReadyD.nil)
    refine step_append_any rfl _ _ _ rfl wr.heap.size 69 i1 _ 2 16 Try.underlying65 HJ.out.1 HJ.out.2.1 HJ.out.2.2.1 HJ.out.2.2.2 rfl (by omega) (.slice (some ⟨ge, 0, none⟩) 0 0) 0 [] rfl HE.out (.slice Am L.length capm) L.length (prCells L) rfl (own_src (own_gr0 HM.out HG.out) (prCells_one L)) ⟨_, _, rfl⟩ (by simp only [maxLen]; omega) (by omega) HG.out.size ?_
    intro va17_5_13_ V17_5_13_ hva hga _ hsm
    rw [Nat.zero_add, List.nil_append] at hva
    rw [Nat.zero_add] at hsm
    obtain ⟨q17_5_13_, r17_5_13_, rfl⟩ := hsm
    have nG := As.mk (gr_then HG.out hga (.inr (.inr (fun q hq => (HE.out.lt q hq).1))))
    have nN := As.mk (HN.out.grown hga (fun q => hne13.out q))
    clear HN
    have HN := nN
    clear nN
    clear HG
    have HG := nG
    clear nG hga
    have HA := As.mk hva
    clear HE hva
    refine hK.out _ _ (fun _ => HS0.out HG.out) (fun _ => ?_)
    clear hK K
    try simp only [List.getElem_toArray, List.getElem_cons_zero, List.getElem_cons_succ, Act.put, List.setIfInBounds_toArray, List.set_cons_zero, List.set_cons_succ]
    refine wpAnyD_ready (rs := [18]) (by kernel_rfl) (by simp) (AllReadyD.cons (i := 18) rfl (fun K hK => ?_) AllReadyD.nil)
    refine step_append_any rfl _ _ _ rfl wr.heap.size 69 i1 _ 2 16 Try.underlying65 HJ.out.1 HJ.out.2.1 HJ.out.2.2.1 HJ.out.2.2.2 rfl (by omega) (.slice (some ⟨q17_5_13_, 0, none⟩) L.length r17_5_13_) L.length (prCells L) rfl HA.out (.slice (some ⟨gn, 0, none⟩) 1 1) 1 [.int .i64 c, .int .i64 a] rfl (.inr ⟨⟨gn, 0, none⟩, 1, rfl, rfl, World.news_of_block (cs := #[.int .i64 c, .int .i64 a]) (t := 69) (fr := (0, 0)) HN.out, by simp [Value.oneCell']⟩) ⟨_, _, rfl⟩ (by simp only [maxLen]; omega) (by omega) HG.out.size ?_
    intro va17_5_13_18_ V17_5_13_18_ hva hga _ hsm
    obtain ⟨q17_5_13_18_, r17_5_13_18_, rfl⟩ := hsm
    have nG := As.mk (gr_then HG.out hga (.inr (.inr (fun q hq => (HA.out.lt q hq).1))))
    clear HG
    have HG := nG
    clear nG hga
    have HF3 := As.mk (show V17_5_13_18_.ownsRow wr.heap.size 69 2 (.slice (some ⟨q17_5_13_18_, 0, none⟩) (L.length + 1) r17_5_13_18_) (L ++ [⟨c, a⟩] : List PPr).length (prCells (L ++ [⟨c, a⟩])) from by
      rw [List.length_append, prCells_app]
      exact hva)
    clear HA HN hva
    refine hK.out _ _ (fun _ => HS0.out HG.out) (fun _ => ?_)
    clear hK K
    try simp only [List.getElem_toArray, List.getElem_cons_zero, List.getElem_cons_succ, Act.put, List.setIfInBounds_toArray, List.set_cons_zero, List.set_cons_succ]
    refine wpAnyD_ready (rs := [19]) (by kernel_rfl) (by simp) (AllReadyD.cons (i := 19) rfl (fun K hK => ?_) AllReadyD.nil)
    go_simp
    refine hK.out _ _ (fun _ => HS0.out HG.out) (fun _ => ?_)
    clear hK K
    try simp only [List.getElem_toArray, List.getElem_cons_zero, List.getElem_cons_succ, Act.put, List.setIfInBounds_toArray, List.set_cons_zero, List.set_cons_succ]
    refine wpAnyD_ready (rs := [20]) (by kernel_rfl) (by simp) (AllReadyD.cons (i := 20) rfl (fun K hK => ?_) AllReadyD.nil)
    have hc24 := HS0.out HG.out
    have hf24 := own_freeAt (own_gr0 HO6.out HG.out) ini.length
    have hc24a := hc24.2
    go_simp
    have hpl := RefW.putL (L' := L ++ [⟨c, a⟩]) (i := ini.length) HH.out.1 (by rw [hvl6.out]; exact HW.out.1) (by rw [hvl6.out]; exact HW.out.2) HH.out.2 HG.out (by rw [hvl6.out]; omega) HF3.out
    obtain ⟨G', hR', hN', -⟩ := hpl
    have HF := As.mk (And.intro hR' hN')
    clear hR' hN' hc24 hf24 hc24a
    refine hK.out _ _ (fun h => absurd rfl h) (fun _ => ?_)
    clear hK K
    try simp only [List.getElem_toArray, List.getElem_cons_zero, List.getElem_cons_succ, Act.put, List.setIfInBounds_toArray, List.set_cons_zero, List.set_cons_succ]
    refine wpAnyD_done (by kernel_rfl) ?_ _
    refine NoPanic.normal ?_
    go_wp2_with fail
    have hset : (ini ++ [L]).set ini.length (L ++ [⟨c, a⟩]) = ini ++ [L ++ [⟨c, a⟩]] := by simp
    rw [hset] at HF
    go_ret
    exact ⟨rfl, G', HF.out.1, HF.out.2⟩
end Go.Proofs.Ytggkejkleficoaa
