/- The walk of the document's nest's End. -/
import Derived.Test.YtggkejkleficoaaNrb
namespace Go.Proofs.Ytggkejkleficoaa
open Go.RowKit Go.Maps
set_option linter.unusedVariables false
set_option linter.unusedSimpArgs false

set_option maxRecDepth 100000 in
theorem end_one {w : World} {B rb : Nat} {G : Nat → Prop} {Rs : List PIt} {L : List PPr} (h : RefAt w B rb G Rs [L]) (b : Bool) :
    Calls Try.prog 21 #[NP rb, .bool b] w fun e w' => e = .returned (.int .i64 8) ∧ w' = w := by
  obtain ⟨v0, v1, vs, hW, hG, hlo⟩ := h
  have c1 := hW.blk.cell 1
  have hlen : vs.length = 1 := hW.len
  obtain ⟨A, cap, rfl⟩ := own_shape hW.outer
  rw [hlen] at c1
  clear hW hG hlo
  unfold NP
  go_enter Try.func21, Try.ntmps21
  go_wp2_with fail
  go_ret
  exact ⟨rfl, rfl⟩
set_option maxRecDepth 100000 in
set_option maxHeartbeats 6400000 in
theorem end_undo {w : World} {B rb : Nat} {G : Nat → Prop} {Rs : List PIt} {ini : List (List PPr)} {L : List PPr} (h : RefAt w B rb G Rs (ini ++ [L])) (hB : B ≤ w.heap.size) (hl : ini.length ≤ 5) (h0 : 0 < ini.length) :
    Calls Try.prog 21 #[NP rb, .bool false] w fun e w' => e = .returned (.int .i64 0) ∧ ∃ G', RefAt w' B rb G' Rs ini ∧ NG w w' G G' := by
  obtain ⟨i0, hi, hz0, hz1, hz2⟩ := info_parts infoPairs
  have HI := As.mk (And.intro hi (And.intro hz0 (And.intro hz1 hz2)))
  clear hi hz0 hz1 hz2
  have HH := As.mk (And.intro h hB)
  obtain ⟨v0, v1, vs, hW, hG, hlo⟩ := h
  have c1 := hW.blk.cell 1
  have hlen : vs.length = ini.length + 1 := by rw [hW.len]; simp
  obtain ⟨g, cap, rfl⟩ := own_some hW.outer (by omega)
  rw [hlen] at c1
  have hcap : ini.length + 1 ≤ cap := by
    rcases hW.outer.2 with ⟨q, _⟩ | ⟨g', cap', cur, q, _, _, h1, _⟩
    · cases q
    · injection q with _ _ q
      subst q
      omega
  have hvl : ini.length < vs.length := by omega
  have d0 : w.cell? ⟨g, ini.length, none⟩ = some vs[ini.length] := own_cellAt hW.outer _ _ (List.getElem?_eq_getElem hvl)
  have HW := As.mk (And.intro hW hG)
  generalize hvlast : vs[ini.length] = vl at *
  clear hW hG hlo hB hvlast
  unfold NP
  have O0 : (w.alloc (.cells #[] 65)).ownsRow w.heap.size 65 1 (.slice (some ⟨w.heap.size, 0, none⟩) 0 0) 0 [] :=
    ⟨rfl, .inr ⟨w.heap.size, 0, #[], rfl, Nat.le_refl _, heap_alloc_new w _, Nat.le_refl _, by simp only [maxLen]; omega, rfl, rfl⟩⟩
  have HO := As.mk (And.intro O0 (gr_alloc (gr_refl w none) (.cells #[] 65)))
  have HS := As.mk (show SrcV (w.alloc (.cells #[] 65)) 1 (.slice (some ⟨g, 0, none⟩) ini.length cap) ini.length (vs.take ini.length) from by
    have hcut := own_cut (own_gr0 HW.out.1.outer (gr_alloc (gr_refl w none) (.cells #[] 65))) ini.length (by omega)
    rw [Nat.mul_one] at hcut
    exact own_src hcut (fun u hu => by
      obtain ⟨i, hi, e⟩ := List.mem_iff_getElem.1 (List.mem_of_mem_take hu)
      have hil : i < (ini ++ [L]).length := by rw [← HW.out.1.len]; exact hi
      exact own_one (HW.out.1.inner i u (ini ++ [L])[i] (by rw [List.getElem?_eq_getElem hi, e]) (List.getElem?_eq_getElem hil))))
  have hrb := HW.out.1.blk.lt
  have c1' : (w.alloc (.cells #[] 65)).cell? ⟨rb, 1, none⟩ = _ := (HW.out.1.blk.alloc (.cells #[] 65)).cell 1
  have hn0 : (ini.length : Int) ≠ 0 := by omega
  have hnb : ((ini.length : Int) == 0) = false := by rw [beq_eq_false_iff_ne]; exact hn0
  have hnw : IntKind.i64.wrap (ini.length : Int) = (ini.length : Int) := by simp [IntKind.wrap, IntKind.bits, IntKind.signed]; omega
  have hnl : (ini.length : Int) < (ini.length : Int) + 1 := by omega
  have hnc : (ini.length : Int) ≤ (cap : Int) := by omega
  have hn1 : (0 : Int) ≤ (ini.length : Int) := by omega
  rw [hlen] at c1'
  clear O0
  go_enter Try.func21, Try.ntmps21
  go_wp2_with (at_builtin; refine wpList_append_any (by rfl) _ _ _ (by rfl) w.heap.size 65 i0 _ 1 24 Try.underlying44 HI.out.1 HI.out.2.1 HI.out.2.2.1 HI.out.2.2.2 rfl (by omega) _ 0 [] (by rfl) HO.out.1 _ ini.length (vs.take ini.length) (by rfl) HS.out ⟨_, _, rfl⟩ (by simp only [maxLen]; omega) (by omega) (by simp) ?_; intro va w2 hva hga hoa hsm; rw [Nat.zero_add, List.nil_append] at hva; rw [Nat.zero_add] at hsm; obtain ⟨g2, cap2, rfl⟩ := hsm; have HA := As.mk (And.intro hva (gr_then HO.out.2 hga (.inr (.inr (fun q hq => Nat.le_of_eq (Option.some.inj hq)))))); clear hva hga hoa; have q1 := (HW.out.1.blk.grown HA.out.2 (by simp)).cell 1; have q2 := (HW.out.1.blk.grown HA.out.2 (by simp)).free 1)
  have HP := As.mk (RefW.put1 (Ls' := ini) (vs' := vs.take ini.length) HH.out.1 HW.out.1 HW.out.2 HH.out.2 HA.out.2 (by rw [List.length_take, Nat.min_eq_left (by omega)]; exact HA.out.1) (by rw [List.length_take]; omega) (fun i v L' h1 h2 => by
      have hi := (List.getElem?_eq_some_iff.1 h2).1
      rw [List.getElem?_take_of_lt hi] at h1
      exact own_gr0 (HW.out.1.inner i v L' h1 (by rw [List.getElem?_append_left hi]; exact h2)) HA.out.2)
    (fun v hv => .inl (List.mem_of_mem_take hv)))
  clear HA q1 q2
  go_ret
  obtain ⟨G', hR, hN, -⟩ := HP.out
  exact ⟨rfl, G', hR, hN⟩
set_option maxRecDepth 100000 in
set_option maxHeartbeats 6400000 in
theorem end_keep {w : World} {B rb : Nat} {G : Nat → Prop} {Rs : List PIt} {ini2 : List (List PPr)} {M L : List PPr} (h : RefAt w B rb G Rs (ini2 ++ [M] ++ [L])) (hB : B ≤ w.heap.size) (hl : ini2.length ≤ 4) (hMl : M.length ≤ 1000000) (hLl : L.length ≤ 1000000) :
    Calls Try.prog 21 #[NP rb, .bool true] w fun e w' => e = .returned (.int .i64 0) ∧ ∃ G', RefAt w' B rb G' Rs (ini2 ++ [M ++ L]) ∧ NG w w' G G' := by
  obtain ⟨ini, hini⟩ : ∃ ini, ini = ini2 ++ [M] := ⟨_, rfl⟩
  have hinl : ini.length = ini2.length + 1 := by rw [hini]; simp
  have h0 : 0 < ini.length := by omega
  have hl5 : ini.length ≤ 5 := by omega
  have HNL := As.mk hinl
  clear hinl hl
  have HINI := As.mk hini
  rw [← hini] at h
  clear hini
  obtain ⟨i1, hj, hy0, hy1, hy2⟩ := info_parts infoPair
  have HJ := As.mk (And.intro hj (And.intro hy0 (And.intro hy1 hy2)))
  clear hj hy0 hy1 hy2
  obtain ⟨i0, hi, hz0, hz1, hz2⟩ := info_parts infoPairs
  have HI := As.mk (And.intro hi (And.intro hz0 (And.intro hz1 hz2)))
  clear hi hz0 hz1 hz2
  have HH := As.mk (And.intro h hB)
  obtain ⟨v0, v1, vs, hW, hG, hlo⟩ := h
  have c1 := hW.blk.cell 1
  have hlen : vs.length = ini.length + 1 := by rw [hW.len]; simp
  obtain ⟨g, cap, rfl⟩ := own_some hW.outer (by omega)
  rw [hlen] at c1
  have hcap : ini.length + 1 ≤ cap := by
    rcases hW.outer.2 with ⟨q, _⟩ | ⟨g', cap', cur, q, _, _, h1, _⟩
    · cases q
    · injection q with _ _ q
      subst q
      omega
  have hvl : ini.length < vs.length := by omega
  have d0 : w.cell? ⟨g, ini.length, none⟩ = some vs[ini.length] := own_cellAt hW.outer _ _ (List.getElem?_eq_getElem hvl)
  have HW := As.mk (And.intro hW hG)
  generalize hvlast : vs[ini.length] = vl at *
  clear hW hG hlo hB
  unfold NP
  have O0 : (w.alloc (.cells #[] 65)).ownsRow w.heap.size 65 1 (.slice (some ⟨w.heap.size, 0, none⟩) 0 0) 0 [] :=
    ⟨rfl, .inr ⟨w.heap.size, 0, #[], rfl, Nat.le_refl _, heap_alloc_new w _, Nat.le_refl _, by simp only [maxLen]; omega, rfl, rfl⟩⟩
  have HO := As.mk (And.intro O0 (gr_alloc (gr_refl w none) (.cells #[] 65)))
  have HS := As.mk (show SrcV (w.alloc (.cells #[] 65)) 1 (.slice (some ⟨g, 0, none⟩) ini.length cap) ini.length (vs.take ini.length) from by
    have hcut := own_cut (own_gr0 HW.out.1.outer (gr_alloc (gr_refl w none) (.cells #[] 65))) ini.length (by omega)
    rw [Nat.mul_one] at hcut
    exact own_src hcut (fun u hu => by
      obtain ⟨i, hi, e⟩ := List.mem_iff_getElem.1 (List.mem_of_mem_take hu)
      have hil : i < (ini ++ [L]).length := by rw [← HW.out.1.len]; exact hi
      exact own_one (HW.out.1.inner i u (ini ++ [L])[i] (by rw [List.getElem?_eq_getElem hi, e]) (List.getElem?_eq_getElem hil))))
  have hrb := HW.out.1.blk.lt
  have c1' : (w.alloc (.cells #[] 65)).cell? ⟨rb, 1, none⟩ = _ := (HW.out.1.blk.alloc (.cells #[] 65)).cell 1
  have hn0 : (ini.length : Int) ≠ 0 := by omega
  have hnb : ((ini.length : Int) == 0) = false := by rw [beq_eq_false_iff_ne]; exact hn0
  have hnw : IntKind.i64.wrap (ini.length : Int) = (ini.length : Int) := by simp [IntKind.wrap, IntKind.bits, IntKind.signed]; omega
  have hnl : (ini.length : Int) < (ini.length : Int) + 1 := by omega
  have hnc : (ini.length : Int) ≤ (cap : Int) := by omega
  have hn1 : (0 : Int) ≤ (ini.length : Int) := by omega
  rw [hlen] at c1'
  clear O0
  go_enter Try.func21, Try.ntmps21
  go_wp2_with (at_builtin; refine wpList_append_any (by rfl) _ _ _ (by rfl) w.heap.size 65 i0 _ 1 24 Try.underlying44 HI.out.1 HI.out.2.1 HI.out.2.2.1 HI.out.2.2.2 rfl (by omega) _ 0 [] (by rfl) HO.out.1 _ ini.length (vs.take ini.length) (by rfl) HS.out ⟨_, _, rfl⟩ (by simp only [maxLen]; omega) (by omega) (by simp) ?_; intro va w2 hva hga hoa hsm; rw [Nat.zero_add, List.nil_append] at hva; rw [Nat.zero_add] at hsm; obtain ⟨g2, cap2, rfl⟩ := hsm; have HA := As.mk (And.intro hva (gr_then HO.out.2 hga (.inr (.inr (fun q hq => Nat.le_of_eq (Option.some.inj hq)))))); clear hva hga hoa; have q1 := (HW.out.1.blk.grown HA.out.2 (by simp)).cell 1; have q2 := (HW.out.1.blk.grown HA.out.2 (by simp)).free 1)
  have HP := As.mk (RefW.put1 (Ls' := ini) (vs' := vs.take ini.length) HH.out.1 HW.out.1 HW.out.2 HH.out.2 HA.out.2 (by rw [List.length_take, Nat.min_eq_left (by omega)]; exact HA.out.1) (by rw [List.length_take]; omega) (fun i v L' h1 h2 => by
      have hi := (List.getElem?_eq_some_iff.1 h2).1
      rw [List.getElem?_take_of_lt hi] at h1
      exact own_gr0 (HW.out.1.inner i v L' h1 (by rw [List.getElem?_append_left hi]; exact h2)) HA.out.2)
    (fun v hv => .inl (List.mem_of_mem_take hv)))
  have hvin := own_gr0 (HW.out.1.inner ini.length vl L (by rw [← hvlast, List.getElem?_eq_getElem hvl]) (by rw [List.getElem?_append_right (Nat.le_refl _)]; simp)) HA.out.2
  have hvf := own_far hvin (a := ⟨rb, 1, none⟩) (own_ne (HW.out.1.blk.grown HA.out.2 (by simp)) hvin (by decide)) (.slice (some ⟨g2, 0, none⟩) ini.length cap2)
  have HV := As.mk hvf
  clear HA q1 q2 hvin hvf hvlast
  generalize w2.setCell ⟨rb, 1, none⟩ (.slice (some ⟨g2, 0, none⟩) ini.length cap2) = W6 at *
  obtain ⟨m, hm⟩ : ∃ m, m = ini2.length := ⟨_, rfl⟩
  obtain ⟨G6, hR6, hN6, hW6, hF6⟩ := HP.out
  have hvl6 : (vs.take ini.length).length = ini.length := by rw [List.length_take]; omega
  have hmn : m < ini.length := by have := HNL.out; omega
  have hmv : m < (vs.take ini.length).length := by omega
  have hM6 := hW6.inner m (vs.take ini.length)[m] M (List.getElem?_eq_getElem hmv) (by rw [HINI.out, hm]; simp)
  have hO6 := hW6.outer
  rw [hvl6] at hO6
  have em : W6.cell? ⟨g2, m, none⟩ = some (vs.take ini.length)[m] := own_cellAt hO6 m _ (List.getElem?_eq_getElem hmv)
  have e1 : W6.cell? ⟨rb, 1, none⟩ = some (.slice (some ⟨g2, 0, none⟩) ini.length cap2) := hW6.blk.cell 1
  have ef := own_freeAt hO6 m
  generalize (vs.take ini.length)[m] = vm at *
  have H6 := As.mk (And.intro e1 (And.intro em (And.intro hM6 ef)))
  have HR6 := As.mk (And.intro hR6 (And.intro hN6 (And.intro hW6 hF6)))
  have hm1 : IntKind.i64.wrap ((ini.length : Int) - 1) = (m : Int) := by have := HNL.out; simp [IntKind.wrap, IntKind.bits, IntKind.signed]; omega
  have hmI : (m : Int) < (ini.length : Int) := by omega
  have hm0 : (0 : Int) ≤ (m : Int) := by omega
  have HB6 := As.mk (show B ≤ W6.heap.size by have := hN6.size; have := HH.out.2; omega)
  obtain ⟨Am, capm, rfl⟩ := own_shape hM6
  have HM := As.mk hm
  have HO6 := As.mk hO6
  have hrbg := As.mk (show rb ≠ g2 from fun e => by subst e; exact own_ne hW6.blk hO6 (by decide) rfl)
  have hvl6 := As.mk hvl6
  clear hR6 hN6 hW6 hF6 hM6 em e1 ef hO6 HP hm hmv c1 d0 c1' HO HS HW
  refine wp_region_noPanic ?_
  refine wp_region_held_drew (S := fun w' => w'.cell? ⟨rb, 1, none⟩ = some (.slice (some ⟨g2, 0, none⟩) ini.length cap2)) (by kernel_rfl) H6.out.1 (fun _ => ?_)
  have HG7 := As.mk (show W6.grownBy W6.drew none from gr_drew (gr_refl _ _))
  generalize W6.drew = W7 at *
  have S7 : ∀ {w' : World}, W6.grownBy w' none → w'.cell? ⟨rb, 1, none⟩ = some (.slice (some ⟨g2, 0, none⟩) ini.length cap2) := fun hg => hg.cell H6.out.1 (by simp)
  have S8 : ∀ {w' : World}, W6.grownBy w' none → w'.cell? ⟨g2, m, none⟩ = some (.slice Am M.length capm) := fun hg => hg.cell H6.out.2.1 (by simp)
  have HS7 := As.mk (@S7)
  have HS8 := As.mk (@S8)
  clear S7 S8
  refine wpAnyH_take (i := 0) (v := ?v0) rfl (by kernel_rfl) (by kernel_rfl) (by kernel_rfl) (fun _ _ _ h => h) (Or.inl ⟨by rfl, ?y0⟩) (HS7.out HG7.out) ?r0
  case y0 => (intro w0_ hs_; have hs1_ := hs_; go_simp; try with_reducible rfl)
  try simp only [Act.put, List.setIfInBounds_toArray, List.set_cons_zero, List.set_cons_succ]
  refine wpAnyH_take (i := 1) (v := ?v1) rfl (by kernel_rfl) (by kernel_rfl) (by kernel_rfl) (fun _ _ _ h => h) (Or.inl ⟨by rfl, ?y1⟩) (HS7.out HG7.out) ?r1
  case y1 => (intro w0_ hs_; have hs1_ := hs_; go_simp; try with_reducible rfl)
  try simp only [Act.put, List.setIfInBounds_toArray, List.set_cons_zero, List.set_cons_succ]
  refine wpAnyH_take (i := 2) (v := ?v2) rfl (by kernel_rfl) (by kernel_rfl) (by kernel_rfl) (fun _ _ _ h => h) (Or.inl ⟨by rfl, ?y2⟩) (HS7.out HG7.out) ?r2
  case y2 => (intro w0_ hs_; have hs1_ := hs_; go_simp; try with_reducible rfl)
  try simp only [Act.put, List.setIfInBounds_toArray, List.set_cons_zero, List.set_cons_succ]
  refine wpAnyH_take (i := 3) (v := ?v3) rfl (by kernel_rfl) (by kernel_rfl) (by kernel_rfl) (fun _ _ _ h => h) (Or.inl ⟨by rfl, ?y3⟩) (HS7.out HG7.out) ?r3
  case y3 => (intro w0_ hs_; have hs1_ := hs_; go_simp; try with_reducible rfl)
  try simp only [Act.put, List.setIfInBounds_toArray, List.set_cons_zero, List.set_cons_succ]
  refine wpAnyH_take (i := 4) (v := ?v4) rfl (by kernel_rfl) (by kernel_rfl) (by kernel_rfl) (fun _ _ _ h => h) (Or.inl ⟨by rfl, ?y4⟩) (HS7.out HG7.out) ?r4
  case y4 => (intro w0_ hs_; have hs1_ := hs_; go_simp; try with_reducible rfl)
  try simp only [Act.put, List.setIfInBounds_toArray, List.set_cons_zero, List.set_cons_succ]
  refine wpAnyH_take (i := 5) (v := ?v5) rfl (by kernel_rfl) (by kernel_rfl) (by kernel_rfl) (fun _ _ _ h => h) (Or.inl ⟨by rfl, ?y5⟩) (HS7.out HG7.out) ?r5
  case y5 => (intro w0_ hs_; have hs1_ := hs_; go_simp; try with_reducible rfl)
  try simp only [Act.put, List.setIfInBounds_toArray, List.set_cons_zero, List.set_cons_succ]
  refine wpAnyH_take (i := 7) (v := ?v7) rfl (by kernel_rfl) (by kernel_rfl) (by kernel_rfl) (fun _ _ _ h => h) (Or.inl ⟨by rfl, ?y7⟩) (HS7.out HG7.out) ?r7
  case y7 => (intro w0_ hs_; have hs1_ := hs_; go_simp; try with_reducible rfl)
  try simp only [Act.put, List.setIfInBounds_toArray, List.set_cons_zero, List.set_cons_succ]
  refine wpAnyH_take (i := 8) (v := ?v8) rfl (by kernel_rfl) (by kernel_rfl) (by kernel_rfl) (fun _ _ _ h => h) (Or.inl ⟨by rfl, ?y8⟩) (HS7.out HG7.out) ?r8
  case y8 => (intro w0_ hs_; have hs1_ := hs_; go_simp; try with_reducible rfl)
  try simp only [Act.put, List.setIfInBounds_toArray, List.set_cons_zero, List.set_cons_succ]
  refine wpAnyH_take (i := 9) (v := ?v9) rfl (by kernel_rfl) (by kernel_rfl) (by kernel_rfl) (fun _ _ _ h => h) (Or.inl ⟨by rfl, ?y9⟩) (HS7.out HG7.out) ?r9
  case y9 => (intro w0_ hs_; have hs1_ := hs_; go_simp; try with_reducible rfl)
  try simp only [Act.put, List.setIfInBounds_toArray, List.set_cons_zero, List.set_cons_succ]
  refine wpAnyH_take (i := 10) (v := ?v10) rfl (by kernel_rfl) (by kernel_rfl) (by kernel_rfl) (fun _ _ _ h => h) (Or.inl ⟨by rfl, ?y10⟩) (HS7.out HG7.out) ?r10
  case y10 => (intro w0_ hs_; have hs1_ := hs_; go_simp; try with_reducible rfl)
  try simp only [Act.put, List.setIfInBounds_toArray, List.set_cons_zero, List.set_cons_succ]
  refine wpAnyH_take (i := 11) (v := ?v11) rfl (by kernel_rfl) (by kernel_rfl) (by kernel_rfl) (fun _ _ _ h => h) (Or.inl ⟨by rfl, ?y11⟩) (HS7.out HG7.out) ?r11
  case y11 => (intro w0_ hs_; have hs1_ := hs_; go_simp; try with_reducible rfl)
  try simp only [Act.put, List.setIfInBounds_toArray, List.set_cons_zero, List.set_cons_succ]
  refine wpAnyH_take (i := 12) (v := ?v12) rfl (by kernel_rfl) (by kernel_rfl) (by kernel_rfl) (fun _ _ _ h => h) (Or.inl ⟨by rfl, ?y12⟩) (HS7.out HG7.out) ?r12
  case y12 => (intro w0_ hs_; have hs1_ := hs_; go_simp; try with_reducible rfl)
  try simp only [Act.put, List.setIfInBounds_toArray, List.set_cons_zero, List.set_cons_succ]
  refine wpAnyH_take (i := 13) (v := ?v13) rfl (by kernel_rfl) (by kernel_rfl) (by kernel_rfl) (fun _ _ _ h => h) (Or.inl ⟨by rfl, ?y13⟩) (HS7.out HG7.out) ?r13
  case y13 => (intro w0_ hs_; have hs1_ := hs_; go_simp; try with_reducible rfl)
  try simp only [Act.put, List.setIfInBounds_toArray, List.set_cons_zero, List.set_cons_succ]
  refine wpAnyH_take (i := 16) (v := ?v16) rfl (by kernel_rfl) (by kernel_rfl) (by kernel_rfl) (fun _ _ _ h => h) (Or.inl ⟨by rfl, ?y16⟩) (HS7.out HG7.out) ?r16
  case y16 => (intro w0_ hs_; have hs1_ := hs_; go_simp; try with_reducible rfl)
  try simp only [Act.put, List.setIfInBounds_toArray, List.set_cons_zero, List.set_cons_succ]
  refine wpAnyH_ready (rs := [6, 14]) (by kernel_rfl) (by simp) (AllReadyH.cons (i := 6) rfl (fun K hK => ?fa) (AllReadyH.cons (i := 14) rfl (fun K hK => ?fb) AllReadyH.nil))
  case fa =>
    go_simp
    have O7 : (W7.alloc (.cells #[] 69)).ownsRow W7.heap.size 69 2 (.slice (some ⟨W7.heap.size, 0, none⟩) 0 0) 0 [] := ⟨rfl, .inr ⟨W7.heap.size, 0, #[], rfl, Nat.le_refl _, heap_alloc_new W7 _, Nat.le_refl _, by simp only [maxLen]; omega, rfl, rfl⟩⟩
    have HO7 := As.mk (And.intro O7 (gr_alloc HG7.out (.cells #[] 69)))
    clear O7
    refine hK.out _ _ (HS7.out HO7.out.2) (fun _ => ?_)
    clear hK K
    try simp only [Act.put, List.setIfInBounds_toArray, List.set_cons_zero, List.set_cons_succ]
    refine wpAnyH_ready (rs := [14]) (by kernel_rfl) (by simp) (AllReadyH.cons (i := 14) rfl (fun K hK => ?_) AllReadyH.nil)
    have hm14_ := HS8.out HO7.out.2
    go_simp
    clear hm14_
    refine hK.out _ _ (HS7.out HO7.out.2) (fun _ => ?_)
    clear hK K
    try simp only [Act.put, List.setIfInBounds_toArray, List.set_cons_zero, List.set_cons_succ]
    refine wpAnyH_ready (rs := [15]) (by kernel_rfl) (by simp) (AllReadyH.cons (i := 15) rfl (fun K hK => ?_) AllReadyH.nil)
    refine step_append_any rfl _ _ _ rfl W7.heap.size 69 i1 _ 2 16 Try.underlying65 HJ.out.1 HJ.out.2.1 HJ.out.2.2.1 HJ.out.2.2.2 rfl (by omega) _ 0 [] rfl HO7.out.1 (.slice Am M.length capm) M.length (prCells M) rfl (own_src (own_gr0 H6.out.2.2.1 HO7.out.2) (prCells_one M)) ⟨_, _, rfl⟩ (by simp only [maxLen]; omega) (by omega) (by simp) ?_
    intro va w9 hva hga _ hsm
    rw [Nat.zero_add, List.nil_append] at hva
    rw [Nat.zero_add] at hsm
    obtain ⟨g9, cap9, rfl⟩ := hsm
    have hz9 : W7.heap.size ≤ w9.heap.size := by have := hga.size; simp at this; omega
    have H9 := As.mk (And.intro hva (gr_then HO7.out.2 hga (.inr (.inr (fun q hq => Nat.le_trans HG7.out.size (Nat.le_of_eq (Option.some.inj hq)))))))
    clear hva hga
    refine hK.out _ _ (HS7.out H9.out.2) (fun _ => ?_)
    clear hK K
    try simp only [Act.put, List.setIfInBounds_toArray, List.set_cons_zero, List.set_cons_succ]
    refine wpAnyH_ready (rs := [17]) (by kernel_rfl) (by simp) (AllReadyH.cons (i := 17) rfl (fun K hK => ?_) AllReadyH.nil)
    refine step_append_any rfl _ _ _ rfl W7.heap.size 69 i1 _ 2 16 Try.underlying65 HJ.out.1 HJ.out.2.1 HJ.out.2.2.1 HJ.out.2.2.2 rfl (by omega) _ M.length (prCells M) rfl H9.out.1 vl L.length (prCells L) rfl (own_src (own_gr0 HV.out H9.out.2) (prCells_one L)) ⟨_, _, rfl⟩ (by simp only [maxLen]; omega) (by omega) hz9 ?_
    intro vb w10 hvb hgb _ hsm
    obtain ⟨g10, cap10, rfl⟩ := hsm
    have H10 := As.mk (And.intro hvb (gr_then H9.out.2 hgb (.inr (.inr (fun q hq => Nat.le_trans HG7.out.size (H9.out.1.lt q hq).1)))))
    clear hvb hgb
    refine hK.out _ _ (HS7.out H10.out.2) (fun _ => ?_)
    clear hK K
    try simp only [Act.put, List.setIfInBounds_toArray, List.set_cons_zero, List.set_cons_succ]
    refine wpAnyH_take (i := 18) (v := ?v18t) rfl (by kernel_rfl) (by kernel_rfl) (by kernel_rfl) (fun _ _ _ h => h) (Or.inl ⟨by rfl, ?y18t⟩) (HS7.out H10.out.2) ?r18t
    case y18t => (intro w0_ hs_; have hs1_ := hs_; go_simp; try with_reducible rfl)
    try simp only [Act.put, List.setIfInBounds_toArray, List.set_cons_zero, List.set_cons_succ]
    refine wpAnyH_ready (rs := [19]) (by kernel_rfl) (by simp) (AllReadyH.cons (i := 19) rfl (fun K hK => ?_) AllReadyH.nil)
    have ef10 := own_freeAt (own_gr0 HO6.out H10.out.2) m
    have eg10 := own_gr0 HO6.out H10.out.2
    have hcell10 := HS8.out H10.out.2
    go_simp
    have hpl := RefW.putL (L' := M ++ L) (i := m) (u := .slice (some ⟨g10, 0, none⟩) (M.length + L.length) cap10) HR6.out.1 (by rw [hvl6.out]; exact HR6.out.2.2.1) (by rw [hvl6.out]; exact HR6.out.2.2.2) HB6.out H10.out.2 (by rw [hvl6.out]; exact hmn) (by rw [List.length_append, prCells_app]; exact ownsRow_base_a H10.out.1 HG7.out.size)
    obtain ⟨G', hR', hN', -⟩ := hpl
    have HF := As.mk (And.intro hR' (HR6.out.2.1.trans hN'))
    clear hR' hN'
    refine hK.out _ _ ?_ (fun _ => ?_)
    · exact (((HR6.out.2.2.1.blk.grown H10.out.2 (by simp)).far (a := ⟨g2, m, none⟩) hrbg.out _).cell 1)
    clear hK K ef10 eg10 hcell10
    try simp only [Act.put, List.setIfInBounds_toArray, List.set_cons_zero, List.set_cons_succ]
    refine wpAnyH_done (by kernel_rfl) ?_ _
    refine NoPanic.normal ?_
    go_wp2_with fail
    go_ret
    refine ⟨rfl, G', ?_, HF.out.2⟩
    have hset : ini.set m (M ++ L) = ini2 ++ [M ++ L] := by rw [HINI.out, HM.out]; simp
    rw [← hset]
    exact HF.out.1
  case fb =>
    have hm14_ := HS8.out HG7.out
    go_simp
    clear hm14_
    refine hK.out _ _ (HS7.out HG7.out) (fun _ => ?_)
    clear hK K
    try simp only [Act.put, List.setIfInBounds_toArray, List.set_cons_zero, List.set_cons_succ]
    refine wpAnyH_ready (rs := [6]) (by kernel_rfl) (by simp) (AllReadyH.cons (i := 6) rfl (fun K hK => ?_) AllReadyH.nil)
    go_simp
    have O7 : (W7.alloc (.cells #[] 69)).ownsRow W7.heap.size 69 2 (.slice (some ⟨W7.heap.size, 0, none⟩) 0 0) 0 [] := ⟨rfl, .inr ⟨W7.heap.size, 0, #[], rfl, Nat.le_refl _, heap_alloc_new W7 _, Nat.le_refl _, by simp only [maxLen]; omega, rfl, rfl⟩⟩
    have HO7 := As.mk (And.intro O7 (gr_alloc HG7.out (.cells #[] 69)))
    clear O7
    refine hK.out _ _ (HS7.out HO7.out.2) (fun _ => ?_)
    clear hK K
    try simp only [Act.put, List.setIfInBounds_toArray, List.set_cons_zero, List.set_cons_succ]
    refine wpAnyH_ready (rs := [15]) (by kernel_rfl) (by simp) (AllReadyH.cons (i := 15) rfl (fun K hK => ?_) AllReadyH.nil)
    refine step_append_any rfl _ _ _ rfl W7.heap.size 69 i1 _ 2 16 Try.underlying65 HJ.out.1 HJ.out.2.1 HJ.out.2.2.1 HJ.out.2.2.2 rfl (by omega) _ 0 [] rfl HO7.out.1 (.slice Am M.length capm) M.length (prCells M) rfl (own_src (own_gr0 H6.out.2.2.1 HO7.out.2) (prCells_one M)) ⟨_, _, rfl⟩ (by simp only [maxLen]; omega) (by omega) (by simp) ?_
    intro va w9 hva hga _ hsm
    rw [Nat.zero_add, List.nil_append] at hva
    rw [Nat.zero_add] at hsm
    obtain ⟨g9, cap9, rfl⟩ := hsm
    have hz9 : W7.heap.size ≤ w9.heap.size := by have := hga.size; simp at this; omega
    have H9 := As.mk (And.intro hva (gr_then HO7.out.2 hga (.inr (.inr (fun q hq => Nat.le_trans HG7.out.size (Nat.le_of_eq (Option.some.inj hq)))))))
    clear hva hga
    refine hK.out _ _ (HS7.out H9.out.2) (fun _ => ?_)
    clear hK K
    try simp only [Act.put, List.setIfInBounds_toArray, List.set_cons_zero, List.set_cons_succ]
    refine wpAnyH_ready (rs := [17]) (by kernel_rfl) (by simp) (AllReadyH.cons (i := 17) rfl (fun K hK => ?_) AllReadyH.nil)
    refine step_append_any rfl _ _ _ rfl W7.heap.size 69 i1 _ 2 16 Try.underlying65 HJ.out.1 HJ.out.2.1 HJ.out.2.2.1 HJ.out.2.2.2 rfl (by omega) _ M.length (prCells M) rfl H9.out.1 vl L.length (prCells L) rfl (own_src (own_gr0 HV.out H9.out.2) (prCells_one L)) ⟨_, _, rfl⟩ (by simp only [maxLen]; omega) (by omega) hz9 ?_
    intro vb w10 hvb hgb _ hsm
    obtain ⟨g10, cap10, rfl⟩ := hsm
    have H10 := As.mk (And.intro hvb (gr_then H9.out.2 hgb (.inr (.inr (fun q hq => Nat.le_trans HG7.out.size (H9.out.1.lt q hq).1)))))
    clear hvb hgb
    refine hK.out _ _ (HS7.out H10.out.2) (fun _ => ?_)
    clear hK K
    try simp only [Act.put, List.setIfInBounds_toArray, List.set_cons_zero, List.set_cons_succ]
    refine wpAnyH_take (i := 18) (v := ?v18u) rfl (by kernel_rfl) (by kernel_rfl) (by kernel_rfl) (fun _ _ _ h => h) (Or.inl ⟨by rfl, ?y18u⟩) (HS7.out H10.out.2) ?r18u
    case y18u => (intro w0_ hs_; have hs1_ := hs_; go_simp; try with_reducible rfl)
    try simp only [Act.put, List.setIfInBounds_toArray, List.set_cons_zero, List.set_cons_succ]
    refine wpAnyH_ready (rs := [19]) (by kernel_rfl) (by simp) (AllReadyH.cons (i := 19) rfl (fun K hK => ?_) AllReadyH.nil)
    have ef10 := own_freeAt (own_gr0 HO6.out H10.out.2) m
    have eg10 := own_gr0 HO6.out H10.out.2
    have hcell10 := HS8.out H10.out.2
    go_simp
    have hpl := RefW.putL (L' := M ++ L) (i := m) (u := .slice (some ⟨g10, 0, none⟩) (M.length + L.length) cap10) HR6.out.1 (by rw [hvl6.out]; exact HR6.out.2.2.1) (by rw [hvl6.out]; exact HR6.out.2.2.2) HB6.out H10.out.2 (by rw [hvl6.out]; exact hmn) (by rw [List.length_append, prCells_app]; exact ownsRow_base_a H10.out.1 HG7.out.size)
    obtain ⟨G', hR', hN', -⟩ := hpl
    have HF := As.mk (And.intro hR' (HR6.out.2.1.trans hN'))
    clear hR' hN'
    refine hK.out _ _ ?_ (fun _ => ?_)
    · exact (((HR6.out.2.2.1.blk.grown H10.out.2 (by simp)).far (a := ⟨g2, m, none⟩) hrbg.out _).cell 1)
    clear hK K ef10 eg10 hcell10
    try simp only [Act.put, List.setIfInBounds_toArray, List.set_cons_zero, List.set_cons_succ]
    refine wpAnyH_done (by kernel_rfl) ?_ _
    refine NoPanic.normal ?_
    go_wp2_with fail
    go_ret
    refine ⟨rfl, G', ?_, HF.out.2⟩
    have hset : ini.set m (M ++ L) = ini2 ++ [M ++ L] := by rw [HINI.out, HM.out]; simp
    rw [← hset]
    exact HF.out.1
end Go.Proofs.Ytggkejkleficoaa
