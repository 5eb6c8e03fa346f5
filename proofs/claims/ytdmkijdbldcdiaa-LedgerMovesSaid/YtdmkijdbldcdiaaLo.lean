/- The walks of item.Order and of the ledger's insert. (Printed by wip/gen/gen_lo.py.) -/
import Derived.Test.YtdmkijdbldcdiaaLb
import Derived.Test.YtdmkijdbldcdiaaLin
namespace Go.Proofs.Ytdmkijdbldcdiaa
open Go.RowKit
set_option linter.unusedVariables false
set_option linter.unusedSimpArgs false
set_option maxRecDepth 100000

def cmpI (a b : Int) : Int := if a < b then -1 else if b < a then 1 else 0
theorem nan_c (w : World) (a : Int) : Calls Try.prog 100 #[.int .i64 a] w fun e w' => e = .returned (.bool false) ∧ w' = w := by
  go_enter Try.func100, Try.ntmps100
  go_wp2_with fail
  go_ret
  exact ⟨rfl, rfl⟩
theorem cmp_c (w : World) (a b : Int) (r : Int) (hr : cmpI a b = r) : Calls Try.prog 94 #[.int .i64 a, .int .i64 b] w fun e w' => e = .returned (.int .i64 r) ∧ w' = w := by
  subst hr
  by_cases h : a < b
  · have HR : As (cmpI a b = -1) := ⟨by simp [cmpI, h]⟩
    go_enter Try.func94, Try.ntmps94
    go_wp2_with fail
    refine (nan_c w a).mono ?_
    rintro e w1 ⟨rfl, rfl⟩
    go_wp2_with fail
    refine (nan_c w1 b).mono ?_
    rintro e w2 ⟨rfl, rfl⟩
    go_wp2_with fail
    go_ret
    exact ⟨retI HR.out, rfl⟩
  · by_cases h2 : b < a
    · have HR : As (cmpI a b = 1) := ⟨by simp [cmpI, h, h2]⟩
      go_enter Try.func94, Try.ntmps94
      go_wp2_with fail
      refine (nan_c w a).mono ?_
      rintro e w1 ⟨rfl, rfl⟩
      go_wp2_with fail
      refine (nan_c w1 b).mono ?_
      rintro e w2 ⟨rfl, rfl⟩
      go_wp2_with fail
      go_ret
      exact ⟨retI HR.out, rfl⟩
    · have HR : As (cmpI a b = 0) := ⟨by simp [cmpI, h, h2]⟩
      go_enter Try.func94, Try.ntmps94
      go_wp2_with fail
      refine (nan_c w a).mono ?_
      rintro e w1 ⟨rfl, rfl⟩
      go_wp2_with fail
      refine (nan_c w1 b).mono ?_
      rintro e w2 ⟨rfl, rfl⟩
      go_wp2_with fail
      go_ret
      exact ⟨retI HR.out, rfl⟩
def orI : List Int → Int
  | [] => 0
  | x :: l => if x = 0 then orI l else x
set_option maxHeartbeats 1600000 in
theorem or_c (w : World) (v : Value) (l : List Int) (h : Arr IE 1 w v l) (r : Int) (hr : orI l = r) : Calls Try.prog 93 #[v] w fun e w' => e = .returned (.int .i64 r) ∧ w' = w := by
  subst hr
  obtain ⟨A, c, rfl⟩ := h.len
  have hl := h.le
  have H := As.mk h
  clear h
  go_enter Try.func93, Try.ntmps93
  go_wp2_with fail
  go_loopw [8] (fun i wr => ∃ k : Nat, k ≤ l.length ∧ i = .int .i64 k ∧ wr = w ∧ As (orI l = orI (l.drop k))) (fun i _ => l.length - (intOf i).toNat)
  case atStart => exact ⟨0, Nat.zero_le _, rfl, rfl, ⟨rfl⟩⟩
  case round =>
    obtain ⟨k, hk, rfl, rfl, HL⟩ := hrel
    by_cases hlt : k < l.length
    · have hltI : (k : Int) < (l.length : Int) := by omega
      have hk0 : (0 : Int) ≤ (k : Int) := by omega
      obtain ⟨b, o, cs, rfl, hE, hcs, hcell⟩ := H.out.at_ k l[k] (List.getElem?_eq_getElem hlt)
      obtain rfl := hE
      have c0 : wr.cell? ⟨b, o + k * 1, none⟩ = _ := hcell 0 _ rfl
      rw [Nat.mul_one] at c0
      have HS := As.mk (show orI l = orI (l[k]'hlt :: l.drop (k + 1)) by rw [HL.out, List.drop_eq_getElem_cons hlt])
      clear hcell hcs
      generalize l[k]'hlt = x at *
      by_cases hx : x = 0
      · subst hx
        go_wp2_with fail
        go_roundw
        case measure => simp [intOf]; omega
        case rel => exact ⟨k + 1, by omega, by go_num, by trivial, ⟨by rw [HS.out]; rfl⟩⟩
      · have HX : As (orI l = x) := ⟨by rw [HS.out]; simp [orI, hx]⟩
        go_wp2_with fail
        go_ret
        exact ⟨retI HX.out, rfl⟩
    · obtain rfl : k = l.length := by omega
      rw [List.drop_length] at HL
      have HX := As.mk HL.out
      clear HL
      go_wp2_with fail
      go_ret
      exact ⟨retI (HX.out.trans rfl), rfl⟩
def ordT (a b : PTid) : Int := orI [cmpI a.n b.n, cmpI a.e b.e, cmpI a.s b.s]
theorem arr3 {w : World} {g : Nat} {a b c : Int} (h : Blk w g 3 #[.int .i64 a, .int .i64 b, .int .i64 c]) : Arr IE 1 w (.slice (some ⟨g, 0, none⟩) 3 3) [a, b, c] :=
  Arr.block (E := IE) (xs := [a, b, c]) h (by simp) (by simp) (fun j x hx => by
    match j, hx with
    | 0, hx => exact ⟨_, rfl, rfl, fun i u hu => by
        have hi : i = 0 := by have := (List.getElem?_eq_some_iff.1 hu).1; simpa using this
        subst hi
        simp at hx hu
        subst hx hu
        rfl⟩
    | 1, hx => exact ⟨_, rfl, rfl, fun i u hu => by
        have hi : i = 0 := by have := (List.getElem?_eq_some_iff.1 hu).1; simpa using this
        subst hi
        simp at hx hu
        subst hx hu
        rfl⟩
    | 2, hx => exact ⟨_, rfl, rfl, fun i u hu => by
        have hi : i = 0 := by have := (List.getElem?_eq_some_iff.1 hu).1; simpa using this
        subst hi
        simp at hx hu
        subst hx hu
        rfl⟩
    | j + 3, hx => simp at hx)
set_option maxHeartbeats 3200000 in
theorem order_c (w : World) (a b : PTid) (r : Int) (hr : ordT a b = r) : Calls Try.prog 87 #[.agg #[.int .i64 a.n, .int .i64 a.e, .int .i64 a.s], .agg #[.int .i64 b.n, .int .i64 b.e, .int .i64 b.s]] w fun e w' => e = .returned (.int .i64 r) ∧ w.grownBy w' none := by
  have HA := As.mk ((Blk.new w 39 #[.int .i64 a.n, .int .i64 a.e, .int .i64 a.s]).alloc (.cells #[.int .i64 b.n, .int .i64 b.e, .int .i64 b.s] 39))
  have HB := As.mk (Blk.new_at (w.alloc (.cells #[.int .i64 a.n, .int .i64 a.e, .int .i64 a.s] 39)) 39 #[.int .i64 b.n, .int .i64 b.e, .int .i64 b.s] (g := w.heap.size + 1) (by simp))
  have HG := As.mk (gr_alloc (gr_alloc (gr_refl w none) (.cells #[.int .i64 a.n, .int .i64 a.e, .int .i64 a.s] 39)) (.cells #[.int .i64 b.n, .int .i64 b.e, .int .i64 b.s] 39))
  have HR := As.mk hr
  unfold ordT at HR
  clear hr
  go_enter Try.func87, Try.ntmps87
  go_wp2_with fail
  generalize (w.alloc (.cells #[.int .i64 a.n, .int .i64 a.e, .int .i64 a.s] 39)).alloc (.cells #[.int .i64 b.n, .int .i64 b.e, .int .i64 b.s] 39) = W at *
  generalize w.heap.size = g at *
  have HS := As.mk (show (W.cell? ⟨g, 0, none⟩ = some (.int .i64 a.n) ∧ W.cell? ⟨g, 1, none⟩ = some (.int .i64 a.e) ∧ W.cell? ⟨g, 2, none⟩ = some (.int .i64 a.s) ∧ W.cell? ⟨g + 1, 0, none⟩ = some (.int .i64 b.n) ∧ W.cell? ⟨g + 1, 1, none⟩ = some (.int .i64 b.e) ∧ W.cell? ⟨g + 1, 2, none⟩ = some (.int .i64 b.s)) from ⟨HA.out.cell 0, HA.out.cell 1, HA.out.cell 2, HB.out.cell 0, HB.out.cell 1, HB.out.cell 2⟩)
  have HX := As.mk (Blk.new W.drew 3 #[.int .i64 (cmpI a.n b.n), .int .i64 (cmpI a.e b.e), .int .i64 (cmpI a.s b.s)])
  have HX2 := As.mk (show Blk (W.alloc (.cells #[.int .i64 (cmpI a.n b.n), .int .i64 (cmpI a.e b.e), .int .i64 (cmpI a.s b.s)] 3)).drew W.heap.size 3 #[.int .i64 (cmpI a.n b.n), .int .i64 (cmpI a.e b.e), .int .i64 (cmpI a.s b.s)] from Blk.new W 3 _)
  have HS2 := As.mk (gr_drew (gr_alloc (gr_refl W none) (.cells #[.int .i64 (cmpI a.n b.n), .int .i64 (cmpI a.e b.e), .int .i64 (cmpI a.s b.s)] 3)))
  refine wp_region_noPanic ?_
  refine wp_region_held_drew (S := fun w' => w'.cell? ⟨g, 0, none⟩ = some (.int .i64 a.n) ∧ w'.cell? ⟨g, 1, none⟩ = some (.int .i64 a.e) ∧ w'.cell? ⟨g, 2, none⟩ = some (.int .i64 a.s) ∧ w'.cell? ⟨g + 1, 0, none⟩ = some (.int .i64 b.n) ∧ w'.cell? ⟨g + 1, 1, none⟩ = some (.int .i64 b.e) ∧ w'.cell? ⟨g + 1, 2, none⟩ = some (.int .i64 b.s)) (by kernel_rfl) (HS.out) (fun hS => ?_)
  refine wpAnyH_take (i := 0) (v := ?va1) rfl (by kernel_rfl) (by kernel_rfl) (by kernel_rfl) (fun _ _ _ h => h) (Or.inl ⟨by rfl, ?ya1⟩) hS ?ra1
  case ya1 => (intro w0 _; go_simp; try with_reducible rfl)
  try simp only [yA, yB, yC, Act.put, yD, yE, yF]
  refine wpAnyH_take (i := 1) (v := ?va2) rfl (by kernel_rfl) (by kernel_rfl) (by kernel_rfl) (fun _ _ _ h => h) (Or.inl ⟨by rfl, ?ya2⟩) hS ?ra2
  case ya2 => (intro w0 hS0; (try simp only [] at hS0); obtain ⟨hS0_0, hS0_1, hS0_2, hS0_3, hS0_4, hS0_5⟩ := hS0; go_simp; try with_reducible rfl)
  try simp only [yA, yB, yC, Act.put, yD, yE, yF]
  refine wpAnyH_take (i := 2) (v := ?va3) rfl (by kernel_rfl) (by kernel_rfl) (by kernel_rfl) (fun _ _ _ h => h) (Or.inl ⟨by rfl, ?ya3⟩) hS ?ra3
  case ya3 => (intro w0 _; go_simp; try with_reducible rfl)
  try simp only [yA, yB, yC, Act.put, yD, yE, yF]
  refine wpAnyH_take (i := 3) (v := ?va4) rfl (by kernel_rfl) (by kernel_rfl) (by kernel_rfl) (fun _ _ _ h => h) (Or.inl ⟨by rfl, ?ya4⟩) hS ?ra4
  case ya4 => (intro w0 hS0; (try simp only [] at hS0); obtain ⟨hS0_0, hS0_1, hS0_2, hS0_3, hS0_4, hS0_5⟩ := hS0; go_simp; try with_reducible rfl)
  try simp only [yA, yB, yC, Act.put, yD, yE, yF]
  refine wpAnyH_take (i := 5) (v := ?va5) rfl (by kernel_rfl) (by kernel_rfl) (by kernel_rfl) (fun _ _ _ h => h) (Or.inl ⟨by rfl, ?ya5⟩) hS ?ra5
  case ya5 => (intro w0 _; go_simp; try with_reducible rfl)
  try simp only [yA, yB, yC, Act.put, yD, yE, yF]
  refine wpAnyH_take (i := 6) (v := ?va6) rfl (by kernel_rfl) (by kernel_rfl) (by kernel_rfl) (fun _ _ _ h => h) (Or.inl ⟨by rfl, ?ya6⟩) hS ?ra6
  case ya6 => (intro w0 hS0; (try simp only [] at hS0); obtain ⟨hS0_0, hS0_1, hS0_2, hS0_3, hS0_4, hS0_5⟩ := hS0; go_simp; try with_reducible rfl)
  try simp only [yA, yB, yC, Act.put, yD, yE, yF]
  refine wpAnyH_take (i := 7) (v := ?va7) rfl (by kernel_rfl) (by kernel_rfl) (by kernel_rfl) (fun _ _ _ h => h) (Or.inl ⟨by rfl, ?ya7⟩) hS ?ra7
  case ya7 => (intro w0 _; go_simp; try with_reducible rfl)
  try simp only [yA, yB, yC, Act.put, yD, yE, yF]
  refine wpAnyH_take (i := 8) (v := ?va8) rfl (by kernel_rfl) (by kernel_rfl) (by kernel_rfl) (fun _ _ _ h => h) (Or.inl ⟨by rfl, ?ya8⟩) hS ?ra8
  case ya8 => (intro w0 hS0; (try simp only [] at hS0); obtain ⟨hS0_0, hS0_1, hS0_2, hS0_3, hS0_4, hS0_5⟩ := hS0; go_simp; try with_reducible rfl)
  try simp only [yA, yB, yC, Act.put, yD, yE, yF]
  refine wpAnyH_take (i := 10) (v := ?va9) rfl (by kernel_rfl) (by kernel_rfl) (by kernel_rfl) (fun _ _ _ h => h) (Or.inl ⟨by rfl, ?ya9⟩) hS ?ra9
  case ya9 => (intro w0 _; go_simp; try with_reducible rfl)
  try simp only [yA, yB, yC, Act.put, yD, yE, yF]
  refine wpAnyH_take (i := 11) (v := ?va10) rfl (by kernel_rfl) (by kernel_rfl) (by kernel_rfl) (fun _ _ _ h => h) (Or.inl ⟨by rfl, ?ya10⟩) hS ?ra10
  case ya10 => (intro w0 hS0; (try simp only [] at hS0); obtain ⟨hS0_0, hS0_1, hS0_2, hS0_3, hS0_4, hS0_5⟩ := hS0; go_simp; try with_reducible rfl)
  try simp only [yA, yB, yC, Act.put, yD, yE, yF]
  refine wpAnyH_take (i := 12) (v := ?va11) rfl (by kernel_rfl) (by kernel_rfl) (by kernel_rfl) (fun _ _ _ h => h) (Or.inl ⟨by rfl, ?ya11⟩) hS ?ra11
  case ya11 => (intro w0 _; go_simp; try with_reducible rfl)
  try simp only [yA, yB, yC, Act.put, yD, yE, yF]
  refine wpAnyH_take (i := 13) (v := ?va12) rfl (by kernel_rfl) (by kernel_rfl) (by kernel_rfl) (fun _ _ _ h => h) (Or.inl ⟨by rfl, ?ya12⟩) hS ?ra12
  case ya12 => (intro w0 hS0; (try simp only [] at hS0); obtain ⟨hS0_0, hS0_1, hS0_2, hS0_3, hS0_4, hS0_5⟩ := hS0; go_simp; try with_reducible rfl)
  try simp only [yA, yB, yC, Act.put, yD, yE, yF]
  refine wpAnyH_ready (rs := [4]) (by kernel_rfl) (by simp) (AllReadyH.cons (i := 4) rfl (fun K hK => ?_) AllReadyH.nil)
  go_simp
  refine (cmp_c _ a.n b.n _ rfl).mono ?_
  rintro e0 w1 ⟨rfl, rfl⟩
  go_simp
  refine hK.out _ _ (HS.out) (fun hS => ?_)
  clear hK K
  try simp only [yA, yB, yC, Act.put, yD, yE, yF]
  refine wpAnyH_ready (rs := [9]) (by kernel_rfl) (by simp) (AllReadyH.cons (i := 9) rfl (fun K hK => ?_) AllReadyH.nil)
  go_simp
  refine (cmp_c _ a.e b.e _ rfl).mono ?_
  rintro e0 w1 ⟨rfl, rfl⟩
  go_simp
  refine hK.out _ _ (HS.out) (fun hS => ?_)
  clear hK K
  try simp only [yA, yB, yC, Act.put, yD, yE, yF]
  refine wpAnyH_ready (rs := [14]) (by kernel_rfl) (by simp) (AllReadyH.cons (i := 14) rfl (fun K hK => ?_) AllReadyH.nil)
  go_simp
  refine (cmp_c _ a.s b.s _ rfl).mono ?_
  rintro e0 w1 ⟨rfl, rfl⟩
  go_simp
  refine hK.out _ _ (HS.out) (fun hS => ?_)
  clear hK K
  try simp only [yA, yB, yC, Act.put, yD, yE, yF]
  refine wpAnyH_ready (rs := [15]) (by kernel_rfl) (by simp) (AllReadyH.cons (i := 15) rfl (fun K hK => ?_) AllReadyH.nil)
  go_simp
  refine hK.out _ _ (⟨HS2.out.cell HS.out.1 (by simp), HS2.out.cell HS.out.2.1 (by simp), HS2.out.cell HS.out.2.2.1 (by simp), HS2.out.cell HS.out.2.2.2.1 (by simp), HS2.out.cell HS.out.2.2.2.2.1 (by simp), HS2.out.cell HS.out.2.2.2.2.2 (by simp)⟩) (fun hS => ?_)
  clear hK K
  try simp only [yA, yB, yC, Act.put, yD, yE, yF]
  refine wpAnyH_ready (rs := [16]) (by kernel_rfl) (by simp) (AllReadyH.cons (i := 16) rfl (fun K hK => ?_) AllReadyH.nil)
  go_simp
  refine (or_c _ _ _ (arr3 HX2.out) r HR.out).mono ?_
  rintro e0 w1 ⟨rfl, rfl⟩
  go_simp
  refine hK.out _ _ (⟨HS2.out.cell HS.out.1 (by simp), HS2.out.cell HS.out.2.1 (by simp), HS2.out.cell HS.out.2.2.1 (by simp), HS2.out.cell HS.out.2.2.2.1 (by simp), HS2.out.cell HS.out.2.2.2.2.1 (by simp), HS2.out.cell HS.out.2.2.2.2.2 (by simp)⟩) (fun hS => ?_)
  clear hK K
  try simp only [yA, yB, yC, Act.put, yD, yE, yF]
  refine wpAnyH_take (i := 17) (v := ?va18) rfl (by kernel_rfl) (by kernel_rfl) (by kernel_rfl) (fun _ _ _ h => h) (Or.inl ⟨by rfl, ?ya18⟩) hS ?ra18
  case ya18 => (intro w0 _; go_simp; try with_reducible rfl)
  try simp only [yA, yB, yC, Act.put, yD, yE, yF]
  refine wpAnyH_done (by kernel_rfl) ?_ _
  refine NoPanic.normal ?_
  try simp only [Exit.then]
  clear hS
  go_wp2_with fail
  go_ret
  exact ⟨rfl, HG.out.trans HS2.out⟩
end Go.Proofs.Ytdmkijdbldcdiaa
