/- The walks of ledger.Home and ledger.First. (Printed by wip/gen/gen_ob.py.) -/
import Derived.Test.YtdmkijdbldcdiaaMi
import Derived.Test.YtdmkijdbldcdiaaOa
namespace Go.Proofs.Ytdmkijdbldcdiaa
open Go.RowKit
set_option linter.unusedVariables false
set_option linter.unusedSimpArgs false
set_option maxRecDepth 100000

def homeI (c n : Int) : Int := if n < 1 then 0 else if c < 0 then 0 else c % n + 1
theorem home_c (w : World) (c n : Int) (hc : c ≤ 1000000) (hn : n ≤ 1000000) (q : Int) (hq : homeI c n = q) : Calls Try.prog 30 #[.int .i64 c, .int .i64 n] w fun e w' => e = .returned (.int .i64 q) ∧ w' = w := by
  subst hq
  unfold homeI
  by_cases h1 : n < 1
  · go_enter Try.func30, Try.ntmps30
    go_wp2_with fail
    go_ret
    exact ⟨retI rfl, rfl⟩
  · have h1' : 1 ≤ n := by omega
    by_cases h2 : c < 0
    · go_enter Try.func30, Try.ntmps30
      go_wp2_with fail
      go_ret
      exact ⟨retI rfl, rfl⟩
    · have h2' : 0 ≤ c := by omega
      have h3 := Int.emod_nonneg c (show n ≠ 0 by omega)
      have h4 := Int.emod_lt_of_pos c (show 0 < n by omega)
      have HW := As.mk (show IntKind.i64.wrap (c % n + 1) = c % n + 1 from IntWalk.i64_in _ (by omega))
      go_enter Try.func30, Try.ntmps30
      go_wp2_with fail
      go_ret
      exact ⟨retI rfl, rfl⟩
def fr (a b n : Int) : PRec := ⟨1, zT, [], [], a, b, n, 0, 0, 0, 0, 0, false⟩
def ownPl : PPl := ⟨1, 0, 0, 0, 0⟩
/-- The first k places are as they shall be, the others are zero. -/
def firstPl (a b : Int) (n k : Nat) : List PPl := (List.range n).map (fun c => if c < k ∧ homeI c b = a then ownPl else zPl)
def firstS (a b n : Int) : PSt := { baseS a b n with places := firstPl a b n.toNat n.toNat }
def firstE (a b n : Int) : Int × PSt := if rightR (fr a b n) = true then (0, firstS a b n) else (1, zS)
theorem firstPl_len (a b : Int) (n k : Nat) : (firstPl a b n k).length = n := by simp [firstPl]
theorem firstPl_zero (a b : Int) (n : Nat) : firstPl a b n 0 = List.replicate n zPl := by
  unfold firstPl
  apply List.ext_getElem
  · simp
  · intro i h1 h2; simp
theorem firstPl_skip (a b : Int) (n k : Nat) (h : ¬ homeI k b = a) : firstPl a b n (k + 1) = firstPl a b n k := by
  unfold firstPl
  apply List.map_congr_left
  intro c hc
  by_cases e : c = k
  · subst e; rw [if_neg (fun q => h q.2), if_neg (fun q => h q.2)]
  · by_cases e2 : c < k
    · simp [e2, show c < k + 1 by omega]
    · simp [e2, show ¬ c < k + 1 by omega]
theorem firstPl_set (a b : Int) (n k : Nat) (hk : k < n) (h : homeI k b = a) : firstPl a b n (k + 1) = (firstPl a b n k).set k (zPl.setF 0 1) := by
  apply List.ext_getElem?
  intro i
  by_cases hi : i < n
  · have e1 : ∀ m, (firstPl a b n m)[i]? = some (if i < m ∧ homeI i b = a then ownPl else zPl) := fun m => by
      unfold firstPl; rw [List.getElem?_map, List.getElem?_range hi]; rfl
    rw [e1, List.getElem?_set]
    by_cases e : k = i
    · subst e
      rw [if_pos ⟨by omega, h⟩, if_pos rfl, if_pos (by rw [firstPl_len]; exact hi)]; rfl
    · rw [if_neg e, e1]
      have : (i < k + 1 ∧ homeI i b = a) ↔ (i < k ∧ homeI i b = a) := ⟨fun ⟨h1, h2⟩ => ⟨by omega, h2⟩, fun ⟨h1, h2⟩ => ⟨by omega, h2⟩⟩
      simp only [this]
  · rw [List.getElem?_eq_none (by rw [firstPl_len]; omega), List.getElem?_eq_none (by rw [List.length_set, firstPl_len]; omega)]
theorem firstPl_at (a b : Int) (n k : Nat) (hk : k < n) : (firstPl a b n k)[k]? = some zPl := by
  unfold firstPl
  rw [List.getElem?_map, List.getElem?_range hk]
  simp
theorem Arr.nil0 {α : Type} {E : World → α → List Value → Prop} {sz : Nat} {w : World} : Arr E sz w (.slice none 0 0) [] := ⟨none, 0, rfl, by simp, fun h => by simp at h⟩
set_option maxHeartbeats 6400000 in
theorem First_c (w : World) (a b n : Int) : Calls Try.prog 14 #[.int .i64 a, .int .i64 b, .int .i64 n] w (StPost w (firstE a b n).2 (firstE a b n).1) := by
  have HG := As.mk (gr_alloc (gr_refl w none) (.cells #[.int .i64 0, .int .i64 0, .int .i64 0, .int .i64 0, .slice none 0 0, .slice none 0 0, .slice none 0 0, .slice none 0 0] 32))
  have HZ := As.mk (Blk.new w 32 #[.int .i64 0, .int .i64 0, .int .i64 0, .int .i64 0, .slice none 0 0, .slice none 0 0, .slice none 0 0, .slice none 0 0])
  go_enter Try.func14, Try.ntmps14
  go_wp2_with fail
  generalize w.alloc (.cells #[.int .i64 0, .int .i64 0, .int .i64 0, .int .i64 0, .slice none 0 0, .slice none 0 0, .slice none 0 0, .slice none 0 0] 32) = W at *
  refine (recRight_c W (fr a b n) none 0 none 0 Arr.nil0 Arr.nil0 _ rfl).mono ?_
  rintro e w1 ⟨rfl, hg1⟩
  replace HG := As.mk (gr_then HG.out hg1 (.inl rfl))
  replace HZ := As.mk (HZ.out.grown hg1 (by simp))
  clear hg1
  cases hr : rightR (fr a b n)
  · have HE := As.mk (show firstE a b n = (1, zS) by unfold firstE; rw [hr]; rfl)
    obtain ⟨z0, z1, z2, z3, z4, z5, z6, z7⟩ := (HZ.out).c8
    have fz0 := HZ.out.free 0
    have fz1 := HZ.out.free 1
    have fz2 := HZ.out.free 2
    have fz3 := HZ.out.free 3
    have fz4 := HZ.out.free 4
    have fz5 := HZ.out.free 5
    have fz6 := HZ.out.free 6
    have fz7 := HZ.out.free 7
    have HZ5 := As.mk (HZ.out.put8 (.int .i64 0) (.int .i64 0) (.int .i64 0) (.int .i64 0) (.slice none 0 0) (.slice none 0 0) (.slice none 0 0) (.slice none 0 0))
    have HG5 := As.mk (gr_put8 HG.out (sb := w.heap.size) (.inr (Nat.le_refl _)) (.int .i64 0) (.int .i64 0) (.int .i64 0) (.int .i64 0) (.slice none 0 0) (.slice none 0 0) (.slice none 0 0) (.slice none 0 0))
    unfold Go.Proofs.Ytdmkijdbldcdiaa.put8 at HZ5 HG5
    go_wp2_with fail
    refine bodyPost_ret (results_row_tmp (P := Try.prog) rfl _ _ w.heap.size 32 _ (0, 0) _ rfl (.int .i64 1) rfl HZ5.out Try.underlying32 rfl (by kernel_rfl)) rfl ?_
    rw [HE.out]
    exact ⟨_, _, _, _, _, _, rfl, HG5.out, Rows.zero _ _⟩
  · obtain ⟨hb, ha, hn⟩ : (1 ≤ b ∧ b ≤ 16) ∧ (1 ≤ a ∧ a ≤ b) ∧ (1 ≤ n ∧ n ≤ 16) := by
      have := hr
      unfold rightR at this
      rw [Bool.and_eq_true] at this
      have h2 := this.2
      simp [rightK, fr, inR_iff] at h2
      omega
    obtain ⟨m, rfl⟩ : ∃ m : Nat, n = (m : Int) := ⟨n.toNat, by omega⟩
    have HE := As.mk (show firstE a b m = (0, { baseS a b m with places := firstPl a b m m }) by unfold firstE; rw [hr]; rfl)
    have HNB := As.mk (And.intro ha (And.intro hb hn))
    clear hr
    go_wp2_with fail
    refine (base_c _ a b m (by omega)).mono ?_
    rintro e w2 ⟨g, rfl, hgg, hbg, hg1⟩
    have HG0 := As.mk HG.out
    have HZ0 := As.mk (HZ.out.grown hg1 (by simp))
    replace HG := As.mk (gr_then HG.out hg1 (.inl rfl))
    replace HZ := As.mk (HZ.out.grown hg1 (by simp))
    have HBG := As.mk hbg
    have HGG := As.mk hgg
    clear hg1 hbg hgg
    have hga := gr_alloc (gr_refl w2 none) (.cells #[.int .i64 a, .int .i64 b, .int .i64 (m : Int), .int .i64 0, .slice (some ⟨g, 0, none⟩) m m, .slice none 0 0, .slice none 0 0, .slice none 0 0] 32)
    have HRW := As.mk (show Rows _ w.heap.size { baseS a b m with places := firstPl a b m 0 } (.slice (some ⟨g, 0, none⟩) m m) (.slice none 0 0) (.slice none 0 0) (.slice none 0 0) [] [] from ⟨by
      have := own_ofBlk (n := m) (sz := 5) (HBG.out.grown hga (by simp)) (by rw [flat_len plCells 5 (fun _ => rfl), List.length_replicate]) w.heap.size (Nat.le_trans HG0.out.size HGG.out) (by have := HNB.out; omega)
      simpa [firstPl_zero] using this, own_nilRow _ _ _ _, own_nilRow _ _ _ _, own_nilRow _ _ _ _, rfl, rfl, fun q hq => (by cases hq), fun q hq => (by cases hq)⟩)
    have HO := As.mk (HRW.out.st (sb := w2.heap.size) (Blk.new w2 32 #[.int .i64 a, .int .i64 b, .int .i64 (m : Int), .int .i64 0, .slice (some ⟨g, 0, none⟩) m m, .slice none 0 0, .slice none 0 0, .slice none 0 0]) HG.out.size)
    replace HZ := As.mk (HZ.out.grown hga (by simp))
    replace HG := As.mk (gr_then HG.out hga (.inl rfl))
    have HSB := As.mk (show w.heap.size < w2.heap.size from HZ0.out.lt)
    clear hga HRW HBG HGG HZ0 HG0
    unfold stCells baseS
    go_wp2_with fail
    generalize w2.alloc (.cells #[.int .i64 a, .int .i64 b, .int .i64 (m : Int), .int .i64 0, .slice (some ⟨g, 0, none⟩) m m, .slice none 0 0, .slice none 0 0, .slice none 0 0] 32) = W3 at *
    generalize w2.heap.size = sb at *
    go_loopw [24] (fun i wr => ∃ k : Nat, k ≤ m ∧ i = .int .i64 k ∧ As (w.grownBy wr none ∧ OwnSt wr w.heap.size sb { baseS a b m with places := firstPl a b m k } (.slice (some ⟨g, 0, none⟩) m m) (.slice none 0 0) (.slice none 0 0) (.slice none 0 0) [] [] ∧ Blk wr w.heap.size 32 #[.int .i64 0, .int .i64 0, .int .i64 0, .int .i64 0, .slice none 0 0, .slice none 0 0, .slice none 0 0, .slice none 0 0])) (fun i _ => m - (intOf i).toNat)
    case atStart => exact ⟨0, Nat.zero_le _, rfl, ⟨HG.out, HO.out, HZ.out⟩⟩
    case round =>
      obtain ⟨k, hk, rfl, HL⟩ := hrel
      clear HG HO HZ
      obtain ⟨HG, HO, HZ⟩ := HL.out
      clear HL
      replace HG := As.mk HG
      replace HO := As.mk HO
      replace HZ := As.mk HZ
      by_cases hlt : k < m
      · have hltI : (k : Int) < (m : Int) := by omega
        have hk0 : (0 : Int) ≤ (k : Int) := by omega
        have hm16 : m ≤ 16 := by have := HNB.out; omega
        by_cases hh : homeI k b = a
        · go_wp2_with fail
          refine (home_c _ k b (by omega) (by have := HNB.out; omega) a hh).mono ?_
          rintro e w3 ⟨rfl, rfl⟩
          obtain ⟨q0, f0⟩ := HO.out.atP k zPl (firstPl_at a b m k hlt) 0 _ rfl
          simp only [Nat.add_zero] at q0 f0
          have b4 := HO.out.blk.cell 4
          simp only [stCells, List.getElem?_toArray, List.getElem?_cons_zero, List.getElem?_cons_succ] at b4
          have HO2 := As.mk (HO.out.cellP k (by rw [show ({ baseS a b m with places := firstPl a b m k } : PSt).places = firstPl a b m k from rfl, firstPl_len]; exact hlt) 0 (by omega) 1)
          have HG2 := As.mk (gr_set HG.out (a := ⟨g, k * 5, none⟩) (.inr (own_lo HO.out.pl g rfl)) (.int .i64 1))
          have HZ2 := As.mk (HZ.out.far (a := ⟨g, k * 5, none⟩) (fun e => own_ne HZ.out HO.out.pl (by decide) (by rw [e]; rfl)) (.int .i64 1))
          have HEQ := As.mk (show (firstPl a b m k).set k (((firstPl a b m k)[k]'(by rw [firstPl_len]; exact hlt)).setF 0 1) = firstPl a b m (k + 1) by
            have h1 := firstPl_at a b m k hlt
            have h2 := (List.getElem?_eq_some_iff.1 h1).2
            rw [h2, ← firstPl_set a b m k hlt hh])
          go_wp2_with fail
          go_roundw
          case measure => simp [intOf]; omega
          case rel =>
            refine ⟨k + 1, by omega, by go_num, ⟨HG2.out, ?_, HZ2.out⟩⟩
            have h3 := HO2.out
            dsimp only [Nat.add_zero] at h3
            rw [HEQ.out] at h3
            exact h3
        · have hhb : (homeI k b == a) = false := by simpa using hh
          have hsk := As.mk (firstPl_skip a b m k hh)
          go_wp2_with fail
          refine (home_c _ k b (by omega) (by have := HNB.out; omega) _ rfl).mono ?_
          rintro e w3 ⟨rfl, rfl⟩
          generalize homeI k b = q at *
          go_wp2_with fail
          go_roundw
          case measure => simp [intOf]; omega
          case rel => exact ⟨k + 1, by omega, by go_num, ⟨HG.out, by rw [hsk.out]; exact HO.out, HZ.out⟩⟩
      · obtain rfl : k = m := by omega
        clear hlt hk
        have HRW := As.mk (HO.out.rows.put8 HZ.out (.int .i64 a) (.int .i64 b) (.int .i64 (k : Int)) (.int .i64 0) (.slice (some ⟨g, 0, none⟩) k k) (.slice none 0 0) (.slice none 0 0) (.slice none 0 0))
        have HZ5 := As.mk (HZ.out.put8 (.int .i64 a) (.int .i64 b) (.int .i64 (k : Int)) (.int .i64 0) (.slice (some ⟨g, 0, none⟩) k k) (.slice none 0 0) (.slice none 0 0) (.slice none 0 0))
        have HG5 := As.mk (gr_put8 HG.out (sb := w.heap.size) (.inr (Nat.le_refl _)) (.int .i64 a) (.int .i64 b) (.int .i64 (k : Int)) (.int .i64 0) (.slice (some ⟨g, 0, none⟩) k k) (.slice none 0 0) (.slice none 0 0) (.slice none 0 0))
        unfold Go.Proofs.Ytdmkijdbldcdiaa.put8 at HRW HZ5 HG5
        obtain ⟨q0, q1, q2, q3, q4, q5, q6, q7⟩ := (HO.out.blk).c8
        obtain ⟨z0, z1, z2, z3, z4, z5, z6, z7⟩ := (HZ.out).c8
        have fz0 := HZ.out.free 0
        have fz1 := HZ.out.free 1
        have fz2 := HZ.out.free 2
        have fz3 := HZ.out.free 3
        have fz4 := HZ.out.free 4
        have fz5 := HZ.out.free 5
        have fz6 := HZ.out.free 6
        have fz7 := HZ.out.free 7
        go_wp2_with fail
        refine bodyPost_ret (results_row_tmp (P := Try.prog) rfl _ _ w.heap.size 32 _ (0, 0) _ rfl (.int .i64 0) rfl HZ5.out Try.underlying32 rfl (by kernel_rfl)) rfl ?_
        rw [HE.out]
        exact ⟨_, _, _, _, _, _, rfl, HG5.out, HRW.out⟩
end Go.Proofs.Ytdmkijdbldcdiaa
