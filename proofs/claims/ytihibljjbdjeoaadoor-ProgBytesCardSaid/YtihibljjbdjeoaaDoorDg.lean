/- The walks of the document's Digits and num. -/
import Derived.Test.YtihibljjbdjeoaaDoorDig
import Derived.Laws.IdiomStrings
namespace Go.Proofs.YtihibljjbdjeoaaDoor
open Go.RowKit
set_option linter.unusedVariables false

set_option maxRecDepth 100000 in
set_option maxHeartbeats 3200000 in
theorem digits_nn (m : Nat) : ∀ (u : Nat) (w : World), u < m → u ≤ 9223372036854775807 →
    Calls Tryd.prog 15 #[.int .i64 (u : Int)] w fun e w' => e = .returned (.string (num u)) ∧ w.grownBy w' none := by
  induction m with
  | zero => intro u w hm; omega
  | succ m ih =>
    intro u w hm h1
    have IH := As.mk ih
    clear ih
    by_cases hu : u < 10
    · have huI : (u : Int) < 10 := by omega
      have hcv := run_convert_bytes_back (P := Tryd.prog) (w.alloc (.cells #[.int .u8 (((UInt8.ofNat (48 + u)).toNat : Nat) : Int)] 5)) 71 9 5 ⟨w.heap.size, 0, none⟩ 1 [UInt8.ofNat (48 + u)] Tryd.underlying71 Tryd.underlying5 Tryd.underlying9 (fun j hj => by
        rw [Go.WideShapes.add_plain, Nat.zero_add, World.cell?_alloc_new]
        match j, hj with
        | 0, _ => rfl)
      simp only [List.length_cons, List.length_nil] at hcv
      have hcv : (convert 71 9 (.slice (some ⟨w.heap.size, 0, none⟩) 1 1)).run Tryd.prog (w.alloc (.cells #[.int .u8 (((UInt8.ofNat (48 + u)).toNat : Nat) : Int)] 5)) = .ok (.string ⟨#[UInt8.ofNat (48 + u)]⟩) (w.alloc (.cells #[.int .u8 (((UInt8.ofNat (48 + u)).toNat : Nat) : Int)] 5)) := hcv
      rw [← num_small u hu, digit_nat hu, show ((48 + u : Nat) : Int) = 48 + (u : Int) by omega] at hcv
      generalize num (u : Int) = s at *
      go_enter Tryd.func15, Tryd.ntmps15
      go_wp2_with fail
      go_ret
      exact ⟨rfl, gr_alloc (gr_refl _ _) _⟩
    · have huI : ¬ (u : Int) < 10 := by omega
      have e3 : (u : Int).tdiv 10 = ((u / 10 : Nat) : Int) := by rw [Int.tdiv_eq_ediv_of_nonneg (by omega)]; rfl
      have e5 : (u : Int) - ((u / 10 : Nat) : Int) * 10 = ((u % 10 : Nat) : Int) := by omega
      have HN := As.mk (num_ge u (by omega))
      have hc1 := As.mk (fun w => IH.out (u / 10) w (by omega) (by omega))
      have hc2 := As.mk (fun w => IH.out (u % 10) w (by omega) (by omega))
      have hz1 := num_size ((u / 10 : Nat) : Int) (by omega) (by omega)
      have hz2 := num_size ((u % 10 : Nat) : Int) (by omega) (by omega)
      have hz : ¬ 9223372036854775807 < (num ((u / 10 : Nat) : Int)).size + (num ((u % 10 : Nat) : Int)).size := by omega
      clear hz1 hz2
      have hq1 : ((u / 10 : Nat) : Int) * 10 ≤ 9223372036854775807 := by omega
      have hq0 : 0 ≤ ((u / 10 : Nat) : Int) := by omega
      generalize ((u / 10 : Nat) : Int) = q at *
      generalize ((u % 10 : Nat) : Int) = r at *
      go_enter Tryd.func15, Tryd.ntmps15
      go_wp2_with fail
      refine (hc1.out _).mono ?_
      rintro e w1 ⟨rfl, g1⟩
      go_wp2_with fail
      refine (hc2.out _).mono ?_
      rintro e w2 ⟨rfl, g2⟩
      go_wp2_with fail
      go_ret
      exact ⟨by rw [HN.out]; rfl, gr_then g1 g2 (.inl rfl)⟩
set_option maxRecDepth 100000 in
set_option maxHeartbeats 3200000 in
theorem digits_neg (m : Nat) : ∀ (u : Nat) (w : World), 0 < u → u < m → u ≤ 9223372036854775808 →
    Calls Tryd.prog 15 #[.int .i64 (-(u : Int))] w fun e w' => e = .returned (.string (num (-(u : Int)))) ∧ w.grownBy w' none := by
  induction m with
  | zero => intro u w h0 hm; omega
  | succ m ih =>
    intro u w h0 hm h1
    have IH := As.mk ih
    clear ih
    have hnI : (-(u : Int)) < 0 := by omega
    have e3 : (-(u : Int)).tdiv 10 = -((u / 10 : Nat) : Int) := by rw [Int.neg_tdiv, Int.tdiv_eq_ediv_of_nonneg (by omega)]; rfl
    have e5 : (-(u : Int)) - (-((u / 10 : Nat) : Int)) * 10 = -((u % 10 : Nat) : Int) := by omega
    have hc2 := As.mk (fun w => digits_nn (u + 1) (u % 10) w (by omega) (by omega))
    have hz2 := num_size ((u % 10 : Nat) : Int) (by omega) (by omega)
    by_cases hu : u < 10
    · have HN := As.mk (num_neg_small u (by omega))
      have e6 : -((u / 10 : Nat) : Int) = 0 := by omega
      have e7 : ((u % 10 : Nat) : Int) = (u : Int) := by omega
      rw [e6] at e3 e5
      rw [e7] at e5 hc2 hz2
      have hz : ¬ 9223372036854775807 < (⟨#[45]⟩ : ByteArray).size + (num (u : Int)).size := by show ¬ 9223372036854775807 < 1 + _; omega
      have hN0 : (0 : Int) ≤ (u : Int) := by omega
      have hN1 : (u : Int) < 10 := by omega
      clear hz2 e6 e7
      generalize hq : (u : Int) = q at *
      generalize hn : -q = n at *
      obtain rfl : q = -n := by omega
      go_enter Tryd.func15, Tryd.ntmps15
      go_wp2_with fail
      refine (hc2.out _).mono ?_
      rintro e w1 ⟨rfl, g1⟩
      go_wp2_with fail
      go_ret
      exact ⟨by rw [HN.out]; rfl, g1⟩
    · have HN := As.mk (num_neg_ge u (by omega))
      have hc1 := As.mk (fun w => IH.out (u / 10) w (by omega) (by omega) (by omega))
      have hz1 := num_size (-((u / 10 : Nat) : Int)) (by omega) (by omega)
      have hz : ¬ 9223372036854775807 < (num (-((u / 10 : Nat) : Int))).size + (num ((u % 10 : Nat) : Int)).size := by omega
      have hq0 : -((u / 10 : Nat) : Int) ≠ 0 := by omega
      have hq0' : (-((u / 10 : Nat) : Int) == 0) = false := by simpa using hq0
      have hq1 : -9223372036854775808 ≤ -((u / 10 : Nat) : Int) * 10 := by omega
      have hq2 : -((u / 10 : Nat) : Int) ≤ 0 := by omega
      have hr0 : 0 ≤ ((u % 10 : Nat) : Int) := by omega
      have hr1 : ((u % 10 : Nat) : Int) < 10 := by omega
      clear hz1 hz2 h0
      generalize hn : -(u : Int) = n at *
      generalize -((u / 10 : Nat) : Int) = q at *
      generalize ((u % 10 : Nat) : Int) = r at *
      go_enter Tryd.func15, Tryd.ntmps15
      go_wp2_with fail
      refine (hc1.out _).mono ?_
      rintro e w1 ⟨rfl, g1⟩
      go_wp2_with fail
      refine (hc2.out _).mono ?_
      rintro e w2 ⟨rfl, g2⟩
      go_wp2_with fail
      go_ret
      exact ⟨by rw [HN.out]; rfl, gr_then g1 g2 (.inl rfl)⟩
theorem digits_c (n : Int) (h0 : -9223372036854775808 ≤ n) (h1 : n ≤ 9223372036854775807) (w : World) :
    Calls Tryd.prog 15 #[.int .i64 n] w fun e w' => e = .returned (.string (num n)) ∧ w.grownBy w' none := by
  by_cases h : 0 ≤ n
  · obtain ⟨u, rfl⟩ := Int.eq_ofNat_of_zero_le h
    exact digits_nn (u + 1) u w (by omega) (by omega)
  · obtain ⟨u, hu⟩ : ∃ u : Nat, n = -(u : Int) := ⟨n.natAbs, by omega⟩
    subst hu
    exact digits_neg (u + 1) u w (by omega) (by omega) (by omega)
set_option maxRecDepth 100000 in
theorem num_c (n : Int) (h0 : -9223372036854775808 ≤ n) (h1 : n ≤ 9223372036854775807) (w : World) :
    Calls Tryd.prog 36 #[.int .i64 n] w fun e w' => e = .returned (.string (num n)) ∧ w.grownBy w' none := by
  go_enter Tryd.func36, Tryd.ntmps36
  go_wp2_with (go_at_call 15; refine (digits_c n h0 h1 _).mono ?_; rintro e w1 ⟨rfl, g1⟩)
  go_ret
  exact ⟨rfl, g1⟩
end Go.Proofs.YtihibljjbdjeoaaDoor
