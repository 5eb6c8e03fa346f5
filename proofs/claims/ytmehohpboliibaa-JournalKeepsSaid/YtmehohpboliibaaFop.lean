/- The walk of frame.Open. -/
import Derived.Test.YtmehohpboliibaaFrm
namespace Go.Proofs.Ytmehohpboliibaa
open Go.RowKit
set_option linter.unusedVariables false

def byt (s : ByteArray) (i : Nat) : Nat := (s.data.toList.getD i 0).toNat
theorem byt_lt (s : ByteArray) (i : Nat) : byt s i < 256 := (s.data.toList.getD i 0).toNat_lt
theorem byt_get (s : ByteArray) (i : Nat) (h : i < s.size) : (s[i]'h).toNat = byt s i := by
  unfold byt
  rw [List.getD_eq_getElem?_getD, List.getElem?_eq_getElem (by rw [Array.length_toList]; exact h)]
  rfl
/-- What a frame's first two bytes say. -/
def hd (s : ByteArray) : Nat := byt s 0 * 256 + byt s 1
def openF (s : ByteArray) : ByteArray × ByteArray × Int :=
  if s.size < 6 then (⟨#[]⟩, ⟨#[]⟩, 4) else
  if 4096 < hd s then (⟨#[]⟩, ⟨#[]⟩, 5) else
  if s.size < 6 + hd s then (⟨#[]⟩, ⟨#[]⟩, 4) else
  if le4 (moreSum 0 (s.extract 0 (2 + hd s))) = s.extract (2 + hd s) (6 + hd s) then (s.extract 2 (2 + hd s), s.extract (6 + hd s) s.size, 0) else (⟨#[]⟩, ⟨#[]⟩, 3)
theorem or_join (a b : Nat) (ha : a < 256) (hb : b < 256) : bits .or .i64 (((a * 256 : Nat)) : Int) (b : Int) = ((a * 256 + b : Nat) : Int) := by
  rw [bits_join .i64 63 (by decide) (fun n h0 h1 => by rw [IntKind.wrap_i64]; omega) 8 _ _ (by omega) (by omega) (by omega) (by omega) (by omega) (by omega)]
  rfl
theorem ba_inj {a b : ByteArray} (h : a.toList = b.toList) : a = b := by
  rw [ByteArray.toList_eq, ByteArray.toList_eq] at h
  exact ByteArray.ext (Array.toList_inj.1 h)
set_option maxHeartbeats 3200000 in
theorem open_c (s : ByteArray) (w : World) (hz : s.size ≤ 140737488351232) :
    Calls Try.prog 17 #[.string s] w fun e w' => e = .returned (.tuple #[.string (openF s).1, .string (openF s).2.1, .int .i64 (openF s).2.2]) ∧ w.grownBy w' none := by
  unfold openF
  by_cases h6 : s.size < 6
  · rw [if_pos h6]
    go_enter Try.func17, Try.ntmps17
    go_wp2
    go_ret3
    exact ⟨rfl, gr_refl _ _⟩
  · rw [if_neg h6]
    have l0 : (0 : Int) < (s.size : Int) := by omega
    have l1 : (1 : Int) < (s.size : Int) := by omega
    have l6 : ¬ (s.size : Int) < 6 := by omega
    have n0 : 0 < s.size := by omega
    have n1 : 1 < s.size := by omega
    have b0 := byt_lt s 0
    have b1 := byt_lt s 1
    have w0 : IntKind.i64.wrap ((s[0]'n0).toNat : Int) = ((byt s 0 : Nat) : Int) := by rw [byt_get, IntKind.wrap_i64]; omega
    have w1 : IntKind.i64.wrap ((s[1]'n1).toNat : Int) = ((byt s 1 : Nat) : Int) := by rw [byt_get, IntKind.wrap_i64]; omega
    have w2 : IntKind.i64.wrap (((byt s 0 : Nat) : Int) * 256) = ((byt s 0 * 256 : Nat) : Int) := by rw [IntKind.wrap_i64]; omega
    have w3 : bits .or .i64 ((byt s 0 * 256 : Nat) : Int) ((byt s 1 : Nat) : Int) = ((hd s : Nat) : Int) := or_join _ _ b0 b1
    have hhd : hd s < 65536 := by unfold hd; omega
    generalize hd s = n at *
    generalize byt s 0 * 256 = q at *
    generalize byt s 0 = x0 at *
    generalize byt s 1 = x1 at *
    by_cases h4 : 4096 < n
    · rw [if_pos h4]
      have h4I : (4096 : Int) < (n : Int) := by omega
      clear h4 hhd b0 b1
      go_enter Try.func17, Try.ntmps17
      go_wp2_with fail
      go_quiet (fail)
      go_wp2
      go_ret3
      exact ⟨rfl, gr_drewN (gr_refl _ _) _⟩
    · rw [if_neg h4]
      have h4I : ¬ (4096 : Int) < (n : Int) := by omega
      have w4 : IntKind.i64.wrap ((s.size : Int) - 6) = (s.size : Int) - 6 := by rw [IntKind.wrap_i64]; omega
      by_cases h5 : s.size < 6 + n
      · rw [if_pos h5]
        have h5I : (s.size : Int) - 6 < (n : Int) := by omega
        clear h4 h5 hhd b0 b1
        go_enter Try.func17, Try.ntmps17
        go_wp2_with fail
        go_quiet (fail)
        go_wp2
        go_ret3
        exact ⟨rfl, gr_drewN (gr_refl _ _) _⟩
      · rw [if_neg h5]
        have h5I : ¬ (s.size : Int) - 6 < (n : Int) := by omega
        have w5 : IntKind.i64.wrap (2 + (n : Int)) = ((2 + n : Nat) : Int) := by rw [IntKind.wrap_i64]; omega
        have w6 : IntKind.i64.wrap (6 + (n : Int)) = ((6 + n : Nat) : Int) := by rw [IntKind.wrap_i64]; omega
        have f1 : ((2 + n : Nat) : Int) ≤ (s.size : Int) := by omega
        have f2 : ((6 + n : Nat) : Int) ≤ (s.size : Int) := by omega
        have f3 : (2 : Int) ≤ ((2 + n : Nat) : Int) := by omega
        have f4 : ((2 + n : Nat) : Int) ≤ ((6 + n : Nat) : Int) := by omega
        have S := As.mk (fun w' => fsum_one (s.extract 0 (2 + n)) 9 w' (by rw [ByteArray.size_extract]; omega))
        generalize 2 + n = n2 at *
        generalize 6 + n = n6 at *
        generalize moreSum 0 (s.extract 0 n2) = ms at *
        by_cases hc : le4 ms = s.extract n2 n6
        · rw [if_pos hc]
          clear h4 h5 hhd b0 b1
          have HC := As.mk hc
          clear hc
          go_enter Try.func17, Try.ntmps17
          go_wp2_with fail
          go_quiet (fail)
          go_wp2_with fail
          go_region_held3 (fun w' => True) (first | trivial | go_keep) (first | (go_at_call 51; refine (S.out _).mono ?_; rintro e w4 ⟨rfl, hg⟩))
          have G := As.mk hg
          have hb : ((le4 ms).toList == (s.extract n2 n6).toList) = true := by rw [HC.out]; simp
          simp only [Exit.then, hb, Bool.not_true]
          clear hg S
          go_wp2_with fail
          go_quiet (fail)
          go_wp2
          go_ret3
          exact ⟨rfl, gr_drewN (gr_then (gr_drewN (gr_refl w none) _) G.out (.inl rfl)) _⟩
        · rw [if_neg hc]
          clear h4 h5 hhd b0 b1
          have HC := As.mk hc
          clear hc
          go_enter Try.func17, Try.ntmps17
          go_wp2_with fail
          go_quiet (fail)
          go_wp2_with fail
          go_region_held3 (fun w' => True) (first | trivial | go_keep) (first | (go_at_call 51; refine (S.out _).mono ?_; rintro e w4 ⟨rfl, hg⟩))
          have G := As.mk hg
          have hb : ((le4 ms).toList == (s.extract n2 n6).toList) = false := by
            rw [beq_eq_false_iff_ne]
            exact fun e => HC.out (ba_inj e)
          simp only [Exit.then, hb, Bool.not_false]
          clear hg S
          go_wp2
          go_ret3
          exact ⟨rfl, gr_then (gr_drewN (gr_refl w none) _) G.out (.inl rfl)⟩
end Go.Proofs.Ytmehohpboliibaa
