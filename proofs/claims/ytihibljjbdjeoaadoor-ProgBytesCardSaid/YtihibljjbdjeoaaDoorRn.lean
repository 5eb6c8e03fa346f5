/- wire.Reader's Num; the document's value and Get of a number. -/
import Derived.Test.YtihibljjbdjeoaaDoorRdE
namespace Go.Proofs.YtihibljjbdjeoaaDoor
open Go.RowKit
set_option linter.unusedVariables false

def num8 (S : ByteArray) (p : Nat) : Int := IntKind.i64.wrap (numL (S.extract p (p + 8)).data.toList)
def rNum (S : ByteArray) (t : St) : Int × St := if t.br = false ∧ t.p + 8 ≤ S.size then (num8 S t.p, ⟨t.p + 8, false⟩) else (0, ⟨t.p, true⟩)
set_option maxHeartbeats 400000 in
theorem numr_walk (b : Nat) (S : ByteArray) (t : St) (w : World) (hS : S.size ≤ 140737488355328) (h : RdAt w b S t) :
    Calls Tryd.prog 49 #[.pointer (some ⟨b, 0, none⟩)] w fun e w' => e = .returned (.int .i64 (rNum S t).1) ∧ RdAt w' b S (rNum S t).2 ∧ w.grownBy w' (some b) := by
  by_cases hc : t.br = false ∧ t.p + 8 ≤ S.size
  · have e : rNum S t = (num8 S t.p, ⟨t.p + 8, false⟩) := by simp [rNum, hc]
    rw [e]
    obtain ⟨p, br⟩ := t
    obtain ⟨rfl, hp⟩ := hc
    dsimp only at *
    have HT : As (Calls Tryd.prog 68 #[.pointer (some ⟨b, 0, none⟩), .int .i64 8] w fun e w' => e = .returned (.string (S.extract p (p + 8))) ∧ RdAt w' b S ⟨p + 8, false⟩ ∧ w.grownBy w' (some b)) := ⟨take_yes b S p 8 w hS h hp⟩
    have hsz : (S.extract p (p + 8)).size ≤ 140737488355328 := by simp; omega
    unfold num8
    clear e h
    generalize S.extract p (p + 8) = s1 at *
    go_enter Tryd.func49, Tryd.ntmps49
    go_wp2_with (first | (go_at_call 68; refine HT.out.mono ?_; rintro e w1 ⟨rfl, hr, hg⟩) | (go_at_call 67; refine (num_walk _ _ hsz).mono ?_; rintro e w2 ⟨rfl, rfl⟩))
    go_ret
    exact ⟨by simp [wrap64, IntKind.wrap, IntKind.bits, IntKind.signed]; split <;> omega, hr, hg⟩
  · have e : rNum S t = (0, ⟨t.p, true⟩) := by simp only [rNum, if_neg hc]
    rw [e]
    have HT : As (Calls Tryd.prog 68 #[.pointer (some ⟨b, 0, none⟩), .int .i64 8] w fun e w' => e = .returned (.string .empty) ∧ RdAt w' b S ⟨t.p, true⟩ ∧ w.grownBy w' (some b)) := ⟨take_no b S t 8 w hS h (by
      cases hb : t.br
      · right; have : ¬ t.p + 8 ≤ S.size := fun h => hc ⟨hb, h⟩; omega
      · left; rfl)⟩
    clear e h hc
    have hsz : (ByteArray.empty).size ≤ 140737488355328 := by decide
    have HV : As (numL (ByteArray.empty).data.toList = 0) := ⟨rfl⟩
    generalize ByteArray.empty = s1 at *
    go_enter Tryd.func49, Tryd.ntmps49
    go_wp2_with (first | (go_at_call 68; refine HT.out.mono ?_; rintro e w1 ⟨rfl, hr, hg⟩) | (go_at_call 67; refine (num_walk _ _ hsz).mono ?_; rintro e w2 ⟨rfl, rfl⟩; rw [HV.out]))
    go_ret
    exact ⟨rfl, hr, hg⟩
theorem numR_c {b : Nat} {S : ByteArray} {t : St} {w : World} {n : Int} {t' : St} (hv : rNum S t = (n, t')) (hS : S.size ≤ 140737488355328) (h : RdAt w b S t) :
    Calls Tryd.prog 49 #[.pointer (some ⟨b, 0, none⟩)] w fun e w' => e = .returned (.int .i64 n) ∧ RdAt w' b S t' ∧ w.grownBy w' (some b) := by
  have := numr_walk b S t w hS h
  rw [hv] at this
  exact this
theorem numStep_plain (m : Int) (c : UInt8) (h0 : 0 ≤ m) (h1 : m < 18446744073709551616) : IntKind.u64.wrap (IntKind.u64.wrap (m * 256) + IntKind.u64.wrap (c.toNat : Int)) = numStep m c := by
  have hw : ∀ n : Int, IntKind.u64.wrap n = n % 18446744073709551616 := fun n => by simp [IntKind.wrap, IntKind.bits, IntKind.signed]
  have hc : (c.toNat : Int) < 256 := by have := c.toNat_lt; omega
  rw [hw, hw, hw]
  unfold numStep
  omega
theorem numL_range (l : List UInt8) : 0 ≤ numL l ∧ numL l < 18446744073709551616 := by
  rw [← List.reverse_reverse l]
  induction l.reverse with
  | nil => exact ⟨by decide, by decide⟩
  | cons c r ih =>
    rw [List.reverse_cons, numL_snoc]
    have hc : (c.toNat : Int) < 256 := by have := c.toNat_lt; omega
    unfold numStep
    omega
set_option maxHeartbeats 400000 in
theorem value_walk (s : ByteArray) (w : World) (hs : s.size ≤ 140737488355328) :
    Calls Tryd.prog 69 #[.string s] w fun e w' => e = .returned (.int .u64 (numL s.data.toList)) ∧ w' = w := by
  go_enter Tryd.func69, Tryd.ntmps69
  go_wp2
  go_loop [3, 4] (fun n i => ∃ k : Nat, k ≤ s.size ∧ i = .int .i64 k ∧ n = .int .u64 (numL (s.data.toList.take k))) (fun _ i => s.size - (intOf i).toNat)
  case atStart => exact ⟨0, Nat.zero_le _, rfl, rfl⟩
  case round =>
    obtain ⟨k, hk, rfl, rfl⟩ := hrel
    by_cases hlt : k < s.size
    · have H := As.mk (ba_take_snoc s k hlt)
      have HN := As.mk (numL_range (s.data.toList.take k))
      generalize hm : numL (s.data.toList.take k) = m at *
      have HM := As.mk hm
      clear hm
      go_wp2
      go_round
      case rel => exact ⟨k + 1, by omega, by go_num, by
        have h9 := numStep_plain m s[k] HN.out.1 HN.out.2
        rw [H.out, numL_snoc, HM.out, ← h9]⟩
      case measure => simp [intOf]; omega
    · go_wp2
      go_ret
      rw [show k = s.size by omega, List.take_of_length_le (by rw [ba_len]; exact Nat.le_refl _)]
      exact ⟨rfl, rfl⟩
end Go.Proofs.YtihibljjbdjeoaaDoor
