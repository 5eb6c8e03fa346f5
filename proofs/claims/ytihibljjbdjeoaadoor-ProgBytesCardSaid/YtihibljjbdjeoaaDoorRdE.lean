/- The walks of wire's Reader. -/
import Derived.Test.YtihibljjbdjeoaaDoorBase
import Derived.Laws.BitsLemmas
namespace Go.Proofs.YtihibljjbdjeoaaDoor
open Go.RowKit
set_option linter.unusedVariables false

/-- The number of bytes, the highest first, as 64 bits have it. -/
def numStep (m : Int) (c : UInt8) : Int := m * 256 % 18446744073709551616 + c.toNat
def numL (l : List UInt8) : Int := l.foldl numStep 0
theorem numStep_bits (m : Int) (c : UInt8) : bits .or .u64 (IntKind.u64.wrap (m * 256)) (IntKind.u64.wrap (c.toNat : Int)) = numStep m c := by
  have hw : ∀ n : Int, IntKind.u64.wrap n = n % 18446744073709551616 := fun n => by simp [IntKind.wrap, IntKind.bits, IntKind.signed]
  have hc : (c.toNat : Int) < 256 := by have := c.toNat_lt; omega
  rw [hw, hw, bits_join .u64 64 (by decide) (fun n h0 h1 => by rw [hw]; omega) 8 _ _ (by omega) (by omega) (by omega) (by omega) (by omega) (by omega)]
  unfold numStep
  omega
theorem numL_snoc (l : List UInt8) (c : UInt8) : numL (l ++ [c]) = numStep (numL l) c := by simp [numL]
theorem ba_take_snoc (s : ByteArray) (k : Nat) (h : k < s.size) : s.data.toList.take (k + 1) = s.data.toList.take k ++ [s[k]] := by
  rw [List.take_succ_eq_append_getElem (by simpa using h)]; rfl
theorem ba_len (s : ByteArray) : s.data.toList.length = s.size := by rw [Array.length_toList]; rfl

set_option maxHeartbeats 400000 in
theorem num_walk (s : ByteArray) (w : World) (hs : s.size ≤ 140737488355328) :
    Calls Tryd.prog 67 #[.string s] w fun e w' => e = .returned (.int .u64 (numL s.data.toList)) ∧ w = w' := by
  go_enter Tryd.func67, Tryd.ntmps67
  go_wp2
  go_loop [3, 4] (fun n i => ∃ k : Nat, k ≤ s.size ∧ i = .int .i64 k ∧ n = .int .u64 (numL (s.data.toList.take k))) (fun _ i => s.size - (intOf i).toNat)
  case atStart => exact ⟨0, Nat.zero_le _, rfl, rfl⟩
  case round =>
    obtain ⟨k, hk, rfl, rfl⟩ := hrel
    by_cases hlt : k < s.size
    · have H := As.mk (ba_take_snoc s k hlt)
      generalize hm : numL (s.data.toList.take k) = m
      have HM := As.mk hm
      clear hm
      go_wp2
      go_round
      case rel => exact ⟨k + 1, by omega, by go_num, by rw [numStep_bits, H.out, numL_snoc, HM.out]⟩
      case measure => simp [intOf]; omega
    · go_wp2
      go_ret
      rw [show k = s.size by omega, List.take_of_length_le (by rw [ba_len]; exact Nat.le_refl _)]
      exact ⟨rfl, rfl⟩

/-- Where a reader of S stands, and whether it is broken. -/
structure St where
  p : Nat
  br : Bool
def byteAt (S : ByteArray) (p : Nat) : Nat := if h : p < S.size then (S[p]'h).toNat else 0
theorem byteAt_lt (S : ByteArray) (p : Nat) : byteAt S p < 256 := by
  unfold byteAt; split
  · rename_i h; have := (S[p]'h).toNat_lt; omega
  · omega
def RdAt (w : World) (b : Nat) (S : ByteArray) (t : St) : Prop := Blk w b 121 #[.string (S.extract t.p S.size), .bool t.br] ∧ t.p ≤ S.size

theorem extract_size (S : ByteArray) (p : Nat) : (S.extract p S.size).size = S.size - p := by simp
theorem extract_cut (S : ByteArray) (p n : Nat) (h : p + n ≤ S.size) : (S.extract p S.size).extract 0 n = S.extract p (p + n) := by
  apply ByteArray.ext
  simp only [ByteArray.data_extract, Array.extract_extract]
  congr 1; omega
theorem extract_rest (S : ByteArray) (p n : Nat) (h : p + n ≤ S.size) : (S.extract p S.size).extract n (S.size - p) = S.extract (p + n) S.size := by
  apply ByteArray.ext
  simp only [ByteArray.data_extract, Array.extract_extract]
  congr 1; omega

set_option maxHeartbeats 400000 in
theorem break_walk (b : Nat) (S : ByteArray) (t : St) (w : World) (h : RdAt w b S t) :
    Calls Tryd.prog 76 #[.pointer (some ⟨b, 0, none⟩)] w fun e w' => e = .returned (.tuple #[]) ∧ RdAt w' b S ⟨t.p, true⟩ ∧ w.grownBy w' (some b) := by
  obtain ⟨hB, hp⟩ := h
  have h1 : w.cell? ⟨b, 1, none⟩ = some (.bool t.br) := hB.cell 1
  have f1 := hB.free 1
  have HB := As.mk hB
  clear hB
  go_enter Tryd.func76, Tryd.ntmps76
  go_wp2
  go_end0
  exact ⟨rfl, ⟨HB.out.set 1 (.bool true), hp⟩, gr_set (gr_refl _ _) (.inl rfl) _⟩

set_option maxHeartbeats 400000 in
theorem take_yes (b : Nat) (S : ByteArray) (p n : Nat) (w : World) (hS : S.size ≤ 140737488355328) (h : RdAt w b S ⟨p, false⟩) (hn : p + n ≤ S.size) :
    Calls Tryd.prog 68 #[.pointer (some ⟨b, 0, none⟩), .int .i64 n] w fun e w' => e = .returned (.string (S.extract p (p + n))) ∧ RdAt w' b S ⟨p + n, false⟩ ∧ w.grownBy w' (some b) := by
  obtain ⟨hB, hp⟩ := h
  have h0 : w.cell? ⟨b, 0, none⟩ = some (.string (S.extract p S.size)) := hB.cell 0
  have h1 : w.cell? ⟨b, 1, none⟩ = some (.bool false) := hB.cell 1
  have f0 := hB.free 0
  have HB := As.mk hB
  clear hB
  have e1 := extract_cut S p n hn
  have e2 := extract_rest S p n hn
  have E := As.mk (And.intro e1 e2)
  clear e1 e2
  have hz := extract_size S p
  generalize S.extract p S.size = s at *
  have hz' : n ≤ s.size := by omega
  have hlt : decide ((s.size : Int) < (n : Int)) = false := by simp; omega
  have HZ := As.mk hz
  clear hz
  go_enter Tryd.func68, Tryd.ntmps68
  go_wp2
  go_ret
  have e2 := E.out.2
  rw [← HZ.out] at e2
  refine ⟨?_, ⟨?_, hn⟩, gr_set (gr_refl _ _) (.inl rfl) _⟩
  · show Ending.returned (.string _) = _
    rw [← E.out.1]
  · have := HB.out.set 0 (.string (s.extract n s.size))
    rw [e2] at this
    simpa [e2] using this

set_option maxHeartbeats 400000 in
theorem take_no (b : Nat) (S : ByteArray) (t : St) (n : Nat) (w : World) (hS : S.size ≤ 140737488355328) (h : RdAt w b S t) (hn : t.br = true ∨ S.size < t.p + n) :
    Calls Tryd.prog 68 #[.pointer (some ⟨b, 0, none⟩), .int .i64 n] w fun e w' => e = .returned (.string .empty) ∧ RdAt w' b S ⟨t.p, true⟩ ∧ w.grownBy w' (some b) := by
  have HR := As.mk h
  obtain ⟨hB, hp⟩ := h
  have h0 : w.cell? ⟨b, 0, none⟩ = some (.string (S.extract t.p S.size)) := hB.cell 0
  have h1 : w.cell? ⟨b, 1, none⟩ = some (.bool t.br) := hB.cell 1
  have hz := extract_size S t.p
  generalize S.extract t.p S.size = s at *
  obtain ⟨p, br⟩ := t
  dsimp only at *
  clear hB
  cases br with
  | true =>
    clear hn hz
    go_enter Tryd.func68, Tryd.ntmps68
    go_wp2_with (go_at_call 76; refine (break_walk _ _ _ _ HR.out).mono ?_; rintro e w1 ⟨rfl, hr, hg⟩)
    go_ret
    exact ⟨rfl, hr, hg⟩
  | false =>
    have hlt : s.size < n := by
      rcases hn with hn | hn
      · cases hn
      · omega
    clear hn hz
    go_enter Tryd.func68, Tryd.ntmps68
    go_wp2_with (go_at_call 76; refine (break_walk _ _ _ _ HR.out).mono ?_; rintro e w1 ⟨rfl, hr, hg⟩)
    go_ret
    exact ⟨rfl, hr, hg⟩

/-- A byte read: 0 where there is none, and the reader is broken. -/
def rByte (S : ByteArray) (t : St) : Nat × St := if t.br = false ∧ t.p < S.size then (byteAt S t.p, ⟨t.p + 1, false⟩) else (0, ⟨t.p, true⟩)
def rCount (S : ByteArray) (t : St) : Nat × St := if t.br = false ∧ t.p + 2 ≤ S.size then (byteAt S t.p * 256 + byteAt S (t.p + 1), ⟨t.p + 2, false⟩) else (0, ⟨t.p, true⟩)
theorem one_byte (S : ByteArray) (p : Nat) (h : p < S.size) : (S.extract p (p + 1)).data.toList = [S[p]] := by
  apply List.ext_getElem
  · rw [ba_len]; simp; omega
  · intro i h1 h2
    have : i = 0 := by simpa using h2
    subst this
    simp
    rfl
theorem two_bytes (S : ByteArray) (p : Nat) (h : p + 2 ≤ S.size) : (S.extract p (p + 2)).data.toList = [S[p], S[p + 1]] := by
  apply List.ext_getElem
  · rw [ba_len]; simp; omega
  · intro i h1 h2
    have h3 : i < 2 := by simpa using h2
    match i, h3 with
    | 0, _ => simp; rfl
    | 1, _ => simp; rfl
theorem numL_one (S : ByteArray) (p : Nat) (h : p < S.size) : numL (S.extract p (p + 1)).data.toList = byteAt S p := by
  rw [one_byte S p h]; simp [numL, numStep, byteAt, h]
theorem numL_two (S : ByteArray) (p : Nat) (h : p + 2 ≤ S.size) : numL (S.extract p (p + 2)).data.toList = (byteAt S p * 256 + byteAt S (p + 1) : Nat) := by
  have h1 := byteAt_lt S p
  have e1 : byteAt S p = (S[p]).toNat := by simp [byteAt, show p < S.size by omega]
  have e2 : byteAt S (p + 1) = (S[p + 1]).toNat := by simp [byteAt, show p + 1 < S.size by omega]
  rw [two_bytes S p h]
  simp only [numL, numStep, List.foldl_cons, List.foldl_nil]
  rw [← e1, ← e2]
  omega

set_option maxHeartbeats 400000 in
theorem byte_walk (b : Nat) (S : ByteArray) (t : St) (w : World) (hS : S.size ≤ 140737488355328) (h : RdAt w b S t) :
    Calls Tryd.prog 48 #[.pointer (some ⟨b, 0, none⟩)] w fun e w' => e = .returned (.int .u8 (rByte S t).1) ∧ RdAt w' b S (rByte S t).2 ∧ w.grownBy w' (some b) := by
  by_cases hc : t.br = false ∧ t.p < S.size
  · have e : rByte S t = (byteAt S t.p, ⟨t.p + 1, false⟩) := by simp [rByte, hc]
    rw [e]
    obtain ⟨p, br⟩ := t
    obtain ⟨rfl, hp⟩ := hc
    dsimp only at *
    have HT : As (Calls Tryd.prog 68 #[.pointer (some ⟨b, 0, none⟩), .int .i64 1] w fun e w' => e = .returned (.string (S.extract p (p + 1))) ∧ RdAt w' b S ⟨p + 1, false⟩ ∧ w.grownBy w' (some b)) := ⟨take_yes b S p 1 w hS h (by omega)⟩
    have hsz : (S.extract p (p + 1)).size ≤ 140737488355328 := by simp; omega
    have HV := As.mk (numL_one S p hp)
    have HL := As.mk (byteAt_lt S p)
    generalize byteAt S p = c at *
    clear e h
    generalize S.extract p (p + 1) = s1 at *
    go_enter Tryd.func48, Tryd.ntmps48
    go_wp2_with (first | (go_at_call 68; refine HT.out.mono ?_; rintro e w1 ⟨rfl, hr, hg⟩) | (go_at_call 67; refine (num_walk _ _ hsz).mono ?_; rintro e w2 ⟨rfl, rfl⟩; rw [HV.out]))
    go_ret
    exact ⟨by have := HL.out; simp; omega, hr, hg⟩
  · have e : rByte S t = (0, ⟨t.p, true⟩) := by simp only [rByte, if_neg hc]
    rw [e]
    have HT : As (Calls Tryd.prog 68 #[.pointer (some ⟨b, 0, none⟩), .int .i64 1] w fun e w' => e = .returned (.string .empty) ∧ RdAt w' b S ⟨t.p, true⟩ ∧ w.grownBy w' (some b)) := ⟨take_no b S t 1 w hS h (by
      cases hb : t.br
      · right; have : ¬ t.p < S.size := fun h => hc ⟨hb, h⟩; omega
      · left; rfl)⟩
    clear e h hc
    have hsz : (ByteArray.empty).size ≤ 140737488355328 := by decide
    have HV : As (numL (ByteArray.empty).data.toList = 0) := ⟨rfl⟩
    generalize ByteArray.empty = s1 at *
    go_enter Tryd.func48, Tryd.ntmps48
    go_wp2_with (first | (go_at_call 68; refine HT.out.mono ?_; rintro e w1 ⟨rfl, hr, hg⟩) | (go_at_call 67; refine (num_walk _ _ hsz).mono ?_; rintro e w2 ⟨rfl, rfl⟩; rw [HV.out]))
    go_ret
    exact ⟨rfl, hr, hg⟩

set_option maxHeartbeats 400000 in
theorem count_walk (b : Nat) (S : ByteArray) (t : St) (w : World) (hS : S.size ≤ 140737488355328) (h : RdAt w b S t) :
    Calls Tryd.prog 47 #[.pointer (some ⟨b, 0, none⟩)] w fun e w' => e = .returned (.int .i64 (rCount S t).1) ∧ RdAt w' b S (rCount S t).2 ∧ w.grownBy w' (some b) := by
  by_cases hc : t.br = false ∧ t.p + 2 ≤ S.size
  · have e : rCount S t = (byteAt S t.p * 256 + byteAt S (t.p + 1), ⟨t.p + 2, false⟩) := by simp [rCount, hc]
    rw [e]
    obtain ⟨p, br⟩ := t
    obtain ⟨rfl, hp⟩ := hc
    dsimp only at *
    have HT : As (Calls Tryd.prog 68 #[.pointer (some ⟨b, 0, none⟩), .int .i64 2] w fun e w' => e = .returned (.string (S.extract p (p + 2))) ∧ RdAt w' b S ⟨p + 2, false⟩ ∧ w.grownBy w' (some b)) := ⟨take_yes b S p 2 w hS h (by omega)⟩
    have hsz : (S.extract p (p + 2)).size ≤ 140737488355328 := by simp; omega
    have HV := As.mk (numL_two S p hp)
    have HL : As (byteAt S p * 256 + byteAt S (p + 1) < 65536) := ⟨by have := byteAt_lt S p; have := byteAt_lt S (p + 1); omega⟩
    generalize byteAt S p * 256 + byteAt S (p + 1) = c at *
    clear e h
    generalize S.extract p (p + 2) = s1 at *
    go_enter Tryd.func47, Tryd.ntmps47
    go_wp2_with (first | (go_at_call 68; refine HT.out.mono ?_; rintro e w1 ⟨rfl, hr, hg⟩) | (go_at_call 67; refine (num_walk _ _ hsz).mono ?_; rintro e w2 ⟨rfl, rfl⟩; rw [HV.out]))
    go_ret
    exact ⟨by have := HL.out; simp [wrap64]; omega, hr, hg⟩
  · have e : rCount S t = (0, ⟨t.p, true⟩) := by simp only [rCount, if_neg hc]
    rw [e]
    have HT : As (Calls Tryd.prog 68 #[.pointer (some ⟨b, 0, none⟩), .int .i64 2] w fun e w' => e = .returned (.string .empty) ∧ RdAt w' b S ⟨t.p, true⟩ ∧ w.grownBy w' (some b)) := ⟨take_no b S t 2 w hS h (by
      cases hb : t.br
      · right; have : ¬ t.p + 2 ≤ S.size := fun h => hc ⟨hb, h⟩; omega
      · left; rfl)⟩
    clear e h hc
    have hsz : (ByteArray.empty).size ≤ 140737488355328 := by decide
    have HV : As (numL (ByteArray.empty).data.toList = 0) := ⟨rfl⟩
    generalize ByteArray.empty = s1 at *
    go_enter Tryd.func47, Tryd.ntmps47
    go_wp2_with (first | (go_at_call 68; refine HT.out.mono ?_; rintro e w1 ⟨rfl, hr, hg⟩) | (go_at_call 67; refine (num_walk _ _ hsz).mono ?_; rintro e w2 ⟨rfl, rfl⟩; rw [HV.out]))
    go_ret
    exact ⟨rfl, hr, hg⟩

/-- The same, with names for what is read. -/
theorem byte_c {b : Nat} {S : ByteArray} {t : St} {w : World} {n : Nat} {t' : St} (hv : rByte S t = (n, t')) (hS : S.size ≤ 140737488355328) (h : RdAt w b S t) :
    Calls Tryd.prog 48 #[.pointer (some ⟨b, 0, none⟩)] w fun e w' => e = .returned (.int .u8 n) ∧ RdAt w' b S t' ∧ w.grownBy w' (some b) := by
  have := byte_walk b S t w hS h
  rw [hv] at this
  exact this
theorem count_c {b : Nat} {S : ByteArray} {t : St} {w : World} {n : Nat} {t' : St} (hv : rCount S t = (n, t')) (hS : S.size ≤ 140737488355328) (h : RdAt w b S t) :
    Calls Tryd.prog 47 #[.pointer (some ⟨b, 0, none⟩)] w fun e w' => e = .returned (.int .i64 n) ∧ RdAt w' b S t' ∧ w.grownBy w' (some b) := by
  have := count_walk b S t w hS h
  rw [hv] at this
  exact this

/-- End: api's number. -/
def rEnd (S : ByteArray) (t : St) : Int := if t.br then 2 else if t.p < S.size then 5 else 0
set_option maxHeartbeats 400000 in
theorem end_walk (b : Nat) (S : ByteArray) (t : St) (w : World) (hS : S.size ≤ 140737488355328) (h : RdAt w b S t) :
    Calls Tryd.prog 50 #[.pointer (some ⟨b, 0, none⟩)] w fun e w' => e = .returned (.int .i64 (rEnd S t)) ∧ w = w' := by
  obtain ⟨hB, hp⟩ := h
  have h0 : w.cell? ⟨b, 0, none⟩ = some (.string (S.extract t.p S.size)) := hB.cell 0
  have h1 : w.cell? ⟨b, 1, none⟩ = some (.bool t.br) := hB.cell 1
  have hz := extract_size S t.p
  have HL : As (rEnd S t = if t.br then 2 else if 0 < (S.extract t.p S.size).size then 5 else 0) := ⟨by
    unfold rEnd; rw [hz]
    by_cases h : t.p < S.size
    · rw [if_pos h, if_pos (show 0 < S.size - t.p by omega)]
    · rw [if_neg h, if_neg (show ¬ 0 < S.size - t.p by omega)]⟩
  have hle : (S.extract t.p S.size).size ≤ 140737488355328 := by omega
  generalize S.extract t.p S.size = s at *
  generalize rEnd S t = r at *
  obtain ⟨p, br⟩ := t
  dsimp only at *
  clear hB hz
  cases br with
  | true =>
    go_enter Tryd.func50, Tryd.ntmps50
    go_wp2
    go_ret
    exact ⟨by rw [HL.out]; rfl, rfl⟩
  | false =>
    by_cases hs0 : 0 < s.size
    all_goals
      go_enter Tryd.func50, Tryd.ntmps50
      go_wp2
      go_ret
      exact ⟨by rw [HL.out]; simp [hs0], rfl⟩

set_option maxHeartbeats 400000 in
theorem new_walk (S : ByteArray) (w : World) :
    Calls Tryd.prog 46 #[.string S] w fun e w' => e = .returned (.pointer (some ⟨w.heap.size, 0, none⟩)) ∧ w' = w.alloc (.cells #[.string S, .bool false] 121) := by
  go_enter Tryd.func46, Tryd.ntmps46
  go_wp2
  go_ret
  exact ⟨rfl, rfl⟩
theorem RdAt.new (S : ByteArray) (w : World) : RdAt (w.alloc (.cells #[.string S, .bool false] 121)) w.heap.size S ⟨0, false⟩ := by
  refine ⟨?_, Nat.zero_le _⟩
  have e : S.extract 0 S.size = S := by apply ByteArray.ext; simp
  rw [e]
  exact Blk.new w _ _
theorem RdAt.grown {w w' : World} {b : Nat} {S : ByteArray} {t : St} (h : RdAt w b S t) {row : Option Nat} (hg : w.grownBy w' row) (hne : some b ≠ row) : RdAt w' b S t := ⟨h.1.grown hg hne, h.2⟩
theorem RdAt.alloc {w : World} {b : Nat} {S : ByteArray} {t : St} (h : RdAt w b S t) (o : Obj) : RdAt (w.alloc o) b S t := ⟨h.1.alloc o, h.2⟩
theorem RdAt.drew {w : World} {b : Nat} {S : ByteArray} {t : St} (h : RdAt w b S t) : RdAt w.drew b S t := h
end Go.Proofs.YtihibljjbdjeoaaDoor
