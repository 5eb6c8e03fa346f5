/- Plain words on frames: what is sealed is read; the two answers of Open are one. -/
import Derived.Test.YtmehohpboliibaaRseal
namespace Go.Proofs.Ytmehohpboliibaa
open Go.RowKit
set_option linter.unusedVariables false

theorem ba_list (s : ByteArray) (i j : Nat) : (s.extract i j).data.toList = (s.data.toList.drop i).take (j - i) := by
  rw [ByteArray.data_extract, Array.toList_extract, List.extract_eq_take_drop]
theorem ba_app (a b : ByteArray) : (a ++ b).data.toList = a.data.toList ++ b.data.toList := by rw [ByteArray.data_append, Array.toList_append]
theorem ba_eq {a b : ByteArray} (h : a.data.toList = b.data.toList) : a = b := ByteArray.ext (Array.toList_inj.1 h)
theorem ba_sz (a : ByteArray) : a.data.toList.length = a.size := by rw [Array.length_toList]; rfl
theorem ext_left (a b : ByteArray) (n : Nat) (h : n = a.size) : (a ++ b).extract 0 n = a := by
  subst h
  apply ba_eq
  rw [ba_list, ba_app, List.drop_zero, Nat.sub_zero, ← ba_sz, List.take_left]
theorem ext_right (a b : ByteArray) (n m : Nat) (h : n = a.size) (hm : m = a.size + b.size) : (a ++ b).extract n m = b := by
  subst h hm
  apply ba_eq
  rw [ba_list, ba_app, show (a.data.toList ++ b.data.toList).drop a.size = b.data.toList by rw [← ba_sz, List.drop_left]]
  apply List.take_of_length_le
  have h := ba_sz b
  omega
theorem ext_mid (a b c : ByteArray) (n m : Nat) (h : n = a.size) (hm : m = a.size + b.size) : (a ++ b ++ c).extract n m = b := by
  subst h hm
  apply ba_eq
  rw [ba_list, ba_app, ba_app, List.append_assoc, ← ba_sz, List.drop_left, show a.data.toList.length + b.size - a.data.toList.length = b.data.toList.length by have h := ba_sz b; omega, List.take_left]
theorem hd_len2 (n : Nat) (hn : n < 65536) (r : ByteArray) : hd (len2 n ++ r) = n := by
  unfold hd byt
  rw [ba_app]
  have e : (len2 n).data.toList = [(n / 256).toUInt8, n.toUInt8] := rfl
  rw [e]
  show ((n / 256).toUInt8).toNat * 256 + (n.toUInt8).toNat = n
  have h1 : (n / 256).toUInt8.toNat = n / 256 % 256 := by simp
  have h2 : n.toUInt8.toNat = n % 256 := by simp
  rw [h1, h2]
  omega
theorem open_seal (p more : ByteArray) (hp : p.size ≤ 4096) : openF (frameOf p ++ more) = (p, more, 0) := by
  have hs : (frameOf p ++ more).size = p.size + 6 + more.size := by rw [ByteArray.size_append, frameOf_size]
  have hh : hd (frameOf p ++ more) = p.size := by
    unfold frameOf
    rw [ByteArray.append_assoc, ByteArray.append_assoc, hd_len2 _ (by omega)]
  unfold openF
  rw [hh, hs, if_neg (by omega), if_neg (by omega), if_neg (by omega)]
  have e1 : (frameOf p ++ more).extract 0 (2 + p.size) = len2 p.size ++ p := by
    unfold frameOf
    rw [ByteArray.append_assoc, ext_left _ _ _ (by rw [ByteArray.size_append, len2_size])]
  have e2 : (frameOf p ++ more).extract (2 + p.size) (6 + p.size) = le4 (moreSum 0 (len2 p.size ++ p)) := by
    unfold frameOf
    rw [ext_mid _ _ _ _ _ (by rw [ByteArray.size_append, len2_size]) (by rw [ByteArray.size_append, len2_size, le4_size]; omega)]
  have e3 : (frameOf p ++ more).extract 2 (2 + p.size) = p := by
    unfold frameOf
    rw [ByteArray.append_assoc, ext_mid _ _ _ _ _ (by rw [len2_size]) (by rw [len2_size])]
  have e4 : (frameOf p ++ more).extract (6 + p.size) (p.size + 6 + more.size) = more := ext_right _ _ _ _ (by rw [frameOf_size]; omega) (by rw [frameOf_size])
  rw [e1, e2, if_pos rfl, e3, e4]
theorem len2_hd (s : ByteArray) (h : 2 ≤ s.size) : len2 (hd s) = s.extract 0 2 := by
  have hl : 2 ≤ s.data.toList.length := by rw [ba_sz]; exact h
  apply ba_eq
  rw [ba_list]
  unfold hd byt
  match hm : s.data.toList, hl with
  | a :: b :: r, _ =>
    show [((a.toNat * 256 + b.toNat) / 256).toUInt8, (a.toNat * 256 + b.toNat).toUInt8] = [a, b]
    have ha := a.toNat_lt
    have hb := b.toNat_lt
    rw [show (a.toNat * 256 + b.toNat) / 256 = a.toNat by omega]
    congr 1
    · apply UInt8.toNat_inj.1
      simp
    · congr 1
      apply UInt8.toNat_inj.1
      simp
theorem ext_ext (s : ByteArray) (i j k : Nat) (h1 : i ≤ j) (h2 : j ≤ k) : s.extract i j ++ s.extract j k = s.extract i k := by
  rw [ByteArray.extract_append_extract, Nat.min_eq_left h1, Nat.max_eq_right h2]
/-- The frame is the same just if the four bytes are. -/
theorem frame_same (s : ByteArray) (h6 : 6 + hd s ≤ s.size) : (frameOf (s.extract 2 (2 + hd s)) = s.extract 0 (6 + hd s)) ↔ (le4 (moreSum 0 (s.extract 0 (2 + hd s))) = s.extract (2 + hd s) (6 + hd s)) := by
  have hz : (s.extract 2 (2 + hd s)).size = hd s := by rw [ByteArray.size_extract]; omega
  have e1 : len2 (hd s) ++ s.extract 2 (2 + hd s) = s.extract 0 (2 + hd s) := by rw [len2_hd s (by omega), ext_ext s 0 2 _ (by omega) (by omega)]
  have e2 : s.extract 0 (6 + hd s) = s.extract 0 (2 + hd s) ++ s.extract (2 + hd s) (6 + hd s) := (ext_ext s 0 _ _ (by omega) (by omega)).symm
  unfold frameOf
  rw [hz, e1, e2]
  constructor
  · intro h
    have h2 := congrArg (fun x : ByteArray => x.data.toList) h
    simp only [ba_app] at h2
    exact ba_eq (List.append_cancel_left h2)
  · intro h
    rw [h]
/-- The two answers of Open. -/
theorem opens_alike (s : ByteArray) : (openF s).1 = (ropenF s).1 ∧ (openF s).2.2 = (ropenF s).2.2 ∧ ((ropenF s).2.2 = 0 → ∃ n : Nat, (ropenF s).2.1 = (n : Int) ∧ 6 ≤ n ∧ n ≤ s.size ∧ (openF s).2.1 = s.extract n s.size) ∧ ((ropenF s).2.2 ≠ 0 → (openF s).2.1 = ⟨#[]⟩) := by
  unfold openF ropenF
  by_cases h6 : s.size < 6
  · rw [if_pos h6, if_pos h6]; exact ⟨rfl, rfl, fun h => absurd h (by decide), fun _ => rfl⟩
  · rw [if_neg h6, if_neg h6]
    by_cases h4 : 4096 < hd s
    · rw [if_pos h4, if_pos h4]; exact ⟨rfl, rfl, fun h => absurd h (by decide), fun _ => rfl⟩
    · rw [if_neg h4, if_neg h4]
      by_cases h5 : s.size < 6 + hd s
      · rw [if_pos h5, if_pos h5]; exact ⟨rfl, rfl, fun h => absurd h (by decide), fun _ => rfl⟩
      · rw [if_neg h5, if_neg h5]
        have hf := frame_same s (by omega)
        by_cases hc : le4 (moreSum 0 (s.extract 0 (2 + hd s))) = s.extract (2 + hd s) (6 + hd s)
        · rw [if_pos hc, if_pos (hf.2 hc)]
          exact ⟨rfl, rfl, fun _ => ⟨6 + hd s, rfl, by omega, by omega, rfl⟩, fun h => absurd rfl h⟩
        · rw [if_neg hc, if_neg (fun h => hc (hf.1 h))]
          exact ⟨rfl, rfl, fun h => absurd h (by decide), fun _ => rfl⟩
end Go.Proofs.Ytmehohpboliibaa
