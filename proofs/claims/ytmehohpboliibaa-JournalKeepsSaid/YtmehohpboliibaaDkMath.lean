/- Plain words on a disk's answers: texts joined; what a crash leaves. -/
import Derived.Test.YtmehohpboliibaaArr
import Derived.Test.YtmehohpboliibaaJnd
import Derived.Test.YtmehohpboliibaaDiskD
namespace Go.Proofs.Ytmehohpboliibaa
set_option linter.unusedVariables false

theorem join_flat : ∀ xs : List (List UInt8), Lib.join xs [] = xs.flatten
  | [] => rfl
  | [x] => by simp [Lib.join, List.intercalate]
  | x :: y :: r => by
    have := join_flat (y :: r)
    simp only [Lib.join, List.intercalate] at this ⊢
    simp only [List.intersperse, List.flatten_cons, List.nil_append]
    rw [this]
    rfl
theorem joinN_list (xs : List ByteArray) : ∀ k, k ≤ xs.length → (joinN xs k).data.toList = ((xs.take k).map (·.data.toList)).flatten
  | 0, _ => by simp [joinN]
  | k + 1, h => by
    have := joinN_list xs k (by omega)
    rw [joinN, List.take_succ_eq_append_getElem (show k < xs.length by omega), ByteArray.data_append, Array.toList_append, this, List.getD_eq_getElem?_getD, List.getElem?_eq_getElem (show k < xs.length by omega), List.map_append, List.flatten_append]
    simp only [Option.getD_some, List.map_cons, List.map_nil, List.flatten_cons, List.flatten_nil, List.append_nil]
theorem joinC_eq (xs : List ByteArray) : joinC xs = joinN xs xs.length := by
  have h := joinN_list xs xs.length (Nat.le_refl _)
  unfold joinC
  rw [join_flat]
  rw [List.take_length] at h
  rw [← h]
theorem joinN_size (xs : List ByteArray) : ∀ k, (joinN xs k).size = sumN xs k
  | 0 => rfl
  | k + 1 => by rw [joinN, sumN, ByteArray.size_append, joinN_size xs k]
theorem sumN_mono (xs : List ByteArray) : ∀ k, sumN xs k ≤ sumN xs xs.length := by
  have h1 : ∀ k j, sumN xs k ≤ sumN xs (k + j) := by
    intro k j
    induction j with
    | zero => exact Nat.le_refl _
    | succ j ih => exact Nat.le_trans ih (Nat.le_add_right _ _)
  have h2 : ∀ j, sumN xs (xs.length + j) = sumN xs xs.length := by
    intro j
    induction j with
    | zero => rfl
    | succ j ih =>
      rw [← ih, ← Nat.add_assoc, sumN, List.getD_eq_getElem?_getD, List.getElem?_eq_none (by omega)]
      rfl
  intro k
  by_cases hk : k ≤ xs.length
  · have := h1 k (xs.length - k)
    rwa [Nat.add_sub_cancel' hk] at this
  · have := h2 (k - xs.length)
    rw [Nat.add_sub_cancel' (by omega)] at this
    omega
theorem joinC_size (xs : List ByteArray) : (joinC xs).size = sumN xs xs.length := by rw [joinC_eq, joinN_size]

theorem DK.ok_set {d : DK} (h : d.ok) (n : Int) : (d.set n).ok := by
  obtain ⟨h0, h1, h2, h3⟩ := h
  exact ⟨fun _ => by unfold DK.set; dsimp only; omega, h1, h2, h3⟩
theorem DK.keep_fits {d : DK} (h : d.ok) (k : Int) : d.safe ≤ d.keep k ∧ d.keep k ≤ d.b.size := by
  obtain ⟨h0, h1, h2, h3⟩ := h
  unfold DK.keep
  omega
theorem DK.ok_crash {d : DK} (h : d.ok) (k : Int) : (d.crash k).ok ∧ (d.crash k).safe = (d.crash k).b.size := by
  have hk := DK.keep_fits h k
  obtain ⟨h0, h1, h2, h3⟩ := h
  have hs : (d.b.extract 0 (d.keep k).toNat).size = (d.keep k).toNat := by rw [ByteArray.size_extract]; omega
  refine ⟨⟨fun e => (by cases e), ?_, ?_, ?_⟩, ?_⟩ <;> unfold DK.crash <;> dsimp only <;> (try rw [hs]) <;> omega
theorem DK.crash_again {d : DK} (h : d.ok) (k k' : Int) : (d.crash k).crash k' = d.crash k := by
  obtain ⟨h1, h2⟩ := DK.ok_crash h k
  have h3 : (d.crash k).keep k' = (d.crash k).safe := by unfold DK.keep; omega
  have h4 : (d.crash k).b.extract 0 ((d.crash k).keep k').toNat = (d.crash k).b := by
    rw [h3, h2, Int.toNat_natCast]
    exact ByteArray.extract_zero_size
  have h5 : (d.crash k).crash k' = { d.crash k with on := false, down := false, left := 0, b := (d.crash k).b.extract 0 ((d.crash k).keep k').toNat, safe := (d.crash k).keep k' } := rfl
  rw [h5, h4, h3]
  rfl
theorem DK.ok_append {d : DK} (h : d.ok) (hl : d.on = true → d.left ≤ 9223372036854775807) (s : ByteArray) (hs : d.b.size + s.size ≤ 140737488351232) : (d.append s).2.ok ∧ d.b.size ≤ (d.append s).2.b.size ∧ (d.append s).2.b.size ≤ d.b.size + s.size ∧ (d.append s).2.size = d.size := by
  obtain ⟨h0, h1, h2, h3⟩ := h
  unfold DK.append
  by_cases c1 : d.down = true
  · rw [if_pos c1]; exact ⟨⟨h0, h1, h2, h3⟩, Nat.le_refl _, Nat.le_add_right _ _, rfl⟩
  · rw [if_neg c1]
    by_cases c2 : d.size < (d.b.size : Int) + s.size
    · rw [if_pos c2]; exact ⟨⟨h0, h1, h2, h3⟩, Nat.le_refl _, Nat.le_add_right _ _, rfl⟩
    · rw [if_neg c2]
      dsimp only
      have hm : ∃ m d1, d.spend s.size = (m, d1) := ⟨_, _, rfl⟩
      obtain ⟨m, d1, hm⟩ := hm
      obtain ⟨m0, m1, mb⟩ := DK.spend_fits hm (by omega) h0
      have hz : (d1.b ++ s.extract 0 m.toNat).size = d.b.size + m.toNat := by rw [ByteArray.size_append, ByteArray.size_extract, mb]; omega
      have hd : d1.safe = d.safe ∧ d1.size = d.size ∧ (d1.on = true → 0 ≤ d1.left) := by
        unfold DK.spend at hm
        split at hm
        · rename_i hc
          obtain ⟨rfl, rfl⟩ := Prod.mk.inj hm
          refine ⟨rfl, rfl, fun e => ?_⟩
          dsimp only at e ⊢
          have := h0 e
          rcases hc with hc | hc
          · rw [hc] at e; cases e
          · have h9 := hl e
            unfold Go.RowKit.wrap64
            omega
        · obtain ⟨rfl, rfl⟩ := Prod.mk.inj hm
          exact ⟨rfl, rfl, h0⟩
      rw [hm]
      refine ⟨⟨hd.2.2, ?_, ?_, ?_⟩, ?_, ?_, hd.2.1⟩ <;> dsimp only <;> (try rw [hz]) <;> omega
end Go.Proofs.Ytmehohpboliibaa
