/- What an Append leaves that may break off. -/
import Derived.Test.YtmehohpboliibaaDaLaw
namespace Go.Proofs.Ytmehohpboliibaa
open Go.RowKit
set_option linter.unusedVariables false

theorem DK.append_on {d : DK} (h : d.ok) (h2 : d.down = false) (s : ByteArray) (h3 : (d.b.size : Int) + s.size ≤ d.size) :
    ∃ n, n ≤ s.size ∧ (d.append s).2.b = d.b ++ s.extract 0 n ∧ ((d.append s).1 = 0 ∧ n = s.size ∨ (d.append s).1 = 7) ∧ (d.append s).2.safe = d.safe := by
  unfold DK.append
  rw [if_neg (by rw [h2]; simp), if_neg (by omega)]
  dsimp only
  by_cases hc : d.on = false ∨ (s.size : Int) ≤ d.left
  · have : d.spend s.size = ((s.size : Int), { d with left := wrap64 (d.left - s.size) }) := by unfold DK.spend; rw [if_pos hc]
    rw [this]
    dsimp only
    rw [h2, if_neg (by simp), Int.toNat_natCast]
    exact ⟨s.size, Nat.le_refl _, rfl, .inl ⟨rfl, rfl⟩, rfl⟩
  · have : d.spend s.size = (d.left, { d with down := true }) := by unfold DK.spend; rw [if_neg hc]
    rw [this]
    dsimp only
    have h1 : ¬ (s.size : Int) ≤ d.left := fun q => hc (.inr q)
    exact ⟨d.left.toNat, by omega, rfl, .inr (by simp), rfl⟩
theorem front (S1 S2 : ByteArray) (n : Nat) (hn : n ≤ S2.size) : (S1 ++ S2).extract 0 (S1 ++ S2.extract 0 n).size = S1 ++ S2.extract 0 n := by
  have hz : (S1 ++ S2.extract 0 n).size = S1.size + n := by rw [ByteArray.size_append, ByteArray.size_extract]; omega
  rw [hz]
  apply ByteArray.ext
  rw [ByteArray.data_extract, ByteArray.data_append, ByteArray.data_append, ByteArray.data_extract, Array.extract_append]
  congr 1
  · apply Array.extract_eq_self_of_le
    show S1.size ≤ S1.size + n
    omega
  · rw [show S1.size + n - S1.data.size = n from by show S1.size + n - S1.size = n; omega, Nat.zero_sub]
theorem kept {D : DK} (h : D.ok) (k : Int) {S1 S2 : ByteArray} {n : Nat} (hn : n ≤ S2.size) (hb : D.b = S1 ++ S2.extract 0 n) (hs : D.safe = S1.size) :
    (D.b.size ≤ (S1 ++ S2).size ∧ (S1 ++ S2).extract 0 D.b.size = D.b ∧ S1.size ≤ D.b.size ∧ (n = S2.size → D.b = S1 ++ S2)) ∧
    ((D.crash k).b.size ≤ D.b.size ∧ D.b.extract 0 (D.crash k).b.size = (D.crash k).b ∧ S1.size ≤ (D.crash k).b.size ∧ (D.crash k).safe = ((D.crash k).b.size : Int) ∧ (D.crash k).down = false) := by
  have hz : D.b.size = S1.size + n := by rw [hb, ByteArray.size_append, ByteArray.size_extract]; omega
  have hk := DK.keep_fits h k
  have hg : (D.crash k).b.size = (D.keep k).toNat := by
    show (D.b.extract 0 (D.keep k).toNat).size = _
    rw [ByteArray.size_extract]; omega
  refine ⟨⟨?_, ?_, ?_, ?_⟩, ?_, ?_, ?_, ?_, rfl⟩
  · rw [ByteArray.size_append]; omega
  · rw [hb]; exact front S1 S2 n hn
  · omega
  · rintro rfl
    rw [hb, ByteArray.extract_zero_size]
  · omega
  · rw [hg]; rfl
  · omega
  · exact (DK.ok_crash h k).2
end Go.Proofs.Ytmehohpboliibaa
