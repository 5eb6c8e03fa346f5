/- Plain: Eithers nest. -/
import Derived.Test.YtihibljjbdjeoaaDoorPn
namespace Go.Proofs.YtihibljjbdjeoaaDoor
open Go.RowKit
set_option linter.unusedVariables false

theorem mt_val : ∀ (l : List POp) (d i : Nat) (o a b : Int), mt d o i l = (a, b, true) → (i : Int) ≤ b ∧ b < i + l.length ∧ (0 ≤ o → a = o) ∧ (o < 0 → (i : Int) ≤ a ∧ a < b)
  | [], d, i, o, a, b, h => by simp [mt] at h
  | x :: l, d, i, o, a, b, h => by
    rw [List.length_cons]
    by_cases k10 : x.k = 10
    · rw [mt10 k10] at h
      have := mt_val l _ _ _ _ _ h
      omega
    · by_cases k11 : x.k = 11
      · cases d with
        | zero =>
          rw [mt11z k11] at h
          split at h
          · simp at h
          · have := mt_val l _ _ _ _ _ h
            omega
        | succ d =>
          rw [mt11 k11] at h
          have := mt_val l _ _ _ _ _ h
          omega
      · by_cases k12 : x.k = 12
        · cases d with
          | zero =>
            rw [mt12z k12] at h
            simp at h
            omega
          | succ d =>
            rw [mt12 k12] at h
            have := mt_val l _ _ _ _ _ h
            omega
        · rw [mtE k10 k11 k12] at h
          have := mt_val l _ _ _ _ _ h
          omega
/-- Over an Either within. -/
theorem mt_skip : ∀ (l : List POp) (k d i : Nat) (oi o a b : Int), mt k oi i l = (a, b, true) → ∃ bn : Nat, b = bn ∧ i ≤ bn ∧ mt (k + d + 1) o i l = mt d o (bn + 1) (l.drop (bn + 1 - i))
  | [], k, d, i, oi, o, a, b, h => by simp [mt] at h
  | x :: l, k, d, i, oi, o, a, b, h => by
    by_cases k10 : x.k = 10
    · rw [mt10 k10] at h
      obtain ⟨bn, h1, h2, h3⟩ := mt_skip l (k + 1) d (i + 1) oi o a b h
      refine ⟨bn, h1, by omega, ?_⟩
      rw [mt10 k10, show k + d + 1 + 1 = k + 1 + d + 1 by omega, h3, show bn + 1 - i = (bn + 1 - (i + 1)) + 1 by omega, List.drop_succ_cons]
    · by_cases k11 : x.k = 11
      · cases k with
        | zero =>
          rw [mt11z k11] at h
          split at h
          · simp at h
          · obtain ⟨bn, h1, h2, h3⟩ := mt_skip l 0 d (i + 1) i o a b h
            refine ⟨bn, h1, by omega, ?_⟩
            rw [mt11 k11, h3, show bn + 1 - i = (bn + 1 - (i + 1)) + 1 by omega, List.drop_succ_cons]
        | succ k =>
          rw [mt11 k11] at h
          obtain ⟨bn, h1, h2, h3⟩ := mt_skip l (k + 1) d (i + 1) oi o a b h
          refine ⟨bn, h1, by omega, ?_⟩
          rw [mt11 k11, h3, show bn + 1 - i = (bn + 1 - (i + 1)) + 1 by omega, List.drop_succ_cons]
      · by_cases k12 : x.k = 12
        · cases k with
          | zero =>
            rw [mt12z k12] at h
            simp at h
            refine ⟨i, by omega, by omega, ?_⟩
            rw [mt12 k12, Nat.zero_add, show i + 1 - i = 1 by omega]
            rfl
          | succ k =>
            rw [mt12 k12] at h
            obtain ⟨bn, h1, h2, h3⟩ := mt_skip l k d (i + 1) oi o a b h
            refine ⟨bn, h1, by omega, ?_⟩
            rw [mt12 k12, show k + 1 + d = k + d + 1 by omega, h3, show bn + 1 - i = (bn + 1 - (i + 1)) + 1 by omega, List.drop_succ_cons]
        · rw [mtE k10 k11 k12] at h
          obtain ⟨bn, h1, h2, h3⟩ := mt_skip l k d (i + 1) oi o a b h
          refine ⟨bn, h1, by omega, ?_⟩
          rw [mtE k10 k11 k12, h3, show bn + 1 - i = (bn + 1 - (i + 1)) + 1 by omega, List.drop_succ_cons]
/-- Match's scan on its way. -/
theorem mt_inside {l : List POp} {n : Nat} {a b : Int} (h : mt 0 (-1) (n + 1) (l.drop (n + 1)) = (a, b, true)) : ∀ j : Nat, ((n + 1 + j : Nat) : Int) ≤ b → ∃ (d : Nat) (o : Int), mt d o (n + 1 + j) (l.drop (n + 1 + j)) = (a, b, true) ∧ o < ((n + 1 + j : Nat) : Int)
  | 0, _ => ⟨0, -1, h, by omega⟩
  | j + 1, hj => by
    obtain ⟨d, o, h1, h2⟩ := mt_inside h j (by omega)
    by_cases hlt : n + 1 + j < l.length
    · rw [List.drop_eq_getElem_cons hlt] at h1
      rw [show n + 1 + (j + 1) = n + 1 + j + 1 by omega] at hj ⊢
      generalize n + 1 + j = i at *
      generalize l[i]'hlt = x at *
      by_cases k10 : x.k = 10
      · rw [mt10 k10] at h1
        exact ⟨_, _, h1, by omega⟩
      · by_cases k11 : x.k = 11
        · cases d with
          | zero =>
            rw [mt11z k11] at h1
            split at h1
            · simp at h1
            · exact ⟨_, _, h1, by omega⟩
          | succ d =>
            rw [mt11 k11] at h1
            exact ⟨_, _, h1, by omega⟩
        · by_cases k12 : x.k = 12
          · cases d with
            | zero =>
              rw [mt12z k12] at h1
              simp at h1
              omega
            | succ d =>
              rw [mt12 k12] at h1
              exact ⟨_, _, h1, by omega⟩
          · rw [mtE k10 k11 k12] at h1
            exact ⟨_, _, h1, by omega⟩
    · rw [List.drop_eq_nil_of_le (by omega)] at h1
      simp [mt] at h1
theorem either_dec (l : List POp) (k : Nat) : (∃ hk : k < l.length, (l[k]'hk).k = 10) ∨ ∀ j (hj : j < l.length), (k : Int) = j → ¬ (l[j]'hj).k = 10 := by
  by_cases hk : k < l.length
  · by_cases h10 : (l[k]'hk).k = 10
    · exact .inl ⟨hk, h10⟩
    · refine .inr fun j hj e => ?_
      obtain rfl : k = j := by omega
      exact h10
  · exact .inr fun j hj e => by omega
theorem nests {l : List POp} (h : pRight l = true) {n : Nat} (hn : n < l.length) (hk : (l[n]'hn).k = 10) (k : Nat) (h1 : n ≤ k) (h2 : (k : Int) < (pFind l n).2) :
    (pFind l k).2 ≤ (pFind l n).2 ∧ (0 ≤ (pFind l k).1 → n < k → ((pFind l k).1 < (pFind l n).1 ↔ (pFind l k).2 < (pFind l n).1)) := by
  obtain ⟨e1, e2⟩ := pFind_either h n hn hk
  generalize hm : mt 0 (-1) (n + 1) (l.drop (n + 1)) = m at *
  obtain ⟨a, b, t⟩ := m
  dsimp only at e1 e2
  subst e2
  rw [e1] at h2 ⊢
  dsimp only at h2 ⊢
  have hv := mt_val _ _ _ _ _ _ hm
  rcases either_dec l k with ⟨hkl, hk10⟩ | hno
  · obtain ⟨f1, f2⟩ := pFind_either h k hkl hk10
    generalize hm' : mt 0 (-1) (k + 1) (l.drop (k + 1)) = m at *
    obtain ⟨a', b', t'⟩ := m
    dsimp only at f1 f2
    subst f2
    rw [f1]
    dsimp only
    by_cases hkn : k = n
    · subst hkn
      rw [hm] at hm'
      injection hm' with g1 g2
      injection g2 with g2 g3
      exact ⟨by omega, fun _ h9 => absurd h9 (by omega)⟩
    · obtain ⟨d, o, g1, g2⟩ := mt_inside hm (k - (n + 1)) (by omega)
      rw [show n + 1 + (k - (n + 1)) = k by omega, List.drop_eq_getElem_cons hkl, mt10 hk10] at g1
      rw [show n + 1 + (k - (n + 1)) = k by omega] at g2
      have hv' := mt_val _ _ _ _ _ _ hm'
      obtain ⟨bn, q1, q2, q3⟩ := mt_skip _ 0 d (k + 1) (-1) o a' b' hm'
      rw [Nat.zero_add, g1] at q3
      have hv2 := mt_val _ _ _ _ _ _ q3.symm
      refine ⟨by omega, fun _ _ => ?_⟩
      by_cases ho : 0 ≤ o
      · have := hv2.2.2.1 ho
        omega
      · have := hv2.2.2.2 (by omega)
        omega
  · rw [pFind_other (k : Int) hno]
    exact ⟨by dsimp only; omega, fun h9 => absurd h9 (by decide)⟩
end Go.Proofs.YtihibljjbdjeoaaDoor
