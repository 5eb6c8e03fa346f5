/- Programs as trees: what stands behind a place of a right program. Plain Lean. -/
import Derived.Test.YtgmhopkajopfcaaPn
namespace Go.Proofs.Ytgmhopkajopfcaa
set_option linter.unusedVariables false

inductive Pg where
  | nil : Pg
  | op (x : POp) (r : Pg) : Pg
  | ei (x y z : POp) (A B r : Pg) : Pg
def Pg.flat : Pg → List POp
  | .nil => []
  | .op x r => x :: r.flat
  | .ei x y z A B r => x :: (A.flat ++ y :: (B.flat ++ z :: r.flat))
def Pg.ok : Nat → Pg → Prop
  | _, .nil => True
  | d, .op x r => (x.k ≠ 10 ∧ x.k ≠ 11 ∧ x.k ≠ 12) ∧ r.ok d
  | d, .ei x y z A B r => (x.k = 10 ∧ y.k = 11 ∧ z.k = 12) ∧ d + 1 ≤ 4 ∧ A.ok (d + 1) ∧ B.ok (d + 1) ∧ r.ok d
/-- Where a place stands: inside the first or the second part of an Either, with what stands behind that part. -/
inductive Fr where
  | fa (y : POp) (B : Pg) (z : POp) (r : Pg) : Fr
  | fb (z : POp) (r : Pg) : Fr
def ktail : List Fr → List POp
  | [] => []
  | .fa y B z r :: K => y :: (B.flat ++ z :: (r.flat ++ ktail K))
  | .fb z r :: K => z :: (r.flat ++ ktail K)
def KOk : List Fr → Prop
  | [] => True
  | .fa y B z r :: K => y.k = 11 ∧ z.k = 12 ∧ B.ok (K.length + 1) ∧ r.ok K.length ∧ KOk K
  | .fb z r :: K => z.k = 12 ∧ r.ok K.length ∧ KOk K
def MtR : List (Int × Int) → List Fr → Prop
  | [], [] => True
  | p :: s, .fa _ _ _ _ :: K => p.2 < 0 ∧ MtR s K
  | p :: s, .fb _ _ :: K => 0 ≤ p.2 ∧ MtR s K
  | _, _ => False
theorem MtR.len : ∀ {s : List (Int × Int)} {K : List Fr}, MtR s K → K.length = s.length
  | [], [], _ => rfl
  | p :: s, .fa _ _ _ _ :: K, h => by have := MtR.len h.2; simp [this]
  | p :: s, .fb _ _ :: K, h => by have := MtR.len h.2; simp [this]
  | [], .fa _ _ _ _ :: K, h => h.elim
  | [], .fb _ _ :: K, h => h.elim
  | p :: s, [], h => h.elim
theorem parse : ∀ (l : List POp) (i : Nat) (st : List (Int × Int)) (m : List (Int × Int × Int)) (s' : PSt), pRunFrom i ⟨st, m⟩ l = some s' → s'.st = [] → (∀ p ∈ st, p.1 < i) →
    ∃ (c : Pg) (K : List Fr), c.flat ++ ktail K = l ∧ c.ok K.length ∧ KOk K ∧ MtR st.reverse K := by
  intro l
  induction l with
  | nil =>
    intro i st m s' h h0 _
    have h : some (⟨st, m⟩ : PSt) = some s' := h
    injection h with h
    subst h
    have h0 : st = [] := h0
    subst h0
    exact ⟨.nil, [], rfl, trivial, trivial, trivial⟩
  | cons x l ih =>
    intro i st m s' h h0 hp
    obtain ⟨c, h1, h2⟩ := pRun_cons h
    by_cases k10 : x.k = 10
    · have hd : st.length + 1 ≤ 4 := by
        rw [k10] at h1
        unfold pStep at h1
        rw [if_pos rfl] at h1
        by_cases hd : st.length + 1 ≤ 4
        · exact hd
        · rw [if_neg hd] at h1; cases h1
      rw [k10] at h1
      have e := pStep10 h1
      subst e
      obtain ⟨c0, K0, g1, g2, g3, g4⟩ := ih (i + 1) _ m s' h2 h0 (fun p hp' => by
        rcases List.mem_append.1 hp' with hp' | hp'
        · have := hp p hp'; omega
        · rw [List.mem_singleton] at hp'; subst hp'; show (i : Int) < ((i + 1 : Nat) : Int); omega)
      rw [List.reverse_append] at g4
      match K0, g4 with
      | .fa y B z r :: K, g4 =>
        have hl : K.length = st.length := by have := MtR.len g4.2; simpa using this
        exact ⟨.ei x y z c0 B r, K, by rw [← g1]; simp [Pg.flat, ktail], ⟨⟨k10, g3.1, g3.2.1⟩, by omega, g2, g3.2.2.1, g3.2.2.2.1⟩, g3.2.2.2.2, g4.2⟩
      | .fb z r :: K, g4 =>
        have : (0 : Int) ≤ -1 := g4.1
        omega
    · by_cases k11 : x.k = 11
      · rw [k11] at h1
        rcases st_cases st with rfl | ⟨s, ⟨p, q⟩, rfl⟩
        · rw [pStep11n] at h1; cases h1
        · obtain ⟨hq, e⟩ := pStep11 h1
          subst e
          have hi : (0 : Int) ≤ (i : Int) := by omega
          obtain ⟨c0, K0, g1, g2, g3, g4⟩ := ih (i + 1) _ m s' h2 h0 (fun p' hp' => by
            rcases List.mem_append.1 hp' with hp' | hp'
            · have := hp p' (List.mem_append.2 (.inl hp')); omega
            · rw [List.mem_singleton] at hp'; subst hp'
              have := hp (p, q) (List.mem_append.2 (.inr (List.mem_singleton.2 rfl)))
              show p < ((i + 1 : Nat) : Int)
              have : p < (i : Int) := this
              omega)
          rw [List.reverse_append] at g4
          match K0, g4 with
          | .fa y B z r :: K, g4 =>
            have : (i : Int) < 0 := g4.1
            omega
          | .fb z r :: K, g4 =>
            refine ⟨.nil, .fa x c0 z r :: K, by rw [← g1]; simp [Pg.flat, ktail], trivial, ⟨k11, g3.1, g2, g3.2.1, g3.2.2⟩, ?_⟩
            rw [List.reverse_append]
            exact ⟨hq, g4.2⟩
      · by_cases k12 : x.k = 12
        · rw [k12] at h1
          rcases st_cases st with rfl | ⟨s, ⟨p, q⟩, rfl⟩
          · rw [pStep12n] at h1; cases h1
          · obtain ⟨hq, e⟩ := pStep12 h1
            subst e
            obtain ⟨c0, K0, g1, g2, g3, g4⟩ := ih (i + 1) _ _ s' h2 h0 (fun p' hp' => by
              have := hp p' (List.mem_append.2 (.inl hp')); omega)
            refine ⟨.nil, .fb x c0 :: K0, by rw [← g1]; simp [Pg.flat, ktail], trivial, ⟨k12, g2, g3⟩, ?_⟩
            rw [List.reverse_append]
            exact ⟨hq, g4⟩
        · rw [pStepE k10 k11 k12] at h1
          injection h1 with h1
          subst h1
          obtain ⟨c0, K0, g1, g2, g3, g4⟩ := ih (i + 1) st m s' h2 h0 (fun p hp' => by have := hp p hp'; omega)
          exact ⟨.op x c0, K0, by rw [← g1]; simp [Pg.flat], ⟨⟨k10, k11, k12⟩, g2⟩, g3, g4⟩
theorem parse0 {l : List POp} (h : pRight l = true) : ∃ c : Pg, c.flat = l ∧ c.ok 0 := by
  obtain ⟨s, hs, h0⟩ := pRight_run h
  obtain ⟨c, K, g1, g2, g3, g4⟩ := parse l 0 [] [] s hs h0 (fun p hp => by cases hp)
  have hK : K = [] := by
    have := MtR.len g4
    exact List.eq_nil_of_length_eq_zero (by simpa using this)
  subst hK
  exact ⟨c, by simpa [ktail] using g1, g2⟩
theorem mt_flat : ∀ (P : Pg) (e d : Nat) (o : Int) (i : Nat) (S : List POp), P.ok e → mt d o i (P.flat ++ S) = mt d o (i + P.flat.length) S
  | .nil, e, d, o, i, S, _ => rfl
  | .op x r, e, d, o, i, S, h => by
    show mt d o i (x :: (r.flat ++ S)) = _
    rw [mt, if_neg h.1.1, if_neg h.1.2.1, if_neg h.1.2.2, mt_flat r e d o (i + 1) S h.2]
    congr 1
    show i + 1 + r.flat.length = i + (r.flat.length + 1)
    omega
  | .ei x y z A B r, e, d, o, i, S, h => by
    have e1 : (Pg.ei x y z A B r).flat ++ S = x :: (A.flat ++ y :: (B.flat ++ z :: (r.flat ++ S))) := by simp [Pg.flat]
    have y1 : ¬ y.k = 10 := by have := h.1.2.1; omega
    have z1 : ¬ z.k = 10 := by have := h.1.2.2; omega
    have z2 : ¬ z.k = 11 := by have := h.1.2.2; omega
    rw [e1, mt, if_pos h.1.1, mt_flat A (e + 1) (d + 1) o (i + 1) _ h.2.2.1, mt, if_neg y1, if_pos h.1.2.1, if_neg (by omega), mt_flat B (e + 1) (d + 1) o _ _ h.2.2.2.1, mt, if_neg z1, if_neg z2, if_pos h.1.2.2, if_neg (by omega), Nat.add_sub_cancel, mt_flat r e d o _ S h.2.2.2.2]
    congr 1
    simp [Pg.flat]
    omega
theorem mt_or {A B : Pg} {y z : POp} {S : List POp} {e i : Nat} (hA : A.ok e) (hB : B.ok e) (hy : y.k = 11) (hz : z.k = 12) :
    mt 0 (-1) i (A.flat ++ y :: (B.flat ++ z :: S)) = (((i + A.flat.length : Nat) : Int), ((i + A.flat.length + 1 + B.flat.length : Nat) : Int), true) := by
  have y1 : ¬ y.k = 10 := by omega
  have z1 : ¬ z.k = 10 := by omega
  have z2 : ¬ z.k = 11 := by omega
  rw [mt_flat A e 0 (-1) i _ hA, mt, if_neg y1, if_pos hy, if_pos rfl, if_neg (by omega), mt_flat B e 0 _ _ _ hB, mt, if_neg z1, if_neg z2, if_pos hz, if_pos rfl, decide_eq_true (by omega)]
/-- Where the Or and the End of an Either stand. -/
theorem pFind_at {l : List POp} (h : pRight l = true) {j : Nat} {x y z : POp} {A B : Pg} {S : List POp} {e : Nat} (hd : l.drop j = x :: (A.flat ++ y :: (B.flat ++ z :: S))) (hx : x.k = 10) (hA : A.ok e) (hB : B.ok e) (hy : y.k = 11) (hz : z.k = 12) :
    pFind l j = (((j + 1 + A.flat.length : Nat) : Int), ((j + 1 + A.flat.length + 1 + B.flat.length : Nat) : Int)) ∧ l.drop (j + 1 + A.flat.length) = y :: (B.flat ++ z :: S) ∧ l.drop (j + 1 + A.flat.length + 1 + B.flat.length) = z :: S := by
  have hj : j < l.length := by
    by_cases hj : j < l.length
    · exact hj
    · rw [List.drop_eq_nil_of_le (by omega)] at hd; cases hd
  have hc := List.drop_eq_getElem_cons hj
  rw [hd] at hc
  injection hc with hc1 hc2
  have h1 := pFind_either h j hj (by rw [← hc1]; exact hx)
  rw [← hc2, mt_or hA hB hy hz] at h1
  have d1 : l.drop (j + 1 + A.flat.length) = y :: (B.flat ++ z :: S) := by
    rw [← List.drop_drop, ← hc2, List.drop_append_of_le_length (Nat.le_refl _), List.drop_length, List.nil_append]
  have d2 : l.drop (j + 1 + A.flat.length + 1 + B.flat.length) = z :: S := by
    rw [← List.drop_drop, ← List.drop_drop, d1, List.drop_one, List.tail_cons, List.drop_append_of_le_length (Nat.le_refl _), List.drop_length, List.nil_append]
  exact ⟨h1.1, d1, d2⟩
end Go.Proofs.Ytgmhopkajopfcaa
