/- Plain: what prog.Or and prog.End say is what the document's Match says; Eithers nest. -/
import Derived.Test.YtgmhopkajopfcaaPf
import Derived.Test.YtgmhopkajopfcaaRp
namespace Go.Proofs.Ytgmhopkajopfcaa
open Go.RowKit
set_option linter.unusedVariables false

theorem st_cases (b : List (Int × Int)) : b = [] ∨ ∃ s g, b = s ++ [g] := by
  rcases List.eq_nil_or_concat b with h | ⟨s, g, h⟩
  · exact .inl h
  · exact .inr ⟨s, g, by rw [h, List.concat_eq_append]⟩
theorem pStep10 {i : Nat} {s s' : PSt} (h : pStep 10 i s = some s') : s' = ⟨s.st ++ [((i : Int), -1)], s.m⟩ := by
  rw [pStep, if_pos rfl] at h
  split at h
  · injection h with h; exact h.symm
  · cases h
theorem pStep11 {i : Nat} {st : List (Int × Int)} {p q : Int} {m : List (Int × Int × Int)} {s' : PSt} (h : pStep 11 i ⟨st ++ [(p, q)], m⟩ = some s') : q < 0 ∧ s' = ⟨st ++ [(p, (i : Int))], m⟩ := by
  simp [pStep] at h
  exact ⟨by omega, h.2.symm⟩
theorem pStep12 {i : Nat} {st : List (Int × Int)} {p q : Int} {m : List (Int × Int × Int)} {s' : PSt} (h : pStep 12 i ⟨st ++ [(p, q)], m⟩ = some s') : 0 ≤ q ∧ s' = ⟨st, m ++ [(p, q, (i : Int))]⟩ := by
  simp [pStep] at h
  exact ⟨by omega, h.2.symm⟩
theorem pStep11n {i : Nat} {m : List (Int × Int × Int)} : pStep 11 i ⟨[], m⟩ = none := by simp [pStep]
theorem pStep12n {i : Nat} {m : List (Int × Int × Int)} : pStep 12 i ⟨[], m⟩ = none := by simp [pStep]
theorem pStepE {k : Int} {i : Nat} {s : PSt} (h0 : ¬ k = 10) (h1 : ¬ k = 11) (h2 : ¬ k = 12) : pStep k i s = some s := by simp [pStep, h0, h1, h2]
theorem pRun_cons {x : POp} {l : List POp} {i : Nat} {s s' : PSt} (h : pRunFrom i s (x :: l) = some s') : ∃ c, pStep x.k i s = some c ∧ pRunFrom (i + 1) c l = some s' := by
  rw [pRunFrom] at h
  exact Option.bind_eq_some_iff.1 h
/-- Every key is from before. -/
def Keys (s : PSt) (i : Nat) : Prop := (∀ p ∈ s.st, 0 ≤ p.1 ∧ p.1 < i) ∧ ∀ p ∈ s.m, 0 ≤ p.1 ∧ p.1 < i
theorem pStep_keys {k : Int} {i : Nat} {s s' : PSt} (h : pStep k i s = some s') (hk : Keys s i) : Keys s' (i + 1) ∧ (k ≠ 10 → ∀ p ∈ s'.st, p.1 < i) ∧ ∀ p ∈ s'.m, p.1 < i := by
  obtain ⟨st, m⟩ := s
  obtain ⟨hk1, hk2⟩ := hk
  dsimp only at hk1 hk2
  by_cases k10 : k = 10
  · subst k10
    have h9 := pStep10 h
    subst h9
    refine ⟨⟨fun p hp => ?_, fun p hp => ?_⟩, fun h => absurd rfl h, fun p hp => (hk2 p hp).2⟩
    · dsimp only at hp
      rcases List.mem_append.1 hp with hp | hp
      · have := hk1 p hp; omega
      · obtain rfl := List.mem_singleton.1 hp; dsimp only; omega
    · have := hk2 p hp; omega
  · by_cases k11 : k = 11
    · subst k11
      rcases st_cases st with rfl | ⟨st0, ⟨p0, q0⟩, rfl⟩
      · rw [pStep11n] at h; cases h
      · obtain ⟨-, rfl⟩ := pStep11 h
        have h0 := hk1 (p0, q0) (by simp)
        dsimp only at h0
        have hs : ∀ p ∈ st0 ++ [(p0, (i : Int))], 0 ≤ p.1 ∧ p.1 < i := by
          intro p hp
          rcases List.mem_append.1 hp with hp | hp
          · exact hk1 p (List.mem_append_left _ hp)
          · obtain rfl := List.mem_singleton.1 hp; exact h0
        exact ⟨⟨fun p hp => by have := hs p hp; omega, fun p hp => by have := hk2 p hp; omega⟩, fun _ p hp => (hs p hp).2, fun p hp => (hk2 p hp).2⟩
    · by_cases k12 : k = 12
      · subst k12
        rcases st_cases st with rfl | ⟨st0, ⟨p0, q0⟩, rfl⟩
        · rw [pStep12n] at h; cases h
        · obtain ⟨-, rfl⟩ := pStep12 h
          have h0 := hk1 (p0, q0) (by simp)
          dsimp only at h0
          have hs : ∀ p ∈ st0, 0 ≤ p.1 ∧ p.1 < i := fun p hp => hk1 p (List.mem_append_left _ hp)
          have hm : ∀ p ∈ m ++ [(p0, q0, (i : Int))], 0 ≤ p.1 ∧ p.1 < i := by
            intro p hp
            rcases List.mem_append.1 hp with hp | hp
            · exact hk2 p hp
            · obtain rfl := List.mem_singleton.1 hp; exact h0
          exact ⟨⟨fun p hp => by have := hs p hp; omega, fun p hp => by have := hm p hp; omega⟩, fun _ p hp => (hs p hp).2, fun p hp => (hm p hp).2⟩
      · rw [pStepE k10 k11 k12] at h
        injection h with h
        subst h
        exact ⟨⟨fun p hp => by have := hk1 p hp; omega, fun p hp => by have := hk2 p hp; omega⟩, fun _ p hp => (hk1 p hp).2, fun p hp => (hk2 p hp).2⟩
theorem pRun_keys : ∀ (l : List POp) (i : Nat) (s s' : PSt), pRunFrom i s l = some s' → Keys s i → Keys s' (i + l.length)
  | [], i, s, s', h, hk => by injection h with h; subst h; exact hk
  | x :: l, i, s, s', h, hk => by
    obtain ⟨c, h1, h2⟩ := pRun_cons h
    have := pRun_keys l (i + 1) c s' h2 (pStep_keys h1 hk).1
    rw [List.length_cons, show i + (l.length + 1) = i + 1 + l.length by omega]
    exact this
theorem mFind_none {m : List (Int × Int × Int)} {at_ : Int} (h : ∀ p ∈ m, p.1 ≠ at_) : mFind m at_ = none := by
  rw [← List.reverse_reverse m]
  have h' : ∀ p ∈ m.reverse, p.1 ≠ at_ := fun p hp => h p (List.mem_reverse.1 hp)
  revert h'
  induction m.reverse with
  | nil => intro _; rfl
  | cons x r ih =>
    intro h'
    obtain ⟨a, b, c⟩ := x
    rw [List.reverse_cons, mFind_snoc, if_neg (h' (a, b, c) (List.mem_cons_self ..))]
    exact ih fun p hp => h' p (List.mem_cons_of_mem _ hp)
/-- What isn't open stays as it is. -/
theorem find_past : ∀ (l : List POp) (i : Nat) (s s' : PSt) (at_ : Int), pRunFrom i s l = some s' → at_ < i → (∀ p ∈ s.st, p.1 ≠ at_) → mFind s'.m at_ = mFind s.m at_
  | [], i, s, s', at_, h, ha, hs => by injection h with h; subst h; rfl
  | x :: l, i, s, s', at_, h, ha, hs => by
    obtain ⟨c, h1, h2⟩ := pRun_cons h
    obtain ⟨st, m⟩ := s
    by_cases k10 : x.k = 10
    · rw [k10] at h1
      have h9 := pStep10 h1
      subst h9
      refine (find_past l (i + 1) ⟨st ++ [((i : Int), -1)], m⟩ s' at_ h2 (by omega) ?_).trans rfl
      intro p hp
      rcases List.mem_append.1 hp with hp | hp
      · exact hs p hp
      · obtain rfl := List.mem_singleton.1 hp; dsimp only; omega
    · by_cases k11 : x.k = 11
      · rw [k11] at h1
        rcases st_cases st with rfl | ⟨st0, ⟨p0, q0⟩, rfl⟩
        · rw [pStep11n] at h1; cases h1
        · obtain ⟨-, rfl⟩ := pStep11 h1
          refine (find_past l (i + 1) ⟨st0 ++ [(p0, (i : Int))], m⟩ s' at_ h2 (by omega) ?_).trans rfl
          intro p hp
          rcases List.mem_append.1 hp with hp | hp
          · exact hs p (List.mem_append_left _ hp)
          · obtain rfl := List.mem_singleton.1 hp
            exact hs (p0, q0) (by simp)
      · by_cases k12 : x.k = 12
        · rw [k12] at h1
          rcases st_cases st with rfl | ⟨st0, ⟨p0, q0⟩, rfl⟩
          · rw [pStep12n] at h1; cases h1
          · obtain ⟨-, rfl⟩ := pStep12 h1
            rw [find_past l (i + 1) _ s' at_ h2 (by omega) (fun p hp => hs p (List.mem_append_left _ hp))]
            rw [mFind_snoc, if_neg (hs (p0, q0) (by simp))]
        · rw [pStepE k10 k11 k12] at h1
          injection h1 with h1
          subst h1
          exact find_past l (i + 1) _ s' at_ h2 (by omega) hs
/-- What is open finds its Or and its End where Match says. -/
theorem find_open : ∀ (l : List POp) (i : Nat) (s1 s2 : List (Int × Int)) (m : List (Int × Int × Int)) (at_ o : Int) (s' : PSt), pRunFrom i ⟨s1 ++ (at_, o) :: s2, m⟩ l = some s' → s'.st = [] → at_ < i → (∀ p ∈ s1, p.1 ≠ at_) →
    mFind s'.m at_ = some ((mt s2.length o i l).1, (mt s2.length o i l).2.1) ∧ (mt s2.length o i l).2.2 = true
  | [], i, s1, s2, m, at_, o, s', h, hs, ha, h1 => by
    injection h with h
    subst h
    simp at hs
  | x :: l, i, s1, s2, m, at_, o, s', h, hs, ha, hn => by
    obtain ⟨c, h1, h2⟩ := pRun_cons h
    by_cases k10 : x.k = 10
    · rw [k10] at h1
      have h9 := pStep10 h1
      subst h9
      rw [mt10 k10]
      have h9 := find_open l (i + 1) s1 (s2 ++ [((i : Int), -1)]) m at_ o s' (by rw [← h2]; simp) hs (by omega) hn
      simpa using h9
    · by_cases k11 : x.k = 11
      · rw [k11] at h1
        rcases st_cases s2 with rfl | ⟨s20, ⟨p0, q0⟩, rfl⟩
        · obtain ⟨ho, rfl⟩ := pStep11 h1
          rw [show ([] : List (Int × Int)).length = 0 from rfl, mt11z k11, if_neg (by omega)]
          exact find_open l (i + 1) s1 [] m at_ i s' h2 hs (by omega) hn
        · rw [show s1 ++ (at_, o) :: (s20 ++ [(p0, q0)]) = (s1 ++ (at_, o) :: s20) ++ [(p0, q0)] by simp] at h1
          obtain ⟨-, rfl⟩ := pStep11 h1
          have h9 := find_open l (i + 1) s1 (s20 ++ [(p0, (i : Int))]) m at_ o s' (by rw [← h2]; simp) hs (by omega) hn
          rw [List.length_append, List.length_singleton] at h9 ⊢
          rw [mt11 k11]
          exact h9
      · by_cases k12 : x.k = 12
        · rw [k12] at h1
          rcases st_cases s2 with rfl | ⟨s20, ⟨p0, q0⟩, rfl⟩
          · obtain ⟨ho, rfl⟩ := pStep12 h1
            rw [show ([] : List (Int × Int)).length = 0 from rfl, mt12z k12]
            rw [find_past l (i + 1) _ s' at_ h2 (by omega) hn, mFind_snoc, if_pos rfl]
            exact ⟨rfl, by simpa using ho⟩
          · rw [show s1 ++ (at_, o) :: (s20 ++ [(p0, q0)]) = (s1 ++ (at_, o) :: s20) ++ [(p0, q0)] by simp] at h1
            obtain ⟨-, rfl⟩ := pStep12 h1
            have h9 := find_open l (i + 1) s1 s20 _ at_ o s' h2 hs (by omega) hn
            rw [List.length_append, List.length_singleton, mt12 k12]
            exact h9
        · rw [pStepE k10 k11 k12] at h1
          injection h1 with h1
          subst h1
          rw [mtE k10 k11 k12]
          exact find_open l (i + 1) s1 s2 m at_ o s' h2 hs (by omega) hn
theorem pRight_run {l : List POp} (h : pRight l = true) : ∃ s, pRun l = some s ∧ s.st = [] := by
  have := pRight_all h
  unfold pRight pairsOk at h
  cases hp : pRun l with
  | none => rw [hp] at h; simp at h
  | some s => rw [hp] at h; simp at h; exact ⟨s, rfl, h.2.2⟩
/-- Of an Either: what Match says. -/
theorem pFind_either {l : List POp} (h : pRight l = true) (j : Nat) (hj : j < l.length) (hk : (l[j]'hj).k = 10) :
    pFind l j = ((mt 0 (-1) (j + 1) (l.drop (j + 1))).1, (mt 0 (-1) (j + 1) (l.drop (j + 1))).2.1) ∧ (mt 0 (-1) (j + 1) (l.drop (j + 1))).2.2 = true := by
  obtain ⟨s, hs, hs0⟩ := pRight_run h
  have hr := hs
  unfold pRun at hr
  rw [← List.take_append_drop j l, pRunFrom_append, List.drop_eq_getElem_cons hj] at hr
  obtain ⟨s1, r1, r2⟩ := Option.bind_eq_some_iff.1 hr
  obtain ⟨s2, r3, r4⟩ := pRun_cons r2
  rw [List.length_take, Nat.min_eq_left (by omega), Nat.zero_add] at r3 r4
  have hky := pRun_keys _ _ _ _ r1 ⟨by simp, by simp⟩
  rw [List.length_take, Nat.min_eq_left (by omega), Nat.zero_add] at hky
  rw [hk] at r3
  have h9 := pStep10 r3
  subst h9
  have h8 := find_open _ _ s1.st [] s1.m j (-1) s r4 hs0 (by omega) (fun p hp => by have := hky.1 p hp; omega)
  unfold pFind
  rw [h, if_pos rfl, hs]
  dsimp only
  rw [h8.1]
  exact ⟨rfl, h8.2⟩
/-- Of what is no Either: nothing. -/
theorem pFind_other {l : List POp} (at_ : Int) (hn : ∀ j (hj : j < l.length), at_ = j → ¬ (l[j]'hj).k = 10) : pFind l at_ = (-1, -1) := by
  unfold pFind
  split
  · rename_i h
    obtain ⟨s, hs, hs0⟩ := pRight_run h
    rw [hs]
    dsimp only
    have hky := pRun_keys _ _ _ _ hs ⟨by simp, by simp⟩
    rw [Nat.zero_add] at hky
    have hnone : mFind s.m at_ = none := by
      by_cases ha : 0 ≤ at_ ∧ at_ < l.length
      · obtain ⟨j, rfl⟩ := Int.eq_ofNat_of_zero_le ha.1
        have hj : j < l.length := by omega
        have hk := hn j hj rfl
        have hr := hs
        unfold pRun at hr
        rw [← List.take_append_drop j l, pRunFrom_append, List.drop_eq_getElem_cons hj] at hr
        obtain ⟨s1, r1, r2⟩ := Option.bind_eq_some_iff.1 hr
        obtain ⟨s2, r3, r4⟩ := pRun_cons r2
        rw [List.length_take, Nat.min_eq_left (by omega), Nat.zero_add] at r3 r4
        have hky1 := pRun_keys _ _ _ _ r1 ⟨by simp, by simp⟩
        rw [List.length_take, Nat.min_eq_left (by omega), Nat.zero_add] at hky1
        have h7 := pStep_keys r3 hky1
        rw [find_past _ _ _ _ j r4 (by omega) (fun p hp => by have := h7.2.1 hk p hp; omega)]
        exact mFind_none fun p hp => by have := h7.2.2 p hp; omega
      · exact mFind_none fun p hp => by have := hky.2 p hp; omega
    rw [hnone]
    rfl
  · rfl
end Go.Proofs.Ytgmhopkajopfcaa
