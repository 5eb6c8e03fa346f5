/- Plain: a right program, cut. -/
import Derived.Test.YtgmhopkajopfcaaPuk
namespace Go.Proofs.Ytgmhopkajopfcaa
open Go.RowKit
set_option linter.unusedVariables false

theorem snoc_ind {P : List POp → Prop} (h0 : P []) (hs : ∀ l x, P l → P (l ++ [x])) (l : List POp) : P l := by
  rw [← List.reverse_reverse l]
  induction l.reverse with
  | nil => exact h0
  | cons x m ih => rw [List.reverse_cons]; exact hs _ _ ih
/-- The Eithers that are open behind a beginning, as the law counts them. -/
def openN (l : List POp) : Int := l.foldl (fun a x => (if x.k = 10 then a + 1 else a) - (if x.k = 12 then 1 else 0)) 0
theorem openN_snoc (l : List POp) (x : POp) : openN (l ++ [x]) = (if x.k = 10 then openN l + 1 else openN l) - (if x.k = 12 then 1 else 0) := by simp [openN, List.foldl_append]
theorem pStep_len {k : Int} {i : Nat} {s s' : PSt} (h : pStep k i s = some s') : (s'.st.length : Int) = (if k = 10 then (s.st.length : Int) + 1 else s.st.length) - (if k = 12 then 1 else 0) := by
  unfold pStep at h
  split at h
  · rename_i h10
    subst h10
    split at h
    · injection h with h
      rw [← h]
      simp
    · cases h
  · rename_i h10
    rw [if_neg h10]
    split at h
    · rename_i h11
      subst h11
      split at h
      · cases h
      · rename_i p hp
        split at h
        · cases h
        · injection h with h
          rw [← h]
          have : s.st ≠ [] := by rintro e; rw [e] at hp; cases hp
          have := List.length_pos_iff.2 this
          simp
          omega
    · split at h
      · rename_i h12
        subst h12
        split at h
        · cases h
        · rename_i p hp
          split at h
          · cases h
          · injection h with h
            rw [← h]
            have : s.st ≠ [] := by rintro e; rw [e] at hp; cases hp
            have := List.length_pos_iff.2 this
            simp
            omega
      · rename_i h12
        injection h with h
        rw [← h, if_neg h12]
        omega
theorem pRun_openN : ∀ (l : List POp) (s : PSt), pRun l = some s → (s.st.length : Int) = openN l := by
  intro l
  induction l using snoc_ind with
  | h0 => intro s h; injection h with h; rw [← h]; rfl
  | hs l x ih =>
    intro s h
    unfold pRun at h ih
    rw [pRunFrom_append] at h
    cases h1 : pRunFrom 0 ⟨[], []⟩ l with
    | none => rw [h1] at h; cases h
    | some s1 =>
      rw [h1] at h
      change (pStep x.k (0 + l.length) s1).bind (fun s => some s) = some s at h
      have h : pStep x.k (0 + l.length) s1 = some s := by
        cases h2 : pStep x.k (0 + l.length) s1 with
        | none => rw [h2] at h; cases h
        | some s2 => rw [h2] at h; exact h
      rw [pStep_len h, ih s1 h1, openN_snoc]
/-- The shape of the open Eithers: whether each has its Or. -/
def shape (s : PSt) : List Bool := s.st.map fun p => decide (0 ≤ p.2)
def bStep (k : Int) (b : List Bool) : Option (List Bool) :=
  if k = 10 then (if b.length + 1 ≤ 4 then some (b ++ [false]) else none)
  else if k = 11 then (match b.getLast? with | none => none | some p => if p then none else some (b.dropLast ++ [true]))
  else if k = 12 then (match b.getLast? with | none => none | some p => if p then some b.dropLast else none)
  else some b
def bRun (b : List Bool) : List POp → Option (List Bool)
  | [] => some b
  | x :: l => (bStep x.k b).bind fun b => bRun b l
theorem pStep_shape (k : Int) (i : Nat) (s : PSt) : (pStep k i s).map shape = bStep k (shape s) := by
  obtain ⟨st, m⟩ := s
  unfold pStep bStep shape
  dsimp only
  split
  · simp only [List.length_map]
    split
    · simp
    · rfl
  · split
    · rw [List.getLast?_map]
      cases st.getLast? with
      | none => rfl
      | some p =>
        dsimp only [Option.map_some]
        by_cases hp : 0 ≤ p.2
        · simp [hp]
        · simp [hp, List.map_dropLast]
    · split
      · rw [List.getLast?_map]
        cases st.getLast? with
        | none => rfl
        | some p =>
          dsimp only [Option.map_some]
          by_cases hp : 0 ≤ p.2
          · have : ¬ p.2 < 0 := by omega
            simp [hp, this, List.map_dropLast]
          · have : p.2 < 0 := by omega
            simp [this]
      · rfl
theorem pRunFrom_shape : ∀ (l : List POp) (i : Nat) (s : PSt), (pRunFrom i s l).map shape = bRun (shape s) l
  | [], i, s => rfl
  | x :: l, i, s => by
    rw [pRunFrom, bRun, ← pStep_shape x.k i s]
    cases h : pStep x.k i s with
    | none => rfl
    | some s' =>
      simp only [Option.map_some, Option.bind_some]
      exact pRunFrom_shape l (i + 1) s'
theorem pairsOk_b (l : List POp) : pairsOk l = true ↔ bRun [] l = some [] := by
  have h := pRunFrom_shape l 0 ⟨[], []⟩
  unfold pairsOk pRun
  rw [show shape ⟨[], []⟩ = [] from rfl] at h
  cases hp : pRunFrom 0 ⟨[], []⟩ l with
  | none => rw [hp] at h; rw [← h]; simp
  | some s =>
    rw [hp] at h
    rw [← h]
    obtain ⟨st, m⟩ := s
    cases st <;> simp [shape]
theorem bRun_append : ∀ (l m : List POp) (b : List Bool), bRun b (l ++ m) = (bRun b l).bind fun b' => bRun b' m
  | [], m, b => rfl
  | x :: l, m, b => by
    rw [List.cons_append, bRun, bRun, Option.bind_assoc]
    congr 1
    funext b'
    exact bRun_append l m b'
/-- Deeper down the same happens, or it is too deep. -/
theorem bStep_deep (k : Int) (b c b' : List Bool) (h : bStep k b = some b') : bStep k (c ++ b) = some (c ++ b') ∨ bStep k (c ++ b) = none := by
  unfold bStep at *
  split at h
  · rename_i h10
    rw [if_pos h10]
    split at h
    · injection h with h
      subst h
      split
      · left; rw [List.append_assoc]
      · exact .inr rfl
    · cases h
  · rename_i h10
    rw [if_neg h10]
    split at h
    · rename_i h11
      rw [if_pos h11]
      cases hb : b.getLast? with
      | none => rw [hb] at h; cases h
      | some p =>
        rw [hb] at h
        have hne : b ≠ [] := by rintro rfl; cases hb
        rw [List.getLast?_append, hb]
        simp only [Option.some_or]
        cases p
        · simp only [Bool.false_eq_true, if_false, Option.some.injEq] at h ⊢
          subst h
          left
          rw [List.dropLast_append_of_ne_nil hne, List.append_assoc]
        · simp at h
    · rename_i h11
      rw [if_neg h11]
      split at h
      · rename_i h12
        rw [if_pos h12]
        cases hb : b.getLast? with
        | none => rw [hb] at h; cases h
        | some p =>
          rw [hb] at h
          have hne : b ≠ [] := by rintro rfl; cases hb
          rw [List.getLast?_append, hb]
          simp only [Option.some_or]
          cases p
          · simp at h
          · simp only [if_true, Option.some.injEq] at h ⊢
            subst h
            left
            rw [List.dropLast_append_of_ne_nil hne]
      · rename_i h12
        rw [if_neg h12]
        injection h with h
        subst h
        exact .inl rfl
theorem bRun_deep : ∀ (l : List POp) (b c b' : List Bool), bRun b l = some b' → bRun (c ++ b) l = some (c ++ b') ∨ bRun (c ++ b) l = none
  | [], b, c, b', h => by injection h with h; subst h; exact .inl rfl
  | x :: l, b, c, b', h => by
    rw [bRun] at h ⊢
    cases h1 : bStep x.k b with
    | none => rw [h1] at h; cases h
    | some b1 =>
      rw [h1] at h
      rcases bStep_deep x.k b c b1 h1 with h2 | h2
      · rw [h2]
        exact bRun_deep l b1 c b' h
      · rw [h2]
        exact .inr rfl
theorem any_split (p : POp → Bool) (l m : List POp) (h : (!(l ++ m).any p) = true) : (!l.any p) = true ∧ (!m.any p) = true := by
  rw [List.any_append] at h
  simpa using h
/-- Cut where an Either is open, neither part is right; elsewhere both are. -/
theorem cut_right (l m : List POp) (h : pRight (l ++ m) = true) : ((0 < openN l → pRight l = false ∧ pRight m = false) ∧ (openN l ≤ 0 → pRight l = true ∧ pRight m = true)) := by
  unfold pRight at h
  simp only [Bool.and_eq_true, decide_eq_true_eq] at h
  obtain ⟨hlen, hany, hok⟩ := h
  rw [List.length_append] at hlen
  obtain ⟨ha, hb⟩ := any_split _ l m hany
  have hr := (pairsOk_b _).1 hok
  rw [bRun_append] at hr
  cases h1 : bRun [] l with
  | none => rw [h1] at hr; cases hr
  | some b =>
    rw [h1] at hr
    have hr : bRun b m = some [] := hr
    have hs := pRunFrom_shape l 0 ⟨[], []⟩
    rw [show shape ⟨[], []⟩ = [] from rfl, h1] at hs
    obtain ⟨s, hs1, hs2⟩ := Option.map_eq_some_iff.1 hs
    have hn := pRun_openN l s hs1
    have hbl : b.length = s.st.length := by rw [← hs2]; simp [shape]
    refine ⟨fun h0 => ?_, fun h0 => ?_⟩
    · have hne : b ≠ [] := by
        rintro rfl
        simp at hbl
        omega
      have nl : pairsOk l = false := by
        rw [← Bool.not_eq_true, pairsOk_b, h1]
        intro e
        injection e with e
        exact hne e
      have nm : pairsOk m = false := by
        rw [← Bool.not_eq_true, pairsOk_b]
        intro e
        rcases bRun_deep m [] b [] e with h2 | h2
        · rw [List.append_nil, hr] at h2
          injection h2 with h2
          exact hne h2.symm
        · rw [List.append_nil, hr] at h2
          cases h2
      unfold pRight
      rw [nl, nm]
      simp
    · have hb0 : b = [] := List.eq_nil_of_length_eq_zero (by omega)
      subst hb0
      unfold pRight
      rw [ha, hb, (pairsOk_b l).2 h1, (pairsOk_b m).2 hr, decide_eq_true (by omega), decide_eq_true (by omega)]
      simp
end Go.Proofs.Ytgmhopkajopfcaa
