/- Plain: the document's Right is the program's. -/
import Derived.Test.YtgmhopkajopfcaaRr
import Derived.Test.YtgmhopkajopfcaaPcu
namespace Go.Proofs.Ytgmhopkajopfcaa
open Go.RowKit
set_option linter.unusedVariables false

theorem bStep10 (b : List Bool) : bStep 10 b = if b.length + 1 ≤ 4 then some (b ++ [false]) else none := rfl
theorem bStep11 (s : List Bool) (g : Bool) : bStep 11 (s ++ [g]) = if g then none else some (s ++ [true]) := by simp [bStep]
theorem bStep12 (s : List Bool) (g : Bool) : bStep 12 (s ++ [g]) = if g then some s else none := by simp [bStep]
theorem bStep11n : bStep 11 [] = none := by simp [bStep]
theorem bStep12n : bStep 12 [] = none := by simp [bStep]
theorem bStepE {k : Int} (b : List Bool) (h0 : ¬ k = 10) (h1 : ¬ k = 11) (h2 : ¬ k = 12) : bStep k b = some b := by simp [bStep, h0, h1, h2]
theorem mt10 {x : POp} (h : x.k = 10) (d : Nat) (o : Int) (i : Nat) (l : List POp) : mt d o i (x :: l) = mt (d + 1) o (i + 1) l := by rw [mt, if_pos h]
theorem mt11z {x : POp} (h : x.k = 11) (o : Int) (i : Nat) (l : List POp) : mt 0 o i (x :: l) = if 0 ≤ o then (0, 0, false) else mt 0 i (i + 1) l := by rw [mt, if_neg (by omega), if_pos h, if_pos rfl]
theorem mt11 {x : POp} (h : x.k = 11) (d : Nat) (o : Int) (i : Nat) (l : List POp) : mt (d + 1) o i (x :: l) = mt (d + 1) o (i + 1) l := by rw [mt, if_neg (by omega), if_pos h, if_neg (by omega)]
theorem mt12z {x : POp} (h : x.k = 12) (o : Int) (i : Nat) (l : List POp) : mt 0 o i (x :: l) = (o, (i : Int), decide (0 ≤ o)) := by rw [mt, if_neg (by omega), if_neg (by omega), if_pos h, if_pos rfl]
theorem mt12 {x : POp} (h : x.k = 12) (d : Nat) (o : Int) (i : Nat) (l : List POp) : mt (d + 1) o i (x :: l) = mt d o (i + 1) l := by rw [mt, if_neg (by omega), if_neg (by omega), if_pos h, if_neg (by omega), Nat.add_sub_cancel]
theorem mtE {x : POp} (h0 : ¬ x.k = 10) (h1 : ¬ x.k = 11) (h2 : ¬ x.k = 12) (d : Nat) (o : Int) (i : Nat) (l : List POp) : mt d o i (x :: l) = mt d o (i + 1) l := by rw [mt, if_neg h0, if_neg h1, if_neg h2]
theorem snoc_cases (b : List Bool) : b = [] ∨ ∃ s g, b = s ++ [g] := by
  rcases List.eq_nil_or_concat b with h | ⟨s, g, h⟩
  · exact .inl h
  · exact .inr ⟨s, g, by rw [h, List.concat_eq_append]⟩
theorem bRun_cons {x : POp} {l : List POp} {b b' : List Bool} (h : bRun b (x :: l) = some b') : ∃ c, bStep x.k b = some c ∧ bRun c l = some b' := by
  rw [bRun] at h
  exact Option.bind_eq_some_iff.1 h
/-- An Either that is closed in the end has its Or and its End. -/
theorem mt_of_run : ∀ (l : List POp) (b c : List Bool) (f : Bool) (o : Int) (i : Nat) (b' : List Bool), decide (0 ≤ o) = f → bRun (b ++ f :: c) l = some b' → b'.length ≤ b.length → (mt c.length o i l).2.2 = true
  | [], b, c, f, o, i, b', hf, h, hl => by
    injection h with h
    subst h
    simp at hl
    omega
  | x :: l, b, c, f, o, i, b', hf, h, hl => by
    obtain ⟨b1, h1, h2⟩ := bRun_cons h
    by_cases k10 : x.k = 10
    · rw [k10, bStep10] at h1
      split at h1
      · injection h1 with h1
        subst h1
        rw [mt10 k10]
        have h9 := mt_of_run l b (c ++ [false]) f o (i + 1) b' hf (by rw [← h2]; simp) hl
        simpa using h9
      · cases h1
    · by_cases k11 : x.k = 11
      · rw [k11] at h1
        rcases snoc_cases c with rfl | ⟨c0, g, rfl⟩
        · rw [bStep11] at h1
          cases f
          · injection h1 with h1
            subst h1
            have ho : ¬ 0 ≤ o := by simpa using hf
            rw [show ([] : List Bool).length = 0 from rfl, mt11z k11, if_neg ho]
            exact mt_of_run l b [] true i (i + 1) b' (by simp) h2 hl
          · cases h1
        · rw [show b ++ f :: (c0 ++ [g]) = (b ++ f :: c0) ++ [g] by simp, bStep11] at h1
          cases g
          · injection h1 with h1
            subst h1
            have h9 := mt_of_run l b (c0 ++ [true]) f o (i + 1) b' hf (by rw [← h2]; simp) hl
            rw [List.length_append, List.length_singleton] at h9 ⊢
            rw [mt11 k11]
            exact h9
          · cases h1
      · by_cases k12 : x.k = 12
        · rw [k12] at h1
          rcases snoc_cases c with rfl | ⟨c0, g, rfl⟩
          · rw [bStep12] at h1
            cases f
            · cases h1
            · rw [show ([] : List Bool).length = 0 from rfl, mt12z k12]
              exact hf
          · rw [show b ++ f :: (c0 ++ [g]) = (b ++ f :: c0) ++ [g] by simp, bStep12] at h1
            cases g
            · cases h1
            · injection h1 with h1
              subst h1
              rw [List.length_append, List.length_singleton, mt12 k12]
              exact mt_of_run l b c0 f o (i + 1) b' hf h2 hl
        · rw [bStepE _ k10 k11 k12] at h1
          injection h1 with h1
          subst h1
          rw [mtE k10 k11 k12]
          exact mt_of_run l b c f o (i + 1) b' hf h2 hl
def trues (b : List Bool) : Nat := b.countP id
theorem trues_snoc (s : List Bool) (g : Bool) : trues (s ++ [g]) = trues s + (if g then 1 else 0) := by
  unfold trues
  rw [List.countP_append]
  cases g <;> rfl
/-- Each open Either will have its Or and its End. -/
def InvB (b : List Bool) (i : Nat) (l : List POp) : Prop := ∀ s g c, b = s ++ g :: c → ∃ og : Int, decide (0 ≤ og) = g ∧ (mt c.length og i l).2.2 = true
theorem InvB.nil (i : Nat) (l : List POp) : InvB [] i l := fun s g c h => by simp at h
theorem snoc_split {b s c : List Bool} {t g : Bool} (h : b ++ [t] = s ++ g :: c) : (c = [] ∧ s = b ∧ g = t) ∨ ∃ c0, c = c0 ++ [t] ∧ b = s ++ g :: c0 := by
  rcases snoc_cases c with rfl | ⟨c0, u, rfl⟩
  · have h9 := List.append_inj' h rfl
    exact .inl ⟨rfl, h9.1.symm, by simpa using h9.2.symm⟩
  · rw [show s ++ g :: (c0 ++ [u]) = (s ++ g :: c0) ++ [u] by simp] at h
    have h9 := List.append_inj' h rfl
    obtain rfl : t = u := by simpa using h9.2
    exact .inr ⟨c0, rfl, h9.1⟩
theorem run_of_scan : ∀ (l : List POp) (i e o n : Nat) (b : List Bool), b.length + n = e → InvB b i l → rScan i e o n l = true → o ≤ n + trues b ∧ (o = n + trues b → bRun b l = some [])
  | [], i, e, o, n, b, hb, hi, h => by
    simp [rScan] at h
    obtain ⟨rfl, rfl⟩ := h
    have : b = [] := List.eq_nil_of_length_eq_zero (by omega)
    subst this
    exact ⟨by simp [trues], fun _ => rfl⟩
  | x :: l, i, e, o, n, b, hb, hi, h => by
    rw [rScan] at h
    simp only [Bool.and_eq_true, decide_eq_true_eq] at h
    obtain ⟨-, hm, h1, h2, h3⟩ := h
    by_cases k10 : x.k = 10
    · have k12 : ¬ x.k = 12 := by omega
      have k11 : ¬ x.k = 11 := by omega
      simp only [if_pos k10, if_neg k12, if_neg k11] at h1 h2 h3
      rw [decide_eq_true k10, Bool.not_true, Bool.false_or] at hm
      have IH := run_of_scan l (i + 1) (e + 1) o n (b ++ [false]) (by simp; omega) (by
        intro s g c hs
        rcases snoc_split hs with ⟨rfl, rfl, rfl⟩ | ⟨c0, rfl, rfl⟩
        · exact ⟨-1, by decide, hm⟩
        · obtain ⟨og, g1, g2⟩ := hi s g c0 rfl
          rw [mt10 k10] at g2
          exact ⟨og, g1, by simpa using g2⟩) h3
      rw [trues_snoc] at IH
      refine ⟨by simpa using IH.1, fun ho => ?_⟩
      rw [bRun, k10, bStep10, if_pos (by omega), Option.bind_some]
      exact IH.2 (by simpa using ho)
    · by_cases k11 : x.k = 11
      · have k12 : ¬ x.k = 12 := by omega
        simp only [if_neg k10, if_neg k12, if_pos k11] at h1 h2 h3
        rcases snoc_cases b with rfl | ⟨s, g, rfl⟩
        · have IH := run_of_scan l (i + 1) e (o + 1) n [] hb (InvB.nil _ _) h3
          have h9 := IH.1
          refine ⟨by omega, fun ho => by omega⟩
        · obtain ⟨og, g1, g2⟩ := hi s g [] rfl
          rw [show ([] : List Bool).length = 0 from rfl, mt11z k11] at g2
          split at g2
          · cases g2
          · rename_i hog
            obtain rfl : g = false := by rw [← g1]; simpa using hog
            have IH := run_of_scan l (i + 1) e (o + 1) n (s ++ [true]) (by simpa using hb) (by
              intro s' g' c hs
              rcases snoc_split hs with ⟨rfl, rfl, rfl⟩ | ⟨c0, rfl, rfl⟩
              · exact ⟨i, by simp, g2⟩
              · obtain ⟨og', q1, q2⟩ := hi s' g' (c0 ++ [false]) (by simp)
                rw [List.length_append, List.length_singleton, mt11 k11] at q2
                exact ⟨og', q1, by rw [List.length_append, List.length_singleton]; exact q2⟩) h3
            rw [trues_snoc] at IH
            simp only [if_true] at IH
            rw [trues_snoc]
            simp only [Bool.false_eq_true, if_false]
            refine ⟨by have := IH.1; omega, fun ho => ?_⟩
            rw [bRun, k11, bStep11]
            simp only [Bool.false_eq_true, if_false, Option.bind_some]
            exact IH.2 (by omega)
      · by_cases k12 : x.k = 12
        · simp only [if_neg k10, if_pos k12, if_neg k11] at h1 h2 h3
          rcases snoc_cases b with rfl | ⟨s, g, rfl⟩
          · simp at hb
            omega
          · obtain ⟨og, g1, g2⟩ := hi s g [] rfl
            rw [show ([] : List Bool).length = 0 from rfl, mt12z k12] at g2
            obtain rfl : g = true := by rw [← g1]; exact g2
            have IH := run_of_scan l (i + 1) e o (n + 1) s (by simp at hb; omega) (by
              intro s' g' c hs
              subst hs
              obtain ⟨og', q1, q2⟩ := hi s' g' (c ++ [true]) (by simp)
              rw [List.length_append, List.length_singleton, mt12 k12] at q2
              exact ⟨og', q1, q2⟩) h3
            rw [trues_snoc]
            simp only [if_true]
            refine ⟨by have := IH.1; omega, fun ho => ?_⟩
            rw [bRun, k12, bStep12]
            simp only [if_true, Option.bind_some]
            exact IH.2 (by omega)
        · simp only [if_neg k10, if_neg k12, if_neg k11] at h1 h2 h3
          have IH := run_of_scan l (i + 1) e o n b hb (by
            intro s g c hs
            obtain ⟨og, q1, q2⟩ := hi s g c hs
            rw [mtE k10 k11 k12] at q2
            exact ⟨og, q1, q2⟩) h3
          refine ⟨IH.1, fun ho => ?_⟩
          rw [bRun, bStepE _ k10 k11 k12, Option.bind_some]
          exact IH.2 ho
theorem all_of_scan : ∀ (l : List POp) (i e o n : Nat), rScan i e o n l = true → ∀ x ∈ l, opRight x = true
  | [], _, _, _, _, _ => by simp
  | x :: l, i, e, o, n, h => by
    rw [rScan] at h
    simp only [Bool.and_eq_true] at h
    intro y hy
    rcases List.mem_cons.1 hy with rfl | hy
    · exact h.1
    · exact all_of_scan l _ _ _ _ h.2.2.2.2 y hy
theorem scan_of_run : ∀ (l : List POp) (i e o n : Nat) (b : List Bool), b.length + n = e → b.length ≤ 4 → o = n + trues b → (∀ x ∈ l, opRight x = true) → bRun b l = some [] → rScan i e o n l = true
  | [], i, e, o, n, b, hb, h4, ho, ha, h => by
    injection h with h
    subst h
    have : trues [] = 0 := rfl
    simp at hb
    simp [rScan]
    omega
  | x :: l, i, e, o, n, b, hb, h4, ho, ha, h => by
    have hx := ha x (List.mem_cons_self ..)
    have hl := fun y hy => ha y (List.mem_cons_of_mem x hy)
    obtain ⟨b1, h1, h2⟩ := bRun_cons h
    rw [rScan]
    simp only [Bool.and_eq_true, decide_eq_true_eq]
    refine ⟨hx, ?_⟩
    by_cases k10 : x.k = 10
    · have k12 : ¬ x.k = 12 := by omega
      have k11 : ¬ x.k = 11 := by omega
      simp only [if_pos k10, if_neg k12, if_neg k11]
      rw [k10, bStep10] at h1
      split at h1
      · rename_i hlen
        injection h1 with h1
        subst h1
        refine ⟨?_, by omega, by omega, scan_of_run l (i + 1) (e + 1) o n _ (by simp; omega) (by simpa using hlen) (by rw [trues_snoc]; simpa using ho) hl h2⟩
        rw [show (mt 0 (-1) (i + 1) l).2.2 = true from mt_of_run l b [] false (-1) (i + 1) [] (by decide) h2 (Nat.zero_le _), Bool.or_true]
      · cases h1
    · have hnm : (!decide (x.k = 10) || (mt 0 (-1) (i + 1) l).2.2) = true := by rw [decide_eq_false k10]; rfl
      refine ⟨hnm, ?_⟩
      by_cases k11 : x.k = 11
      · have k12 : ¬ x.k = 12 := by omega
        simp only [if_neg k10, if_neg k12, if_pos k11]
        rw [k11] at h1
        rcases snoc_cases b with rfl | ⟨s, g, rfl⟩
        · rw [bStep11n] at h1; cases h1
        · rw [bStep11] at h1
          cases g
          · injection h1 with h1
            subst h1
            rw [trues_snoc] at ho
            simp at hb h4 ho
            exact ⟨by omega, by omega, scan_of_run l (i + 1) e (o + 1) n _ (by simpa using hb) (by simpa using h4) (by rw [trues_snoc]; simp; omega) hl h2⟩
          · cases h1
      · by_cases k12 : x.k = 12
        · simp only [if_neg k10, if_pos k12, if_neg k11]
          rw [k12] at h1
          rcases snoc_cases b with rfl | ⟨s, g, rfl⟩
          · rw [bStep12n] at h1; cases h1
          · rw [bStep12] at h1
            cases g
            · cases h1
            · injection h1 with h1
              subst h1
              rw [trues_snoc] at ho
              simp at hb h4 ho
              exact ⟨by omega, by omega, scan_of_run l (i + 1) e o (n + 1) _ (by omega) (by omega) (by omega) hl h2⟩
        · simp only [if_neg k10, if_neg k12, if_neg k11]
          rw [bStepE _ k10 k11 k12] at h1
          injection h1 with h1
          subst h1
          exact ⟨by omega, by omega, scan_of_run l (i + 1) e o n _ hb h4 ho hl h2⟩
theorem rRight_pRight (l : List POp) : rRight l = pRight l := by
  unfold rRight pRight
  congr 1
  rw [Bool.eq_iff_iff, Bool.and_eq_true, pairsOk_b]
  constructor
  · intro h
    refine ⟨?_, ?_⟩
    · have h9 := all_of_scan l 0 0 0 0 h
      rw [Bool.not_eq_true', List.any_eq_false]
      intro x hx
      rw [h9 x hx]
      decide
    · exact (run_of_scan l 0 0 0 0 [] rfl (InvB.nil _ _) h).2 rfl
  · rintro ⟨ha, hr⟩
    refine scan_of_run l 0 0 0 0 [] rfl (by decide) rfl ?_ hr
    intro x hx
    rw [Bool.not_eq_true', List.any_eq_false] at ha
    have := ha x hx
    simpa using this
end Go.Proofs.Ytgmhopkajopfcaa
