/- Regions whose last store turns what their loads read: the loads are taken first as long as the store waits for them. -/
import Derived.Test.YtgmhopkajopfcaaBase
import Derived.Deep.RegionHeld3
namespace Go.Proofs.Ytgmhopkajopfcaa
open Go
set_option linter.unusedVariables false
section
variable {P : Program} {ops : Array Oper} {Q : Exit → Act → World → Prop} {md : Region.Mode} {S : World → Prop} {z : Nat}

/-- Any order; S holds behind each operation but number z. -/
def wpAnyD (P : Program) (md : Region.Mode) (ops : Array Oper) (Q : Exit → Act → World → Prop) (z : Nat) (S : World → Prop) : Nat → Array Bool → Act → World → Prop
  | 0, l, a, w => Region.ready md ops l = [] ∧ Q .normal a w
  | n + 1, l, a, w => (Region.ready md ops l = [] → Q .normal a w) ∧ ∀ i ∈ Region.ready md ops l, wpOp P ops Q i (fun b u => (i ≠ z → S u) ∧ wpAnyD P md ops Q z S n (l.setIfInBounds i true) b u) a w
theorem wpAnyD.any : ∀ (n : Nat) (l : Array Bool) (a : Act) (w : World), wpAnyD P md ops Q z S n l a w → wpAny P md ops Q n l a w := by
  intro n
  induction n with
  | zero => exact fun _ _ _ h => h
  | succ n ih => exact fun l a w h => ⟨h.1, fun i hi => wpOp_mono (fun b u hb => ih _ b u hb.2) (h.2 i hi)⟩
theorem wpAnyD.before {i : Nat} {oi oz : Oper} {v : Value} (hi : ops[i]? = some oi) (hz : ops[z]? = some oz) (hw : ∃ e ∈ oz.after, Region.binds md e = true ∧ e.on = i) (hn : Region.noSelect ops = true)
    (hQ : ∀ c a w, Q (.panic c) (a.put oi.dst v) w → Q (.panic c) a w) (n : Nat) :
    ∀ (l : Array Bool) (a : Act) (w : World), (∀ j oj, ops[j]? = some oj → j ≠ i → l.getD j true = false → (∀ e ∈ oj.after, Region.binds md e = true → e.on ≠ i) → oi.apart ops oj = true) →
      i ∈ Region.ready md ops l → YieldsIf P ops S oi v a → S w → wpAnyD P md ops Q z S n (l.setIfInBounds i true) (a.put oi.dst v) w → wpAnyD P md ops Q z S (n + 1) l a w := by
  have waits : ∀ {l : Array Bool} {j : Nat} {oj : Oper}, ops[j]? = some oj → i ∈ Region.ready md ops l → j ∈ Region.ready md ops l → ∀ e ∈ oj.after, Region.binds md e = true → e.on ≠ i := fun {l j oj} hj hri hrj e he hb q => by
    obtain ⟨_, o', ho', hall⟩ := mem_ready.1 hrj
    rw [hj] at ho'
    cases ho'
    have h1 := hall e he hb
    have h0 := (mem_ready.1 hri).1
    rw [q] at h1
    have hlt : i < l.size := by
      rcases Nat.lt_or_ge i l.size with h | h
      · exact h
      · simp [Array.getElem?_eq_none h] at h1
    simp [hlt] at h0 h1
    rw [h0] at h1
    cases h1
  induction n with
  | zero =>
    intro l a w _ hr hy hS H
    refine ⟨fun h => (by rw [h] at hr; cases hr), fun j hj => ?_⟩
    by_cases hji : j = i
    · subst hji
      exact hy.wpOp hi hS ⟨fun _ => hS, H⟩
    · exact absurd (ready_mono hj hji) (by rw [H.1]; simp)
  | succ n ih =>
    intro l a w hf hr hy hS H
    refine ⟨fun h => (by rw [h] at hr; cases hr), fun j hj => ?_⟩
    by_cases hji : j = i
    · subst hji
      exact hy.wpOp hi hS ⟨fun _ => hS, H⟩
    · obtain ⟨hun, oj, hoj, _⟩ := mem_ready.1 hj
      have hno := waits hoj hr hj
      have hjz : j ≠ z := fun e => by
        subst e
        rw [hz] at hoj
        cases hoj
        obtain ⟨e, h1, h2, h3⟩ := hw
        exact hno e h1 h2 h3
      have h2 := wpOp_putIf hoj (hf j oj hoj hji hun hno) (fun cs b => Region.noSelect_spec hn i oi cs b hi) (fun cs b => Region.noSelect_spec hn j oj cs b hoj) hQ hy (H.2 j (ready_mono hj hji))
      refine wpOp_mono (fun b u h3 => ⟨h3.2.1, ih _ b u (fun k ok hk hki hu hno' => ?_) (ready_mono hr (Ne.symm hji)) h3.1 (h3.2.1 hjz) ?_⟩) h2
      · refine hf k ok hk hki ?_ hno'
        by_cases hjk : j = k
        · subst hjk; exact hun
        · rw [getD_set_ne true hjk] at hu; exact hu
      · rw [Array.setIfInBounds_comm _ _ hji]
        exact h3.2.2
/-- Take number i first. -/
theorem wpAnyD_take {i : Nat} {oi oz : Oper} {v : Value} {n : Nat} {l : Array Bool} {a : Act} {w : World} (hi : ops[i]? = some oi) (hz : ops[z]? = some oz) (hw : (oz.after.any fun e => Region.binds md e && e.on == i) = true)
    (hs : Region.noSelect ops = true) (hf : Region.free md ops l i = true) (hr : (Region.ready md ops l).contains i = true) (hQ : ∀ c a w, Q (.panic c) (a.put oi.dst v) w → Q (.panic c) a w) (hy : YieldsIf P ops S oi v a) (hS : S w)
    (h : wpAnyD P md ops Q z S n (l.setIfInBounds i true) (a.put oi.dst v) w) : wpAnyD P md ops Q z S (n + 1) l a w := by
  refine wpAnyD.before hi hz ?_ hs hQ n l a w (Region.free_spec hi hf) (by simpa using hr) hy hS h
  rw [Array.any_eq_true'] at hw
  obtain ⟨e, he, hb⟩ := hw
  simp at hb
  exact ⟨e, he, hb.1, hb.2⟩
def AllReadyD (P : Program) (md : Region.Mode) (ops : Array Oper) (Q : Exit → Act → World → Prop) (z : Nat) (S : World → Prop) (n : Nat) (l : Array Bool) (a : Act) (w : World) (rs : List Nat) : Prop :=
  ∀ i ∈ rs, wpOp P ops Q i (fun b u => (i ≠ z → S u) ∧ wpAnyD P md ops Q z S n (l.setIfInBounds i true) b u) a w
theorem AllReadyD.nil {n : Nat} {l : Array Bool} {a : Act} {w : World} : AllReadyD P md ops Q z S n l a w [] := fun _ h => by cases h
theorem AllReadyD.cons {n : Nat} {l : Array Bool} {a : Act} {w : World} {i : Nat} {o : Oper} {rs : List Nat} (ho : ops[i]? = some o)
    (h : ∀ K' : Act → World → Prop, Shut (∀ b u, (i ≠ z → S u) → ((i ≠ z → S u) → wpAnyD P md ops Q z S n (l.setIfInBounds i true) b u) → K' b u) → if Region.wanted o (yielded ops a.tmps) = true then Oper.wp P o a w K' Q else K' (a.put o.dst undef) w)
    (hs : AllReadyD P md ops Q z S n l a w rs) : AllReadyD P md ops Q z S n l a w (i :: rs) := fun j hj => by
  rcases List.mem_cons.1 hj with rfl | hj
  · exact wpOp_step ho (fun K' hK => h K' (fun b u h1 h2 => hK b u ⟨h1, h2 h1⟩))
  · exact hs j hj
theorem wpAnyD_ready {rs : List Nat} {n : Nat} {l : Array Bool} {a : Act} {w : World} (hr : Region.ready md ops l = rs) (hne : rs ≠ []) (h : AllReadyD P md ops Q z S n l a w rs) : wpAnyD P md ops Q z S (n + 1) l a w :=
  ⟨fun h0 => absurd (hr ▸ h0) hne, hr ▸ h⟩
theorem wpAnyD_done {l : Array Bool} {a : Act} {w : World} (hr : Region.ready md ops l = []) (h : Q .normal a w) : ∀ n, wpAnyD P md ops Q z S n l a w
  | 0 => ⟨hr, h⟩
  | _ + 1 => ⟨fun _ => h, by rw [hr]; simp⟩
theorem wp_region_D {id : Nat} {a : Act} {w : World} (z : Nat) (hm : P.follows .mixedOrders = true) (hS : S w.drew)
    (h : S w.drew → wpAnyD P .any ops Q z S ops.size (Array.replicate ops.size false) a w.drew) : (Code.region id ops true).wp P Q a w :=
  wp_region_any hm (wpAnyD.any _ _ _ _ (h hS))
end
end Go.Proofs.Ytgmhopkajopfcaa
