/- A run that is driven: what it asks for; one that has all of it ahead. Plain Lean. Driving a run: versioned, Drive, Regs. Driving a run in memory. An array of sixteen ints, as an argument. The walk of the document's SameItems, at lists that are alike. What the document's run over known cells comes to, and that a driven run comes to the same. Plain Lean. The document's world in memory. -/
import Derived.Test.YtgmhopkajopfcaaRxa
import Derived.WalkSpells
import Derived.Deep.RegionLaw
import Derived.Deep.LoopGhost
import Derived.OpenShut
namespace Go.Proofs.Ytgmhopkajopfcaa
section
set_option linter.unusedVariables false
set_option linter.unusedSimpArgs false

theorem stepR_ind2 {l : List POp} {x : POp} {s : RS} (P : Int × Int × RS → Prop) (h0 : ∀ b t, t.rd = s.rd → t.tk = s.tk → P (0, b, t)) (h1 : (x.k = 1 ∨ x.k = 2) → (s.rd.2 x.c).isSome = false → P (1, x.c, s)) (h2 : x.k = 9 → s.tk x.c.toNat = false → P (2, x.c, s)) (h3 : P (3, 0, s)) (h4 : P (4, 0, s)) : P (stepR l x s) := by
  unfold stepR
  by_cases k1 : x.k = 1
  · rw [if_pos k1]
    cases hv : valF s.rd s.lv x.c with
    | none => exact h1 (.inl k1) (by rw [← valF_some s.rd s.lv, hv]; rfl)
    | some v => exact h0 _ _ rfl rfl
  rw [if_neg k1]
  by_cases k2 : x.k = 2
  · rw [if_pos k2]
    by_cases hv : (s.rd.2 x.c).isSome = true
    · rw [if_pos hv]; exact h0 _ _ rfl rfl
    · rw [if_neg hv]; exact h1 (.inr k2) (by simpa using hv)
  rw [if_neg k2]
  by_cases k9 : x.k = 9
  · rw [if_pos k9]
    by_cases hv : s.tk x.c.toNat = true
    · rw [if_pos hv]; exact h0 _ _ rfl rfl
    · rw [if_neg hv]; exact h2 k9 (by simpa using hv)
  rw [if_neg k9]
  by_cases k3 : x.k = 3
  · rw [if_pos k3]; exact h0 _ _ rfl rfl
  rw [if_neg k3]
  by_cases k4 : x.k = 4
  · rw [if_pos k4]; exact h0 _ _ rfl rfl
  rw [if_neg k4]
  by_cases k5 : x.k = 5
  · rw [if_pos k5]; exact h0 _ _ rfl rfl
  rw [if_neg k5]
  by_cases k10 : x.k = 10
  · rw [if_pos k10]; exact h0 _ _ rfl rfl
  rw [if_neg k10]
  by_cases k11 : x.k = 11
  · rw [if_pos k11]
    cases s.cho.getLast? with
    | none => exact h0 _ _ rfl rfl
    | some q => exact h0 _ _ rfl rfl
  rw [if_neg k11]
  by_cases k8 : x.k = 8
  · rw [if_pos k8]; exact h4
  rw [if_neg k8]
  by_cases k7 : x.k = 7 ∨ (x.k = 6 ∧ s.rg x.r.toNat = 0)
  · rw [if_pos k7]
    cases s.cho.getLast? with
    | none => exact h3
    | some q => exact h0 _ _ rfl rfl
  rw [if_neg k7]
  exact h0 _ _ rfl rfl
/-- What a run asks for is a cell of its program, and not yet there. -/
def Asks (l : List POp) (s : RS) (r : Int × Int × RS) : Prop :=
  (r.1 = 1 → (0 ≤ r.2.1 ∧ r.2.1 ≤ 15) ∧ (s.rd.2 r.2.1).isSome = false ∧ ∃ x ∈ l, x.c = r.2.1 ∧ (x.k = 1 ∨ x.k = 2)) ∧ (r.1 = 2 → (0 ≤ r.2.1 ∧ r.2.1 ≤ 15) ∧ s.tk r.2.1.toNat = false)
theorem goR_asks {l : List POp} (hr : pRight l = true) (s : RS) : Asks l s (goR l 40 s) :=
  goR_ind (Asks l s) 40 s (fun t h1 h2 => ⟨⟨by simp, by simp⟩, fun x hx _ => by
    have hm := List.mem_of_getElem? hx
    have hb := (opRight_bd ((pRight_all hr).2.1 x hm)).2.1
    refine stepR_ind2 (Asks l s) (fun b t _ _ => ⟨by simp, by simp⟩) (fun hk hv => ⟨fun _ => ⟨hb, by rw [← h1]; exact hv, x, hm, rfl, hk⟩, by simp⟩) (fun hk hv => ⟨by simp, fun _ => ⟨hb, by rw [← h2]; exact hv⟩⟩) ⟨by simp, by simp⟩ ⟨by simp, by simp⟩⟩)
/-- t is s, but for what it was given besides. -/
structure Sim (s t : RS) : Prop where
  eq : t = { s with rd := t.rd, tk := t.tk }
  sub : ∀ c p, s.rd.2 c = some p → t.rd.2 c = some p
  tk : ∀ k, s.tk k = true → t.tk k = true
theorem Sim.val {s t : RS} (h : Sim s t) {c v : Int} (hv : valF s.rd s.lv c = some v) : valF t.rd s.lv c = some v := by
  unfold valF at hv ⊢
  cases hp : s.rd.2 c with
  | none => rw [hp] at hv; cases hv
  | some p => rw [hp] at hv; rw [h.sub c p hp]; exact hv
theorem Sim.isS {s t : RS} (h : Sim s t) {c : Int} (hv : (s.rd.2 c).isSome = true) : (t.rd.2 c).isSome = true := by
  obtain ⟨p, hp⟩ := Option.isSome_iff_exists.1 hv
  rw [h.sub c p hp]; rfl
theorem Sim.wri {s t : RS} (h : Sim s t) {c a : Int} (hv : (s.rd.2 c).isSome = true) : wriL t.rd s.lv c a = wriL s.rd s.lv c a := by
  have h2 := h.isS hv
  unfold wriL wriE
  rw [hv, h2]
/-- A step that goes on. -/
theorem Sim.step {l : List POp} {x : POp} {s t : RS} (h : Sim s t) (h0 : (stepR l x s).1 = 0) : (stepR l x t).1 = 0 ∧ Sim (stepR l x s).2.2 (stepR l x t).2.2 ∧ (stepR l x t).2.2.rd = t.rd ∧ (stepR l x t).2.2.tk = t.tk := by
  have hval := @Sim.val s t h
  have hsm := @Sim.isS s t h
  have hwr := @Sim.wri s t h
  obtain ⟨e, hsub, htk⟩ := h
  generalize t.rd = tr at *
  generalize t.tk = tt at *
  subst e
  have go : ∀ (u : RS), u.rd = s.rd → u.tk = s.tk → Sim u { u with rd := tr, tk := tt } := fun u h1 h2 => ⟨rfl, by rw [h1]; exact hsub, by rw [h2]; exact htk⟩
  unfold stepR at h0 ⊢
  dsimp only at h0 ⊢
  by_cases k1 : x.k = 1
  · simp only [if_pos k1] at h0 ⊢
    cases hv : valF s.rd s.lv x.c with
    | none => rw [hv] at h0; cases h0
    | some v => rw [hval hv]; exact ⟨by trivial, go _ rfl rfl, by trivial, by trivial⟩
  simp only [if_neg k1] at h0 ⊢
  by_cases k2 : x.k = 2
  · simp only [if_pos k2] at h0 ⊢
    by_cases hv : (s.rd.2 x.c).isSome = true
    · simp only [if_pos hv, if_pos (hsm hv)]
      rw [hwr hv]
      exact ⟨by trivial, go _ rfl rfl, by trivial, by trivial⟩
    · rw [if_neg hv] at h0; cases h0
  simp only [if_neg k2] at h0 ⊢
  by_cases k9 : x.k = 9
  · simp only [if_pos k9] at h0 ⊢
    by_cases hv : s.tk x.c.toNat = true
    · simp only [if_pos hv, if_pos (htk _ hv)]; exact ⟨by trivial, go _ rfl rfl, by trivial, by trivial⟩
    · rw [if_neg hv] at h0; cases h0
  simp only [if_neg k9] at h0 ⊢
  by_cases k3 : x.k = 3
  · simp only [if_pos k3]; exact ⟨by trivial, go _ rfl rfl, by trivial, by trivial⟩
  simp only [if_neg k3] at h0 ⊢
  by_cases k4 : x.k = 4
  · simp only [if_pos k4]; exact ⟨by trivial, go _ rfl rfl, by trivial, by trivial⟩
  simp only [if_neg k4] at h0 ⊢
  by_cases k5 : x.k = 5
  · simp only [if_pos k5]; exact ⟨by trivial, go _ rfl rfl, by trivial, by trivial⟩
  simp only [if_neg k5] at h0 ⊢
  by_cases k10 : x.k = 10
  · simp only [if_pos k10]; exact ⟨by trivial, go _ rfl rfl, by trivial, by trivial⟩
  simp only [if_neg k10] at h0 ⊢
  by_cases k11 : x.k = 11
  · simp only [if_pos k11]
    cases s.cho.getLast? with
    | none => exact ⟨by trivial, go _ rfl rfl, by trivial, by trivial⟩
    | some q => exact ⟨by trivial, go _ rfl rfl, by trivial, by trivial⟩
  simp only [if_neg k11] at h0 ⊢
  by_cases k8 : x.k = 8
  · rw [if_pos k8] at h0; cases h0
  simp only [if_neg k8] at h0 ⊢
  by_cases k7 : x.k = 7 ∨ (x.k = 6 ∧ s.rg x.r.toNat = 0)
  · simp only [if_pos k7] at h0 ⊢
    cases hq : s.cho.getLast? with
    | none => rw [hq] at h0; cases h0
    | some q => exact ⟨by trivial, go _ rfl rfl, by trivial, by trivial⟩
  simp only [if_neg k7]
  exact ⟨by trivial, go _ rfl rfl, by trivial, by trivial⟩
/-- A step that comes to something. -/
theorem Sim.stop {l : List POp} {x : POp} {s t : RS} (h : Sim s t) (h3 : 3 ≤ (stepR l x s).1) : stepR l x t = ((stepR l x s).1, 0, t) := by
  obtain ⟨e, hsub, htk⟩ := h
  generalize t.rd = tr at *
  generalize t.tk = tt at *
  subst e
  unfold stepR at h3 ⊢
  dsimp only at h3 ⊢
  by_cases k1 : x.k = 1
  · simp only [if_pos k1] at h3
    cases hv : valF s.rd s.lv x.c <;> rw [hv] at h3 <;> simp at h3
  simp only [if_neg k1] at h3 ⊢
  by_cases k2 : x.k = 2
  · simp only [if_pos k2] at h3
    by_cases hv : (s.rd.2 x.c).isSome = true
    · rw [if_pos hv] at h3; simp at h3
    · rw [if_neg hv] at h3; simp at h3
  simp only [if_neg k2] at h3 ⊢
  by_cases k9 : x.k = 9
  · simp only [if_pos k9] at h3
    by_cases hv : s.tk x.c.toNat = true
    · rw [if_pos hv] at h3; simp at h3
    · rw [if_neg hv] at h3; simp at h3
  simp only [if_neg k9] at h3 ⊢
  by_cases k3 : x.k = 3
  · simp only [if_pos k3] at h3; simp at h3
  simp only [if_neg k3] at h3 ⊢
  by_cases k4 : x.k = 4
  · simp only [if_pos k4] at h3; simp at h3
  simp only [if_neg k4] at h3 ⊢
  by_cases k5 : x.k = 5
  · simp only [if_pos k5] at h3; simp at h3
  simp only [if_neg k5] at h3 ⊢
  by_cases k10 : x.k = 10
  · simp only [if_pos k10] at h3; simp at h3
  simp only [if_neg k10] at h3 ⊢
  by_cases k11 : x.k = 11
  · simp only [if_pos k11] at h3
    cases hq : s.cho.getLast? <;> rw [hq] at h3 <;> simp at h3
  simp only [if_neg k11] at h3 ⊢
  by_cases k8 : x.k = 8
  · simp only [if_pos k8]
  simp only [if_neg k8] at h3 ⊢
  by_cases k7 : x.k = 7 ∨ (x.k = 6 ∧ s.rg x.r.toNat = 0)
  · simp only [if_pos k7] at h3 ⊢
    cases hq : s.cho.getLast? with
    | none => rfl
    | some q => rw [hq] at h3; simp at h3
  simp only [if_neg k7] at h3
  simp at h3
theorem Sim.riv {l : List POp} {s t : RS} (h : Sim s t) (hi : RIv l s) : RIv l t := by
  rw [h.eq]
  exact ⟨hi.ex, hi.le, hi.lv⟩
theorem Sim.at_ {s t : RS} (h : Sim s t) : t.at_ = s.at_ := by rw [h.eq]
theorem Sim.rg {s t : RS} (h : Sim s t) : t.rg = s.rg := by rw [h.eq]
theorem Sim.lv {s t : RS} (h : Sim s t) : t.lv = s.lv := by rw [h.eq]
/-- One that asks goes as far as what it asks for; where it comes to something, the other does too. -/
theorem sim_go {l : List POp} (hr : pRight l = true) : ∀ (n : Nat) (s t : RS), l.length - s.at_ ≤ n → RIv l s → Sim s t →
    RIv l (goR l 40 s).2.2 ∧ ∃ t1, Sim (goR l 40 s).2.2 t1 ∧ t1.rd = t.rd ∧ t1.tk = t.tk ∧ goR l 40 t = goR l 40 t1 ∧ (3 ≤ (goR l 40 s).1 → goR l 40 t = ((goR l 40 s).1, 0, t1)) := by
  intro n
  induction n with
  | zero =>
    intro s t hn hi hs
    have h1 : l[s.at_]? = none := List.getElem?_eq_none_iff.2 (by omega)
    have h2 : l[t.at_]? = none := by rw [hs.at_]; exact h1
    rw [goR_done h1]
    exact ⟨hi, t, hs, rfl, rfl, rfl, fun _ => goR_done h2⟩
  | succ n ih =>
    intro s t hn hi hs
    cases hx : l[s.at_]? with
    | none =>
      have h2 : l[t.at_]? = none := by rw [hs.at_]; exact hx
      rw [goR_done hx]
      exact ⟨hi, t, hs, rfl, rfl, rfl, fun _ => goR_done h2⟩
    | some x =>
      have hx2 : l[t.at_]? = some x := by rw [hs.at_]; exact hx
      by_cases h0 : (stepR l x s).1 = 0
      · obtain ⟨g1, g2, g3, g4⟩ := hs.step (l := l) h0
        obtain ⟨i1, i2⟩ := hi.step hr hx h0
        have hlt := (List.getElem?_eq_some_iff.1 hx).1
        rw [goR_step hr hi hx h0, goR_step hr (hs.riv hi) hx2 g1]
        obtain ⟨j1, t1, j2, j3, j4, j5, j6⟩ := ih _ _ (by have := i1.le; omega) i1 g2
        exact ⟨j1, t1, j2, j3.trans g3, j4.trans g4, j5, j6⟩
      · have e := goR_stop (s := s) hx h0
        have st := (stepR_stay h0).1
        rw [e, st]
        refine ⟨hi, t, hs, rfl, rfl, rfl, fun h3 => ?_⟩
        have e2 := hs.stop (l := l) h3
        rw [goR_stop hx2 (by rw [e2]; omega), e2]
/-- How a run is driven: what it asks for it is given. -/
inductive Drives (l : List POp) (ve va : Nat → Int) (s0 : RS) : Nat → RS → Prop
  | start : Drives l ve va s0 0 s0
  | give {n : Nat} {s : RS} : Drives l ve va s0 n s → (goR l 40 s).1 = 1 → Drives l ve va s0 (n + 1) { (goR l 40 s).2.2 with rd := sawR (goR l 40 s).2.2.rd (goR l 40 s).2.1 (ve (goR l 40 s).2.1.toNat) (va (goR l 40 s).2.1.toNat) }
  | take {n : Nat} {s : RS} : Drives l ve va s0 n s → (goR l 40 s).1 = 2 → Drives l ve va s0 (n + 1) { (goR l 40 s).2.2 with tk := updN (goR l 40 s).2.2.tk (goR l 40 s).2.1.toNat true }
def VerOk (ve : Nat → Int) : Prop := ∀ k, k < 16 → 0 ≤ ve k ∧ ve k ≤ 1099511627776
theorem sawE_new {rd : Rd} {c v : Int} (hc : 0 ≤ c ∧ c ≤ 15) (hv : 0 ≤ v ∧ v ≤ 1099511627776) (hn : (rd.2 c).isSome = false) : sawE rd c v = 0 := by
  unfold sawE
  rw [if_neg (by rw [cellOk_in hc]; simp; omega), hn]
  rfl
theorem sawR_new {rd : Rd} {c v a : Int} (hc : 0 ≤ c ∧ c ≤ 15) (hv : 0 ≤ v ∧ v ≤ 1099511627776) (hn : (rd.2 c).isSome = false) : sawR rd c v a = (rd.1 + 1, updF rd.2 c (v, a)) := by
  unfold sawR
  rw [if_pos (sawE_new hc hv hn)]
def cntN (f : Nat → Bool) : Nat := ((List.range 16).filter f).length
theorem cnt_le (f : Nat → Bool) : cntN f ≤ 16 := by
  have := List.length_filter_le f (List.range 16)
  rw [List.length_range] at this
  exact this
theorem cnt_upd {f g : Nat → Bool} {c : Nat} (hf : f c = false) (hg : g c = true) (h : ∀ k, k ≠ c → g k = f k) : ∀ m, ((List.range m).filter g).length = ((List.range m).filter f).length + if c < m then 1 else 0
  | 0 => by simp
  | m + 1 => by
    rw [List.range_succ, List.filter_append, List.filter_append, List.length_append, List.length_append, cnt_upd hf hg h m]
    by_cases e : m = c
    · subst e
      simp [hf, hg]
    · have := h m e
      simp only [List.filter_cons, List.filter_nil, this]
      by_cases h1 : c < m
      · rw [if_pos h1, if_pos (show c < m + 1 by omega)]; omega
      · rw [if_neg h1, if_neg (show ¬ c < m + 1 by omega)]; omega
theorem cnt_put {f g : Nat → Bool} {c : Nat} (hc : c < 16) (hf : f c = false) (hg : g c = true) (h : ∀ k, k ≠ c → g k = f k) : cntN g = cntN f + 1 := by
  have := cnt_upd hf hg h 16
  rw [if_pos hc] at this
  exact this
def hasN (rd : Rd) : Nat → Bool := fun k => (rd.2 (k : Int)).isSome
theorem updF_same {α : Type} (f : Int → Option α) (c : Int) (v : α) : updF f c v c = some v := by simp [updF]
theorem updF_ne {α : Type} (f : Int → Option α) {c x : Int} (v : α) (h : x ≠ c) : updF f c v x = f x := by simp [updF, h]
theorem saw_has {rd : Rd} {c v a : Int} (hc : 0 ≤ c ∧ c ≤ 15) (hv : 0 ≤ v ∧ v ≤ 1099511627776) (hn : (rd.2 c).isSome = false) : hasN (sawR rd c v a) = updN (hasN rd) c.toNat true := by
  rw [sawR_new hc hv hn]
  funext k
  unfold hasN
  by_cases e : k = c.toNat
  · subst e
    rw [updN_same, show ((c.toNat : Nat) : Int) = c by omega]
    show (updF rd.2 c (v, a) c).isSome = true
    rw [updF_same]; rfl
  · rw [updN_ne _ _ e]
    show (updF rd.2 c (v, a) k).isSome = _
    rw [updF_ne _ _ (by omega)]
/-- What a run that was driven has, and how often it asked. -/
structure Drv (l : List POp) (ve va : Nat → Int) (n : Nat) (s : RS) : Prop where
  riv : RIv l s
  rd : ∀ c p, s.rd.2 c = some p → (0 ≤ c ∧ c ≤ 15) ∧ p = (ve c.toNat, va c.toNat) ∧ ∃ x ∈ l, x.c = c ∧ (x.k = 1 ∨ x.k = 2)
  cnt : n = cntN (hasN s.rd) + cntN s.tk
theorem Drv.start {l : List POp} {ve va : Nat → Int} {s0 : RS} (hi : RIv l s0) (hr : ∀ c, s0.rd.2 c = none) (ht : ∀ k, s0.tk k = false) : Drv l ve va 0 s0 := by
  have h1 : hasN s0.rd = fun _ => false := by funext k; unfold hasN; rw [hr]; rfl
  have h2 : s0.tk = fun _ => false := by funext k; exact ht k
  refine ⟨hi, fun c p h => ?_, ?_⟩
  · rw [hr] at h; cases h
  · rw [h1, h2]; rfl
theorem Sim.refl (s : RS) : Sim s s := ⟨rfl, fun _ _ h => h, fun _ h => h⟩
theorem goR_riv {l : List POp} (hr : pRight l = true) {s : RS} (hi : RIv l s) : RIv l (goR l 40 s).2.2 := (sim_go hr _ s s (Nat.le_refl _) hi (Sim.refl s)).1
theorem Drv.give {l : List POp} (hr : pRight l = true) {ve va : Nat → Int} (hv : VerOk ve) {n : Nat} {s : RS} (h : Drv l ve va n s) (h1 : (goR l 40 s).1 = 1) : Drv l ve va (n + 1) { (goR l 40 s).2.2 with rd := sawR (goR l 40 s).2.2.rd (goR l 40 s).2.1 (ve (goR l 40 s).2.1.toNat) (va (goR l 40 s).2.1.toNat) } := by
  obtain ⟨a1, a2, x, a3, a4, a5⟩ := (goR_asks hr s).1 h1
  obtain ⟨r1, r2⟩ := goR_rd l 40 s
  have hri := goR_riv hr h.riv
  have hve := hv (goR l 40 s).2.1.toNat (by omega)
  refine ⟨hri.rd _, fun c p hp => ?_, ?_⟩
  · have hp : (sawR (goR l 40 s).2.2.rd (goR l 40 s).2.1 (ve (goR l 40 s).2.1.toNat) (va (goR l 40 s).2.1.toNat)).2 c = some p := hp
    rw [r1, sawR_new a1 hve a2] at hp
    have hp : updF s.rd.2 (goR l 40 s).2.1 (ve (goR l 40 s).2.1.toNat, va (goR l 40 s).2.1.toNat) c = some p := hp
    by_cases e : c = (goR l 40 s).2.1
    · subst e
      rw [updF_same] at hp
      injection hp with hp
      exact ⟨a1, hp.symm, x, a3, a4, a5⟩
    · rw [updF_ne _ _ e] at hp
      exact h.rd c p hp
  · show n + 1 = cntN (hasN (sawR _ _ _ _)) + cntN (goR l 40 s).2.2.tk
    rw [r1, r2, saw_has a1 hve a2, cnt_put (f := hasN s.rd) (c := (goR l 40 s).2.1.toNat) (by omega) (by unfold hasN; rw [show (((goR l 40 s).2.1.toNat : Nat) : Int) = (goR l 40 s).2.1 by omega]; exact a2) (updN_same _ _ _) (fun k hk => updN_ne _ _ hk)]
    have := h.cnt
    omega
theorem Drv.take {l : List POp} (hr : pRight l = true) {ve va : Nat → Int} {n : Nat} {s : RS} (h : Drv l ve va n s) (h1 : (goR l 40 s).1 = 2) : Drv l ve va (n + 1) { (goR l 40 s).2.2 with tk := updN (goR l 40 s).2.2.tk (goR l 40 s).2.1.toNat true } := by
  obtain ⟨a1, a2⟩ := (goR_asks hr s).2 h1
  obtain ⟨r1, r2⟩ := goR_rd l 40 s
  refine ⟨(goR_riv hr h.riv).tk _, fun c p hp => ?_, ?_⟩
  · have hp : (goR l 40 s).2.2.rd.2 c = some p := hp
    rw [r1] at hp
    exact h.rd c p hp
  · show n + 1 = cntN (hasN (goR l 40 s).2.2.rd) + cntN (updN (goR l 40 s).2.2.tk _ true)
    rw [r1, r2, cnt_put (f := s.tk) (c := (goR l 40 s).2.1.toNat) (by omega) a2 (updN_same _ _ _) (fun k hk => updN_ne _ _ hk)]
    have := h.cnt
    omega
theorem Drives.drv {l : List POp} (hr : pRight l = true) {ve va : Nat → Int} (hv : VerOk ve) {s0 : RS} (h0 : Drv l ve va 0 s0) {n : Nat} {s : RS} (h : Drives l ve va s0 n s) : Drv l ve va n s := by
  induction h with
  | start => exact h0
  | give _ h1 ih => exact ih.give hr hv h1
  | take _ h1 ih => exact ih.take hr h1
theorem Drv.le {l : List POp} {ve va : Nat → Int} {n : Nat} {s : RS} (h : Drv l ve va n s) : n ≤ 32 := by
  have := h.cnt
  have := cnt_le (hasN s.rd)
  have := cnt_le s.tk
  omega
/-- Given all there is. -/
structure Full (ve va : Nat → Int) (t : RS) : Prop where
  rd : ∀ c : Int, 0 ≤ c ∧ c ≤ 15 → t.rd.2 c = some (ve c.toNat, va c.toNat)
  tk : ∀ k, k < 16 → t.tk k = true
theorem Drives.sim {l : List POp} (hr : pRight l = true) {ve va : Nat → Int} (hv : VerOk ve) {s0 : RS} (h0 : Drv l ve va 0 s0) {t : RS} (ht : Full ve va t) (hs : Sim s0 t) {n : Nat} {s : RS} (h : Drives l ve va s0 n s) :
    ∃ t1, Sim s t1 ∧ t1.rd = t.rd ∧ t1.tk = t.tk ∧ goR l 40 t = goR l 40 t1 := by
  induction h with
  | start => exact ⟨t, hs, rfl, rfl, rfl⟩
  | @give n s hre h1 ih =>
    obtain ⟨t1, g1, g2, g3, g4⟩ := ih
    have hd := hre.drv hr hv h0
    obtain ⟨_, t2, j1, j2, j3, j4, _⟩ := sim_go hr _ s t1 (Nat.le_refl _) hd.riv g1
    obtain ⟨a1, a2, x, a3, a4, a5⟩ := (goR_asks hr s).1 h1
    obtain ⟨r1, r2⟩ := goR_rd l 40 s
    refine ⟨t2, ⟨?_, fun c p hp => ?_, j1.tk⟩, j2.trans g2, j3.trans g3, g4.trans j4⟩
    · have e := j1.eq
      exact e
    · have hp : (sawR (goR l 40 s).2.2.rd (goR l 40 s).2.1 (ve (goR l 40 s).2.1.toNat) (va (goR l 40 s).2.1.toNat)).2 c = some p := hp
      rw [r1, sawR_new a1 (hv _ (by omega)) a2] at hp
      have hp : updF s.rd.2 (goR l 40 s).2.1 (ve (goR l 40 s).2.1.toNat, va (goR l 40 s).2.1.toNat) c = some p := hp
      by_cases e : c = (goR l 40 s).2.1
      · subst e
        rw [updF_same] at hp
        rw [← hp, j2, g2]
        exact ht.rd _ a1
      · rw [updF_ne _ _ e] at hp
        exact j1.sub c p (by rw [r1]; exact hp)
  | @take n s hre h1 ih =>
    obtain ⟨t1, g1, g2, g3, g4⟩ := ih
    have hd := hre.drv hr hv h0
    obtain ⟨_, t2, j1, j2, j3, j4, _⟩ := sim_go hr _ s t1 (Nat.le_refl _) hd.riv g1
    obtain ⟨a1, a2⟩ := (goR_asks hr s).2 h1
    refine ⟨t2, ⟨?_, j1.sub, fun k hk => ?_⟩, j2.trans g2, j3.trans g3, g4.trans j4⟩
    · exact j1.eq
    · have hk : updN (goR l 40 s).2.2.tk (goR l 40 s).2.1.toNat true k = true := hk
      by_cases e : k = (goR l 40 s).2.1.toNat
      · rw [j3, g3, e]
        exact ht.tk _ (by omega)
      · rw [updN_ne _ _ e] at hk
        exact j1.tk k hk
/-- RunAhead: both come to the same. -/
theorem ahead {l : List POp} (hr : pRight l = true) {ve va : Nat → Int} (hv : VerOk ve) {s0 : RS} (h0 : Drv l ve va 0 s0) {t : RS} (ht : Full ve va t) (hs : Sim s0 t) {n : Nat} {s : RS} (h : Drives l ve va s0 n s) (h3 : 3 ≤ (goR l 40 s).1) :
    (goR l 40 t).1 = (goR l 40 s).1 ∧ (goR l 40 t).2.1 = 0 ∧ (goR l 40 t).2.2.rg = (goR l 40 s).2.2.rg ∧ (goR l 40 t).2.2.rd = t.rd ∧ (goR l 40 t).2.2.lv = (goR l 40 s).2.2.lv ∧ (∀ c p, (goR l 40 s).2.2.rd.2 c = some p → t.rd.2 c = some p) := by
  obtain ⟨t1, g1, g2, g3, g4⟩ := h.sim hr hv h0 ht hs
  have hd := h.drv hr hv h0
  obtain ⟨_, t2, j1, j2, j3, j4, j5⟩ := sim_go hr _ s t1 (Nat.le_refl _) hd.riv g1
  have e : goR l 40 t = ((goR l 40 s).1, 0, t2) := g4.trans (j5 h3)
  rw [e]
  refine ⟨rfl, rfl, j1.rg, j2.trans g2, j1.lv, fun c p hp => ?_⟩
  rw [← g2, ← j2]
  exact j1.sub c p hp
end
section
open Go.RowKit Go.Maps
set_option linter.unusedVariables false
set_option linter.unusedSimpArgs false
set_option maxRecDepth 100000

def a16C (f : Nat → Int) : Array Value := #[.int .i64 (f 0), .int .i64 (f 1), .int .i64 (f 2), .int .i64 (f 3), .int .i64 (f 4), .int .i64 (f 5), .int .i64 (f 6), .int .i64 (f 7), .int .i64 (f 8), .int .i64 (f 9), .int .i64 (f 10), .int .i64 (f 11), .int .i64 (f 12), .int .i64 (f 13), .int .i64 (f 14), .int .i64 (f 15)]
theorem a16_get (f : Nat → Int) : ∀ k, k < 16 → (a16C f)[k]? = some (.int .i64 (f k))
  | 0, _ => rfl
  | 1, _ => rfl
  | 2, _ => rfl
  | 3, _ => rfl
  | 4, _ => rfl
  | 5, _ => rfl
  | 6, _ => rfl
  | 7, _ => rfl
  | 8, _ => rfl
  | 9, _ => rfl
  | 10, _ => rfl
  | 11, _ => rfl
  | 12, _ => rfl
  | 13, _ => rfl
  | 14, _ => rfl
  | 15, _ => rfl
  | k + 16, h => by omega
theorem run_index_a16 {w : World} (f : Nat → Int) : ∀ k : Nat, k < 16 → (Instr.index 23 (.agg (a16C f)) (.int .i64 (k : Int))).run Try.prog w = .ok (.int .i64 (f k)) w
  | 0, _ => by kernel_rfl
  | 1, _ => by kernel_rfl
  | 2, _ => by kernel_rfl
  | 3, _ => by kernel_rfl
  | 4, _ => by kernel_rfl
  | 5, _ => by kernel_rfl
  | 6, _ => by kernel_rfl
  | 7, _ => by kernel_rfl
  | 8, _ => by kernel_rfl
  | 9, _ => by kernel_rfl
  | 10, _ => by kernel_rfl
  | 11, _ => by kernel_rfl
  | 12, _ => by kernel_rfl
  | 13, _ => by kernel_rfl
  | 14, _ => by kernel_rfl
  | 15, _ => by kernel_rfl
  | k + 16, h => by omega
set_option maxHeartbeats 3200000 in
theorem versioned_c (w : World) (f : Nat → Int) : Calls Try.prog 8 #[.agg (a16C f)] w fun e w' => (∃ b, e = .returned (.bool b) ∧ (b = true → VerOk f)) ∧ w.grownBy w' none := by
  have HG := As.mk (gr_alloc (gr_refl w none) (.cells (a16C f) 23))
  have HB := As.mk (Blk.new w 23 (a16C f))
  go_enter Try.func8, Try.ntmps8
  go_wp2_with (refine wpList_load_row rfl 23 _ rfl w.heap.size rfl 23 (a16C f) _ _ HB.out Try.underlying23 rfl (by kernel_rfl) ?_)
  generalize w.alloc (.cells (a16C f) 23) = W at *
  clear HB
  go_loopw [6] (fun i wr => ∃ k : Nat, k ≤ 16 ∧ i = .int .i64 k ∧ wr = W ∧ As (∀ j, j < k → 0 ≤ f j ∧ f j ≤ 1099511627776)) (fun i _ => 16 - (intOf i).toNat)
  case atStart => exact ⟨0, Nat.zero_le _, rfl, rfl, ⟨fun j hj => absurd hj (Nat.not_lt_zero _)⟩⟩
  case round =>
    obtain ⟨k, hk, rfl, rfl, HX⟩ := hrel
    by_cases hlt : k < 16
    · have hltI : (k : Int) < 16 := by omega
      have hk0 : (0 : Int) ≤ (k : Int) := by omega
      have hix := run_index_a16 (w := wr) f k hlt
      by_cases h1 : f k < 0
      · go_wp2_with fail
        go_ret
        first | exact ⟨⟨false, rfl, fun h => by cases h⟩, HG.out⟩ | exact ⟨.inl rfl, HG.out⟩
      by_cases h2 : 1099511627776 < f k
      · go_wp2_with fail
        go_ret
        first | exact ⟨⟨false, rfl, fun h => by cases h⟩, HG.out⟩ | exact ⟨.inl rfl, HG.out⟩
      go_wp2_with fail
      refine ⟨⟨k + 1, by omega, by simp, trivial, ⟨fun j hj => ?_⟩⟩, by simp [intOf]; omega⟩
      by_cases e : j = k
      · subst e; omega
      · exact HX.out j (by omega)
    · obtain rfl : k = 16 := by omega
      go_wp2_with fail
      go_ret
      first | exact ⟨⟨true, rfl, fun _ => HX.out⟩, HG.out⟩ | exact ⟨.inr ⟨rfl, HX.out⟩, HG.out⟩
def a8C (f : Nat → Int) : Array Value := #[.int .i64 (f 0), .int .i64 (f 1), .int .i64 (f 2), .int .i64 (f 3), .int .i64 (f 4), .int .i64 (f 5), .int .i64 (f 6), .int .i64 (f 7)]
set_option maxHeartbeats 3200000 in
theorem regs_c {w0 w : World} {rb : Nat} {G : Nat → Prop} {l : List POp} {s : RS} {M : Nat} (h : RunAt w0 w rb G l s M) :
    Calls Try.prog 14 #[.pointer (some ⟨rb, 0, none⟩)] w fun e w' => e = .returned (.agg (a8C s.rg)) ∧ w.grownBy w' none := by
  obtain ⟨B, nb, F, lv_, cv, rfl, h⟩ := h
  have HR := As.mk (show Blk (w.alloc (.cells #[.int .i64 0, .int .i64 0, .int .i64 0, .int .i64 0, .int .i64 0, .int .i64 0, .int .i64 0, .int .i64 0] 35)) rb 65 (runC (.pointer (some ⟨nb, 0, none⟩)) lv_ s.at_ s.rg cv s.tk) from h.blk.grown (gr_alloc (gr_refl w none) _) (by simp))
  have HG := As.mk (gr_alloc (gr_refl w none) (.cells (a8C s.rg) 35))
  have HB := As.mk (Blk.new w 35 (a8C s.rg))
  have q0 : (w.alloc (.cells #[.int .i64 0, .int .i64 0, .int .i64 0, .int .i64 0, .int .i64 0, .int .i64 0, .int .i64 0, .int .i64 0] 35)).cell? ⟨rb, 3, none⟩ = some (.int .i64 (s.rg 0)) := HR.out.cell 3
  have q1 : (w.alloc (.cells #[.int .i64 0, .int .i64 0, .int .i64 0, .int .i64 0, .int .i64 0, .int .i64 0, .int .i64 0, .int .i64 0] 35)).cell? ⟨rb, 4, none⟩ = some (.int .i64 (s.rg 1)) := HR.out.cell 4
  have q2 : (w.alloc (.cells #[.int .i64 0, .int .i64 0, .int .i64 0, .int .i64 0, .int .i64 0, .int .i64 0, .int .i64 0, .int .i64 0] 35)).cell? ⟨rb, 5, none⟩ = some (.int .i64 (s.rg 2)) := HR.out.cell 5
  have q3 : (w.alloc (.cells #[.int .i64 0, .int .i64 0, .int .i64 0, .int .i64 0, .int .i64 0, .int .i64 0, .int .i64 0, .int .i64 0] 35)).cell? ⟨rb, 6, none⟩ = some (.int .i64 (s.rg 3)) := HR.out.cell 6
  have q4 : (w.alloc (.cells #[.int .i64 0, .int .i64 0, .int .i64 0, .int .i64 0, .int .i64 0, .int .i64 0, .int .i64 0, .int .i64 0] 35)).cell? ⟨rb, 7, none⟩ = some (.int .i64 (s.rg 4)) := HR.out.cell 7
  have q5 : (w.alloc (.cells #[.int .i64 0, .int .i64 0, .int .i64 0, .int .i64 0, .int .i64 0, .int .i64 0, .int .i64 0, .int .i64 0] 35)).cell? ⟨rb, 8, none⟩ = some (.int .i64 (s.rg 5)) := HR.out.cell 8
  have q6 : (w.alloc (.cells #[.int .i64 0, .int .i64 0, .int .i64 0, .int .i64 0, .int .i64 0, .int .i64 0, .int .i64 0, .int .i64 0] 35)).cell? ⟨rb, 9, none⟩ = some (.int .i64 (s.rg 6)) := HR.out.cell 9
  have q7 : (w.alloc (.cells #[.int .i64 0, .int .i64 0, .int .i64 0, .int .i64 0, .int .i64 0, .int .i64 0, .int .i64 0, .int .i64 0] 35)).cell? ⟨rb, 10, none⟩ = some (.int .i64 (s.rg 7)) := HR.out.cell 10
  clear h
  go_enter Try.func14, Try.ntmps14
  go_wp2_with fail
  refine bodyPost_ret (results_row (P := Try.prog) rfl _ _ w.heap.size 35 _ (0, 0) _ rfl HB.out Try.underlying35 rfl (by kernel_rfl)) rfl ?_
  exact ⟨rfl, HG.out⟩
end
section
open Go.RowKit Go.Maps
set_option linter.unusedVariables false
set_option linter.unusedSimpArgs false
set_option maxRecDepth 100000

def b16C (f : Nat → Bool) : Array Value := #[.bool (f 0), .bool (f 1), .bool (f 2), .bool (f 3), .bool (f 4), .bool (f 5), .bool (f 6), .bool (f 7), .bool (f 8), .bool (f 9), .bool (f 10), .bool (f 11), .bool (f 12), .bool (f 13), .bool (f 14), .bool (f 15)]
theorem b16_get (f : Nat → Bool) : ∀ k, k < 16 → (b16C f)[k]? = some (.bool (f k))
  | 0, _ => rfl
  | 1, _ => rfl
  | 2, _ => rfl
  | 3, _ => rfl
  | 4, _ => rfl
  | 5, _ => rfl
  | 6, _ => rfl
  | 7, _ => rfl
  | 8, _ => rfl
  | 9, _ => rfl
  | 10, _ => rfl
  | 11, _ => rfl
  | 12, _ => rfl
  | 13, _ => rfl
  | 14, _ => rfl
  | 15, _ => rfl
  | k + 16, h => by omega
theorem b16_set (f : Nat → Bool) (v : Bool) : ∀ k, k < 16 → (b16C f).setIfInBounds k (.bool v) = b16C (updN f k v)
  | 0, _ => rfl
  | 1, _ => rfl
  | 2, _ => rfl
  | 3, _ => rfl
  | 4, _ => rfl
  | 5, _ => rfl
  | 6, _ => rfl
  | 7, _ => rfl
  | 8, _ => rfl
  | 9, _ => rfl
  | 10, _ => rfl
  | 11, _ => rfl
  | 12, _ => rfl
  | 13, _ => rfl
  | 14, _ => rfl
  | 15, _ => rfl
  | k + 16, h => by omega
/-- The four arrays that Drive keeps, made behind B. -/
structure D4 (wr : World) (B b4 b5 b8 b9 : Nat) (G : Nat → Prop) (ve va : Nat → Int) (f8 f9 : Nat → Bool) : Prop where
  v4 : Blk wr b4 23 (a16C ve)
  v5 : Blk wr b5 23 (a16C va)
  g8 : Blk wr b8 45 (b16C f8)
  g9 : Blk wr b9 45 (b16C f9)
  n : ¬ G b4 ∧ ¬ G b5 ∧ ¬ G b8 ∧ ¬ G b9
  ne : b4 ≠ b8 ∧ b4 ≠ b9 ∧ b5 ≠ b8 ∧ b5 ≠ b9 ∧ b8 ≠ b9
  lo : B ≤ b8 ∧ B ≤ b9
section
variable {w0 w wr w' : World} {B b4 b5 b8 b9 rb : Nat} {G G' : Nat → Prop} {ve va : Nat → Int} {f8 f9 : Nat → Bool} {l : List POp} {s : RS} {M : Nat}
theorem D4.ng (h : D4 wr B b4 b5 b8 b9 G ve va f8 f9) (hg : NG wr w' G G') : D4 w' B b4 b5 b8 b9 G' ve va f8 f9 :=
  ⟨(hg.old _ h.v4.lt h.n.1).1.trans h.v4, (hg.old _ h.v5.lt h.n.2.1).1.trans h.v5, (hg.old _ h.g8.lt h.n.2.2.1).1.trans h.g8, (hg.old _ h.g9.lt h.n.2.2.2).1.trans h.g9,
    ⟨(hg.old _ h.v4.lt h.n.1).2, (hg.old _ h.v5.lt h.n.2.1).2, (hg.old _ h.g8.lt h.n.2.2.1).2, (hg.old _ h.g9.lt h.n.2.2.2).2⟩, h.ne, h.lo⟩
theorem D4.set8 (h : D4 wr B b4 b5 b8 b9 G ve va f8 f9) (k : Nat) (hk : k < 16) (v : Bool) : D4 (wr.setCell ⟨b8, k, none⟩ (.bool v)) B b4 b5 b8 b9 G ve va (updN f8 k v) f9 :=
  ⟨h.v4.far (a := ⟨b8, k, none⟩) h.ne.1 _, h.v5.far (a := ⟨b8, k, none⟩) h.ne.2.2.1 _, by have := h.g8.set k (.bool v); rw [b16_set _ _ k hk] at this; exact this, h.g9.far (a := ⟨b8, k, none⟩) (fun e => h.ne.2.2.2.2 e.symm) _, h.n, h.ne, h.lo⟩
theorem D4.set9 (h : D4 wr B b4 b5 b8 b9 G ve va f8 f9) (k : Nat) (hk : k < 16) (v : Bool) : D4 (wr.setCell ⟨b9, k, none⟩ (.bool v)) B b4 b5 b8 b9 G ve va f8 (updN f9 k v) :=
  ⟨h.v4.far (a := ⟨b9, k, none⟩) h.ne.2.1 _, h.v5.far (a := ⟨b9, k, none⟩) h.ne.2.2.2.1 _, h.g8.far (a := ⟨b9, k, none⟩) h.ne.2.2.2.2 _, by have := h.g9.set k (.bool v); rw [b16_set _ _ k hk] at this; exact this, h.n, h.ne, h.lo⟩
theorem D4.cells (h : D4 wr B b4 b5 b8 b9 G ve va f8 f9) (k : Nat) (hk : k < 16) : wr.cell? ⟨b8, k, none⟩ = some (.bool (f8 k)) ∧ wr.cell? ⟨b9, k, none⟩ = some (.bool (f9 k)) ∧ wr.cell? ⟨b4, k, none⟩ = some (.int .i64 (ve k)) ∧ wr.cell? ⟨b5, k, none⟩ = some (.int .i64 (va k)) :=
  ⟨(h.g8.cell k).trans (b16_get f8 k hk), (h.g9.cell k).trans (b16_get f9 k hk), (h.v4.cell k).trans (a16_get ve k hk), (h.v5.cell k).trans (a16_get va k hk)⟩
theorem RunAt.far (h : RunAt w0 w rb G l s M) {c : Nat} (hc : ¬ G c) (h0 : w0.heap.size ≤ c) (k : Nat) (v : Value) : RunAt w0 (w.setCell ⟨c, k, none⟩ v) rb G l s M :=
  (h.other (H := fun x => x = c) (H' := fun x => x = c) (NG.ofgr (row := some c) (gr_set (gr_refl w (some c)) (a := ⟨c, k, none⟩) (.inl rfl) v) (fun q hq => by injection hq with hq; exact .inl hq.symm)) (fun q hq => by subst hq; exact h0) (fun q hq e => by subst e; exact hc hq)).1
theorem NG.far (h : NG w wr G G') {c : Nat} (h0 : w.heap.size ≤ c) (k : Nat) (v : Value) : NG w (wr.setCell ⟨c, k, none⟩ v) G G' :=
  ⟨h.os, h.tape, h.output, by have := h.size; simpa [World.setCell] using this, fun q hq hf => ⟨(heap_setCell_other wr ⟨c, k, none⟩ q v (by show q ≠ c; omega)).trans (h.old q hq hf).1, (h.old q hq hf).2⟩⟩
/-- Four arrays laid behind a run. -/
theorem D4.lay (h : RunAt w0 w rb G l s M) (ve va : Nat → Int) (f8 f9 : Nat → Bool) :
    D4 ((((w.alloc (.cells (a16C ve) 23)).alloc (.cells (a16C va) 23)).alloc (.cells (b16C f8) 45)).alloc (.cells (b16C f9) 45)) w.heap.size w.heap.size (w.heap.size + 1) (w.heap.size + 1 + 1) (w.heap.size + 1 + 1 + 1) G ve va f8 f9 := by
  have fp := fun k hk => (h.fp k hk).2
  have e1 : ∀ (w : World) (o : Obj), (w.alloc o).heap.size = w.heap.size + 1 := fun w o => by simp
  refine ⟨(((Blk.new w _ _).alloc _).alloc _).alloc _, ?_, ?_, ?_, ⟨?_, ?_, ?_, ?_⟩, by omega, by omega⟩
  · have := ((Blk.new (w.alloc (.cells (a16C ve) 23)) 23 (a16C va)).alloc (.cells (b16C f8) 45)).alloc (.cells (b16C f9) 45)
    rw [e1] at this; exact this
  · have := (Blk.new ((w.alloc (.cells (a16C ve) 23)).alloc (.cells (a16C va) 23)) 45 (b16C f8)).alloc (.cells (b16C f9) 45)
    rw [e1, e1] at this; exact this
  · have := Blk.new (((w.alloc (.cells (a16C ve) 23)).alloc (.cells (a16C va) 23)).alloc (.cells (b16C f8) 45)) 45 (b16C f9)
    rw [e1, e1, e1] at this; exact this
  all_goals exact fun q => by have := fp _ q; omega
end
/-- What Drive leaves. -/
def DPost (w0 w : World) (rb : Nat) (G : Nat → Prop) (l : List POp) (ve va : Nat → Int) (s0 : RS) (M : Nat) (e : Ending) (w' : World) : Prop :=
  ∃ (n : Nat) (s : RS) (G' : Nat → Prop), Drives l ve va s0 n s ∧ 3 ≤ (goR l 40 s).1 ∧ e = .returned (.tuple #[.int .i64 (goR l 40 s).1, .int .i64 (n : Int)]) ∧ RunAt w0 w' rb G' l (goR l 40 s).2.2 (M + 4000) ∧ NG w w' G G'
set_option maxHeartbeats 6400000 in
theorem drive_c {w0 w : World} {rb : Nat} {G : Nat → Prop} {l : List POp} {s0 : RS} {M : Nat} (h : RunAt w0 w rb G l s0 M) (hr : pRight l = true) (hw : ∀ x ∈ l, K64 x.n) (hi : RIv l s0) (hz : ∀ c, s0.rd.2 c = none) (ht : ∀ k, s0.tk k = false) (ve va : Nat → Int) (hv : VerOk ve) (ha : ∀ k, k < 16 → K64 (va k)) (hM : M ≤ 100000) :
    Calls Try.prog 12 #[.pointer (some ⟨rb, 0, none⟩), .agg (a16C ve), .agg (a16C va)] w (DPost w0 w rb G l ve va s0 M) := by
  have HR0 := As.mk h
  have HP := As.mk hr
  have HW := As.mk hw
  have HD0 := As.mk (Drv.start (ve := ve) (va := va) hi hz ht)
  have HV := As.mk hv
  have HA := As.mk ha
  have H4 := As.mk (D4.lay h ve va (fun _ => false) (fun _ => false))
  have HH0 := As.mk (show hasN s0.rd = fun _ => false from by funext k; unfold hasN; rw [hz]; rfl)
  have HT0 := As.mk (show s0.tk = fun _ => false from by funext k; exact ht k)
  clear h hr hw hi hz ht hv ha
  go_enter Try.func12, Try.ntmps12
  go_wp2_with fail
  have HNG := As.mk (show NG w ((((w.alloc (.cells (a16C ve) 23)).alloc (.cells (a16C va) 23)).alloc (.cells #[.bool false, .bool false, .bool false, .bool false, .bool false, .bool false, .bool false, .bool false, .bool false, .bool false, .bool false, .bool false, .bool false, .bool false, .bool false, .bool false] 45)).alloc (.cells #[.bool false, .bool false, .bool false, .bool false, .bool false, .bool false, .bool false, .bool false, .bool false, .bool false, .bool false, .bool false, .bool false, .bool false, .bool false, .bool false] 45)) G G from ng_none (gr_alloc (gr_alloc (gr_alloc (gr_alloc (gr_refl w none) _) _) _) _))
  have HRA := As.mk (show RunAt w0 ((((w.alloc (.cells (a16C ve) 23)).alloc (.cells (a16C va) 23)).alloc (.cells #[.bool false, .bool false, .bool false, .bool false, .bool false, .bool false, .bool false, .bool false, .bool false, .bool false, .bool false, .bool false, .bool false, .bool false, .bool false, .bool false] 45)).alloc (.cells #[.bool false, .bool false, .bool false, .bool false, .bool false, .bool false, .bool false, .bool false, .bool false, .bool false, .bool false, .bool false, .bool false, .bool false, .bool false, .bool false] 45)) rb G l s0 (M + 0 * 100) from (HR0.out.grown (gr_alloc (gr_alloc (gr_alloc (gr_alloc (gr_refl w none) _) _) _) _)).mono (by omega))
  have HLO := As.mk (show w0.heap.size ≤ w.heap.size from HR0.out.gr.size)
  replace H4 := As.mk (show D4 ((((w.alloc (.cells (a16C ve) 23)).alloc (.cells (a16C va) 23)).alloc (.cells #[.bool false, .bool false, .bool false, .bool false, .bool false, .bool false, .bool false, .bool false, .bool false, .bool false, .bool false, .bool false, .bool false, .bool false, .bool false, .bool false] 45)).alloc (.cells #[.bool false, .bool false, .bool false, .bool false, .bool false, .bool false, .bool false, .bool false, .bool false, .bool false, .bool false, .bool false, .bool false, .bool false, .bool false, .bool false] 45)) w.heap.size w.heap.size (w.heap.size + 1) (w.heap.size + 1 + 1) (w.heap.size + 1 + 1 + 1) G ve va (hasN s0.rd) s0.tk from by rw [HH0.out, HT0.out]; exact H4.out)
  clear HR0 HH0 HT0
  generalize ((((w.alloc (.cells (a16C ve) 23)).alloc (.cells (a16C va) 23)).alloc (.cells #[.bool false, .bool false, .bool false, .bool false, .bool false, .bool false, .bool false, .bool false, .bool false, .bool false, .bool false, .bool false, .bool false, .bool false, .bool false, .bool false] 45)).alloc (.cells #[.bool false, .bool false, .bool false, .bool false, .bool false, .bool false, .bool false, .bool false, .bool false, .bool false, .bool false, .bool false, .bool false, .bool false, .bool false, .bool false] 45)) = W at *
  generalize hb9 : w.heap.size + 1 + 1 + 1 = b9 at *
  generalize hb8 : w.heap.size + 1 + 1 = b8 at *
  generalize hb5 : w.heap.size + 1 = b5 at *
  clear hb5 hb8 hb9
  generalize hb4 : w.heap.size = b4 at H4 HLO ⊢
  have HB4 := As.mk hb4
  clear hb4
  go_loopw [10] (fun v wr => ∃ n : Nat, v = .int .i64 n ∧ As (∃ s G1, Drives l ve va s0 n s ∧ RunAt w0 wr rb G1 l s (M + n * 100) ∧ NG w wr G G1 ∧ D4 wr b4 b4 b5 b8 b9 G1 ve va (hasN s.rd) s.tk)) (fun v _ => 40 - (intOf v).toNat)
  case atStart => exact ⟨0, rfl, ⟨s0, G, .start, HRA.out, HNG.out, H4.out⟩⟩
  case round =>
    obtain ⟨n, rfl, HX⟩ := hrel
    obtain ⟨s, G1, hre, hra, hng, h4⟩ := HX.out
    clear HX HRA HNG H4
    have HRE := As.mk hre
    have HRA := As.mk hra
    have HNG := As.mk hng
    have H4 := As.mk h4
    have HD := As.mk (hre.drv HP.out HV.out HD0.out)
    have hn := HD.out.le
    clear hre hra hng h4
    have hltI : (n : Int) < 40 := by omega
    go_wp2_with fail
    refine (gon_c HRA.out HP.out HW.out HD.out.riv (by omega)).mono ?_
    rintro e w3 ⟨rfl, G2, hra, hng, hri2⟩
    have HAN := As.mk (goR_ans l 40 s)
    have HAS := As.mk (goR_asks HP.out s)
    have HRD := As.mk (goR_rd l 40 s)
    have H42 := As.mk (H4.out.ng hng)
    have HNG2 := As.mk (HNG.out.trans hng)
    have HRA2 := As.mk hra
    clear hra hng hri2 HRA HNG H4
    by_cases h1 : (goR l 40 s).1 = 1
    · obtain ⟨a1, a2, _⟩ := HAS.out.1 h1
      have HR1 := As.mk (Drives.give HRE.out h1)
      have HSE := As.mk (sawE_new (v := ve (goR l 40 s).2.1.toNat) a1 (HV.out (goR l 40 s).2.1.toNat (by omega)) a2)
      have HSH := As.mk (saw_has (a := va (goR l 40 s).2.1.toNat) a1 (HV.out (goR l 40 s).2.1.toNat (by omega)) a2)
      have HNH := As.mk (show hasN s.rd (goR l 40 s).2.1.toNat = false from by unfold hasN; rw [show (((goR l 40 s).2.1.toNat : Nat) : Int) = (goR l 40 s).2.1 by omega]; exact a2)
      rw [← HRD.out.1] at HSE HSH HNH H42
      have HTK := HRD.out.2
      rw [← HTK] at H42
      rw [h1]
      have hkc : (((goR l 40 s).2.1.toNat : Nat) : Int) = (goR l 40 s).2.1 := by omega
      have hk16 : (goR l 40 s).2.1.toNat < 16 := by omega
      rw [← hkc]
      rw [← hkc] at HSE HSH HR1
      simp only [Int.toNat_natCast] at HSE HSH HR1
      clear h1 HAN HAS HRD HTK a1 a2 hkc
      clear HD
      generalize (goR l 40 s).2.2 = s2 at *
      generalize (goR l 40 s).2.1.toNat = kc at *
      have hk0 : ¬ (kc : Int) < 0 := by omega
      have hk1 : ¬ (15 : Int) < (kc : Int) := by omega
      have hd0 : decide ((kc : Int) < 0) = false := decide_eq_false hk0
      have hd1 : decide ((15 : Int) < (kc : Int)) = false := decide_eq_false hk1
      have hk00 : (0 : Int) ≤ (kc : Int) := by omega
      have hkI : (kc : Int) < 16 := by omega
      have HK0 := As.mk (HA.out kc hk16)
      have HKV := As.mk (HV.out kc hk16)
      generalize hva : va kc = vk at *
      generalize hve : ve kc = ek at *
      obtain ⟨e8, e9, e4, e5⟩ := H42.out.cells kc hk16
      rw [HNH.out] at e8
      rw [hve] at e4
      rw [hva] at e5
      clear e9
      go_upto_region 8 with fail
      refine wp_region_noPanic ?_
      refine wp_region_held_drew (S := fun w' => w'.cell? ⟨b8, kc, none⟩ = some (.bool false) ∧ w'.cell? ⟨b4, kc, none⟩ = some (.int .i64 ek) ∧ w'.cell? ⟨b5, kc, none⟩ = some (.int .i64 vk)) (by kernel_rfl) (⟨e8, e4, e5⟩) (fun hS => ?_)
      refine wpAnyH_take (i := 0) (v := ?va1) rfl (by kernel_rfl) (by kernel_rfl) (by kernel_rfl) (fun _ _ _ h => h) (Or.inl ⟨by rfl, ?ya1⟩) hS ?ra1
      case ya1 => (intro w0 _; go_simp; try with_reducible rfl)
      try simp only [yA, yB, yC, Act.put, yD, yE, yF]
      refine wpAnyH_take (i := 1) (v := ?va2) rfl (by kernel_rfl) (by kernel_rfl) (by kernel_rfl) (fun _ _ _ h => h) (Or.inl ⟨by rfl, ?ya2⟩) hS ?ra2
      case ya2 => (intro w0 _; go_simp; try with_reducible rfl)
      try simp only [yA, yB, yC, Act.put, yD, yE, yF]
      refine wpAnyH_take (i := 2) (v := ?va3) rfl (by kernel_rfl) (by kernel_rfl) (by kernel_rfl) (fun _ _ _ h => h) (Or.inl ⟨by rfl, ?ya3⟩) hS ?ra3
      case ya3 => (intro w0 _; go_simp; try with_reducible rfl)
      try simp only [yA, yB, yC, Act.put, yD, yE, yF]
      refine wpAnyH_take (i := 3) (v := ?va4) rfl (by kernel_rfl) (by kernel_rfl) (by kernel_rfl) (fun _ _ _ h => h) (Or.inl ⟨by rfl, ?ya4⟩) hS ?ra4
      case ya4 => (intro w0 _; go_simp; try with_reducible rfl)
      try simp only [yA, yB, yC, Act.put, yD, yE, yF]
      refine wpAnyH_take (i := 4) (v := ?va5) rfl (by kernel_rfl) (by kernel_rfl) (by kernel_rfl) (fun _ _ _ h => h) (Or.inl ⟨by rfl, ?ya5⟩) hS ?ra5
      case ya5 => (intro w0 _; go_simp; try with_reducible rfl)
      try simp only [yA, yB, yC, Act.put, yD, yE, yF]
      refine wpAnyH_take (i := 5) (v := ?va6) rfl (by kernel_rfl) (by kernel_rfl) (by kernel_rfl) (fun _ _ _ h => h) (Or.inl ⟨by rfl, ?ya6⟩) hS ?ra6
      case ya6 => (intro w0 _; go_simp; try with_reducible rfl)
      try simp only [yA, yB, yC, Act.put, yD, yE, yF]
      refine wpAnyH_take (i := 6) (v := ?va7) rfl (by kernel_rfl) (by kernel_rfl) (by kernel_rfl) (fun _ _ _ h => h) (Or.inl ⟨by rfl, ?ya7⟩) hS ?ra7
      case ya7 => (intro w0 _; go_simp; try with_reducible rfl)
      try simp only [yA, yB, yC, Act.put, yD, yE, yF]
      refine wpAnyH_take (i := 7) (v := ?va8) rfl (by kernel_rfl) (by kernel_rfl) (by kernel_rfl) (fun _ _ _ h => h) (Or.inl ⟨by rfl, ?ya8⟩) hS ?ra8
      case ya8 => (intro w0 _; go_simp; try with_reducible rfl)
      try simp only [yA, yB, yC, Act.put, yD, yE, yF]
      refine wpAnyH_take (i := 8) (v := ?va9) rfl (by kernel_rfl) (by kernel_rfl) (by kernel_rfl) (fun _ _ _ h => h) (Or.inl ⟨by rfl, ?ya9⟩) hS ?ra9
      case ya9 => (intro w0 _; go_simp; try with_reducible rfl)
      try simp only [yA, yB, yC, Act.put, yD, yE, yF]
      refine wpAnyH_take (i := 9) (v := ?va10) rfl (by kernel_rfl) (by kernel_rfl) (by kernel_rfl) (fun _ _ _ h => h) (Or.inl ⟨by rfl, ?ya10⟩) hS ?ra10
      case ya10 => (intro w0 hS0; (try simp only [] at hS0); obtain ⟨hS0_0, hS0_1, hS0_2⟩ := hS0; go_simp; try with_reducible rfl)
      try simp only [yA, yB, yC, Act.put, yD, yE, yF]
      refine wpAnyH_take (i := 10) (v := ?va11) rfl (by kernel_rfl) (by kernel_rfl) (by kernel_rfl) (fun _ _ _ h => h) (Or.inl ⟨by rfl, ?ya11⟩) hS ?ra11
      case ya11 => (intro w0 _; go_simp; try with_reducible rfl)
      try simp only [yA, yB, yC, Act.put, yD, yE, yF]
      refine wpAnyH_take (i := 11) (v := ?va12) rfl (by kernel_rfl) (by kernel_rfl) (by kernel_rfl) (fun _ _ _ h => h) (Or.inl ⟨by rfl, ?ya12⟩) hS ?ra12
      case ya12 => (intro w0 _; go_simp; try with_reducible rfl)
      try simp only [yA, yB, yC, Act.put, yD, yE, yF]
      refine wpAnyH_take (i := 12) (v := ?va13) rfl (by kernel_rfl) (by kernel_rfl) (by kernel_rfl) (fun _ _ _ h => h) (Or.inl ⟨by rfl, ?ya13⟩) hS ?ra13
      case ya13 => (intro w0 _; go_simp; try with_reducible rfl)
      try simp only [yA, yB, yC, Act.put, yD, yE, yF]
      refine wpAnyH_take (i := 13) (v := ?va14) rfl (by kernel_rfl) (by kernel_rfl) (by kernel_rfl) (fun _ _ _ h => h) (Or.inl ⟨by rfl, ?ya14⟩) hS ?ra14
      case ya14 => (intro w0 _; go_simp; try with_reducible rfl)
      try simp only [yA, yB, yC, Act.put, yD, yE, yF]
      refine wpAnyH_take (i := 14) (v := ?va15) rfl (by kernel_rfl) (by kernel_rfl) (by kernel_rfl) (fun _ _ _ h => h) (Or.inl ⟨by rfl, ?ya15⟩) hS ?ra15
      case ya15 => (intro w0 _; go_simp; try with_reducible rfl)
      try simp only [yA, yB, yC, Act.put, yD, yE, yF]
      refine wpAnyH_take (i := 15) (v := ?va16) rfl (by kernel_rfl) (by kernel_rfl) (by kernel_rfl) (fun _ _ _ h => h) (Or.inl ⟨by rfl, ?ya16⟩) hS ?ra16
      case ya16 => (intro w0 _; go_simp; try with_reducible rfl)
      try simp only [yA, yB, yC, Act.put, yD, yE, yF]
      refine wpAnyH_take (i := 16) (v := ?va17) rfl (by kernel_rfl) (by kernel_rfl) (by kernel_rfl) (fun _ _ _ h => h) (Or.inl ⟨by rfl, ?ya17⟩) hS ?ra17
      case ya17 => (intro w0 hS0; (try simp only [] at hS0); obtain ⟨hS0_0, hS0_1, hS0_2⟩ := hS0; go_simp; try with_reducible rfl)
      try simp only [yA, yB, yC, Act.put, yD, yE, yF]
      refine wpAnyH_take (i := 17) (v := ?va18) rfl (by kernel_rfl) (by kernel_rfl) (by kernel_rfl) (fun _ _ _ h => h) (Or.inl ⟨by rfl, ?ya18⟩) hS ?ra18
      case ya18 => (intro w0 _; go_simp; try with_reducible rfl)
      try simp only [yA, yB, yC, Act.put, yD, yE, yF]
      refine wpAnyH_take (i := 18) (v := ?va19) rfl (by kernel_rfl) (by kernel_rfl) (by kernel_rfl) (fun _ _ _ h => h) (Or.inl ⟨by rfl, ?ya19⟩) hS ?ra19
      case ya19 => (intro w0 _; go_simp; try with_reducible rfl)
      try simp only [yA, yB, yC, Act.put, yD, yE, yF]
      refine wpAnyH_take (i := 19) (v := ?va20) rfl (by kernel_rfl) (by kernel_rfl) (by kernel_rfl) (fun _ _ _ h => h) (Or.inl ⟨by rfl, ?ya20⟩) hS ?ra20
      case ya20 => (intro w0 hS0; (try simp only [] at hS0); obtain ⟨hS0_0, hS0_1, hS0_2⟩ := hS0; go_simp; try with_reducible rfl)
      try simp only [yA, yB, yC, Act.put, yD, yE, yF]
      refine wpAnyH_ready (rs := [20]) (by kernel_rfl) (by simp) (AllReadyH.cons (i := 20) rfl (fun K hK => ?_) AllReadyH.nil)
      go_simp
      refine (give_c (HRA2.out.grown (gr_drew (gr_refl _ none))) (kc : Int) ek vk (k64_nat kc (by omega)) ⟨by have := HKV.out; omega, by have := HKV.out; omega⟩ HK0.out (by omega)).mono ?_
      rintro e0 w4 ⟨rfl, G3, hra, hng⟩
      rw [HSE.out]
      have H43 := As.mk (H42.out.ng ((ng_drew w3).trans hng))
      go_simp
      refine hK.out _ _ (⟨by have := (H43.out.cells kc hk16).1; rw [HNH.out] at this; exact this, by have := (H43.out.cells kc hk16).2.2.1; rw [hve] at this; exact this, by have := (H43.out.cells kc hk16).2.2.2; rw [hva] at this; exact this⟩) (fun hS => ?_)
      clear hK K
      try simp only [yA, yB, yC, Act.put, yD, yE, yF]
      have HRA3 := As.mk hra
      have HNG3 := As.mk (HNG2.out.trans ((ng_drew w3).trans hng))
      clear hra hng
      refine wpAnyH_take (i := 21) (v := ?va22) rfl (by kernel_rfl) (by kernel_rfl) (by kernel_rfl) (fun _ _ _ h => h) (Or.inl ⟨by rfl, ?ya22⟩) hS ?ra22
      case ya22 => (intro w0 _; go_simp; try with_reducible rfl)
      try simp only [yA, yB, yC, Act.put, yD, yE, yF]
      refine wpAnyH_take (i := 22) (v := ?va23) rfl (by kernel_rfl) (by kernel_rfl) (by kernel_rfl) (fun _ _ _ h => h) (Or.inl ⟨by rfl, ?ya23⟩) hS ?ra23
      case ya23 => (intro w0 _; go_simp; try with_reducible rfl)
      try simp only [yA, yB, yC, Act.put, yD, yE, yF]
      refine wpAnyH_done (by kernel_rfl) ?_ _
      refine NoPanic.normal ?_
      try simp only [Exit.then]
      clear hS
      have f8 := H43.out.g8.free kc
      have e8 := (H43.out.cells kc hk16).1
      rw [HNH.out] at e8
      clear HRA2 HNG2 H42 e4 e5
      go_wp2_with fail
      refine ⟨⟨n + 1, by simp, ⟨_, G3, HR1.out, (HRA3.out.far H43.out.n.2.2.1 (Nat.le_trans HLO.out H43.out.lo.1) kc (.bool true)).mono (by omega), HNG3.out.far (by rw [HB4.out]; exact H43.out.lo.1) kc (.bool true), ?_⟩⟩, by simp [intOf]; omega⟩
      have := H43.out.set8 kc hk16 true
      rw [← HSH.out] at this
      exact this
    · by_cases h2 : (goR l 40 s).1 = 2
      · obtain ⟨a1, a2⟩ := HAS.out.2 h2
        have HR1 := As.mk (Drives.take (ve := ve) (va := va) HRE.out h2)
        rw [← HRD.out.2] at a2
        have HNH := As.mk a2
        rw [← HRD.out.1, ← HRD.out.2] at H42
        rw [h2]
        have hkc : (((goR l 40 s).2.1.toNat : Nat) : Int) = (goR l 40 s).2.1 := by omega
        have hk16 : (goR l 40 s).2.1.toNat < 16 := by omega
        rw [← hkc]
        clear h1 h2 HAN HAS HRD a1 a2 hkc
        clear HD
        generalize (goR l 40 s).2.2 = s2 at *
        generalize (goR l 40 s).2.1.toNat = kc at *
        have hk0 : ¬ (kc : Int) < 0 := by omega
        have hk1 : ¬ (15 : Int) < (kc : Int) := by omega
        have hd0 : decide ((kc : Int) < 0) = false := decide_eq_false hk0
        have hd1 : decide ((15 : Int) < (kc : Int)) = false := decide_eq_false hk1
        have hk00 : (0 : Int) ≤ (kc : Int) := by omega
        have hkI : (kc : Int) < 16 := by omega
        obtain ⟨e8, e9, e4, e5⟩ := H42.out.cells kc hk16
        rw [HNH.out] at e9
        clear e8 e4 e5
        go_wp2_with fail
        clear e9
        refine (took_c HRA2.out kc hk16).mono ?_
        rintro e w4 ⟨rfl, G3, hra, hng⟩
        have H43 := As.mk (H42.out.ng hng)
        have HRA3 := As.mk hra
        have HNG3 := As.mk (HNG2.out.trans hng)
        clear hra hng HRA2 HNG2 H42
        have f9 := H43.out.g9.free kc
        have e9 := (H43.out.cells kc hk16).2.1
        rw [HNH.out] at e9
        go_wp2_with fail
        refine ⟨⟨n + 1, by simp, ⟨_, G3, HR1.out, (HRA3.out.far H43.out.n.2.2.2 (Nat.le_trans HLO.out H43.out.lo.2) kc (.bool true)).mono (by omega), HNG3.out.far (by rw [HB4.out]; exact H43.out.lo.2) kc (.bool true), ?_⟩⟩, by simp [intOf]; omega⟩
        exact H43.out.set9 kc hk16 true
      · have h3 : 3 ≤ (goR l 40 s).1 := by have := HAN.out.1; omega
        have z1 : ((goR l 40 s).1 == 1) = false := by simp; omega
        have z2 : ((goR l 40 s).1 == 2) = false := by simp; omega
        have H3 := As.mk h3
        have HE := As.mk (show (Ending.returned (.tuple #[.int .i64 (goR l 40 s).1, .int .i64 (n : Int)])) = Ending.returned (.tuple #[.int .i64 (goR l 40 s).1, .int .i64 (n : Int)]) from rfl)
        clear h1 h2 h3 HAN HAS HRD H42 HD
        go_wp2_with fail
        go_ret2
        exact ⟨n, s, G2, HRE.out, H3.out, rfl, HRA2.out.mono (by omega), HNG2.out⟩
end
section
open Go.RowKit Go.ChangeShapes Go.WideShapes
set_option linter.unusedVariables false

theorem agg16_ints {H : Type} {enc : TypeId × Value → H} {P : Program} {W : World} {base : Nat} {held : Bool} {r : Reach} {b0 : Nat} {t e : TypeId} {v : Value} {d : DataW H} {p : List MemPlace} (he : P.underlying t = some (.array 16 e)) (hee : P.underlying e = some (.int .i64)) (hce : P.cellsOf e = 1) (hc : P.cellsOf t = 16)
    (hv : Value.okWide P W r b0 t v) (h : DataW.Trod enc P W base (fun _ => true) held t v d p) :
    ∃ f : Nat → Int, v = .agg (a16C f) ∧ ∀ k, k < 16 → K64 (f k) := by
  obtain ⟨cs, rfl, hsz⟩ : ∃ cs, v = .agg cs ∧ cs.size = P.cellsOf t := by
    simp only [Value.okWide, he] at hv
    obtain ⟨cs, h1, h2, _⟩ := hv
    exact ⟨cs, h1, h2⟩
  rw [hc] at hsz
  obtain ⟨fuel, hf⟩ := h
  obtain ⟨xs, m, _, hx, hl, hxl, hf⟩ := DataW.trod_array he hf
  have hk : ∀ i, i < 16 → ∃ k, cs[i]? = some (.int .i64 k) ∧ K64 k := by
    intro i hi
    have q := hf i hi
    rw [hce, Nat.mul_one] at q
    have hy : xs[i]? = some xs[i] := List.getElem?_eq_getElem (by omega)
    rw [hy] at q
    obtain ⟨k, k1, _, k3⟩ := DataW.trod_int hee q
    refine ⟨k, ?_, wf64 k3⟩
    have hg : i < cs.toList.length := by rw [Array.length_toList, hsz]; exact hi
    replace k1 : List.take 1 (List.drop i cs.toList) = [Value.int IntKind.i64 k] := k1
    rw [List.drop_eq_getElem_cons hg] at k1
    simp only [List.take_succ_cons, List.take_zero] at k1
    injection k1 with k1 _
    rw [Array.getElem?_eq_getElem (by omega)]
    exact congrArg some k1
  refine ⟨fun i => if h : i < 16 then Classical.choose (hk i h) else 0, ?_, fun k h => ?_⟩
  · congr 1
    apply Array.ext_getElem?
    intro i
    by_cases h : i < 16
    · rw [a16_get _ i h]
      have q := (Classical.choose_spec (hk i h)).1
      simp only [h, dif_pos]
      exact q
    · rw [Array.getElem?_eq_none (by omega), Array.getElem?_eq_none (show (a16C _).size ≤ i by show 16 ≤ i; omega)]
  · simp only [h, dif_pos]
    exact (Classical.choose_spec (hk k h)).2
end
section
open Go.RowKit
set_option linter.unusedVariables false

set_option maxRecDepth 100000 in
set_option maxHeartbeats 6400000 in
theorem sameItems_c (v v' : Value) (l : List PIt) (w : World) (h : Arr ItE 5 w v l) (h' : Arr ItE 5 w v' l) :
    Calls Try.prog 19 #[v, v'] w fun e w' => e = .returned (.bool true) ∧ ∃ n, w' = w.drewN n := by
  obtain ⟨A, c, rfl⟩ := h.len
  obtain ⟨A', c', rfl⟩ := h'.len
  have hl := h.le
  have H := As.mk h
  have H' := As.mk h'
  clear h h'
  go_enter Try.func19, Try.ntmps19
  go_wp2_with fail
  go_loopw [5] (fun i wr => ∃ k : Nat, k ≤ l.length ∧ i = .int .i64 k ∧ ∃ n, wr = w.drewN n) (fun i _ => l.length - (Go.RowKit.intOf i).toNat)
  case atStart => exact ⟨0, Nat.zero_le _, rfl, 0, rfl⟩
  case round =>
    obtain ⟨k, hk, rfl, nd, rfl⟩ := hrel
    by_cases hlt : k < l.length
    · have hltI : (k : Int) < (l.length : Int) := by omega
      have hk0 : (0 : Int) ≤ (k : Int) := by omega
      obtain ⟨b, o, cs, rfl, rfl, hcs, hcell⟩ := H.out.at_ k l[k] (List.getElem?_eq_getElem hlt)
      obtain ⟨b', o', cs', rfl, rfl, hcs', hcell'⟩ := H'.out.at_ k l[k] (List.getElem?_eq_getElem hlt)
      have c0 : w.cell? ⟨b, o + k * 5, none⟩ = _ := hcell 0 _ rfl
      have c1 := hcell 1 _ rfl
      have c2 := hcell 2 _ rfl
      have c3 := hcell 3 _ rfl
      have c4 := hcell 4 _ rfl
      have c0' : w.cell? ⟨b', o' + k * 5, none⟩ = _ := hcell' 0 _ rfl
      have c1' := hcell' 1 _ rfl
      have c2' := hcell' 2 _ rfl
      have c3' := hcell' 3 _ rfl
      have c4' := hcell' 4 _ rfl
      clear hcell hcell' hcs hcs'
      generalize l[k]'hlt = x at *
      go_wp2_with fail
      go_quiet (fail)
      go_wp2_with fail
      go_roundw
      case measure => simp [Go.RowKit.intOf]; omega
      case rel => exact ⟨k + 1, by omega, by go_num, _, rfl⟩
    · obtain rfl : k = l.length := by omega
      go_wp2_with fail
      go_ret
      exact ⟨rfl, _, rfl⟩
end
section
set_option linter.unusedVariables false
set_option linter.unusedSimpArgs false

/-- The document's world. -/
structure RWd where
  ve : Nat → Int
  va : Nat → Int
  rg : Nat → Int
  rd : Nat → Bool
  wr : Nat → Bool
  nw : Nat → Int
def RWd.val (W : RWd) (c : Nat) : Int := if W.wr c then W.nw c else W.va c
def opP (x : POp) (W : RWd) : Int × RWd :=
  if x.k = 1 then (0, { W with rd := updN W.rd x.c.toNat true, rg := updN W.rg x.r.toNat (W.val x.c.toNat) })
  else if x.k = 2 then (0, { W with rd := updN W.rd x.c.toNat true, wr := updN W.wr x.c.toNat true, nw := updN W.nw x.c.toNat (W.rg x.r.toNat) })
  else if x.k = 3 then (0, { W with rg := updN W.rg x.r.toNat x.n })
  else if x.k = 4 then (0, { W with rg := updN W.rg x.r.toNat (IntKind.i64.wrap (W.rg x.r.toNat + W.rg x.o.toNat)) })
  else if x.k = 5 then (0, { W with rg := updN W.rg x.r.toNat (IntKind.i64.wrap (W.rg x.r.toNat - W.rg x.o.toNat)) })
  else if x.k = 7 ∨ (x.k = 6 ∧ W.rg x.r.toNat = 0) then (3, W)
  else if x.k = 8 then (4, W)
  else (0, W)
def partP : Pg → RWd → Int × RWd
  | .nil, W => (0, W)
  | .op x r, W => if (opP x W).1 = 0 then partP r (opP x W).2 else opP x W
  | .ei x y z A B r, W =>
    if (if (partP A W).1 = 3 then partP B { W with rd := (partP A W).2.rd } else partP A W).1 = 0 then partP r (if (partP A W).1 = 3 then partP B { W with rd := (partP A W).2.rd } else partP A W).2 else (if (partP A W).1 = 3 then partP B { W with rd := (partP A W).2.rd } else partP A W)
/-- What both worlds have in common. -/
structure Rel (ve va : Nat → Int) (s : RS) (W : RWd) : Prop where
  hve : W.ve = ve
  hva : W.va = va
  rd : ∀ c : Nat, c < 16 → s.rd.2 (c : Int) = if W.rd c then some (ve c, va c) else none
  rg : s.rg = W.rg
  lv : ∀ c : Nat, c < 16 → wrF s.lv (c : Int) = if W.wr c then some (W.nw c) else none
inductive Dr {α : Type} (f : α → Option α) : α → α → Prop
  | refl (s : α) : Dr f s s
  | step {s t u : α} : f s = some t → Dr f t u → Dr f s u
theorem Dr.trans {α : Type} {f : α → Option α} {s t u : α} (h : Dr f s t) (k : Dr f t u) : Dr f s u := by
  induction h with
  | refl => exact k
  | step h1 _ ih => exact .step h1 (ih k)
theorem Dr.one {α : Type} {f : α → Option α} {s t : α} (h : f s = some t) : Dr f s t := .step h (.refl _)
theorem Dr.det {α : Type} {f : α → Option α} {s t u : α} (h : Dr f s t) (ht : f t = none) (k : Dr f s u) (hu : f u = none) : t = u := by
  induction h with
  | refl =>
    cases k with
    | refl => rfl
    | step h1 _ => rw [ht] at h1; cases h1
  | step h1 _ ih =>
    cases k with
    | refl => rw [hu] at h1; cases h1
    | step h2 k2 =>
      rw [h1] at h2
      injection h2 with h2
      subst h2
      exact ih ht k2
/-- One step of a run that is given what it asks for. -/
def nx (l : List POp) (ve va : Nat → Int) (s : RS) : Option RS :=
  match l[s.at_]? with
  | none => none
  | some x =>
    if (stepR l x s).1 = 0 then some (stepR l x s).2.2
    else if (stepR l x s).1 = 1 then some { s with rd := sawR s.rd x.c (ve x.c.toNat) (va x.c.toNat) }
    else if (stepR l x s).1 = 2 then some { s with tk := updN s.tk x.c.toNat true }
    else none
def endR (l : List POp) (s : RS) : Int := match l[s.at_]? with | none => 5 | some x => (stepR l x s).1
section
variable {l : List POp} {ve va : Nat → Int}
theorem nx_step {s : RS} {x : POp} (hx : l[s.at_]? = some x) (h : (stepR l x s).1 = 0) : nx l ve va s = some (stepR l x s).2.2 := by
  unfold nx; rw [hx]; dsimp only; rw [if_pos h]
theorem nx_give {s : RS} {x : POp} (hx : l[s.at_]? = some x) (h : (stepR l x s).1 = 1) : nx l ve va s = some { s with rd := sawR s.rd x.c (ve x.c.toNat) (va x.c.toNat) } := by
  unfold nx; rw [hx]; dsimp only; rw [if_neg (by omega), if_pos h]
theorem nx_take {s : RS} {x : POp} (hx : l[s.at_]? = some x) (h : (stepR l x s).1 = 2) : nx l ve va s = some { s with tk := updN s.tk x.c.toNat true } := by
  unfold nx; rw [hx]; dsimp only; rw [if_neg (by omega), if_neg (by omega), if_pos h]
theorem nx_end {s : RS} (h : 3 ≤ endR l s) : nx l ve va s = none := by
  unfold endR at h
  unfold nx
  cases hx : l[s.at_]? with
  | none => rfl
  | some x =>
    rw [hx] at h
    dsimp only at h ⊢
    rw [if_neg (by omega), if_neg (by omega), if_neg (by omega)]
theorem start_drv' (hr : pRight l = true) (ve va : Nat → Int) : Drv l ve va 0 startR := Drv.start (start_riv hr) (fun _ => rfl) (fun _ => rfl)
theorem goR_dr (hr : pRight l = true) (ve va : Nat → Int) : ∀ (n : Nat) (s : RS), l.length - s.at_ ≤ n → RIv l s → Dr (nx l ve va) s (goR l 40 s).2.2 ∧ endR l (goR l 40 s).2.2 = (goR l 40 s).1 ∧ ((goR l 40 s).1 ≤ 2 → ∃ x, l[(goR l 40 s).2.2.at_]? = some x ∧ x.c = (goR l 40 s).2.1 ∧ (stepR l x (goR l 40 s).2.2).1 = (goR l 40 s).1) := by
  intro n
  induction n with
  | zero =>
    intro s hn hi
    have h1 : l[s.at_]? = none := List.getElem?_eq_none_iff.2 (by omega)
    rw [goR_done h1]
    exact ⟨.refl _, by unfold endR; rw [h1], fun h => (by simp at h)⟩
  | succ n ih =>
    intro s hn hi
    cases hx : l[s.at_]? with
    | none =>
      rw [goR_done hx]
      exact ⟨.refl _, by unfold endR; rw [hx], fun h => (by simp at h)⟩
    | some x =>
      by_cases h0 : (stepR l x s).1 = 0
      · obtain ⟨i1, i2⟩ := hi.step hr hx h0
        have hlt := (List.getElem?_eq_some_iff.1 hx).1
        rw [goR_step hr hi hx h0]
        obtain ⟨j1, j2, j3⟩ := ih _ (by have := i1.le; omega) i1
        exact ⟨.step (nx_step hx h0) j1, j2, j3⟩
      · have e := goR_stop (s := s) hx h0
        obtain ⟨st, _, _, _, st5⟩ := stepR_stay h0
        rw [e, st]
        exact ⟨.refl _, by unfold endR; rw [hx], fun h2 => ⟨x, hx, (st5 h2).symm, rfl⟩⟩
theorem Drives.dr (hr : pRight l = true) {s0 s : RS} {n : Nat} (hv : VerOk ve) (h0 : Drv l ve va 0 s0) (h : Drives l ve va s0 n s) : Dr (nx l ve va) s0 s := by
  induction h with
  | start => exact .refl _
  | @give n s hre h1 ih =>
    have hd := hre.drv hr hv h0
    obtain ⟨g1, g2, g3⟩ := goR_dr hr ve va _ s (Nat.le_refl _) hd.riv
    obtain ⟨x, x1, x2, x3⟩ := g3 (by omega)
    have e := nx_give (ve := ve) (va := va) x1 (x3.trans h1)
    rw [x2] at e
    exact (ih.trans g1).trans (.one e)
  | @take n s hre h1 ih =>
    have hd := hre.drv hr hv h0
    obtain ⟨g1, g2, g3⟩ := goR_dr hr ve va _ s (Nat.le_refl _) hd.riv
    obtain ⟨x, x1, x2, x3⟩ := g3 (by omega)
    have e := nx_take (ve := ve) (va := va) x1 (x3.trans h1)
    rw [x2] at e
    exact (ih.trans g1).trans (.one e)
theorem wrF_beg (lv : Lv) (n : Nat) (c : Int) : wrF (lv ++ [(n, fun _ => none)]) c = wrF lv c := by
  unfold wrF
  rw [List.reverse_append]
  simp
theorem wrF_snoc (lv : Lv) (p : Nat × (Int → Option Int)) (c : Int) : wrF (lv ++ [p]) c = (p.2 c).or (wrF lv c) := by
  unfold wrF
  rw [List.reverse_append]
  simp only [List.reverse_cons, List.reverse_nil, List.nil_append, List.singleton_append, List.findSome?_cons]
  cases p.2 c <;> rfl
theorem wrF_mer1 (lv : Lv) (p q : Nat × (Int → Option Int)) (n : Nat) (c : Int) : wrF (lv ++ [(n, orF p.2 q.2)]) c = wrF (lv ++ [q] ++ [p]) c := by
  rw [wrF_snoc, wrF_snoc, wrF_snoc]
  show (orF p.2 q.2 c).or _ = _
  unfold orF
  cases p.2 c <;> rfl
theorem wrF_upd (lv : Lv) (c a x : Int) (h : lv ≠ []) : wrF (updLast lv c a) x = if x = c then some a else wrF lv x := by
  obtain ⟨ini, p, rfl⟩ : ∃ ini p, lv = ini ++ [p] := ⟨_, _, (List.dropLast_concat_getLast h).symm⟩
  unfold updLast
  rw [List.getLast?_append]
  simp only [List.getLast?_singleton, Option.some_or, List.dropLast_concat]
  rw [wrF_snoc, wrF_snoc]
  unfold updF
  dsimp only
  by_cases e : x = c
  · rw [if_pos e, if_pos e]; rfl
  · rw [if_neg e, if_neg e]
theorem upd_drop (lv : Lv) (c a : Int) : (updLast lv c a).dropLast = lv.dropLast ∧ (updLast lv c a).length = lv.length := by
  rcases List.eq_nil_or_concat lv with rfl | ⟨ini, p, rfl⟩
  · exact ⟨rfl, rfl⟩
  · rw [List.concat_eq_append]
    unfold updLast
    rw [List.getLast?_append]
    simp
theorem wriL_in {rd : Rd} {lv : Lv} {kc : Nat} {a : Int} (hk : kc < 16) (h : (rd.2 (kc : Int)).isSome = true) : wriL rd lv (kc : Int) a = updLast lv (kc : Int) a := by
  have e : wriE rd (kc : Int) = 0 := by
    unfold wriE
    rw [cellOk_in ⟨by omega, by omega⟩, h]
    rfl
  unfold wriL
  rw [if_pos e]
/-- What a cell is given for. -/
theorem Rel.give {s : RS} {W : RWd} (h : Rel ve va s W) (hv : VerOk ve) {x : POp} {kc : Nat} (hk : kc < 16) (hxc : x.c = (kc : Int)) (hx : l[s.at_]? = some x) (hk1 : x.k = 1 ∨ x.k = 2) :
    ∃ s1, Dr (nx l ve va) s s1 ∧ s1 = { s with rd := s1.rd } ∧ s1.rd.2 (kc : Int) = some (ve kc, va kc) ∧ Rel ve va s1 { W with rd := updN W.rd kc true } := by
  cases hp : W.rd kc with
  | true =>
    refine ⟨s, .refl _, rfl, by rw [h.rd kc hk, hp]; rfl, ⟨h.hve, h.hva, fun c hc => ?_, h.rg, h.lv⟩⟩
    show _ = if updN W.rd kc true c then _ else _
    rw [h.rd c hc]
    by_cases e : c = kc
    · subst e; rw [updN_same, hp]
    · rw [updN_ne _ _ e]
  | false =>
    have hn : s.rd.2 (kc : Int) = none := by rw [h.rd kc hk, hp]; rfl
    have h1 : (stepR l x s).1 = 1 := by
      unfold stepR
      rcases hk1 with k1 | k2
      · rw [if_pos k1]
        unfold valF
        rw [hxc, hn]
      · rw [if_neg (by omega), if_pos k2, hxc, hn]
        rfl
    have e := nx_give (ve := ve) (va := va) hx h1
    have hsw : sawR s.rd (kc : Int) (ve kc) (va kc) = (s.rd.1 + 1, updF s.rd.2 (kc : Int) (ve kc, va kc)) := sawR_new ⟨by omega, by omega⟩ (hv kc hk) (by rw [hn]; rfl)
    rw [hxc, Int.toNat_natCast, hsw] at e
    refine ⟨_, .one e, rfl, updF_same _ _ _, ⟨h.hve, h.hva, fun c hc => ?_, h.rg, h.lv⟩⟩
    show updF s.rd.2 (kc : Int) (ve kc, va kc) (c : Int) = if updN W.rd kc true c then _ else _
    by_cases e2 : c = kc
    · subst e2; rw [updN_same, updF_same]; rfl
    · rw [updN_ne _ _ e2, updF_ne _ _ (by omega), h.rd c hc]
/-- One operation. -/
theorem Rel.op {s : RS} {W : RWd} (h : Rel ve va s W) (hv : VerOk ve) {x : POp} (hb : opRight x = true) (hx : l[s.at_]? = some x) (h10 : x.k ≠ 10 ∧ x.k ≠ 11 ∧ x.k ≠ 12) (hl : s.lv ≠ []) :
    ∃ t, Dr (nx l ve va) s t ∧ Rel ve va t (opP x W).2 ∧ t.cho = s.cho ∧ t.lv.dropLast = s.lv.dropLast ∧ t.lv.length = s.lv.length ∧
      ((opP x W).1 = 0 → t.at_ = s.at_ + 1) ∧ ((opP x W).1 = 3 → t.at_ = s.at_ ∧ (x.k = 7 ∨ (x.k = 6 ∧ t.rg x.r.toNat = 0))) ∧ ((opP x W).1 = 4 → t.at_ = s.at_ ∧ x.k = 8) ∧ ((opP x W).1 = 0 ∨ (opP x W).1 = 3 ∨ (opP x W).1 = 4) := by
  obtain ⟨⟨hk0, hk1⟩, ⟨hc0, hc1⟩, _⟩ := opRight_bd hb
  obtain ⟨kc, hkc⟩ : ∃ kc : Nat, x.c = (kc : Int) := ⟨x.c.toNat, by omega⟩
  have hk16 : kc < 16 := by omega
  unfold opP
  by_cases k1 : x.k = 1
  · simp only [if_pos k1]
    obtain ⟨s1, d1, e1, v1, r1⟩ := h.give hv hk16 hkc hx (.inl k1)
    have a1 : s1.at_ = s.at_ := by rw [e1]
    have l1 : s1.lv = s.lv := by rw [e1]
    have c1 : s1.cho = s.cho := by rw [e1]
    have g1 : s1.rg = s.rg := by rw [e1]
    have hx1 : l[s1.at_]? = some x := by rw [a1]; exact hx
    have hval : valF s1.rd s1.lv x.c = some (W.val kc) := by
      unfold valF
      rw [hkc, v1]
      show some ((wrF s1.lv (kc : Int)).getD (va kc)) = _
      rw [r1.lv kc hk16]
      unfold RWd.val
      rw [h.hva]
      cases W.wr kc <;> rfl
    have st : stepR l x s1 = (0, 0, { s1 with rg := updN s1.rg x.r.toNat (W.val kc), at_ := s1.at_ + 1 }) := by
      unfold stepR
      rw [if_pos k1, hval]
    have e2 := nx_step (ve := ve) (va := va) hx1 (by rw [st])
    rw [st] at e2
    refine ⟨_, d1.trans (.one e2), ⟨r1.hve, r1.hva, ?_, ?_, r1.lv⟩, c1, congrArg List.dropLast l1, congrArg List.length l1, fun _ => congrArg (· + 1) a1, fun h => (by cases h), fun h => (by cases h), .inl (by trivial)⟩
    · rw [hkc, Int.toNat_natCast]; exact r1.rd
    · show updN s1.rg _ _ = updN W.rg _ _
      rw [g1, h.rg, hkc, Int.toNat_natCast]
  simp only [if_neg k1]
  by_cases k2 : x.k = 2
  · simp only [if_pos k2]
    obtain ⟨s1, d1, e1, v1, r1⟩ := h.give hv hk16 hkc hx (.inr k2)
    have a1 : s1.at_ = s.at_ := by rw [e1]
    have l1 : s1.lv = s.lv := by rw [e1]
    have c1 : s1.cho = s.cho := by rw [e1]
    have g1 : s1.rg = s.rg := by rw [e1]
    have hx1 : l[s1.at_]? = some x := by rw [a1]; exact hx
    have st : stepR l x s1 = (0, 0, { s1 with lv := updLast s1.lv (kc : Int) (s1.rg x.r.toNat), at_ := s1.at_ + 1 }) := by
      unfold stepR
      rw [if_neg k1, if_pos k2, hkc, wriL_in (by omega) (by rw [v1]; rfl), if_pos (by rw [v1]; rfl)]
    have e2 := nx_step (ve := ve) (va := va) hx1 (by rw [st])
    rw [st] at e2
    obtain ⟨q1, q2⟩ := upd_drop s1.lv (kc : Int) (s1.rg x.r.toNat)
    refine ⟨_, d1.trans (.one e2), ⟨r1.hve, r1.hva, ?_, g1.trans h.rg, fun c hc => ?_⟩, c1, q1.trans (congrArg List.dropLast l1), q2.trans (congrArg List.length l1), fun _ => congrArg (· + 1) a1, fun h => (by cases h), fun h => (by cases h), .inl (by trivial)⟩
    · rw [hkc, Int.toNat_natCast]; exact r1.rd
    · show wrF (updLast s1.lv (kc : Int) (s1.rg x.r.toNat)) (c : Int) = if updN W.wr x.c.toNat true c then some (updN W.nw x.c.toNat (W.rg x.r.toNat) c) else none
      rw [wrF_upd _ _ _ _ (by rw [l1]; exact hl), hkc, Int.toNat_natCast]
      by_cases e : c = kc
      · subst e
        rw [if_pos rfl, updN_same, updN_same, g1, h.rg]; rfl
      · rw [if_neg (by omega), updN_ne _ _ e, updN_ne _ _ e]
        exact r1.lv c hc
  simp only [if_neg k2]
  have same : ∀ (g : Nat → Int), stepR l x s = (0, 0, { s with rg := g, at_ := s.at_ + 1 }) → ∃ t, Dr (nx l ve va) s t ∧ Rel ve va t { W with rg := g } ∧ t.cho = s.cho ∧ t.lv.dropLast = s.lv.dropLast ∧ t.lv.length = s.lv.length ∧ t.at_ = s.at_ + 1 := by
    intro g st
    have e2 := nx_step (ve := ve) (va := va) hx (by rw [st])
    rw [st] at e2
    exact ⟨_, .one e2, ⟨h.hve, h.hva, h.rd, rfl, h.lv⟩, rfl, rfl, rfl, rfl⟩
  have n9 : ∀ {r : Int × Int × RS}, x.k ≠ 9 → (if x.k = 9 then (if s.tk x.c.toNat = true then ((0 : Int), (0 : Int), { s with at_ := s.at_ + 1 }) else (2, x.c, s)) else r) = r := fun h => if_neg h
  by_cases k3 : x.k = 3
  · simp only [if_pos k3]
    obtain ⟨t, t1, t2, t3, t4, t5, t6⟩ := same (updN W.rg x.r.toNat x.n) (by
      unfold stepR
      rw [if_neg k1, if_neg k2, if_neg (by omega), if_pos k3, h.rg])
    exact ⟨t, t1, t2, t3, t4, t5, fun _ => t6, fun h => (by cases h), fun h => (by cases h), .inl (by trivial)⟩
  simp only [if_neg k3]
  by_cases k4 : x.k = 4
  · simp only [if_pos k4]
    obtain ⟨t, t1, t2, t3, t4, t5, t6⟩ := same (updN W.rg x.r.toNat (IntKind.i64.wrap (W.rg x.r.toNat + W.rg x.o.toNat))) (by
      unfold stepR
      rw [if_neg k1, if_neg k2, if_neg (by omega), if_neg k3, if_pos k4, h.rg])
    exact ⟨t, t1, t2, t3, t4, t5, fun _ => t6, fun h => (by cases h), fun h => (by cases h), .inl (by trivial)⟩
  simp only [if_neg k4]
  by_cases k5 : x.k = 5
  · simp only [if_pos k5]
    obtain ⟨t, t1, t2, t3, t4, t5, t6⟩ := same (updN W.rg x.r.toNat (IntKind.i64.wrap (W.rg x.r.toNat - W.rg x.o.toNat))) (by
      unfold stepR
      rw [if_neg k1, if_neg k2, if_neg (by omega), if_neg k3, if_neg k4, if_pos k5, h.rg])
    exact ⟨t, t1, t2, t3, t4, t5, fun _ => t6, fun h => (by cases h), fun h => (by cases h), .inl (by trivial)⟩
  simp only [if_neg k5]
  by_cases k7 : x.k = 7 ∨ (x.k = 6 ∧ W.rg x.r.toNat = 0)
  · simp only [if_pos k7]
    exact ⟨s, .refl _, h, rfl, rfl, rfl, fun h => (by simp at h), fun _ => ⟨rfl, by rw [h.rg]; exact k7⟩, fun h => (by simp at h), .inr (.inl (by trivial))⟩
  simp only [if_neg k7]
  by_cases k8 : x.k = 8
  · simp only [if_pos k8]
    exact ⟨s, .refl _, h, rfl, rfl, rfl, fun h => (by simp at h), fun h => (by simp at h), fun _ => ⟨rfl, k8⟩, .inr (.inr (by trivial))⟩
  simp only [if_neg k8]
  by_cases k9 : x.k = 9
  · by_cases ht : s.tk x.c.toNat = true
    · obtain ⟨t, t1, t2, t3, t4, t5, t6⟩ := same W.rg (by
        unfold stepR
        rw [if_neg k1, if_neg k2, if_pos k9, if_pos ht, ← h.rg])
      exact ⟨t, t1, t2, t3, t4, t5, fun _ => t6, fun h => (by cases h), fun h => (by cases h), .inl (by trivial)⟩
    · have e1 := nx_take (l := l) (ve := ve) (va := va) hx (by
        unfold stepR
        rw [if_neg k1, if_neg k2, if_pos k9, if_neg ht])
      have e2 := nx_step (l := l) (ve := ve) (va := va) (s := { s with tk := updN s.tk x.c.toNat true }) hx (by
        unfold stepR
        rw [if_neg k1, if_neg k2, if_pos k9, if_pos (updN_same _ _ _)])
      have st : stepR l x { s with tk := updN s.tk x.c.toNat true } = (0, 0, { s with tk := updN s.tk x.c.toNat true, at_ := s.at_ + 1 }) := by
        unfold stepR
        rw [if_neg k1, if_neg k2, if_pos k9, if_pos (updN_same _ _ _)]
      rw [st] at e2
      exact ⟨_, .step e1 (.one e2), ⟨h.hve, h.hva, h.rd, h.rg, h.lv⟩, rfl, rfl, rfl, fun _ => rfl, fun h => (by cases h), fun h => (by cases h), .inl (by trivial)⟩
  · obtain ⟨t, t1, t2, t3, t4, t5, t6⟩ := same W.rg (by
      unfold stepR
      rw [if_neg k1, if_neg k2, if_neg k9, if_neg k3, if_neg k4, if_neg k5, if_neg h10.1, if_neg h10.2.1, if_neg k8, if_neg (by rw [h.rg]; exact k7), ← h.rg])
    exact ⟨t, t1, t2, t3, t4, t5, fun _ => t6, fun h => (by cases h), fun h => (by cases h), .inl (by trivial)⟩
/-- What a part leaves. -/
structure Did (l : List POp) (ve va : Nat → Int) (s : RS) (T : List POp) (p : Int × RWd) (t : RS) : Prop where
  dr : Dr (nx l ve va) s t
  rel : Rel ve va t p.2
  st : p.1 ≠ 4 → t.cho = s.cho ∧ t.lv.dropLast = s.lv.dropLast ∧ t.lv.length = s.lv.length
  on : p.1 = 0 → l.drop t.at_ = T
  wait : p.1 = 3 → ∃ x, l[t.at_]? = some x ∧ (x.k = 7 ∨ (x.k = 6 ∧ t.rg x.r.toNat = 0))
  gave : p.1 = 4 → ∃ x, l[t.at_]? = some x ∧ x.k = 8
  one : p.1 = 0 ∨ p.1 = 3 ∨ p.1 = 4
theorem Did.then {s t u : RS} {T T' : List POp} {p q : Int × RWd} (h : Did l ve va s T p t) (h4 : p.1 ≠ 4) (k : Did l ve va t T' q u) : Did l ve va s T' q u :=
  ⟨h.dr.trans k.dr, k.rel, fun e => ⟨(k.st e).1.trans (h.st h4).1, (k.st e).2.1.trans (h.st h4).2.1, (k.st e).2.2.trans (h.st h4).2.2⟩, k.on, k.wait, k.gave, k.one⟩
theorem step_k7 {s : RS} {x : POp} (h : x.k = 7 ∨ (x.k = 6 ∧ s.rg x.r.toNat = 0)) : stepR l x s = (match s.cho.getLast? with | none => (3, 0, s) | some q => (0, 0, { s with rg := q.r, cho := s.cho.dropLast, lv := undL s.lv, at_ := q.o.toNat + 1 })) := by
  unfold stepR
  rw [if_neg (by omega), if_neg (by omega), if_neg (by omega), if_neg (by omega), if_neg (by omega), if_neg (by omega), if_neg (by omega), if_neg (by omega), if_neg (by omega), if_pos h]
  cases s.cho.getLast? <;> rfl
theorem mem_of_drop {i : Nat} {S : List POp} (h : l.drop i = S) {x : POp} (hx : x ∈ S) : x ∈ l := List.mem_of_mem_drop (h ▸ hx)
theorem big (hr : pRight l = true) (hv : VerOk ve) : ∀ (c : Pg) (d : Nat) (T : List POp) (s : RS) (W : RWd), l.drop s.at_ = c.flat ++ T → c.ok d → s.lv.length ≤ d + 1 → s.lv ≠ [] → Rel ve va s W → ∃ t, Did l ve va s T (partP c W) t
  | .nil, d, T, s, W, hd, ho, hl, hne, h => ⟨s, ⟨.refl _, h, fun _ => ⟨rfl, rfl, rfl⟩, fun _ => hd, fun h => (by simp [partP] at h), fun h => (by simp [partP] at h), .inl rfl⟩⟩
  | .op x r, d, T, s, W, hd, ho, hl, hne, h => by
    obtain ⟨hlt, hx, hd1⟩ := lt_of_drop hd
    have hb := (pRight_all hr).2.1 x (List.mem_of_getElem? hx)
    obtain ⟨t, t1, t2, t3, t4, t5, t6, t7, t8, t9⟩ := h.op hv hb hx ho.1 hne
    have hne' : t.lv ≠ [] := by intro e; rw [e] at t5; exact hne (List.eq_nil_of_length_eq_zero t5.symm)
    show ∃ t, Did l ve va s T (if (opP x W).1 = 0 then partP r (opP x W).2 else opP x W) t
    by_cases h0 : (opP x W).1 = 0
    · rw [if_pos h0]
      obtain ⟨u, hu⟩ := big hr hv r d T t (opP x W).2 (by rw [t6 h0]; exact hd1) ho.2 (by omega) hne' t2
      exact ⟨u, ⟨t1.trans hu.dr, hu.rel, fun e => ⟨(hu.st e).1.trans t3, (hu.st e).2.1.trans t4, (hu.st e).2.2.trans t5⟩, hu.on, hu.wait, hu.gave, hu.one⟩⟩
    · rw [if_neg h0]
      exact ⟨t, ⟨t1, t2, fun _ => ⟨t3, t4, t5⟩, fun e => absurd e h0, fun e => ⟨x, by rw [(t7 e).1]; exact hx, (t7 e).2⟩, fun e => ⟨x, by rw [(t8 e).1]; exact hx, (t8 e).2⟩, t9⟩⟩
  | .ei x y z A B r, d, T, s, W, hd, ho, hl, hne, h => by
    obtain ⟨⟨hkx, hky, hkz⟩, hd4, hoA, hoB, hor⟩ := ho
    have hd' : l.drop s.at_ = x :: (A.flat ++ y :: (B.flat ++ z :: (r.flat ++ T))) := by rw [hd]; simp [Pg.flat]
    obtain ⟨hlt, hx, hd1⟩ := lt_of_drop hd'
    obtain ⟨p1, p2, p3⟩ := pFind_at hr hd' hkx hoA hoB hky hkz
    obtain ⟨_, hy, hdB⟩ := lt_of_drop p2
    obtain ⟨_, hz, hdr⟩ := lt_of_drop p3
    generalize s.at_ + 1 + A.flat.length = no at *
    generalize no + 1 + B.flat.length = en at *
    -- the Either
    have stx : stepR l x s = (0, 0, { s with cho := s.cho ++ [⟨(s.at_ : Int), (no : Int), (en : Int), s.rg⟩], lv := begL s.lv, at_ := s.at_ + 1 }) := by
      unfold stepR
      rw [if_neg (by omega), if_neg (by omega), if_neg (by omega), if_neg (by omega), if_neg (by omega), if_neg (by omega), if_pos hkx, p1]
    have hbl : begL s.lv = s.lv ++ [(0, fun _ => none)] := by unfold begL; rw [if_neg (by omega)]
    have e1 := nx_step (ve := ve) (va := va) hx (by rw [stx])
    rw [stx, hbl] at e1
    obtain ⟨a, ha⟩ := big hr hv A (d + 1) _ { s with cho := s.cho ++ [⟨(s.at_ : Int), (no : Int), (en : Int), s.rg⟩], lv := s.lv ++ [(0, fun _ => none)], at_ := s.at_ + 1 } W hd1 hoA (by simp; omega) (by simp) ⟨h.hve, h.hva, h.rd, h.rg, fun c hc => (wrF_beg s.lv 0 (c : Int)).trans (h.lv c hc)⟩
    have hst : (partP A W).1 ≠ 4 → a.cho.getLast? = some ⟨(s.at_ : Int), (no : Int), (en : Int), s.rg⟩ ∧ a.cho.dropLast = s.cho ∧ a.lv.dropLast = s.lv ∧ a.lv.length = s.lv.length + 1 := by
      intro h4
      obtain ⟨s1, s2, s3⟩ := ha.st h4
      exact ⟨by rw [s1]; simp, by rw [s1]; simp, by rw [s2]; simp, by rw [s3]; simp⟩
    have hpos : 0 < s.lv.length := List.length_pos_iff.2 hne
    -- behind the first part, or the second
    have mid : ∃ b, Did l ve va s (r.flat ++ T) (if (partP A W).1 = 3 then partP B { W with rd := (partP A W).2.rd } else partP A W) b := by
      by_cases h3 : (partP A W).1 = 3
      · rw [if_pos h3]
        obtain ⟨hc1, hc2, hlvd, hlvl⟩ := hst (by omega)
        obtain ⟨f, f1, f2⟩ := ha.wait h3
        have st := step_k7 (l := l) f2
        rw [hc1] at st
        dsimp only at st
        have hun : undL a.lv = s.lv := by unfold undL; rw [if_neg (by omega), hlvd]
        rw [hc2, hun, Int.toNat_natCast] at st
        have e2 := nx_step (ve := ve) (va := va) f1 (by rw [st])
        rw [st] at e2
        obtain ⟨b, hb⟩ := big hr hv B (d + 1) (z :: (r.flat ++ T)) { a with rg := s.rg, cho := s.cho, lv := s.lv, at_ := no + 1 } { W with rd := (partP A W).2.rd } hdB hoB (by show s.lv.length ≤ _; omega) hne ⟨h.hve, h.hva, ha.rel.rd, h.rg, h.lv⟩
        have hdr1 : Dr (nx l ve va) s b := (Dr.step e1 (ha.dr.trans (.one e2))).trans hb.dr
        by_cases h0 : (partP B { W with rd := (partP A W).2.rd }).1 = 0
        · have hbz := hb.on h0
          obtain ⟨_, hz2, hd2⟩ := lt_of_drop hbz
          have stz : stepR l z b = (0, 0, { b with at_ := b.at_ + 1 }) := by
            unfold stepR
            rw [if_neg (by omega), if_neg (by omega), if_neg (by omega), if_neg (by omega), if_neg (by omega), if_neg (by omega), if_neg (by omega), if_neg (by omega), if_neg (by omega), if_neg (by omega)]
          have e3 := nx_step (ve := ve) (va := va) hz2 (by rw [stz])
          rw [stz] at e3
          exact ⟨_, ⟨hdr1.trans (.one e3), ⟨hb.rel.hve, hb.rel.hva, hb.rel.rd, hb.rel.rg, hb.rel.lv⟩, fun _ => hb.st (by omega), fun _ => hd2, fun e => (by omega), fun e => (by omega), .inl h0⟩⟩
        · exact ⟨b, ⟨hdr1, hb.rel, hb.st, fun e => absurd e h0, hb.wait, hb.gave, hb.one⟩⟩
      · rw [if_neg h3]
        have hdr1 : Dr (nx l ve va) s a := Dr.step e1 ha.dr
        by_cases h4 : (partP A W).1 = 4
        · exact ⟨a, ⟨hdr1, ha.rel, fun e => absurd h4 e, fun e => (by omega), fun e => absurd e h3, ha.gave, .inr (.inr h4)⟩⟩
        have h0 : (partP A W).1 = 0 := by rcases ha.one with h | h | h <;> omega
        obtain ⟨hc1, hc2, hlvd, hlvl⟩ := hst h4
        have hne2 : a.lv ≠ [] := by intro e; rw [e] at hlvl; simp at hlvl
        have hal : a.lv = s.lv ++ [a.lv.getLast hne2] := by rw [← hlvd]; exact (List.dropLast_concat_getLast hne2).symm
        generalize a.lv.getLast hne2 = p at *
        have hsl : s.lv = s.lv.dropLast ++ [s.lv.getLast hne] := (List.dropLast_concat_getLast hne).symm
        generalize s.lv.getLast hne = q at *
        have hay := ha.on h0
        obtain ⟨_, hy2, _⟩ := lt_of_drop hay
        have hml : merL a.lv = s.lv.dropLast ++ [(q.1 + p.1, orF p.2 q.2)] := by
          unfold merL
          rw [hal]
          simp only [List.getLast?_append, List.getLast?_singleton, Option.some_or, List.dropLast_concat]
          rw [hsl]
          simp
        have sty : stepR l y a = (0, 0, { a with cho := s.cho, lv := s.lv.dropLast ++ [(q.1 + p.1, orF p.2 q.2)], at_ := en + 1 }) := by
          unfold stepR
          rw [if_neg (by omega), if_neg (by omega), if_neg (by omega), if_neg (by omega), if_neg (by omega), if_neg (by omega), if_neg (by omega), if_pos hky, hc1]
          dsimp only
          rw [hc2, hml, Int.toNat_natCast]
        have e3 := nx_step (ve := ve) (va := va) hy2 (by rw [sty])
        rw [sty] at e3
        refine ⟨_, ⟨hdr1.trans (.one e3), ⟨ha.rel.hve, ha.rel.hva, ha.rel.rd, ha.rel.rg, fun c hc => ?_⟩, fun _ => ⟨rfl, ?_, ?_⟩, fun _ => hdr, fun e => (by omega), fun e => (by omega), .inl h0⟩⟩
        · show wrF (s.lv.dropLast ++ [(q.1 + p.1, orF p.2 q.2)]) (c : Int) = _
          rw [wrF_mer1, ← hsl, ← hal]
          exact ha.rel.lv c hc
        · show (s.lv.dropLast ++ [_]).dropLast = s.lv.dropLast
          simp
        · show (s.lv.dropLast ++ [_]).length = s.lv.length
          simp; omega
    obtain ⟨b, hb⟩ := mid
    show ∃ t, Did l ve va s T (if (if (partP A W).1 = 3 then partP B { W with rd := (partP A W).2.rd } else partP A W).1 = 0 then partP r (if (partP A W).1 = 3 then partP B { W with rd := (partP A W).2.rd } else partP A W).2 else (if (partP A W).1 = 3 then partP B { W with rd := (partP A W).2.rd } else partP A W)) t
    generalize (if (partP A W).1 = 3 then partP B { W with rd := (partP A W).2.rd } else partP A W) = m at *
    by_cases h0 : m.1 = 0
    · rw [if_pos h0]
      obtain ⟨s1, s2, s3⟩ := hb.st (by omega)
      obtain ⟨t, ht⟩ := big hr hv r d T b m.2 (hb.on h0) hor (by omega) (by intro e; rw [e] at s3; simp at s3; omega) hb.rel
      exact ⟨t, hb.then (by omega) ht⟩
    · rw [if_neg h0]
      exact ⟨b, ⟨hb.dr, hb.rel, hb.st, fun e => absurd e h0, hb.wait, hb.gave, hb.one⟩⟩
/-- What the whole program comes to. -/
def world0 (ve va : Nat → Int) : RWd := ⟨ve, va, fun _ => 0, fun _ => false, fun _ => false, fun _ => 0⟩
def runP (c : Pg) (W : RWd) : Int × RWd := if (partP c W).1 = 0 then (5, (partP c W).2) else partP c W
theorem comes (hr : pRight l = true) (hv : VerOk ve) {c : Pg} (hc : c.flat = l) (ho : c.ok 0) {n : Nat} {s : RS} (h : Drives l ve va startR n s) (h3 : 3 ≤ (goR l 40 s).1) :
    (goR l 40 s).1 = (runP c (world0 ve va)).1 ∧ Rel ve va (goR l 40 s).2.2 (runP c (world0 ve va)).2 := by
  have h0 := start_drv' hr ve va
  have hd := h.drv hr hv h0
  obtain ⟨g1, g2, g3⟩ := goR_dr hr ve va _ s (Nat.le_refl _) hd.riv
  have d1 := (h.dr hr hv h0).trans g1
  obtain ⟨t, ht⟩ := big (ve := ve) (va := va) hr hv c 0 [] startR (world0 ve va) (by show l.drop 0 = _; rw [← hc]; simp) ho (by decide) (by decide) ⟨rfl, rfl, fun _ _ => rfl, rfl, fun _ _ => rfl⟩
  have key : (runP c (world0 ve va)).2 = (partP c (world0 ve va)).2 ∧ endR l t = (runP c (world0 ve va)).1 ∧ 3 ≤ endR l t := by
    unfold runP
    rcases ht.one with h0 | h0 | h0
    · rw [if_pos h0]
      have := ht.on h0
      have hn : l[t.at_]? = none := by
        rw [List.getElem?_eq_none_iff]
        have := congrArg List.length this
        rw [List.length_drop] at this
        simp at this
        omega
      refine ⟨rfl, ?_, ?_⟩ <;> (unfold endR; rw [hn])
      simp
    · rw [if_neg (by omega)]
      obtain ⟨x, x1, x2⟩ := ht.wait h0
      have st := step_k7 (l := l) x2
      rw [(ht.st (by omega)).1] at st
      have st : stepR l x t = (3, 0, t) := st
      refine ⟨rfl, ?_, ?_⟩ <;> (unfold endR; rw [x1]; dsimp only; rw [st])
      · exact h0.symm
      · simp
    · rw [if_neg (by omega)]
      obtain ⟨x, x1, x2⟩ := ht.gave h0
      have st : stepR l x t = (4, 0, t) := by
        unfold stepR
        rw [if_neg (by omega), if_neg (by omega), if_neg (by omega), if_neg (by omega), if_neg (by omega), if_neg (by omega), if_neg (by omega), if_neg (by omega), if_pos x2]
      refine ⟨rfl, ?_, ?_⟩ <;> (unfold endR; rw [x1]; dsimp only; rw [st])
      · exact h0.symm
      · simp
  have e := d1.det (nx_end (by rw [g2]; exact h3)) ht.dr (nx_end key.2.2)
  rw [← g2, e, key.1]
  exact ⟨key.2.1, ht.rel⟩
/-- What was read and written, told by the document. -/
def itemP (W : RWd) (c : Nat) : PIt := ⟨(c : Int), W.ve c, W.va c, W.wr c, if W.wr c then W.nw c else 0⟩
def itemsP (W : RWd) : List PIt := ((List.range 16).filter W.rd).map (itemP W)
theorem Rel.items {s : RS} {W : RWd} (h : Rel ve va s W) : itsN s.rd s.lv = itemsP W := by
  unfold itsN keysF itemsP
  rw [List.filter_map, List.map_map]
  have e : (List.range 16).filter ((fun c : Int => (s.rd.2 c).isSome) ∘ Int.ofNat) = (List.range 16).filter W.rd := by
    refine List.filter_congr fun c hc => ?_
    have := List.mem_range.1 hc
    show (s.rd.2 (c : Int)).isSome = W.rd c
    rw [h.rd c this]
    cases W.rd c <;> rfl
  rw [e]
  refine List.map_congr_left fun c hc => ?_
  obtain ⟨h1, h2⟩ := List.mem_filter.1 hc
  have h1 := List.mem_range.1 h1
  show itN s.rd s.lv (c : Int) = itemP W c
  unfold itN itemP
  rw [h.rd c h1, h2, h.lv c h1, h.hve, h.hva]
  cases W.wr c <;> rfl
end
end
section
open Go.RowKit Go.Maps
set_option linter.unusedVariables false
set_option linter.unusedSimpArgs false
set_option maxRecDepth 100000

def cellW (W : RWd) (i : Nat) : Value := if i < 16 then .int .i64 (W.ve i) else if i < 32 then .int .i64 (W.va (i - 16)) else if i < 40 then .int .i64 (W.rg (i - 32)) else if i < 56 then .bool (W.rd (i - 40)) else if i < 72 then .bool (W.wr (i - 56)) else .int .i64 (W.nw (i - 72))
def wC (W : RWd) : Array Value := ((List.range 88).map (cellW W)).toArray
theorem wC_size (W : RWd) : (wC W).size = 88 := by simp [wC]
theorem wC_get (W : RWd) (i : Nat) (h : i < 88) : (wC W)[i]? = some (cellW W i) := by
  unfold wC
  rw [List.getElem?_toArray, List.getElem?_map, List.getElem?_range h]
  rfl
theorem wC_set (W W' : RWd) (i : Nat) (v : Value) (h : i < 88) (hv : cellW W' i = v) (hj : ∀ j, j ≠ i → cellW W' j = cellW W j) : (wC W).setIfInBounds i v = wC W' := by
  apply Array.ext_getElem?
  intro j
  rw [Array.getElem?_setIfInBounds]
  by_cases e : i = j
  · subst e
    rw [if_pos rfl, if_pos (by rw [wC_size]; exact h), wC_get W' i h, hv]
  · rw [if_neg e]
    by_cases h2 : j < 88
    · rw [wC_get W j h2, wC_get W' j h2, hj j (fun q => e q.symm)]
    · rw [Array.getElem?_eq_none_iff.2 (by rw [wC_size]; omega), Array.getElem?_eq_none_iff.2 (by rw [wC_size]; omega)]
section
variable (W : RWd) {k : Nat}
theorem cW_ve (h : k < 16) : cellW W k = .int .i64 (W.ve k) := by unfold cellW; rw [if_pos h]
theorem cW_va (h : k < 16) : cellW W (16 + k) = .int .i64 (W.va k) := by unfold cellW; rw [if_neg (by omega), if_pos (by omega), Nat.add_sub_cancel_left]
theorem cW_rg (h : k < 8) : cellW W (32 + k) = .int .i64 (W.rg k) := by unfold cellW; rw [if_neg (by omega), if_neg (by omega), if_pos (by omega), Nat.add_sub_cancel_left]
theorem cW_rd (h : k < 16) : cellW W (40 + k) = .bool (W.rd k) := by unfold cellW; rw [if_neg (by omega), if_neg (by omega), if_neg (by omega), if_pos (by omega), Nat.add_sub_cancel_left]
theorem cW_wr (h : k < 16) : cellW W (56 + k) = .bool (W.wr k) := by unfold cellW; rw [if_neg (by omega), if_neg (by omega), if_neg (by omega), if_neg (by omega), if_pos (by omega), Nat.add_sub_cancel_left]
theorem cW_nw (h : k < 16) : cellW W (72 + k) = .int .i64 (W.nw k) := by unfold cellW; rw [if_neg (by omega), if_neg (by omega), if_neg (by omega), if_neg (by omega), if_neg (by omega), Nat.add_sub_cancel_left]
theorem wC_rg (h : k < 8) (v : Int) : (wC W).setIfInBounds (32 + k) (.int .i64 v) = wC { W with rg := updN W.rg k v } := by
  refine wC_set _ _ _ _ (by omega) ?_ (fun j hj => ?_)
  · rw [cW_rg _ h]; show Value.int .i64 (updN W.rg k v k) = _; rw [updN_same]
  · unfold cellW
    repeat' split
    all_goals first | rfl | (show Value.int .i64 (updN W.rg k v (j - 32)) = _; rw [updN_ne _ _ (by omega)])
theorem wC_rd (h : k < 16) (v : Bool) : (wC W).setIfInBounds (40 + k) (.bool v) = wC { W with rd := updN W.rd k v } := by
  refine wC_set _ _ _ _ (by omega) ?_ (fun j hj => ?_)
  · rw [cW_rd _ h]; show Value.bool (updN W.rd k v k) = _; rw [updN_same]
  · unfold cellW
    repeat' split
    all_goals first | rfl | (show Value.bool (updN W.rd k v (j - 40)) = _; rw [updN_ne _ _ (by omega)])
theorem wC_wr (h : k < 16) (v : Bool) : (wC W).setIfInBounds (56 + k) (.bool v) = wC { W with wr := updN W.wr k v } := by
  refine wC_set _ _ _ _ (by omega) ?_ (fun j hj => ?_)
  · rw [cW_wr _ h]; show Value.bool (updN W.wr k v k) = _; rw [updN_same]
  · unfold cellW
    repeat' split
    all_goals first | rfl | (show Value.bool (updN W.wr k v (j - 56)) = _; rw [updN_ne _ _ (by omega)])
theorem wC_nw (h : k < 16) (v : Int) : (wC W).setIfInBounds (72 + k) (.int .i64 v) = wC { W with nw := updN W.nw k v } := by
  refine wC_set _ _ _ _ (by omega) ?_ (fun j hj => ?_)
  · rw [cW_nw _ h]; show Value.int .i64 (updN W.nw k v k) = _; rw [updN_same]
  · unfold cellW
    repeat' split
    all_goals first | rfl | (show Value.int .i64 (updN W.nw k v (j - 72)) = _; rw [updN_ne _ _ (by omega)])
end
theorem wC_one (W : RWd) : (wC W).all (·.oneCell') = true := by
  refine Array.all_eq_true_iff_forall_mem.2 fun v hv => ?_
  unfold wC at hv
  rw [List.mem_toArray, List.mem_map] at hv
  obtain ⟨i, _, rfl⟩ := hv
  unfold cellW
  repeat' split
  all_goals rfl
abbrev TW : TypeId := 47
theorem sizeW : (Try.prog.info? TW).map (·.size) = some 88 := by kernel_rfl
def zeroW : RWd := ⟨fun _ => 0, fun _ => 0, fun _ => 0, fun _ => false, fun _ => false, fun _ => 0⟩
/-- A world in a block. -/
abbrev WAt (w : World) (b : Nat) (W : RWd) : Prop := Blk w b TW (wC W)
section
variable {w : World} {b : Nat} {W : RWd} (h : WAt w b W) {k : Nat}
include h
theorem WAt.ve (hk : k < 16) : w.cell? ⟨b, k, none⟩ = some (.int .i64 (W.ve k)) := (h.cell k).trans ((wC_get W k (by omega)).trans (congrArg some (cW_ve W hk)))
theorem WAt.va (hk : k < 16) : w.cell? ⟨b, 16 + k, none⟩ = some (.int .i64 (W.va k)) := (h.cell _).trans ((wC_get W _ (by omega)).trans (congrArg some (cW_va W hk)))
theorem WAt.rg (hk : k < 8) : w.cell? ⟨b, 32 + k, none⟩ = some (.int .i64 (W.rg k)) := (h.cell _).trans ((wC_get W _ (by omega)).trans (congrArg some (cW_rg W hk)))
theorem WAt.rd (hk : k < 16) : w.cell? ⟨b, 40 + k, none⟩ = some (.bool (W.rd k)) := (h.cell _).trans ((wC_get W _ (by omega)).trans (congrArg some (cW_rd W hk)))
theorem WAt.wr (hk : k < 16) : w.cell? ⟨b, 56 + k, none⟩ = some (.bool (W.wr k)) := (h.cell _).trans ((wC_get W _ (by omega)).trans (congrArg some (cW_wr W hk)))
theorem WAt.nw (hk : k < 16) : w.cell? ⟨b, 72 + k, none⟩ = some (.int .i64 (W.nw k)) := (h.cell _).trans ((wC_get W _ (by omega)).trans (congrArg some (cW_nw W hk)))
theorem WAt.setRg (hk : k < 8) (v : Int) : WAt (w.setCell ⟨b, 32 + k, none⟩ (.int .i64 v)) b { W with rg := updN W.rg k v } := by rw [WAt, ← wC_rg W hk]; exact h.set _ _
theorem WAt.setRd (hk : k < 16) (v : Bool) : WAt (w.setCell ⟨b, 40 + k, none⟩ (.bool v)) b { W with rd := updN W.rd k v } := by rw [WAt, ← wC_rd W hk]; exact h.set _ _
theorem WAt.setWr (hk : k < 16) (v : Bool) : WAt (w.setCell ⟨b, 56 + k, none⟩ (.bool v)) b { W with wr := updN W.wr k v } := by rw [WAt, ← wC_wr W hk]; exact h.set _ _
theorem WAt.setNw (hk : k < 16) (v : Int) : WAt (w.setCell ⟨b, 72 + k, none⟩ (.int .i64 v)) b { W with nw := updN W.nw k v } := by rw [WAt, ← wC_nw W hk]; exact h.set _ _
end
theorem Blk.setRow {w : World} {g : Nat} {t : TypeId} {cs : Array Value} (h : Blk w g t cs) (cs' : Array Value) : Blk (w.setRow g cs') g t cs' := setRow_heap w g cs cs' t _ h
theorem Blk.setRow_far {w : World} {g b : Nat} {t : TypeId} {cs : Array Value} (h : Blk w b t cs) (hne : b ≠ g) (cs' : Array Value) : Blk (w.setRow g cs') b t cs := (setRow_other w g b cs' hne).trans h
theorem gr_setRow {w w' : World} {row : Option Nat} (h : w.grownBy w' row) {g : Nat} (hg : row = some g ∨ w.heap.size ≤ g) (cs : Array Value) : w.grownBy (w'.setRow g cs) row :=
  ⟨h.os, h.tape, h.output, by have := h.size; simpa [World.setRow] using this, fun k hk hne => by
    rw [setRow_other w' g k cs (by rcases hg with rfl | hg
                                   · exact fun e => hne (by rw [e])
                                   · omega)]
    exact h.block k hk hne⟩
theorem gr_setCells {w w' : World} {row : Option Nat} {g : Nat} (hg : w.heap.size ≤ g) : ∀ (vs : List Value) (o : Nat) {w' : World}, w.grownBy w' row → w.grownBy (w'.setCells g o vs) row
  | [], _, _, h => h
  | v :: vs, o, _, h => gr_setCells (w' := w') hg vs (o + 1) (gr_set h (.inr hg) v)
theorem Blk.setCells_far {g b : Nat} {t : TypeId} {cs : Array Value} (hne : b ≠ g) : ∀ (vs : List Value) (o : Nat) {w : World}, Blk w b t cs → Blk (w.setCells g o vs) b t cs
  | [], _, _, h => h
  | v :: vs, o, _, h => Blk.setCells_far hne vs (o + 1) (h.far (a := ⟨g, o, none⟩) hne v)
/-- Which cells were read: as another world has it, below m. -/
theorem WAt.setRds {w : World} {b : Nat} {W : RWd} (h : WAt w b W) (f : Nat → Bool) : ∀ (n o : Nat) {w : World} {W' : RWd}, o + n ≤ 16 → WAt w b W' → WAt (w.setCells b (40 + o) ((List.range n).map fun k => .bool (f (o + k)))) b { W' with rd := fun k => if o ≤ k ∧ k < o + n then f k else W'.rd k }
  | 0, o, w, W', _, h => by
    have e : (fun k => if o ≤ k ∧ k < o + 0 then f k else W'.rd k) = W'.rd := by funext k; rw [if_neg (by omega)]
    rw [e]
    exact h
  | n + 1, o, w, W', ho, h => by
    have h1 := WAt.setRds (W := W) ‹_› f n (o + 1) (by omega) (h.setRd (k := o) (by omega) (f o))
    rw [List.range_succ_eq_map, List.map_cons, List.map_map]
    have e : (fun k => if o ≤ k ∧ k < o + (n + 1) then f k else W'.rd k) = (fun k => if o + 1 ≤ k ∧ k < o + 1 + n then f k else updN W'.rd o (f o) k) := by
      funext k
      by_cases e1 : k = o
      · subst e1; rw [if_pos (by omega), if_neg (by omega), updN_same]
      · rw [updN_ne _ _ e1]
        by_cases e2 : o ≤ k ∧ k < o + (n + 1)
        · rw [if_pos e2, if_pos (by omega)]
        · rw [if_neg e2, if_neg (by omega)]
    rw [e]
    have e2 : (List.range n).map ((fun k => Value.bool (f (o + k))) ∘ Nat.succ) = (List.range n).map (fun k => Value.bool (f (o + 1 + k))) := by
      refine List.map_congr_left fun k _ => ?_
      show Value.bool (f (o + (k + 1))) = _
      rw [show o + (k + 1) = o + 1 + k by omega]
    rw [e2]
    exact h1
theorem wC_congr {W W' : RWd} (h1 : W.ve = W'.ve) (h2 : W.va = W'.va) (h3 : W.rg = W'.rg) (h4 : ∀ k, k < 16 → W.rd k = W'.rd k) (h5 : W.wr = W'.wr) (h6 : W.nw = W'.nw) : wC W = wC W' := by
  unfold wC
  congr 1
  refine List.map_congr_left fun i hi => ?_
  unfold cellW
  rw [h1, h2, h3, h5, h6]
  by_cases h : 40 ≤ i ∧ i < 56
  · rw [h4 (i - 40) (by omega)]
  · by_cases h7 : i < 40
    · simp only [h7, if_true]
      repeat' split
      all_goals first | rfl | omega
    · simp only [show ¬ i < 16 by omega, show ¬ i < 32 by omega, show ¬ i < 40 by omega, show ¬ i < 56 by omega, if_false]
def rdsC (f : Nat → Bool) : Array Value := ((List.range 16).map fun k => .bool (f k)).toArray
theorem rdsC_size (f : Nat → Bool) : (rdsC f).size = 16 := by simp [rdsC]
theorem rdsC_one (f : Nat → Bool) : (rdsC f).all (·.oneCell') = true := by
  refine Array.all_eq_true_iff_forall_mem.2 fun v hv => ?_
  unfold rdsC at hv
  rw [List.mem_toArray, List.mem_map] at hv
  obtain ⟨i, _, rfl⟩ := hv
  rfl
theorem WAt.rds {w : World} {b : Nat} {W : RWd} (h : WAt w b W) : w.rangeAt b 40 ((List.range 16).map fun k => .bool (W.rd k)) := by
  intro j v hv
  rw [List.getElem?_map] at hv
  by_cases hj : j < 16
  · rw [List.getElem?_range hj] at hv
    injection hv with hv
    rw [← hv]
    exact h.rd hj
  · rw [List.getElem?_eq_none_iff.2 (by simpa using hj)] at hv; cases hv
theorem WAt.there {w : World} {b : Nat} {W : RWd} (h : WAt w b W) (o n : Nat) (hn : o + n ≤ 88) : w.there b o n := fun j hj => ⟨by rw [h.cell, wC_get W _ (by omega)]; rfl, h.free _⟩
theorem WAt.putRds {w : World} {b : Nat} {W : RWd} (h : WAt w b W) (f : Nat → Bool) : WAt (w.setCells b 40 (rdsC f).toList) b { W with rd := f } := by
  have h1 := WAt.setRds h f 16 0 (by omega) h
  have e : wC { W with rd := fun k => if 0 ≤ k ∧ k < 0 + 16 then f k else W.rd k } = wC { W with rd := f } := wC_congr rfl rfl rfl (fun k hk => by show (if 0 ≤ k ∧ k < 0 + 16 then f k else W.rd k) = f k; rw [if_pos (by omega)]) rfl rfl
  unfold WAt at h1
  rw [e] at h1
  have e2 : (rdsC f).toList = (List.range 16).map fun k => Value.bool (f (0 + k)) := by
    unfold rdsC
    simp only [Nat.zero_add]
  rw [e2]
  exact h1
/-- A part's own two worlds. -/
structure PW (w wr : World) (b7 b9 : Nat) (W : RWd) : Prop where
  at_ : WAt wr b7 W
  z : ∃ old, Blk wr b9 TW old ∧ old.size = 88
  gr : w.grownBy wr none
  ne : b7 ≠ b9
  lo : w.heap.size ≤ b7 ∧ w.heap.size ≤ b9
section
variable {w wr : World} {b7 b9 : Nat} {W : RWd} (h : PW w wr b7 b9 W) {k : Nat}
include h
theorem PW.grown {w' : World} (hg : wr.grownBy w' none) : PW w w' b7 b9 W :=
  ⟨h.at_.grown hg (by simp), let ⟨o, a, b⟩ := h.z; ⟨o, a.grown hg (by simp), b⟩, h.gr.trans hg, h.ne, h.lo⟩
theorem PW.drew : PW w wr.drew b7 b9 W := h.grown (gr_drew (gr_refl wr none))
theorem PW.put {o : Nat} {v : Value} {W' : RWd} (hW : WAt (wr.setCell ⟨b7, o, none⟩ v) b7 W') : PW w (wr.setCell ⟨b7, o, none⟩ v) b7 b9 W' :=
  ⟨hW, let ⟨o', a, b⟩ := h.z; ⟨o', a.far (a := ⟨b7, o, none⟩) (fun e => h.ne e.symm) v, b⟩, gr_set h.gr (.inr h.lo.1) v, h.ne, h.lo⟩
theorem PW.setRg (hk : k < 8) (v : Int) : PW w (wr.setCell ⟨b7, 32 + k, none⟩ (.int .i64 v)) b7 b9 { W with rg := updN W.rg k v } := h.put (WAt.setRg h.at_ hk v)
theorem PW.setRd (hk : k < 16) (v : Bool) : PW w (wr.setCell ⟨b7, 40 + k, none⟩ (.bool v)) b7 b9 { W with rd := updN W.rd k v } := h.put (WAt.setRd h.at_ hk v)
theorem PW.setWr (hk : k < 16) (v : Bool) : PW w (wr.setCell ⟨b7, 56 + k, none⟩ (.bool v)) b7 b9 { W with wr := updN W.wr k v } := h.put (WAt.setWr h.at_ hk v)
theorem PW.setNw (hk : k < 16) (v : Int) : PW w (wr.setCell ⟨b7, 72 + k, none⟩ (.int .i64 v)) b7 b9 { W with nw := updN W.nw k v } := h.put (WAt.setNw h.at_ hk v)
theorem PW.row (W' : RWd) : PW w (wr.setRow b7 (wC W')) b7 b9 W' :=
  ⟨Blk.setRow h.at_ _, let ⟨o, a, b⟩ := h.z; ⟨o, a.setRow_far (fun e => h.ne e.symm) _, b⟩, gr_setRow h.gr (.inr h.lo.1) _, h.ne, h.lo⟩
theorem PW.rowZ (W' : RWd) : PW w (wr.setRow b9 (wC W')) b7 b9 W :=
  ⟨Blk.setRow_far h.at_ h.ne _, let ⟨_, a, _⟩ := h.z; ⟨_, a.setRow _, wC_size _⟩, gr_setRow h.gr (.inr h.lo.2) _, h.ne, h.lo⟩
theorem PW.ret (W' : RWd) : Blk (wr.setRow b9 (wC W')) b9 TW (wC W') ∧ w.grownBy (wr.setRow b9 (wC W')) none :=
  ⟨let ⟨_, a, _⟩ := h.z; a.setRow _, gr_setRow h.gr (.inr h.lo.2) _⟩
end
theorem results_tmp_row {P : Program} {fn : Func} {u p : Tmp} {ty : TypeId} (h : fn.results = #[.tmp u, .cell p ty]) (tmps : Array Value) (w : World) (g : Nat) (t : TypeId) (cs : Array Value) (fr : Nat × Nat) (d : TypeDesc)
    (hp : tmps.getD p undef = .pointer (some ⟨g, 0, none⟩)) (hg : w.heap[g]? = some (.cells cs t fr))
    (hu : P.underlying ty = some d) (hd : (match d with | .struct _ | .array _ _ => true | _ => false) = true) (hi : (P.info? ty).map (·.size) = some cs.size) :
    (results fn tmps).run P w = .ok (.tuple #[tmps.getD u undef, .agg cs]) w := by
  have hp' : tmps[p]?.getD undef = .pointer (some ⟨g, 0, none⟩) := by simpa using hp
  simp [results, h, Sem.run_bind, hp', asAddr, run_loadVar_row w g t ty cs fr d hg hu hd hi]
theorem sizeWC0 (W : RWd) : (Try.prog.info? TW).map (·.size) = some (wC W).size := by rw [wC_size]; exact sizeW
theorem run_load_W {w : World} {b : Nat} {W : RWd} (h : WAt w b W) : (Instr.loadAt TW (.pointer (some ⟨b, 0, none⟩))).run Try.prog w = .ok (.agg (wC W)) w := by
  simp only [Instr.loadAt, Instr.sureAddr, Sem.run_bind, Sem.run_pure, Result.andThen_ok, run_loadVar_row w b TW TW (wC W) _ _ h Try.underlying47 rfl (sizeWC0 W)]
theorem sizeWC (W : RWd) : (Try.prog.info? TW).map (·.size) = some (wC W).size := by rw [wC_size]; exact sizeW
set_option maxHeartbeats 1600000 in
theorem wvalue_c (w : World) (W : RWd) (kc : Nat) (hk : kc < 16) : Calls Try.prog 48 #[.agg (wC W), .int .i64 (kc : Int)] w fun e w' => e = .returned (.int .i64 (W.val kc)) ∧ w.grownBy w' none := by
  have HB := As.mk (Blk.new w TW (wC W))
  have HG := As.mk (gr_alloc (gr_refl w none) (.cells (wC W) TW))
  have hkI : (kc : Int) < 16 := by omega
  have hk0 : (0 : Int) ≤ (kc : Int) := by omega
  have hv : W.val kc = if W.wr kc then W.nw kc else W.va kc := rfl
  go_enter Try.func48, Try.ntmps48
  generalize W.val kc = r at *
  have c1 := WAt.wr HB.out hk
  have c2 := WAt.nw HB.out hk
  have c3 := WAt.va HB.out hk
  cases hb : W.wr kc with
  | true =>
    rw [hb] at c1 hv
    have HV := As.mk (show r = W.nw kc from hv)
    clear hv
    go_wp2_with fail
    go_ret
    exact ⟨congrArg (fun x => Ending.returned (.int .i64 x)) HV.out.symm, HG.out⟩
  | false =>
    rw [hb] at c1 hv
    have HV := As.mk (show r = W.va kc from hv)
    clear hv
    go_wp2_with fail
    go_ret
    exact ⟨congrArg (fun x => Ending.returned (.int .i64 x)) HV.out.symm, HG.out⟩
theorem sizeRd (f : Nat → Bool) : (Try.prog.info? 45).map (·.size) = some ((List.range 16).map fun k => Value.bool (f k)).length := by
  rw [List.length_map, List.length_range]; kernel_rfl
theorem sizeRd' (f : Nat → Bool) : (Try.prog.info? 45).map (·.size) = some (rdsC f).size := by
  rw [rdsC_size]; kernel_rfl
end
end Go.Proofs.Ytgmhopkajopfcaa
