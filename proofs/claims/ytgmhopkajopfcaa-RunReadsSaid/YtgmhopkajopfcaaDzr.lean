/- A run that is driven: what it asks for; one that has all of it ahead. Plain Lean. Driving a run: versioned, Drive, Regs. Driving a run in memory. An array of sixteen ints, as an argument. The walk of RunAhead. Plain: a sorted list without repeats is known by what it holds. The walk of prog's Cells, by the library's sort and compact. The walk of RunReads. -/
import Derived.Test.YtgmhopkajopfcaaSd
import Derived.Test.YtgmhopkajopfcaaRop
import Derived.Test.YtgmhopkajopfcaaPo
import Derived.Lib.SlicesCompact
import Derived.Lib.RowBridge
import Derived.Test.YtgmhopkajopfcaaPuk
import Derived.Test.YtgmhopkajopfcaaNs
import Derived.Test.YtgmhopkajopfcaaSb
import Derived.Test.YtgmhopkajopfcaaPpa
import Derived.Sort.OwnSortedInts
import Derived.Lib.OwnBridge
namespace Go.Proofs.Ytgmhopkajopfcaa
section
set_option linter.unusedVariables false
set_option linter.unusedSimpArgs false

theorem stepR_ind2 {l : List POp} {x : POp} {s : RS} (P : Int × Int × RS → Prop) (h0 : ∀ b t, t.rd = s.rd → t.tk = s.tk → P (0, b, t)) (h1 : (x.k = 1 ∨ x.k = 2) → (s.rd.2 x.c).isSome = false → P (1, x.c, s)) (h2 : x.k = 9 → s.tk x.c.toNat = false → P (2, x.c, s)) (h3 : P (3, 0, s)) (h4 : P (4, 0, s)) : P (stepR l x s) := by
  unfold stepR
  by_cases k1 : x.k = 1
  · rw [if_pos k1]
    cases hv : valF s.rd s.lv x.c with
    | none => exact h1 (.inl k1) (by rw [← valF_some s.rd s.lv, hv]; rfl)
    | some v => exact h0 _ _ rfl rfl
  rw [if_neg k1]
  by_cases k2 : x.k = 2
  · rw [if_pos k2]
    by_cases hv : (s.rd.2 x.c).isSome = true
    · rw [if_pos hv]; exact h0 _ _ rfl rfl
    · rw [if_neg hv]; exact h1 (.inr k2) (by simpa using hv)
  rw [if_neg k2]
  by_cases k9 : x.k = 9
  · rw [if_pos k9]
    by_cases hv : s.tk x.c.toNat = true
    · rw [if_pos hv]; exact h0 _ _ rfl rfl
    · rw [if_neg hv]; exact h2 k9 (by simpa using hv)
  rw [if_neg k9]
  by_cases k3 : x.k = 3
  · rw [if_pos k3]; exact h0 _ _ rfl rfl
  rw [if_neg k3]
  by_cases k4 : x.k = 4
  · rw [if_pos k4]; exact h0 _ _ rfl rfl
  rw [if_neg k4]
  by_cases k5 : x.k = 5
  · rw [if_pos k5]; exact h0 _ _ rfl rfl
  rw [if_neg k5]
  by_cases k10 : x.k = 10
  · rw [if_pos k10]; exact h0 _ _ rfl rfl
  rw [if_neg k10]
  by_cases k11 : x.k = 11
  · rw [if_pos k11]
    cases s.cho.getLast? with
    | none => exact h0 _ _ rfl rfl
    | some q => exact h0 _ _ rfl rfl
  rw [if_neg k11]
  by_cases k8 : x.k = 8
  · rw [if_pos k8]; exact h4
  rw [if_neg k8]
  by_cases k7 : x.k = 7 ∨ (x.k = 6 ∧ s.rg x.r.toNat = 0)
  · rw [if_pos k7]
    cases s.cho.getLast? with
    | none => exact h3
    | some q => exact h0 _ _ rfl rfl
  rw [if_neg k7]
  exact h0 _ _ rfl rfl
/-- What a run asks for is a cell of its program, and not yet there. -/
def Asks (l : List POp) (s : RS) (r : Int × Int × RS) : Prop :=
  (r.1 = 1 → (0 ≤ r.2.1 ∧ r.2.1 ≤ 15) ∧ (s.rd.2 r.2.1).isSome = false ∧ ∃ x ∈ l, x.c = r.2.1 ∧ (x.k = 1 ∨ x.k = 2)) ∧ (r.1 = 2 → (0 ≤ r.2.1 ∧ r.2.1 ≤ 15) ∧ s.tk r.2.1.toNat = false)
theorem goR_asks {l : List POp} (hr : pRight l = true) (s : RS) : Asks l s (goR l 40 s) :=
  goR_ind (Asks l s) 40 s (fun t h1 h2 => ⟨⟨by simp, by simp⟩, fun x hx _ => by
    have hm := List.mem_of_getElem? hx
    have hb := (opRight_bd ((pRight_all hr).2.1 x hm)).2.1
    refine stepR_ind2 (Asks l s) (fun b t _ _ => ⟨by simp, by simp⟩) (fun hk hv => ⟨fun _ => ⟨hb, by rw [← h1]; exact hv, x, hm, rfl, hk⟩, by simp⟩) (fun hk hv => ⟨by simp, fun _ => ⟨hb, by rw [← h2]; exact hv⟩⟩) ⟨by simp, by simp⟩ ⟨by simp, by simp⟩⟩)
/-- t is s, but for what it was given besides. -/
structure Sim (s t : RS) : Prop where
  eq : t = { s with rd := t.rd, tk := t.tk }
  sub : ∀ c p, s.rd.2 c = some p → t.rd.2 c = some p
  tk : ∀ k, s.tk k = true → t.tk k = true
theorem Sim.val {s t : RS} (h : Sim s t) {c v : Int} (hv : valF s.rd s.lv c = some v) : valF t.rd s.lv c = some v := by
  unfold valF at hv ⊢
  cases hp : s.rd.2 c with
  | none => rw [hp] at hv; cases hv
  | some p => rw [hp] at hv; rw [h.sub c p hp]; exact hv
theorem Sim.isS {s t : RS} (h : Sim s t) {c : Int} (hv : (s.rd.2 c).isSome = true) : (t.rd.2 c).isSome = true := by
  obtain ⟨p, hp⟩ := Option.isSome_iff_exists.1 hv
  rw [h.sub c p hp]; rfl
theorem Sim.wri {s t : RS} (h : Sim s t) {c a : Int} (hv : (s.rd.2 c).isSome = true) : wriL t.rd s.lv c a = wriL s.rd s.lv c a := by
  have h2 := h.isS hv
  unfold wriL wriE
  rw [hv, h2]
/-- A step that goes on. -/
theorem Sim.step {l : List POp} {x : POp} {s t : RS} (h : Sim s t) (h0 : (stepR l x s).1 = 0) : (stepR l x t).1 = 0 ∧ Sim (stepR l x s).2.2 (stepR l x t).2.2 ∧ (stepR l x t).2.2.rd = t.rd ∧ (stepR l x t).2.2.tk = t.tk := by
  have hval := @Sim.val s t h
  have hsm := @Sim.isS s t h
  have hwr := @Sim.wri s t h
  obtain ⟨e, hsub, htk⟩ := h
  generalize t.rd = tr at *
  generalize t.tk = tt at *
  subst e
  have go : ∀ (u : RS), u.rd = s.rd → u.tk = s.tk → Sim u { u with rd := tr, tk := tt } := fun u h1 h2 => ⟨rfl, by rw [h1]; exact hsub, by rw [h2]; exact htk⟩
  unfold stepR at h0 ⊢
  dsimp only at h0 ⊢
  by_cases k1 : x.k = 1
  · simp only [if_pos k1] at h0 ⊢
    cases hv : valF s.rd s.lv x.c with
    | none => rw [hv] at h0; cases h0
    | some v => rw [hval hv]; exact ⟨by trivial, go _ rfl rfl, by trivial, by trivial⟩
  simp only [if_neg k1] at h0 ⊢
  by_cases k2 : x.k = 2
  · simp only [if_pos k2] at h0 ⊢
    by_cases hv : (s.rd.2 x.c).isSome = true
    · simp only [if_pos hv, if_pos (hsm hv)]
      rw [hwr hv]
      exact ⟨by trivial, go _ rfl rfl, by trivial, by trivial⟩
    · rw [if_neg hv] at h0; cases h0
  simp only [if_neg k2] at h0 ⊢
  by_cases k9 : x.k = 9
  · simp only [if_pos k9] at h0 ⊢
    by_cases hv : s.tk x.c.toNat = true
    · simp only [if_pos hv, if_pos (htk _ hv)]; exact ⟨by trivial, go _ rfl rfl, by trivial, by trivial⟩
    · rw [if_neg hv] at h0; cases h0
  simp only [if_neg k9] at h0 ⊢
  by_cases k3 : x.k = 3
  · simp only [if_pos k3]; exact ⟨by trivial, go _ rfl rfl, by trivial, by trivial⟩
  simp only [if_neg k3] at h0 ⊢
  by_cases k4 : x.k = 4
  · simp only [if_pos k4]; exact ⟨by trivial, go _ rfl rfl, by trivial, by trivial⟩
  simp only [if_neg k4] at h0 ⊢
  by_cases k5 : x.k = 5
  · simp only [if_pos k5]; exact ⟨by trivial, go _ rfl rfl, by trivial, by trivial⟩
  simp only [if_neg k5] at h0 ⊢
  by_cases k10 : x.k = 10
  · simp only [if_pos k10]; exact ⟨by trivial, go _ rfl rfl, by trivial, by trivial⟩
  simp only [if_neg k10] at h0 ⊢
  by_cases k11 : x.k = 11
  · simp only [if_pos k11]
    cases s.cho.getLast? with
    | none => exact ⟨by trivial, go _ rfl rfl, by trivial, by trivial⟩
    | some q => exact ⟨by trivial, go _ rfl rfl, by trivial, by trivial⟩
  simp only [if_neg k11] at h0 ⊢
  by_cases k8 : x.k = 8
  · rw [if_pos k8] at h0; cases h0
  simp only [if_neg k8] at h0 ⊢
  by_cases k7 : x.k = 7 ∨ (x.k = 6 ∧ s.rg x.r.toNat = 0)
  · simp only [if_pos k7] at h0 ⊢
    cases hq : s.cho.getLast? with
    | none => rw [hq] at h0; cases h0
    | some q => exact ⟨by trivial, go _ rfl rfl, by trivial, by trivial⟩
  simp only [if_neg k7]
  exact ⟨by trivial, go _ rfl rfl, by trivial, by trivial⟩
/-- A step that comes to something. -/
theorem Sim.stop {l : List POp} {x : POp} {s t : RS} (h : Sim s t) (h3 : 3 ≤ (stepR l x s).1) : stepR l x t = ((stepR l x s).1, 0, t) := by
  obtain ⟨e, hsub, htk⟩ := h
  generalize t.rd = tr at *
  generalize t.tk = tt at *
  subst e
  unfold stepR at h3 ⊢
  dsimp only at h3 ⊢
  by_cases k1 : x.k = 1
  · simp only [if_pos k1] at h3
    cases hv : valF s.rd s.lv x.c <;> rw [hv] at h3 <;> simp at h3
  simp only [if_neg k1] at h3 ⊢
  by_cases k2 : x.k = 2
  · simp only [if_pos k2] at h3
    by_cases hv : (s.rd.2 x.c).isSome = true
    · rw [if_pos hv] at h3; simp at h3
    · rw [if_neg hv] at h3; simp at h3
  simp only [if_neg k2] at h3 ⊢
  by_cases k9 : x.k = 9
  · simp only [if_pos k9] at h3
    by_cases hv : s.tk x.c.toNat = true
    · rw [if_pos hv] at h3; simp at h3
    · rw [if_neg hv] at h3; simp at h3
  simp only [if_neg k9] at h3 ⊢
  by_cases k3 : x.k = 3
  · simp only [if_pos k3] at h3; simp at h3
  simp only [if_neg k3] at h3 ⊢
  by_cases k4 : x.k = 4
  · simp only [if_pos k4] at h3; simp at h3
  simp only [if_neg k4] at h3 ⊢
  by_cases k5 : x.k = 5
  · simp only [if_pos k5] at h3; simp at h3
  simp only [if_neg k5] at h3 ⊢
  by_cases k10 : x.k = 10
  · simp only [if_pos k10] at h3; simp at h3
  simp only [if_neg k10] at h3 ⊢
  by_cases k11 : x.k = 11
  · simp only [if_pos k11] at h3
    cases hq : s.cho.getLast? <;> rw [hq] at h3 <;> simp at h3
  simp only [if_neg k11] at h3 ⊢
  by_cases k8 : x.k = 8
  · simp only [if_pos k8]
  simp only [if_neg k8] at h3 ⊢
  by_cases k7 : x.k = 7 ∨ (x.k = 6 ∧ s.rg x.r.toNat = 0)
  · simp only [if_pos k7] at h3 ⊢
    cases hq : s.cho.getLast? with
    | none => rfl
    | some q => rw [hq] at h3; simp at h3
  simp only [if_neg k7] at h3
  simp at h3
theorem Sim.riv {l : List POp} {s t : RS} (h : Sim s t) (hi : RIv l s) : RIv l t := by
  rw [h.eq]
  exact ⟨hi.ex, hi.le, hi.lv⟩
theorem Sim.at_ {s t : RS} (h : Sim s t) : t.at_ = s.at_ := by rw [h.eq]
theorem Sim.rg {s t : RS} (h : Sim s t) : t.rg = s.rg := by rw [h.eq]
theorem Sim.lv {s t : RS} (h : Sim s t) : t.lv = s.lv := by rw [h.eq]
/-- One that asks goes as far as what it asks for; where it comes to something, the other does too. -/
theorem sim_go {l : List POp} (hr : pRight l = true) : ∀ (n : Nat) (s t : RS), l.length - s.at_ ≤ n → RIv l s → Sim s t →
    RIv l (goR l 40 s).2.2 ∧ ∃ t1, Sim (goR l 40 s).2.2 t1 ∧ t1.rd = t.rd ∧ t1.tk = t.tk ∧ goR l 40 t = goR l 40 t1 ∧ (3 ≤ (goR l 40 s).1 → goR l 40 t = ((goR l 40 s).1, 0, t1)) := by
  intro n
  induction n with
  | zero =>
    intro s t hn hi hs
    have h1 : l[s.at_]? = none := List.getElem?_eq_none_iff.2 (by omega)
    have h2 : l[t.at_]? = none := by rw [hs.at_]; exact h1
    rw [goR_done h1]
    exact ⟨hi, t, hs, rfl, rfl, rfl, fun _ => goR_done h2⟩
  | succ n ih =>
    intro s t hn hi hs
    cases hx : l[s.at_]? with
    | none =>
      have h2 : l[t.at_]? = none := by rw [hs.at_]; exact hx
      rw [goR_done hx]
      exact ⟨hi, t, hs, rfl, rfl, rfl, fun _ => goR_done h2⟩
    | some x =>
      have hx2 : l[t.at_]? = some x := by rw [hs.at_]; exact hx
      by_cases h0 : (stepR l x s).1 = 0
      · obtain ⟨g1, g2, g3, g4⟩ := hs.step (l := l) h0
        obtain ⟨i1, i2⟩ := hi.step hr hx h0
        have hlt := (List.getElem?_eq_some_iff.1 hx).1
        rw [goR_step hr hi hx h0, goR_step hr (hs.riv hi) hx2 g1]
        obtain ⟨j1, t1, j2, j3, j4, j5, j6⟩ := ih _ _ (by have := i1.le; omega) i1 g2
        exact ⟨j1, t1, j2, j3.trans g3, j4.trans g4, j5, j6⟩
      · have e := goR_stop (s := s) hx h0
        have st := (stepR_stay h0).1
        rw [e, st]
        refine ⟨hi, t, hs, rfl, rfl, rfl, fun h3 => ?_⟩
        have e2 := hs.stop (l := l) h3
        rw [goR_stop hx2 (by rw [e2]; omega), e2]
/-- How a run is driven: what it asks for it is given. -/
inductive Drives (l : List POp) (ve va : Nat → Int) (s0 : RS) : Nat → RS → Prop
  | start : Drives l ve va s0 0 s0
  | give {n : Nat} {s : RS} : Drives l ve va s0 n s → (goR l 40 s).1 = 1 → Drives l ve va s0 (n + 1) { (goR l 40 s).2.2 with rd := sawR (goR l 40 s).2.2.rd (goR l 40 s).2.1 (ve (goR l 40 s).2.1.toNat) (va (goR l 40 s).2.1.toNat) }
  | take {n : Nat} {s : RS} : Drives l ve va s0 n s → (goR l 40 s).1 = 2 → Drives l ve va s0 (n + 1) { (goR l 40 s).2.2 with tk := updN (goR l 40 s).2.2.tk (goR l 40 s).2.1.toNat true }
def VerOk (ve : Nat → Int) : Prop := ∀ k, k < 16 → 0 ≤ ve k ∧ ve k ≤ 1099511627776
theorem sawE_new {rd : Rd} {c v : Int} (hc : 0 ≤ c ∧ c ≤ 15) (hv : 0 ≤ v ∧ v ≤ 1099511627776) (hn : (rd.2 c).isSome = false) : sawE rd c v = 0 := by
  unfold sawE
  rw [if_neg (by rw [cellOk_in hc]; simp; omega), hn]
  rfl
theorem sawR_new {rd : Rd} {c v a : Int} (hc : 0 ≤ c ∧ c ≤ 15) (hv : 0 ≤ v ∧ v ≤ 1099511627776) (hn : (rd.2 c).isSome = false) : sawR rd c v a = (rd.1 + 1, updF rd.2 c (v, a)) := by
  unfold sawR
  rw [if_pos (sawE_new hc hv hn)]
def cntN (f : Nat → Bool) : Nat := ((List.range 16).filter f).length
theorem cnt_le (f : Nat → Bool) : cntN f ≤ 16 := by
  have := List.length_filter_le f (List.range 16)
  rw [List.length_range] at this
  exact this
theorem cnt_upd {f g : Nat → Bool} {c : Nat} (hf : f c = false) (hg : g c = true) (h : ∀ k, k ≠ c → g k = f k) : ∀ m, ((List.range m).filter g).length = ((List.range m).filter f).length + if c < m then 1 else 0
  | 0 => by simp
  | m + 1 => by
    rw [List.range_succ, List.filter_append, List.filter_append, List.length_append, List.length_append, cnt_upd hf hg h m]
    by_cases e : m = c
    · subst e
      simp [hf, hg]
    · have := h m e
      simp only [List.filter_cons, List.filter_nil, this]
      by_cases h1 : c < m
      · rw [if_pos h1, if_pos (show c < m + 1 by omega)]; omega
      · rw [if_neg h1, if_neg (show ¬ c < m + 1 by omega)]; omega
theorem cnt_put {f g : Nat → Bool} {c : Nat} (hc : c < 16) (hf : f c = false) (hg : g c = true) (h : ∀ k, k ≠ c → g k = f k) : cntN g = cntN f + 1 := by
  have := cnt_upd hf hg h 16
  rw [if_pos hc] at this
  exact this
def hasN (rd : Rd) : Nat → Bool := fun k => (rd.2 (k : Int)).isSome
theorem updF_same {α : Type} (f : Int → Option α) (c : Int) (v : α) : updF f c v c = some v := by simp [updF]
theorem updF_ne {α : Type} (f : Int → Option α) {c x : Int} (v : α) (h : x ≠ c) : updF f c v x = f x := by simp [updF, h]
theorem saw_has {rd : Rd} {c v a : Int} (hc : 0 ≤ c ∧ c ≤ 15) (hv : 0 ≤ v ∧ v ≤ 1099511627776) (hn : (rd.2 c).isSome = false) : hasN (sawR rd c v a) = updN (hasN rd) c.toNat true := by
  rw [sawR_new hc hv hn]
  funext k
  unfold hasN
  by_cases e : k = c.toNat
  · subst e
    rw [updN_same, show ((c.toNat : Nat) : Int) = c by omega]
    show (updF rd.2 c (v, a) c).isSome = true
    rw [updF_same]; rfl
  · rw [updN_ne _ _ e]
    show (updF rd.2 c (v, a) k).isSome = _
    rw [updF_ne _ _ (by omega)]
/-- What a run that was driven has, and how often it asked. -/
structure Drv (l : List POp) (ve va : Nat → Int) (n : Nat) (s : RS) : Prop where
  riv : RIv l s
  rd : ∀ c p, s.rd.2 c = some p → (0 ≤ c ∧ c ≤ 15) ∧ p = (ve c.toNat, va c.toNat) ∧ ∃ x ∈ l, x.c = c ∧ (x.k = 1 ∨ x.k = 2)
  cnt : n = cntN (hasN s.rd) + cntN s.tk
theorem Drv.start {l : List POp} {ve va : Nat → Int} {s0 : RS} (hi : RIv l s0) (hr : ∀ c, s0.rd.2 c = none) (ht : ∀ k, s0.tk k = false) : Drv l ve va 0 s0 := by
  have h1 : hasN s0.rd = fun _ => false := by funext k; unfold hasN; rw [hr]; rfl
  have h2 : s0.tk = fun _ => false := by funext k; exact ht k
  refine ⟨hi, fun c p h => ?_, ?_⟩
  · rw [hr] at h; cases h
  · rw [h1, h2]; rfl
theorem Sim.refl (s : RS) : Sim s s := ⟨rfl, fun _ _ h => h, fun _ h => h⟩
theorem goR_riv {l : List POp} (hr : pRight l = true) {s : RS} (hi : RIv l s) : RIv l (goR l 40 s).2.2 := (sim_go hr _ s s (Nat.le_refl _) hi (Sim.refl s)).1
theorem Drv.give {l : List POp} (hr : pRight l = true) {ve va : Nat → Int} (hv : VerOk ve) {n : Nat} {s : RS} (h : Drv l ve va n s) (h1 : (goR l 40 s).1 = 1) : Drv l ve va (n + 1) { (goR l 40 s).2.2 with rd := sawR (goR l 40 s).2.2.rd (goR l 40 s).2.1 (ve (goR l 40 s).2.1.toNat) (va (goR l 40 s).2.1.toNat) } := by
  obtain ⟨a1, a2, x, a3, a4, a5⟩ := (goR_asks hr s).1 h1
  obtain ⟨r1, r2⟩ := goR_rd l 40 s
  have hri := goR_riv hr h.riv
  have hve := hv (goR l 40 s).2.1.toNat (by omega)
  refine ⟨hri.rd _, fun c p hp => ?_, ?_⟩
  · have hp : (sawR (goR l 40 s).2.2.rd (goR l 40 s).2.1 (ve (goR l 40 s).2.1.toNat) (va (goR l 40 s).2.1.toNat)).2 c = some p := hp
    rw [r1, sawR_new a1 hve a2] at hp
    have hp : updF s.rd.2 (goR l 40 s).2.1 (ve (goR l 40 s).2.1.toNat, va (goR l 40 s).2.1.toNat) c = some p := hp
    by_cases e : c = (goR l 40 s).2.1
    · subst e
      rw [updF_same] at hp
      injection hp with hp
      exact ⟨a1, hp.symm, x, a3, a4, a5⟩
    · rw [updF_ne _ _ e] at hp
      exact h.rd c p hp
  · show n + 1 = cntN (hasN (sawR _ _ _ _)) + cntN (goR l 40 s).2.2.tk
    rw [r1, r2, saw_has a1 hve a2, cnt_put (f := hasN s.rd) (c := (goR l 40 s).2.1.toNat) (by omega) (by unfold hasN; rw [show (((goR l 40 s).2.1.toNat : Nat) : Int) = (goR l 40 s).2.1 by omega]; exact a2) (updN_same _ _ _) (fun k hk => updN_ne _ _ hk)]
    have := h.cnt
    omega
theorem Drv.take {l : List POp} (hr : pRight l = true) {ve va : Nat → Int} {n : Nat} {s : RS} (h : Drv l ve va n s) (h1 : (goR l 40 s).1 = 2) : Drv l ve va (n + 1) { (goR l 40 s).2.2 with tk := updN (goR l 40 s).2.2.tk (goR l 40 s).2.1.toNat true } := by
  obtain ⟨a1, a2⟩ := (goR_asks hr s).2 h1
  obtain ⟨r1, r2⟩ := goR_rd l 40 s
  refine ⟨(goR_riv hr h.riv).tk _, fun c p hp => ?_, ?_⟩
  · have hp : (goR l 40 s).2.2.rd.2 c = some p := hp
    rw [r1] at hp
    exact h.rd c p hp
  · show n + 1 = cntN (hasN (goR l 40 s).2.2.rd) + cntN (updN (goR l 40 s).2.2.tk _ true)
    rw [r1, r2, cnt_put (f := s.tk) (c := (goR l 40 s).2.1.toNat) (by omega) a2 (updN_same _ _ _) (fun k hk => updN_ne _ _ hk)]
    have := h.cnt
    omega
theorem Drives.drv {l : List POp} (hr : pRight l = true) {ve va : Nat → Int} (hv : VerOk ve) {s0 : RS} (h0 : Drv l ve va 0 s0) {n : Nat} {s : RS} (h : Drives l ve va s0 n s) : Drv l ve va n s := by
  induction h with
  | start => exact h0
  | give _ h1 ih => exact ih.give hr hv h1
  | take _ h1 ih => exact ih.take hr h1
theorem Drv.le {l : List POp} {ve va : Nat → Int} {n : Nat} {s : RS} (h : Drv l ve va n s) : n ≤ 32 := by
  have := h.cnt
  have := cnt_le (hasN s.rd)
  have := cnt_le s.tk
  omega
/-- Given all there is. -/
structure Full (ve va : Nat → Int) (t : RS) : Prop where
  rd : ∀ c : Int, 0 ≤ c ∧ c ≤ 15 → t.rd.2 c = some (ve c.toNat, va c.toNat)
  tk : ∀ k, k < 16 → t.tk k = true
theorem Drives.sim {l : List POp} (hr : pRight l = true) {ve va : Nat → Int} (hv : VerOk ve) {s0 : RS} (h0 : Drv l ve va 0 s0) {t : RS} (ht : Full ve va t) (hs : Sim s0 t) {n : Nat} {s : RS} (h : Drives l ve va s0 n s) :
    ∃ t1, Sim s t1 ∧ t1.rd = t.rd ∧ t1.tk = t.tk ∧ goR l 40 t = goR l 40 t1 := by
  induction h with
  | start => exact ⟨t, hs, rfl, rfl, rfl⟩
  | @give n s hre h1 ih =>
    obtain ⟨t1, g1, g2, g3, g4⟩ := ih
    have hd := hre.drv hr hv h0
    obtain ⟨_, t2, j1, j2, j3, j4, _⟩ := sim_go hr _ s t1 (Nat.le_refl _) hd.riv g1
    obtain ⟨a1, a2, x, a3, a4, a5⟩ := (goR_asks hr s).1 h1
    obtain ⟨r1, r2⟩ := goR_rd l 40 s
    refine ⟨t2, ⟨?_, fun c p hp => ?_, j1.tk⟩, j2.trans g2, j3.trans g3, g4.trans j4⟩
    · have e := j1.eq
      exact e
    · have hp : (sawR (goR l 40 s).2.2.rd (goR l 40 s).2.1 (ve (goR l 40 s).2.1.toNat) (va (goR l 40 s).2.1.toNat)).2 c = some p := hp
      rw [r1, sawR_new a1 (hv _ (by omega)) a2] at hp
      have hp : updF s.rd.2 (goR l 40 s).2.1 (ve (goR l 40 s).2.1.toNat, va (goR l 40 s).2.1.toNat) c = some p := hp
      by_cases e : c = (goR l 40 s).2.1
      · subst e
        rw [updF_same] at hp
        rw [← hp, j2, g2]
        exact ht.rd _ a1
      · rw [updF_ne _ _ e] at hp
        exact j1.sub c p (by rw [r1]; exact hp)
  | @take n s hre h1 ih =>
    obtain ⟨t1, g1, g2, g3, g4⟩ := ih
    have hd := hre.drv hr hv h0
    obtain ⟨_, t2, j1, j2, j3, j4, _⟩ := sim_go hr _ s t1 (Nat.le_refl _) hd.riv g1
    obtain ⟨a1, a2⟩ := (goR_asks hr s).2 h1
    refine ⟨t2, ⟨?_, j1.sub, fun k hk => ?_⟩, j2.trans g2, j3.trans g3, g4.trans j4⟩
    · exact j1.eq
    · have hk : updN (goR l 40 s).2.2.tk (goR l 40 s).2.1.toNat true k = true := hk
      by_cases e : k = (goR l 40 s).2.1.toNat
      · rw [j3, g3, e]
        exact ht.tk _ (by omega)
      · rw [updN_ne _ _ e] at hk
        exact j1.tk k hk
/-- RunAhead: both come to the same. -/
theorem ahead {l : List POp} (hr : pRight l = true) {ve va : Nat → Int} (hv : VerOk ve) {s0 : RS} (h0 : Drv l ve va 0 s0) {t : RS} (ht : Full ve va t) (hs : Sim s0 t) {n : Nat} {s : RS} (h : Drives l ve va s0 n s) (h3 : 3 ≤ (goR l 40 s).1) :
    (goR l 40 t).1 = (goR l 40 s).1 ∧ (goR l 40 t).2.1 = 0 ∧ (goR l 40 t).2.2.rg = (goR l 40 s).2.2.rg ∧ (goR l 40 t).2.2.rd = t.rd ∧ (goR l 40 t).2.2.lv = (goR l 40 s).2.2.lv ∧ (∀ c p, (goR l 40 s).2.2.rd.2 c = some p → t.rd.2 c = some p) := by
  obtain ⟨t1, g1, g2, g3, g4⟩ := h.sim hr hv h0 ht hs
  have hd := h.drv hr hv h0
  obtain ⟨_, t2, j1, j2, j3, j4, j5⟩ := sim_go hr _ s t1 (Nat.le_refl _) hd.riv g1
  have e : goR l 40 t = ((goR l 40 s).1, 0, t2) := g4.trans (j5 h3)
  rw [e]
  refine ⟨rfl, rfl, j1.rg, j2.trans g2, j1.lv, fun c p hp => ?_⟩
  rw [← g2, ← j2]
  exact j1.sub c p hp
end
section
open Go.RowKit Go.Maps
set_option linter.unusedVariables false
set_option linter.unusedSimpArgs false
set_option maxRecDepth 100000

def a16C (f : Nat → Int) : Array Value := #[.int .i64 (f 0), .int .i64 (f 1), .int .i64 (f 2), .int .i64 (f 3), .int .i64 (f 4), .int .i64 (f 5), .int .i64 (f 6), .int .i64 (f 7), .int .i64 (f 8), .int .i64 (f 9), .int .i64 (f 10), .int .i64 (f 11), .int .i64 (f 12), .int .i64 (f 13), .int .i64 (f 14), .int .i64 (f 15)]
theorem a16_get (f : Nat → Int) : ∀ k, k < 16 → (a16C f)[k]? = some (.int .i64 (f k))
  | 0, _ => rfl
  | 1, _ => rfl
  | 2, _ => rfl
  | 3, _ => rfl
  | 4, _ => rfl
  | 5, _ => rfl
  | 6, _ => rfl
  | 7, _ => rfl
  | 8, _ => rfl
  | 9, _ => rfl
  | 10, _ => rfl
  | 11, _ => rfl
  | 12, _ => rfl
  | 13, _ => rfl
  | 14, _ => rfl
  | 15, _ => rfl
  | k + 16, h => by omega
theorem run_index_a16 {w : World} (f : Nat → Int) : ∀ k : Nat, k < 16 → (Instr.index 23 (.agg (a16C f)) (.int .i64 (k : Int))).run Try.prog w = .ok (.int .i64 (f k)) w
  | 0, _ => by kernel_rfl
  | 1, _ => by kernel_rfl
  | 2, _ => by kernel_rfl
  | 3, _ => by kernel_rfl
  | 4, _ => by kernel_rfl
  | 5, _ => by kernel_rfl
  | 6, _ => by kernel_rfl
  | 7, _ => by kernel_rfl
  | 8, _ => by kernel_rfl
  | 9, _ => by kernel_rfl
  | 10, _ => by kernel_rfl
  | 11, _ => by kernel_rfl
  | 12, _ => by kernel_rfl
  | 13, _ => by kernel_rfl
  | 14, _ => by kernel_rfl
  | 15, _ => by kernel_rfl
  | k + 16, h => by omega
set_option maxHeartbeats 3200000 in
theorem versioned_c (w : World) (f : Nat → Int) : Calls Try.prog 8 #[.agg (a16C f)] w fun e w' => (∃ b, e = .returned (.bool b) ∧ (b = true → VerOk f)) ∧ w.grownBy w' none := by
  have HG := As.mk (gr_alloc (gr_refl w none) (.cells (a16C f) 23))
  have HB := As.mk (Blk.new w 23 (a16C f))
  go_enter Try.func8, Try.ntmps8
  go_wp2_with (refine wpList_load_row rfl 23 _ rfl w.heap.size rfl 23 (a16C f) _ _ HB.out Try.underlying23 rfl (by kernel_rfl) ?_)
  generalize w.alloc (.cells (a16C f) 23) = W at *
  clear HB
  go_loopw [6] (fun i wr => ∃ k : Nat, k ≤ 16 ∧ i = .int .i64 k ∧ wr = W ∧ As (∀ j, j < k → 0 ≤ f j ∧ f j ≤ 1099511627776)) (fun i _ => 16 - (intOf i).toNat)
  case atStart => exact ⟨0, Nat.zero_le _, rfl, rfl, ⟨fun j hj => absurd hj (Nat.not_lt_zero _)⟩⟩
  case round =>
    obtain ⟨k, hk, rfl, rfl, HX⟩ := hrel
    by_cases hlt : k < 16
    · have hltI : (k : Int) < 16 := by omega
      have hk0 : (0 : Int) ≤ (k : Int) := by omega
      have hix := run_index_a16 (w := wr) f k hlt
      by_cases h1 : f k < 0
      · go_wp2_with fail
        go_ret
        first | exact ⟨⟨false, rfl, fun h => by cases h⟩, HG.out⟩ | exact ⟨.inl rfl, HG.out⟩
      by_cases h2 : 1099511627776 < f k
      · go_wp2_with fail
        go_ret
        first | exact ⟨⟨false, rfl, fun h => by cases h⟩, HG.out⟩ | exact ⟨.inl rfl, HG.out⟩
      go_wp2_with fail
      refine ⟨⟨k + 1, by omega, by simp, trivial, ⟨fun j hj => ?_⟩⟩, by simp [intOf]; omega⟩
      by_cases e : j = k
      · subst e; omega
      · exact HX.out j (by omega)
    · obtain rfl : k = 16 := by omega
      go_wp2_with fail
      go_ret
      first | exact ⟨⟨true, rfl, fun _ => HX.out⟩, HG.out⟩ | exact ⟨.inr ⟨rfl, HX.out⟩, HG.out⟩
def a8C (f : Nat → Int) : Array Value := #[.int .i64 (f 0), .int .i64 (f 1), .int .i64 (f 2), .int .i64 (f 3), .int .i64 (f 4), .int .i64 (f 5), .int .i64 (f 6), .int .i64 (f 7)]
set_option maxHeartbeats 3200000 in
theorem regs_c {w0 w : World} {rb : Nat} {G : Nat → Prop} {l : List POp} {s : RS} {M : Nat} (h : RunAt w0 w rb G l s M) :
    Calls Try.prog 14 #[.pointer (some ⟨rb, 0, none⟩)] w fun e w' => e = .returned (.agg (a8C s.rg)) ∧ w.grownBy w' none := by
  obtain ⟨B, nb, F, lv_, cv, rfl, h⟩ := h
  have HR := As.mk (show Blk (w.alloc (.cells #[.int .i64 0, .int .i64 0, .int .i64 0, .int .i64 0, .int .i64 0, .int .i64 0, .int .i64 0, .int .i64 0] 35)) rb 65 (runC (.pointer (some ⟨nb, 0, none⟩)) lv_ s.at_ s.rg cv s.tk) from h.blk.grown (gr_alloc (gr_refl w none) _) (by simp))
  have HG := As.mk (gr_alloc (gr_refl w none) (.cells (a8C s.rg) 35))
  have HB := As.mk (Blk.new w 35 (a8C s.rg))
  have q0 : (w.alloc (.cells #[.int .i64 0, .int .i64 0, .int .i64 0, .int .i64 0, .int .i64 0, .int .i64 0, .int .i64 0, .int .i64 0] 35)).cell? ⟨rb, 3, none⟩ = some (.int .i64 (s.rg 0)) := HR.out.cell 3
  have q1 : (w.alloc (.cells #[.int .i64 0, .int .i64 0, .int .i64 0, .int .i64 0, .int .i64 0, .int .i64 0, .int .i64 0, .int .i64 0] 35)).cell? ⟨rb, 4, none⟩ = some (.int .i64 (s.rg 1)) := HR.out.cell 4
  have q2 : (w.alloc (.cells #[.int .i64 0, .int .i64 0, .int .i64 0, .int .i64 0, .int .i64 0, .int .i64 0, .int .i64 0, .int .i64 0] 35)).cell? ⟨rb, 5, none⟩ = some (.int .i64 (s.rg 2)) := HR.out.cell 5
  have q3 : (w.alloc (.cells #[.int .i64 0, .int .i64 0, .int .i64 0, .int .i64 0, .int .i64 0, .int .i64 0, .int .i64 0, .int .i64 0] 35)).cell? ⟨rb, 6, none⟩ = some (.int .i64 (s.rg 3)) := HR.out.cell 6
  have q4 : (w.alloc (.cells #[.int .i64 0, .int .i64 0, .int .i64 0, .int .i64 0, .int .i64 0, .int .i64 0, .int .i64 0, .int .i64 0] 35)).cell? ⟨rb, 7, none⟩ = some (.int .i64 (s.rg 4)) := HR.out.cell 7
  have q5 : (w.alloc (.cells #[.int .i64 0, .int .i64 0, .int .i64 0, .int .i64 0, .int .i64 0, .int .i64 0, .int .i64 0, .int .i64 0] 35)).cell? ⟨rb, 8, none⟩ = some (.int .i64 (s.rg 5)) := HR.out.cell 8
  have q6 : (w.alloc (.cells #[.int .i64 0, .int .i64 0, .int .i64 0, .int .i64 0, .int .i64 0, .int .i64 0, .int .i64 0, .int .i64 0] 35)).cell? ⟨rb, 9, none⟩ = some (.int .i64 (s.rg 6)) := HR.out.cell 9
  have q7 : (w.alloc (.cells #[.int .i64 0, .int .i64 0, .int .i64 0, .int .i64 0, .int .i64 0, .int .i64 0, .int .i64 0, .int .i64 0] 35)).cell? ⟨rb, 10, none⟩ = some (.int .i64 (s.rg 7)) := HR.out.cell 10
  clear h
  go_enter Try.func14, Try.ntmps14
  go_wp2_with fail
  refine bodyPost_ret (results_row (P := Try.prog) rfl _ _ w.heap.size 35 _ (0, 0) _ rfl HB.out Try.underlying35 rfl (by kernel_rfl)) rfl ?_
  exact ⟨rfl, HG.out⟩
end
section
open Go.RowKit Go.Maps
set_option linter.unusedVariables false
set_option linter.unusedSimpArgs false
set_option maxRecDepth 100000

def b16C (f : Nat → Bool) : Array Value := #[.bool (f 0), .bool (f 1), .bool (f 2), .bool (f 3), .bool (f 4), .bool (f 5), .bool (f 6), .bool (f 7), .bool (f 8), .bool (f 9), .bool (f 10), .bool (f 11), .bool (f 12), .bool (f 13), .bool (f 14), .bool (f 15)]
theorem b16_get (f : Nat → Bool) : ∀ k, k < 16 → (b16C f)[k]? = some (.bool (f k))
  | 0, _ => rfl
  | 1, _ => rfl
  | 2, _ => rfl
  | 3, _ => rfl
  | 4, _ => rfl
  | 5, _ => rfl
  | 6, _ => rfl
  | 7, _ => rfl
  | 8, _ => rfl
  | 9, _ => rfl
  | 10, _ => rfl
  | 11, _ => rfl
  | 12, _ => rfl
  | 13, _ => rfl
  | 14, _ => rfl
  | 15, _ => rfl
  | k + 16, h => by omega
theorem b16_set (f : Nat → Bool) (v : Bool) : ∀ k, k < 16 → (b16C f).setIfInBounds k (.bool v) = b16C (updN f k v)
  | 0, _ => rfl
  | 1, _ => rfl
  | 2, _ => rfl
  | 3, _ => rfl
  | 4, _ => rfl
  | 5, _ => rfl
  | 6, _ => rfl
  | 7, _ => rfl
  | 8, _ => rfl
  | 9, _ => rfl
  | 10, _ => rfl
  | 11, _ => rfl
  | 12, _ => rfl
  | 13, _ => rfl
  | 14, _ => rfl
  | 15, _ => rfl
  | k + 16, h => by omega
/-- The four arrays that Drive keeps, made behind B. -/
structure D4 (wr : World) (B b4 b5 b8 b9 : Nat) (G : Nat → Prop) (ve va : Nat → Int) (f8 f9 : Nat → Bool) : Prop where
  v4 : Blk wr b4 23 (a16C ve)
  v5 : Blk wr b5 23 (a16C va)
  g8 : Blk wr b8 45 (b16C f8)
  g9 : Blk wr b9 45 (b16C f9)
  n : ¬ G b4 ∧ ¬ G b5 ∧ ¬ G b8 ∧ ¬ G b9
  ne : b4 ≠ b8 ∧ b4 ≠ b9 ∧ b5 ≠ b8 ∧ b5 ≠ b9 ∧ b8 ≠ b9
  lo : B ≤ b8 ∧ B ≤ b9
section
variable {w0 w wr w' : World} {B b4 b5 b8 b9 rb : Nat} {G G' : Nat → Prop} {ve va : Nat → Int} {f8 f9 : Nat → Bool} {l : List POp} {s : RS} {M : Nat}
theorem D4.ng (h : D4 wr B b4 b5 b8 b9 G ve va f8 f9) (hg : NG wr w' G G') : D4 w' B b4 b5 b8 b9 G' ve va f8 f9 :=
  ⟨(hg.old _ h.v4.lt h.n.1).1.trans h.v4, (hg.old _ h.v5.lt h.n.2.1).1.trans h.v5, (hg.old _ h.g8.lt h.n.2.2.1).1.trans h.g8, (hg.old _ h.g9.lt h.n.2.2.2).1.trans h.g9,
    ⟨(hg.old _ h.v4.lt h.n.1).2, (hg.old _ h.v5.lt h.n.2.1).2, (hg.old _ h.g8.lt h.n.2.2.1).2, (hg.old _ h.g9.lt h.n.2.2.2).2⟩, h.ne, h.lo⟩
theorem D4.set8 (h : D4 wr B b4 b5 b8 b9 G ve va f8 f9) (k : Nat) (hk : k < 16) (v : Bool) : D4 (wr.setCell ⟨b8, k, none⟩ (.bool v)) B b4 b5 b8 b9 G ve va (updN f8 k v) f9 :=
  ⟨h.v4.far (a := ⟨b8, k, none⟩) h.ne.1 _, h.v5.far (a := ⟨b8, k, none⟩) h.ne.2.2.1 _, by have := h.g8.set k (.bool v); rw [b16_set _ _ k hk] at this; exact this, h.g9.far (a := ⟨b8, k, none⟩) (fun e => h.ne.2.2.2.2 e.symm) _, h.n, h.ne, h.lo⟩
theorem D4.set9 (h : D4 wr B b4 b5 b8 b9 G ve va f8 f9) (k : Nat) (hk : k < 16) (v : Bool) : D4 (wr.setCell ⟨b9, k, none⟩ (.bool v)) B b4 b5 b8 b9 G ve va f8 (updN f9 k v) :=
  ⟨h.v4.far (a := ⟨b9, k, none⟩) h.ne.2.1 _, h.v5.far (a := ⟨b9, k, none⟩) h.ne.2.2.2.1 _, h.g8.far (a := ⟨b9, k, none⟩) h.ne.2.2.2.2 _, by have := h.g9.set k (.bool v); rw [b16_set _ _ k hk] at this; exact this, h.n, h.ne, h.lo⟩
theorem D4.cells (h : D4 wr B b4 b5 b8 b9 G ve va f8 f9) (k : Nat) (hk : k < 16) : wr.cell? ⟨b8, k, none⟩ = some (.bool (f8 k)) ∧ wr.cell? ⟨b9, k, none⟩ = some (.bool (f9 k)) ∧ wr.cell? ⟨b4, k, none⟩ = some (.int .i64 (ve k)) ∧ wr.cell? ⟨b5, k, none⟩ = some (.int .i64 (va k)) :=
  ⟨(h.g8.cell k).trans (b16_get f8 k hk), (h.g9.cell k).trans (b16_get f9 k hk), (h.v4.cell k).trans (a16_get ve k hk), (h.v5.cell k).trans (a16_get va k hk)⟩
theorem RunAt.far (h : RunAt w0 w rb G l s M) {c : Nat} (hc : ¬ G c) (h0 : w0.heap.size ≤ c) (k : Nat) (v : Value) : RunAt w0 (w.setCell ⟨c, k, none⟩ v) rb G l s M :=
  (h.other (H := fun x => x = c) (H' := fun x => x = c) (NG.ofgr (row := some c) (gr_set (gr_refl w (some c)) (a := ⟨c, k, none⟩) (.inl rfl) v) (fun q hq => by injection hq with hq; exact .inl hq.symm)) (fun q hq => by subst hq; exact h0) (fun q hq e => by subst e; exact hc hq)).1
theorem NG.far (h : NG w wr G G') {c : Nat} (h0 : w.heap.size ≤ c) (k : Nat) (v : Value) : NG w (wr.setCell ⟨c, k, none⟩ v) G G' :=
  ⟨h.os, h.tape, h.output, by have := h.size; simpa [World.setCell] using this, fun q hq hf => ⟨(heap_setCell_other wr ⟨c, k, none⟩ q v (by show q ≠ c; omega)).trans (h.old q hq hf).1, (h.old q hq hf).2⟩⟩
/-- Four arrays laid behind a run. -/
theorem D4.lay (h : RunAt w0 w rb G l s M) (ve va : Nat → Int) (f8 f9 : Nat → Bool) :
    D4 ((((w.alloc (.cells (a16C ve) 23)).alloc (.cells (a16C va) 23)).alloc (.cells (b16C f8) 45)).alloc (.cells (b16C f9) 45)) w.heap.size w.heap.size (w.heap.size + 1) (w.heap.size + 1 + 1) (w.heap.size + 1 + 1 + 1) G ve va f8 f9 := by
  have fp := fun k hk => (h.fp k hk).2
  have e1 : ∀ (w : World) (o : Obj), (w.alloc o).heap.size = w.heap.size + 1 := fun w o => by simp
  refine ⟨(((Blk.new w _ _).alloc _).alloc _).alloc _, ?_, ?_, ?_, ⟨?_, ?_, ?_, ?_⟩, by omega, by omega⟩
  · have := ((Blk.new (w.alloc (.cells (a16C ve) 23)) 23 (a16C va)).alloc (.cells (b16C f8) 45)).alloc (.cells (b16C f9) 45)
    rw [e1] at this; exact this
  · have := (Blk.new ((w.alloc (.cells (a16C ve) 23)).alloc (.cells (a16C va) 23)) 45 (b16C f8)).alloc (.cells (b16C f9) 45)
    rw [e1, e1] at this; exact this
  · have := Blk.new (((w.alloc (.cells (a16C ve) 23)).alloc (.cells (a16C va) 23)).alloc (.cells (b16C f8) 45)) 45 (b16C f9)
    rw [e1, e1, e1] at this; exact this
  all_goals exact fun q => by have := fp _ q; omega
end
/-- What Drive leaves. -/
def DPost (w0 w : World) (rb : Nat) (G : Nat → Prop) (l : List POp) (ve va : Nat → Int) (s0 : RS) (M : Nat) (e : Ending) (w' : World) : Prop :=
  ∃ (n : Nat) (s : RS) (G' : Nat → Prop), Drives l ve va s0 n s ∧ 3 ≤ (goR l 40 s).1 ∧ e = .returned (.tuple #[.int .i64 (goR l 40 s).1, .int .i64 (n : Int)]) ∧ RunAt w0 w' rb G' l (goR l 40 s).2.2 (M + 4000) ∧ NG w w' G G'
set_option maxHeartbeats 6400000 in
theorem drive_c {w0 w : World} {rb : Nat} {G : Nat → Prop} {l : List POp} {s0 : RS} {M : Nat} (h : RunAt w0 w rb G l s0 M) (hr : pRight l = true) (hw : ∀ x ∈ l, K64 x.n) (hi : RIv l s0) (hz : ∀ c, s0.rd.2 c = none) (ht : ∀ k, s0.tk k = false) (ve va : Nat → Int) (hv : VerOk ve) (ha : ∀ k, k < 16 → K64 (va k)) (hM : M ≤ 100000) :
    Calls Try.prog 12 #[.pointer (some ⟨rb, 0, none⟩), .agg (a16C ve), .agg (a16C va)] w (DPost w0 w rb G l ve va s0 M) := by
  have HR0 := As.mk h
  have HP := As.mk hr
  have HW := As.mk hw
  have HD0 := As.mk (Drv.start (ve := ve) (va := va) hi hz ht)
  have HV := As.mk hv
  have HA := As.mk ha
  have H4 := As.mk (D4.lay h ve va (fun _ => false) (fun _ => false))
  have HH0 := As.mk (show hasN s0.rd = fun _ => false from by funext k; unfold hasN; rw [hz]; rfl)
  have HT0 := As.mk (show s0.tk = fun _ => false from by funext k; exact ht k)
  clear h hr hw hi hz ht hv ha
  go_enter Try.func12, Try.ntmps12
  go_wp2_with fail
  have HNG := As.mk (show NG w ((((w.alloc (.cells (a16C ve) 23)).alloc (.cells (a16C va) 23)).alloc (.cells #[.bool false, .bool false, .bool false, .bool false, .bool false, .bool false, .bool false, .bool false, .bool false, .bool false, .bool false, .bool false, .bool false, .bool false, .bool false, .bool false] 45)).alloc (.cells #[.bool false, .bool false, .bool false, .bool false, .bool false, .bool false, .bool false, .bool false, .bool false, .bool false, .bool false, .bool false, .bool false, .bool false, .bool false, .bool false] 45)) G G from ng_none (gr_alloc (gr_alloc (gr_alloc (gr_alloc (gr_refl w none) _) _) _) _))
  have HRA := As.mk (show RunAt w0 ((((w.alloc (.cells (a16C ve) 23)).alloc (.cells (a16C va) 23)).alloc (.cells #[.bool false, .bool false, .bool false, .bool false, .bool false, .bool false, .bool false, .bool false, .bool false, .bool false, .bool false, .bool false, .bool false, .bool false, .bool false, .bool false] 45)).alloc (.cells #[.bool false, .bool false, .bool false, .bool false, .bool false, .bool false, .bool false, .bool false, .bool false, .bool false, .bool false, .bool false, .bool false, .bool false, .bool false, .bool false] 45)) rb G l s0 (M + 0 * 100) from (HR0.out.grown (gr_alloc (gr_alloc (gr_alloc (gr_alloc (gr_refl w none) _) _) _) _)).mono (by omega))
  have HLO := As.mk (show w0.heap.size ≤ w.heap.size from HR0.out.gr.size)
  replace H4 := As.mk (show D4 ((((w.alloc (.cells (a16C ve) 23)).alloc (.cells (a16C va) 23)).alloc (.cells #[.bool false, .bool false, .bool false, .bool false, .bool false, .bool false, .bool false, .bool false, .bool false, .bool false, .bool false, .bool false, .bool false, .bool false, .bool false, .bool false] 45)).alloc (.cells #[.bool false, .bool false, .bool false, .bool false, .bool false, .bool false, .bool false, .bool false, .bool false, .bool false, .bool false, .bool false, .bool false, .bool false, .bool false, .bool false] 45)) w.heap.size w.heap.size (w.heap.size + 1) (w.heap.size + 1 + 1) (w.heap.size + 1 + 1 + 1) G ve va (hasN s0.rd) s0.tk from by rw [HH0.out, HT0.out]; exact H4.out)
  clear HR0 HH0 HT0
  generalize ((((w.alloc (.cells (a16C ve) 23)).alloc (.cells (a16C va) 23)).alloc (.cells #[.bool false, .bool false, .bool false, .bool false, .bool false, .bool false, .bool false, .bool false, .bool false, .bool false, .bool false, .bool false, .bool false, .bool false, .bool false, .bool false] 45)).alloc (.cells #[.bool false, .bool false, .bool false, .bool false, .bool false, .bool false, .bool false, .bool false, .bool false, .bool false, .bool false, .bool false, .bool false, .bool false, .bool false, .bool false] 45)) = W at *
  generalize hb9 : w.heap.size + 1 + 1 + 1 = b9 at *
  generalize hb8 : w.heap.size + 1 + 1 = b8 at *
  generalize hb5 : w.heap.size + 1 = b5 at *
  clear hb5 hb8 hb9
  generalize hb4 : w.heap.size = b4 at H4 HLO ⊢
  have HB4 := As.mk hb4
  clear hb4
  go_loopw [10] (fun v wr => ∃ n : Nat, v = .int .i64 n ∧ As (∃ s G1, Drives l ve va s0 n s ∧ RunAt w0 wr rb G1 l s (M + n * 100) ∧ NG w wr G G1 ∧ D4 wr b4 b4 b5 b8 b9 G1 ve va (hasN s.rd) s.tk)) (fun v _ => 40 - (intOf v).toNat)
  case atStart => exact ⟨0, rfl, ⟨s0, G, .start, HRA.out, HNG.out, H4.out⟩⟩
  case round =>
    obtain ⟨n, rfl, HX⟩ := hrel
    obtain ⟨s, G1, hre, hra, hng, h4⟩ := HX.out
    clear HX HRA HNG H4
    have HRE := As.mk hre
    have HRA := As.mk hra
    have HNG := As.mk hng
    have H4 := As.mk h4
    have HD := As.mk (hre.drv HP.out HV.out HD0.out)
    have hn := HD.out.le
    clear hre hra hng h4
    have hltI : (n : Int) < 40 := by omega
    go_wp2_with fail
    refine (gon_c HRA.out HP.out HW.out HD.out.riv (by omega)).mono ?_
    rintro e w3 ⟨rfl, G2, hra, hng, hri2⟩
    have HAN := As.mk (goR_ans l 40 s)
    have HAS := As.mk (goR_asks HP.out s)
    have HRD := As.mk (goR_rd l 40 s)
    have H42 := As.mk (H4.out.ng hng)
    have HNG2 := As.mk (HNG.out.trans hng)
    have HRA2 := As.mk hra
    clear hra hng hri2 HRA HNG H4
    by_cases h1 : (goR l 40 s).1 = 1
    · obtain ⟨a1, a2, _⟩ := HAS.out.1 h1
      have HR1 := As.mk (Drives.give HRE.out h1)
      have HSE := As.mk (sawE_new (v := ve (goR l 40 s).2.1.toNat) a1 (HV.out (goR l 40 s).2.1.toNat (by omega)) a2)
      have HSH := As.mk (saw_has (a := va (goR l 40 s).2.1.toNat) a1 (HV.out (goR l 40 s).2.1.toNat (by omega)) a2)
      have HNH := As.mk (show hasN s.rd (goR l 40 s).2.1.toNat = false from by unfold hasN; rw [show (((goR l 40 s).2.1.toNat : Nat) : Int) = (goR l 40 s).2.1 by omega]; exact a2)
      rw [← HRD.out.1] at HSE HSH HNH H42
      have HTK := HRD.out.2
      rw [← HTK] at H42
      rw [h1]
      have hkc : (((goR l 40 s).2.1.toNat : Nat) : Int) = (goR l 40 s).2.1 := by omega
      have hk16 : (goR l 40 s).2.1.toNat < 16 := by omega
      rw [← hkc]
      rw [← hkc] at HSE HSH HR1
      simp only [Int.toNat_natCast] at HSE HSH HR1
      clear h1 HAN HAS HRD HTK a1 a2 hkc
      clear HD
      generalize (goR l 40 s).2.2 = s2 at *
      generalize (goR l 40 s).2.1.toNat = kc at *
      have hk0 : ¬ (kc : Int) < 0 := by omega
      have hk1 : ¬ (15 : Int) < (kc : Int) := by omega
      have hd0 : decide ((kc : Int) < 0) = false := decide_eq_false hk0
      have hd1 : decide ((15 : Int) < (kc : Int)) = false := decide_eq_false hk1
      have hk00 : (0 : Int) ≤ (kc : Int) := by omega
      have hkI : (kc : Int) < 16 := by omega
      have HK0 := As.mk (HA.out kc hk16)
      have HKV := As.mk (HV.out kc hk16)
      generalize hva : va kc = vk at *
      generalize hve : ve kc = ek at *
      obtain ⟨e8, e9, e4, e5⟩ := H42.out.cells kc hk16
      rw [HNH.out] at e8
      rw [hve] at e4
      rw [hva] at e5
      clear e9
      go_upto_region 8 with fail
      refine wp_region_noPanic ?_
      refine wp_region_held_drew (S := fun w' => w'.cell? ⟨b8, kc, none⟩ = some (.bool false) ∧ w'.cell? ⟨b4, kc, none⟩ = some (.int .i64 ek) ∧ w'.cell? ⟨b5, kc, none⟩ = some (.int .i64 vk)) (by kernel_rfl) (⟨e8, e4, e5⟩) (fun hS => ?_)
      refine wpAnyH_take (i := 0) (v := ?va1) rfl (by kernel_rfl) (by kernel_rfl) (by kernel_rfl) (fun _ _ _ h => h) (Or.inl ⟨by rfl, ?ya1⟩) hS ?ra1
      case ya1 => (intro w0 _; go_simp; try with_reducible rfl)
      try simp only [yA, yB, yC, Act.put, yD, yE, yF]
      refine wpAnyH_take (i := 1) (v := ?va2) rfl (by kernel_rfl) (by kernel_rfl) (by kernel_rfl) (fun _ _ _ h => h) (Or.inl ⟨by rfl, ?ya2⟩) hS ?ra2
      case ya2 => (intro w0 _; go_simp; try with_reducible rfl)
      try simp only [yA, yB, yC, Act.put, yD, yE, yF]
      refine wpAnyH_take (i := 2) (v := ?va3) rfl (by kernel_rfl) (by kernel_rfl) (by kernel_rfl) (fun _ _ _ h => h) (Or.inl ⟨by rfl, ?ya3⟩) hS ?ra3
      case ya3 => (intro w0 _; go_simp; try with_reducible rfl)
      try simp only [yA, yB, yC, Act.put, yD, yE, yF]
      refine wpAnyH_take (i := 3) (v := ?va4) rfl (by kernel_rfl) (by kernel_rfl) (by kernel_rfl) (fun _ _ _ h => h) (Or.inl ⟨by rfl, ?ya4⟩) hS ?ra4
      case ya4 => (intro w0 _; go_simp; try with_reducible rfl)
      try simp only [yA, yB, yC, Act.put, yD, yE, yF]
      refine wpAnyH_take (i := 4) (v := ?va5) rfl (by kernel_rfl) (by kernel_rfl) (by kernel_rfl) (fun _ _ _ h => h) (Or.inl ⟨by rfl, ?ya5⟩) hS ?ra5
      case ya5 => (intro w0 _; go_simp; try with_reducible rfl)
      try simp only [yA, yB, yC, Act.put, yD, yE, yF]
      refine wpAnyH_take (i := 5) (v := ?va6) rfl (by kernel_rfl) (by kernel_rfl) (by kernel_rfl) (fun _ _ _ h => h) (Or.inl ⟨by rfl, ?ya6⟩) hS ?ra6
      case ya6 => (intro w0 _; go_simp; try with_reducible rfl)
      try simp only [yA, yB, yC, Act.put, yD, yE, yF]
      refine wpAnyH_take (i := 6) (v := ?va7) rfl (by kernel_rfl) (by kernel_rfl) (by kernel_rfl) (fun _ _ _ h => h) (Or.inl ⟨by rfl, ?ya7⟩) hS ?ra7
      case ya7 => (intro w0 _; go_simp; try with_reducible rfl)
      try simp only [yA, yB, yC, Act.put, yD, yE, yF]
      refine wpAnyH_take (i := 7) (v := ?va8) rfl (by kernel_rfl) (by kernel_rfl) (by kernel_rfl) (fun _ _ _ h => h) (Or.inl ⟨by rfl, ?ya8⟩) hS ?ra8
      case ya8 => (intro w0 _; go_simp; try with_reducible rfl)
      try simp only [yA, yB, yC, Act.put, yD, yE, yF]
      refine wpAnyH_take (i := 8) (v := ?va9) rfl (by kernel_rfl) (by kernel_rfl) (by kernel_rfl) (fun _ _ _ h => h) (Or.inl ⟨by rfl, ?ya9⟩) hS ?ra9
      case ya9 => (intro w0 _; go_simp; try with_reducible rfl)
      try simp only [yA, yB, yC, Act.put, yD, yE, yF]
      refine wpAnyH_take (i := 9) (v := ?va10) rfl (by kernel_rfl) (by kernel_rfl) (by kernel_rfl) (fun _ _ _ h => h) (Or.inl ⟨by rfl, ?ya10⟩) hS ?ra10
      case ya10 => (intro w0 hS0; (try simp only [] at hS0); obtain ⟨hS0_0, hS0_1, hS0_2⟩ := hS0; go_simp; try with_reducible rfl)
      try simp only [yA, yB, yC, Act.put, yD, yE, yF]
      refine wpAnyH_take (i := 10) (v := ?va11) rfl (by kernel_rfl) (by kernel_rfl) (by kernel_rfl) (fun _ _ _ h => h) (Or.inl ⟨by rfl, ?ya11⟩) hS ?ra11
      case ya11 => (intro w0 _; go_simp; try with_reducible rfl)
      try simp only [yA, yB, yC, Act.put, yD, yE, yF]
      refine wpAnyH_take (i := 11) (v := ?va12) rfl (by kernel_rfl) (by kernel_rfl) (by kernel_rfl) (fun _ _ _ h => h) (Or.inl ⟨by rfl, ?ya12⟩) hS ?ra12
      case ya12 => (intro w0 _; go_simp; try with_reducible rfl)
      try simp only [yA, yB, yC, Act.put, yD, yE, yF]
      refine wpAnyH_take (i := 12) (v := ?va13) rfl (by kernel_rfl) (by kernel_rfl) (by kernel_rfl) (fun _ _ _ h => h) (Or.inl ⟨by rfl, ?ya13⟩) hS ?ra13
      case ya13 => (intro w0 _; go_simp; try with_reducible rfl)
      try simp only [yA, yB, yC, Act.put, yD, yE, yF]
      refine wpAnyH_take (i := 13) (v := ?va14) rfl (by kernel_rfl) (by kernel_rfl) (by kernel_rfl) (fun _ _ _ h => h) (Or.inl ⟨by rfl, ?ya14⟩) hS ?ra14
      case ya14 => (intro w0 _; go_simp; try with_reducible rfl)
      try simp only [yA, yB, yC, Act.put, yD, yE, yF]
      refine wpAnyH_take (i := 14) (v := ?va15) rfl (by kernel_rfl) (by kernel_rfl) (by kernel_rfl) (fun _ _ _ h => h) (Or.inl ⟨by rfl, ?ya15⟩) hS ?ra15
      case ya15 => (intro w0 _; go_simp; try with_reducible rfl)
      try simp only [yA, yB, yC, Act.put, yD, yE, yF]
      refine wpAnyH_take (i := 15) (v := ?va16) rfl (by kernel_rfl) (by kernel_rfl) (by kernel_rfl) (fun _ _ _ h => h) (Or.inl ⟨by rfl, ?ya16⟩) hS ?ra16
      case ya16 => (intro w0 _; go_simp; try with_reducible rfl)
      try simp only [yA, yB, yC, Act.put, yD, yE, yF]
      refine wpAnyH_take (i := 16) (v := ?va17) rfl (by kernel_rfl) (by kernel_rfl) (by kernel_rfl) (fun _ _ _ h => h) (Or.inl ⟨by rfl, ?ya17⟩) hS ?ra17
      case ya17 => (intro w0 hS0; (try simp only [] at hS0); obtain ⟨hS0_0, hS0_1, hS0_2⟩ := hS0; go_simp; try with_reducible rfl)
      try simp only [yA, yB, yC, Act.put, yD, yE, yF]
      refine wpAnyH_take (i := 17) (v := ?va18) rfl (by kernel_rfl) (by kernel_rfl) (by kernel_rfl) (fun _ _ _ h => h) (Or.inl ⟨by rfl, ?ya18⟩) hS ?ra18
      case ya18 => (intro w0 _; go_simp; try with_reducible rfl)
      try simp only [yA, yB, yC, Act.put, yD, yE, yF]
      refine wpAnyH_take (i := 18) (v := ?va19) rfl (by kernel_rfl) (by kernel_rfl) (by kernel_rfl) (fun _ _ _ h => h) (Or.inl ⟨by rfl, ?ya19⟩) hS ?ra19
      case ya19 => (intro w0 _; go_simp; try with_reducible rfl)
      try simp only [yA, yB, yC, Act.put, yD, yE, yF]
      refine wpAnyH_take (i := 19) (v := ?va20) rfl (by kernel_rfl) (by kernel_rfl) (by kernel_rfl) (fun _ _ _ h => h) (Or.inl ⟨by rfl, ?ya20⟩) hS ?ra20
      case ya20 => (intro w0 hS0; (try simp only [] at hS0); obtain ⟨hS0_0, hS0_1, hS0_2⟩ := hS0; go_simp; try with_reducible rfl)
      try simp only [yA, yB, yC, Act.put, yD, yE, yF]
      refine wpAnyH_ready (rs := [20]) (by kernel_rfl) (by simp) (AllReadyH.cons (i := 20) rfl (fun K hK => ?_) AllReadyH.nil)
      go_simp
      refine (give_c (HRA2.out.grown (gr_drew (gr_refl _ none))) (kc : Int) ek vk (k64_nat kc (by omega)) ⟨by have := HKV.out; omega, by have := HKV.out; omega⟩ HK0.out (by omega)).mono ?_
      rintro e0 w4 ⟨rfl, G3, hra, hng⟩
      rw [HSE.out]
      have H43 := As.mk (H42.out.ng ((ng_drew w3).trans hng))
      go_simp
      refine hK.out _ _ (⟨by have := (H43.out.cells kc hk16).1; rw [HNH.out] at this; exact this, by have := (H43.out.cells kc hk16).2.2.1; rw [hve] at this; exact this, by have := (H43.out.cells kc hk16).2.2.2; rw [hva] at this; exact this⟩) (fun hS => ?_)
      clear hK K
      try simp only [yA, yB, yC, Act.put, yD, yE, yF]
      have HRA3 := As.mk hra
      have HNG3 := As.mk (HNG2.out.trans ((ng_drew w3).trans hng))
      clear hra hng
      refine wpAnyH_take (i := 21) (v := ?va22) rfl (by kernel_rfl) (by kernel_rfl) (by kernel_rfl) (fun _ _ _ h => h) (Or.inl ⟨by rfl, ?ya22⟩) hS ?ra22
      case ya22 => (intro w0 _; go_simp; try with_reducible rfl)
      try simp only [yA, yB, yC, Act.put, yD, yE, yF]
      refine wpAnyH_take (i := 22) (v := ?va23) rfl (by kernel_rfl) (by kernel_rfl) (by kernel_rfl) (fun _ _ _ h => h) (Or.inl ⟨by rfl, ?ya23⟩) hS ?ra23
      case ya23 => (intro w0 _; go_simp; try with_reducible rfl)
      try simp only [yA, yB, yC, Act.put, yD, yE, yF]
      refine wpAnyH_done (by kernel_rfl) ?_ _
      refine NoPanic.normal ?_
      try simp only [Exit.then]
      clear hS
      have f8 := H43.out.g8.free kc
      have e8 := (H43.out.cells kc hk16).1
      rw [HNH.out] at e8
      clear HRA2 HNG2 H42 e4 e5
      go_wp2_with fail
      refine ⟨⟨n + 1, by simp, ⟨_, G3, HR1.out, (HRA3.out.far H43.out.n.2.2.1 (Nat.le_trans HLO.out H43.out.lo.1) kc (.bool true)).mono (by omega), HNG3.out.far (by rw [HB4.out]; exact H43.out.lo.1) kc (.bool true), ?_⟩⟩, by simp [intOf]; omega⟩
      have := H43.out.set8 kc hk16 true
      rw [← HSH.out] at this
      exact this
    · by_cases h2 : (goR l 40 s).1 = 2
      · obtain ⟨a1, a2⟩ := HAS.out.2 h2
        have HR1 := As.mk (Drives.take (ve := ve) (va := va) HRE.out h2)
        rw [← HRD.out.2] at a2
        have HNH := As.mk a2
        rw [← HRD.out.1, ← HRD.out.2] at H42
        rw [h2]
        have hkc : (((goR l 40 s).2.1.toNat : Nat) : Int) = (goR l 40 s).2.1 := by omega
        have hk16 : (goR l 40 s).2.1.toNat < 16 := by omega
        rw [← hkc]
        clear h1 h2 HAN HAS HRD a1 a2 hkc
        clear HD
        generalize (goR l 40 s).2.2 = s2 at *
        generalize (goR l 40 s).2.1.toNat = kc at *
        have hk0 : ¬ (kc : Int) < 0 := by omega
        have hk1 : ¬ (15 : Int) < (kc : Int) := by omega
        have hd0 : decide ((kc : Int) < 0) = false := decide_eq_false hk0
        have hd1 : decide ((15 : Int) < (kc : Int)) = false := decide_eq_false hk1
        have hk00 : (0 : Int) ≤ (kc : Int) := by omega
        have hkI : (kc : Int) < 16 := by omega
        obtain ⟨e8, e9, e4, e5⟩ := H42.out.cells kc hk16
        rw [HNH.out] at e9
        clear e8 e4 e5
        go_wp2_with fail
        clear e9
        refine (took_c HRA2.out kc hk16).mono ?_
        rintro e w4 ⟨rfl, G3, hra, hng⟩
        have H43 := As.mk (H42.out.ng hng)
        have HRA3 := As.mk hra
        have HNG3 := As.mk (HNG2.out.trans hng)
        clear hra hng HRA2 HNG2 H42
        have f9 := H43.out.g9.free kc
        have e9 := (H43.out.cells kc hk16).2.1
        rw [HNH.out] at e9
        go_wp2_with fail
        refine ⟨⟨n + 1, by simp, ⟨_, G3, HR1.out, (HRA3.out.far H43.out.n.2.2.2 (Nat.le_trans HLO.out H43.out.lo.2) kc (.bool true)).mono (by omega), HNG3.out.far (by rw [HB4.out]; exact H43.out.lo.2) kc (.bool true), ?_⟩⟩, by simp [intOf]; omega⟩
        exact H43.out.set9 kc hk16 true
      · have h3 : 3 ≤ (goR l 40 s).1 := by have := HAN.out.1; omega
        have z1 : ((goR l 40 s).1 == 1) = false := by simp; omega
        have z2 : ((goR l 40 s).1 == 2) = false := by simp; omega
        have H3 := As.mk h3
        have HE := As.mk (show (Ending.returned (.tuple #[.int .i64 (goR l 40 s).1, .int .i64 (n : Int)])) = Ending.returned (.tuple #[.int .i64 (goR l 40 s).1, .int .i64 (n : Int)]) from rfl)
        clear h1 h2 h3 HAN HAS HRD H42 HD
        go_wp2_with fail
        go_ret2
        exact ⟨n, s, G2, HRE.out, H3.out, rfl, HRA2.out.mono (by omega), HNG2.out⟩
end
section
open Go.RowKit Go.ChangeShapes Go.WideShapes
set_option linter.unusedVariables false

theorem agg16_ints {H : Type} {enc : TypeId × Value → H} {P : Program} {W : World} {base : Nat} {held : Bool} {r : Reach} {b0 : Nat} {t e : TypeId} {v : Value} {d : DataW H} {p : List MemPlace} (he : P.underlying t = some (.array 16 e)) (hee : P.underlying e = some (.int .i64)) (hce : P.cellsOf e = 1) (hc : P.cellsOf t = 16)
    (hv : Value.okWide P W r b0 t v) (h : DataW.Trod enc P W base (fun _ => true) held t v d p) :
    ∃ f : Nat → Int, v = .agg (a16C f) ∧ ∀ k, k < 16 → K64 (f k) := by
  obtain ⟨cs, rfl, hsz⟩ : ∃ cs, v = .agg cs ∧ cs.size = P.cellsOf t := by
    simp only [Value.okWide, he] at hv
    obtain ⟨cs, h1, h2, _⟩ := hv
    exact ⟨cs, h1, h2⟩
  rw [hc] at hsz
  obtain ⟨fuel, hf⟩ := h
  obtain ⟨xs, m, _, hx, hl, hxl, hf⟩ := DataW.trod_array he hf
  have hk : ∀ i, i < 16 → ∃ k, cs[i]? = some (.int .i64 k) ∧ K64 k := by
    intro i hi
    have q := hf i hi
    rw [hce, Nat.mul_one] at q
    have hy : xs[i]? = some xs[i] := List.getElem?_eq_getElem (by omega)
    rw [hy] at q
    obtain ⟨k, k1, _, k3⟩ := DataW.trod_int hee q
    refine ⟨k, ?_, wf64 k3⟩
    have hg : i < cs.toList.length := by rw [Array.length_toList, hsz]; exact hi
    replace k1 : List.take 1 (List.drop i cs.toList) = [Value.int IntKind.i64 k] := k1
    rw [List.drop_eq_getElem_cons hg] at k1
    simp only [List.take_succ_cons, List.take_zero] at k1
    injection k1 with k1 _
    rw [Array.getElem?_eq_getElem (by omega)]
    exact congrArg some k1
  refine ⟨fun i => if h : i < 16 then Classical.choose (hk i h) else 0, ?_, fun k h => ?_⟩
  · congr 1
    apply Array.ext_getElem?
    intro i
    by_cases h : i < 16
    · rw [a16_get _ i h]
      have q := (Classical.choose_spec (hk i h)).1
      simp only [h, dif_pos]
      exact q
    · rw [Array.getElem?_eq_none (by omega), Array.getElem?_eq_none (show (a16C _).size ≤ i by show 16 ≤ i; omega)]
  · simp only [h, dif_pos]
    exact (Classical.choose_spec (hk k h)).2
end
section
open Go.RowKit Go.Maps
set_option linter.unusedVariables false
set_option linter.unusedSimpArgs false
set_option maxRecDepth 100000

theorem wpl_load_row_g {P : Program} {ops : Array Oper} {rest : List Oper} {o : Oper} {a : Act} {w : World} {Q : Exit → Act → World → Prop} (hw : Region.wanted o (yielded ops a.tmps) = true) (ty : TypeId) (x : Operand) (ho : o.op = .load ty x)
    (g : Nat) (hx : a.eval x = .pointer (some ⟨g, 0, none⟩)) (t : TypeId) (cs : Array Value) (fr : Nat × Nat) (d : TypeDesc) (hg : w.heap[g]? = some (.cells cs t fr))
    (hu : P.underlying ty = some d) (hd : (match d with | .struct _ | .array _ _ => true | _ => false) = true) (hi : (P.info? ty).map (·.size) = some cs.size)
    (h : wpList P ops Q rest (a.put o.dst (.agg cs)) w) : wpList P ops Q (o :: rest) a w := by
  unfold wpList
  rw [if_pos hw]
  exact .inl (wp_load_row ty x ho g hx t cs fr d hg hu hd hi h)
/-- A run at its beginning that was given the cells below k. -/
structure Fill (ve va : Nat → Int) (k : Nat) (t : RS) : Prop where
  eq : t = { startR with rd := t.rd, tk := t.tk }
  rd : ∀ c : Int, 0 ≤ c ∧ c < (k : Int) → t.rd.2 c = some (ve c.toNat, va c.toNat)
  nrd : ∀ c : Int, (k : Int) ≤ c → t.rd.2 c = none
  tk : ∀ j, j < k → t.tk j = true
theorem Fill.start (ve va : Nat → Int) : Fill ve va 0 startR := ⟨rfl, fun c h => by omega, fun c _ => rfl, fun j h => by omega⟩
theorem Fill.new {ve va : Nat → Int} {k : Nat} {t : RS} (h : Fill ve va k t) (hk : k < 16) (hv : VerOk ve) : sawE t.rd (k : Int) (ve k) = 0 :=
  sawE_new ⟨by omega, by omega⟩ (hv k hk) (by rw [h.nrd _ (Int.le_refl _)]; rfl)
theorem Fill.step {ve va : Nat → Int} {k : Nat} {t : RS} (h : Fill ve va k t) (hk : k < 16) (hv : VerOk ve) : Fill ve va (k + 1) { t with rd := sawR t.rd (k : Int) (ve k) (va k), tk := updN t.tk k true } := by
  have e := sawR_new (a := va k) (rd := t.rd) (c := (k : Int)) ⟨by omega, by omega⟩ (hv k hk) (by rw [h.nrd _ (Int.le_refl _)]; rfl)
  refine ⟨?_, fun c hc => ?_, fun c hc => ?_, fun j hj => ?_⟩
  · have := h.eq
    generalize t.rd = a at *
    generalize t.tk = b at *
    subst this
    rfl
  · show (sawR t.rd (k : Int) (ve k) (va k)).2 c = _
    rw [e]
    show updF t.rd.2 (k : Int) (ve k, va k) c = _
    by_cases q : c = (k : Int)
    · subst q; rw [updF_same]; simp
    · rw [updF_ne _ _ q]; exact h.rd c ⟨hc.1, by omega⟩
  · show (sawR t.rd (k : Int) (ve k) (va k)).2 c = _
    rw [e]
    show updF t.rd.2 (k : Int) (ve k, va k) c = _
    rw [updF_ne _ _ (by omega)]; exact h.nrd c (by omega)
  · show updN t.tk k true j = true
    by_cases q : j = k
    · subst q; exact updN_same _ _ _
    · rw [updN_ne _ _ q]; exact h.tk j (by omega)
theorem Fill.full {ve va : Nat → Int} {t : RS} (h : Fill ve va 16 t) : Full ve va t := ⟨fun c hc => h.rd c ⟨hc.1, by omega⟩, fun k hk => h.tk k hk⟩
theorem Fill.sim {ve va : Nat → Int} {k : Nat} {t : RS} (h : Fill ve va k t) : Sim startR t := ⟨h.eq, fun c p hp => (by cases hp), fun k hk => (by cases hk)⟩
theorem start_drv {l : List POp} (hr : pRight l = true) (ve va : Nat → Int) : Drv l ve va 0 startR := Drv.start (start_riv hr) (fun _ => rfl) (fun _ => rfl)
theorem eqA8_same (f : Nat → Int) (w : World) : (Op.equalIn 10000 35 (.agg (a8C f)) (.agg (a8C f))).run Try.prog w = .ok true w := by
  have := eqA8 (f 0) (f 1) (f 2) (f 3) (f 4) (f 5) (f 6) (f 7) (f 0) (f 1) (f 2) (f 3) (f 4) (f 5) (f 6) (f 7) w
  simpa [a8C] using this
theorem own_it {w : World} {base : Nat} {e : TypeId} {v : Value} {its : List PIt} (h : w.ownsRow base e 5 v its.length (itCells its)) (j : Nat) (x : PIt) (hx : its[j]? = some x) :
    ∃ g cap, v = .slice (some ⟨g, 0, none⟩) its.length cap ∧ w.cell? ⟨g, j * 5, none⟩ = some (.int .i64 x.c) ∧ w.cell? ⟨g, j * 5 + 1, none⟩ = some (.int .i64 x.v) ∧ w.cell? ⟨g, j * 5 + 2, none⟩ = some (.int .i64 x.a) ∧ w.cell? ⟨g, j * 5 + 3, none⟩ = some (.bool x.wr) ∧ w.cell? ⟨g, j * 5 + 4, none⟩ = some (.int .i64 x.nw) := by
  have hj := (List.getElem?_eq_some_iff.1 hx).1
  rcases h.2 with ⟨rfl, h0⟩ | ⟨g, cap, cur, rfl, hb, hh, h1, h2, h3, h4⟩
  · omega
  · have c := itCells_at its j x hx
    exact ⟨g, cap, rfl, own_cellAt h _ _ (c 0 _ rfl), own_cellAt h _ _ (c 1 _ rfl), own_cellAt h _ _ (c 2 _ rfl), own_cellAt h _ _ (c 3 _ rfl), own_cellAt h _ _ (c 4 _ rfl)⟩
theorem its_len {rd : Rd} {lv : Lv} : (itsN rd lv).length = (keysF rd.2).length := by simp [itsN]
theorem its_le (rd : Rd) (lv : Lv) : (itsN rd lv).length ≤ 16 := by
  rw [its_len]
  unfold keysF
  have := List.length_filter_le (fun c => (rd.2 c).isSome) ((List.range 16).map Int.ofNat)
  rw [List.length_map, List.length_range] at this
  exact this
theorem keys_full {ve va : Nat → Int} {t : RS} (h : Full ve va t) : keysF t.rd.2 = (List.range 16).map Int.ofNat := by
  unfold keysF
  rw [List.filter_eq_self]
  intro c hc
  simp only [List.mem_map, List.mem_range] at hc
  obtain ⟨a, ha, rfl⟩ := hc
  rw [h.rd _ ⟨by simp, by simp; omega⟩]
  rfl
theorem ahead_item {ve va : Nat → Int} {t t2 s2 : RS} (hf : Full ve va t) (hrd : t2.rd = t.rd) (hlv : t2.lv = s2.lv) (hsub : ∀ c p, s2.rd.2 c = some p → t.rd.2 c = some p) {j : Nat} {x : PIt} (hx : (itsN s2.rd s2.lv)[j]? = some x) :
    ∃ kc : Nat, kc < 16 ∧ x.c = (kc : Int) ∧ (itsN t2.rd t2.lv)[kc]? = some x := by
  unfold itsN at hx
  rw [List.getElem?_map] at hx
  cases hc : (keysF s2.rd.2)[j]? with
  | none => rw [hc] at hx; cases hx
  | some c =>
    rw [hc] at hx
    injection hx with hx
    obtain ⟨⟨h0, h1⟩, h2⟩ := mem_keysF.1 (List.mem_of_getElem? hc)
    obtain ⟨p, hp⟩ := Option.isSome_iff_exists.1 h2
    refine ⟨c.toNat, by omega, by rw [← hx]; show c = _; omega, ?_⟩
    unfold itsN
    rw [List.getElem?_map, hrd, keys_full hf, List.getElem?_map, List.getElem?_range (by omega)]
    show some (itN t.rd t2.lv (Int.ofNat c.toNat)) = some x
    rw [show Int.ofNat c.toNat = c from by show ((c.toNat : Nat) : Int) = c; omega, ← hx]
    unfold itN
    rw [hp, hsub c p hp, hlv]
theorem eqIt_same (c v a n : Int) (b : Bool) (w : World) : (Op.equalIn 10000 40 (.agg #[.int .i64 c, .int .i64 v, .int .i64 a, .bool b, .int .i64 n]) (.agg #[.int .i64 c, .int .i64 v, .int .i64 a, .bool b, .int .i64 n])).run Try.prog w = .ok true w := by
  rw [show (10000 : Nat) = 9999 + 1 from rfl, Op.equalIn]
  simp only [Sem.run_bind, run_underlying Try.underlying40, Result.andThen_ok]
  go_simp
set_option maxHeartbeats 12800000 in
theorem rahead_walk (w : World) (v0 : Value) (l : List POp) (ve va : Nat → Int) (hl : Arr OpE 5 w v0 l) (wl : ∀ x ∈ l, K64 x.n) (wa : ∀ k, k < 16 → K64 (va k)) :
    Calls Try.prog 3 #[v0, .agg (a16C ve), .agg (a16C va)] w fun e w' => e = .returned (.bool true) ∧ w.grownBy w' none := by
  obtain ⟨A0, c0, rfl⟩ := hl.len
  have HL := As.mk hl
  have HWL := As.mk wl
  have HWA := As.mk wa
  have hl1 := hl.le
  have HB4 := As.mk ((Blk.new w 23 (a16C ve)).alloc (.cells (a16C va) 23))
  have HB5 := As.mk (Blk.new2 w (.cells (a16C ve) 23) 23 (a16C va))
  have HG0 := As.mk (gr_alloc (gr_alloc (gr_refl w none) (.cells (a16C ve) 23)) (.cells (a16C va) 23))
  have HL0 := As.mk (hl.below HG0.out (fun _ _ h => h))
  clear hl wl wa HL
  go_enter Try.func3, Try.ntmps3
  go_wp2_with fail
  generalize (w.alloc (.cells (a16C ve) 23)).alloc (.cells (a16C va) 23) = W at *
  have HBE := As.mk (And.intro HB4.out.lt HB5.out.lt)
  generalize w.heap.size + 1 = b5 at *
  generalize w.heap.size = b4 at *
  refine (awake22 W).mono ?_
  rintro e w1 ⟨rfl, hg⟩
  have HG1 := As.mk hg
  clear hg
  by_cases h80 : (80 : Int) < (l.length : Int)
  · go_wp2_with fail
    go_ret
    exact ⟨rfl, gr_then HG0.out HG1.out (.inl rfl)⟩
  have hd80 : decide ((80 : Int) < (l.length : Int)) = false := decide_eq_false h80
  have HB41 := As.mk (HB4.out.grown HG1.out (by simp))
  go_wp2_with (refine wpl_load_row_g (by rfl) 23 _ rfl b4 rfl 23 (a16C ve) _ _ HB41.out Try.underlying23 rfl (by kernel_rfl) ?_)
  refine (versioned_c w1 ve).mono ?_
  rintro e w2 ⟨⟨bv, rfl, hbv⟩, hg⟩
  have HG2 := As.mk (gr_then HG1.out hg (.inl rfl))
  have HBV := As.mk hbv
  clear hg hbv HB41 HG1
  cases bv with
  | false =>
    go_wp2_with fail
    go_ret
    exact ⟨rfl, gr_then HG0.out HG2.out (.inl rfl)⟩
  | true =>
    have HV := As.mk (HBV.out rfl)
    clear HBV
    go_wp2_with fail
    cases hp : pRight l with
    | false =>
      refine (rnew_no (HL0.out.below HG2.out (fun _ _ h => h)) hp).mono ?_
      rintro e w3 ⟨rfl, hg⟩
      have HG3 := As.mk (gr_then HG2.out hg (.inl rfl))
      have HP := As.mk hp
      clear hg hp HG2
      go_wp2_with fail
      refine (rnew_no (HL0.out.below HG3.out (fun _ _ h => h)) HP.out).mono ?_
      rintro e w4 ⟨rfl, hg⟩
      have HG4 := As.mk (gr_then HG3.out hg (.inl rfl))
      clear hg HG3
      go_wp2_with fail
      go_ret
      exact ⟨rfl, gr_then HG0.out HG4.out (.inl rfl)⟩
    | true =>
      refine (rnew_c HG2.out (HL0.out.below HG2.out (fun _ _ h => h)) hp).mono ?_
      rintro e w3 ⟨rb, G, rfl, hra, _, _⟩
      have HP := As.mk hp
      have HRA := As.mk hra
      have hle3 := hra.gr
      have HG3 := As.mk hle3
      clear hra hp hle3 HG2
      go_wp2_with fail
      refine (rnew_c HG3.out (HL0.out.below HG3.out (fun _ _ h => h)) HP.out).mono ?_
      rintro e w4 ⟨sb, H, rfl, hsa, hg, hH⟩
      have HDJ := As.mk (show ∀ k, G k → ¬ H k from fun k h1 h2 => by have := (HRA.out.fp k h1).2; have := hH k h2; omega)
      have HRA2 := As.mk (HRA.out.grown hg)
      have HSA := As.mk hsa
      clear hsa hg hH HRA HG3
      go_wp2_with fail
      go_loopw [11] (fun i wr => ∃ k : Nat, k ≤ 16 ∧ i = .int .i64 k ∧ As (∃ t H1, RunAt W wr sb H1 l t (k * 10) ∧ RunAt W wr rb G l startR 0 ∧ (∀ q, G q → ¬ H1 q) ∧ Fill ve va k t)) (fun i _ => 16 - (intOf i).toNat)
      case atStart => exact ⟨0, Nat.zero_le _, rfl, ⟨startR, H, HSA.out, HRA2.out, HDJ.out, Fill.start ve va⟩⟩
      case round =>
        obtain ⟨k, hk, rfl, HX⟩ := hrel
        obtain ⟨t, H1, hsa, hra, hdj, hfi⟩ := HX.out
        clear HX HSA HRA2 HDJ
        have HSA := As.mk hsa
        have HRA := As.mk hra
        have HDJ := As.mk hdj
        have HFI := As.mk hfi
        clear hsa hra hdj hfi
        by_cases hlt : k < 16
        · have hltI : (k : Int) < 16 := by omega
          have hk0 : (0 : Int) ≤ (k : Int) := by omega
          have HSE := As.mk (HFI.out.new hlt HV.out)
          have HFN := As.mk (HFI.out.step hlt HV.out)
          have HKV := As.mk (HV.out k hlt)
          have HKA := As.mk (HWA.out k hlt)
          have hc4 : ∀ {w' : World}, W.grownBy w' none → w'.cell? ⟨b4, k, none⟩ = some (.int .i64 (ve k)) := fun hg => ((HB4.out.grown hg (by simp)).cell k).trans (a16_get ve k hlt)
          have hc5 : ∀ {w' : World}, W.grownBy w' none → w'.cell? ⟨b5, k, none⟩ = some (.int .i64 (va k)) := fun hg => ((HB5.out.grown hg (by simp)).cell k).trans (a16_get va k hlt)
          have HC4 := As.mk @hc4
          have HC5 := As.mk @hc5
          clear hc4 hc5
          generalize hva : va k = vk at *
          generalize hve : ve k = ek at *
          go_upto_region 12 with fail
          refine wp_region_noPanic ?_
          refine wp_region_held_drew (S := fun w' => w'.cell? ⟨b4, k, none⟩ = some (.int .i64 ek) ∧ w'.cell? ⟨b5, k, none⟩ = some (.int .i64 vk)) (by kernel_rfl) (⟨HC4.out (gr_drew HSA.out.gr), HC5.out (gr_drew HSA.out.gr)⟩) (fun hS => ?_)
          refine wpAnyH_take (i := 0) (v := ?va1) rfl (by kernel_rfl) (by kernel_rfl) (by kernel_rfl) (fun _ _ _ h => h) (Or.inl ⟨by rfl, ?ya1⟩) hS ?ra1
          case ya1 => (intro w0 _; go_simp; try with_reducible rfl)
          try simp only [yA, yB, yC, Act.put, yD, yE, yF]
          refine wpAnyH_take (i := 1) (v := ?va2) rfl (by kernel_rfl) (by kernel_rfl) (by kernel_rfl) (fun _ _ _ h => h) (Or.inl ⟨by rfl, ?ya2⟩) hS ?ra2
          case ya2 => (intro w0 _; go_simp; try with_reducible rfl)
          try simp only [yA, yB, yC, Act.put, yD, yE, yF]
          refine wpAnyH_take (i := 2) (v := ?va3) rfl (by kernel_rfl) (by kernel_rfl) (by kernel_rfl) (fun _ _ _ h => h) (Or.inl ⟨by rfl, ?ya3⟩) hS ?ra3
          case ya3 => (intro w0 _; go_simp; try with_reducible rfl)
          try simp only [yA, yB, yC, Act.put, yD, yE, yF]
          refine wpAnyH_take (i := 3) (v := ?va4) rfl (by kernel_rfl) (by kernel_rfl) (by kernel_rfl) (fun _ _ _ h => h) (Or.inl ⟨by rfl, ?ya4⟩) hS ?ra4
          case ya4 => (intro w0 _; go_simp; try with_reducible rfl)
          try simp only [yA, yB, yC, Act.put, yD, yE, yF]
          refine wpAnyH_take (i := 4) (v := ?va5) rfl (by kernel_rfl) (by kernel_rfl) (by kernel_rfl) (fun _ _ _ h => h) (Or.inl ⟨by rfl, ?ya5⟩) hS ?ra5
          case ya5 => (intro w0 hS0; (try simp only [] at hS0); obtain ⟨hS0_0, hS0_1⟩ := hS0; go_simp; try with_reducible rfl)
          try simp only [yA, yB, yC, Act.put, yD, yE, yF]
          refine wpAnyH_take (i := 5) (v := ?va6) rfl (by kernel_rfl) (by kernel_rfl) (by kernel_rfl) (fun _ _ _ h => h) (Or.inl ⟨by rfl, ?ya6⟩) hS ?ra6
          case ya6 => (intro w0 _; go_simp; try with_reducible rfl)
          try simp only [yA, yB, yC, Act.put, yD, yE, yF]
          refine wpAnyH_take (i := 6) (v := ?va7) rfl (by kernel_rfl) (by kernel_rfl) (by kernel_rfl) (fun _ _ _ h => h) (Or.inl ⟨by rfl, ?ya7⟩) hS ?ra7
          case ya7 => (intro w0 _; go_simp; try with_reducible rfl)
          try simp only [yA, yB, yC, Act.put, yD, yE, yF]
          refine wpAnyH_take (i := 7) (v := ?va8) rfl (by kernel_rfl) (by kernel_rfl) (by kernel_rfl) (fun _ _ _ h => h) (Or.inl ⟨by rfl, ?ya8⟩) hS ?ra8
          case ya8 => (intro w0 hS0; (try simp only [] at hS0); obtain ⟨hS0_0, hS0_1⟩ := hS0; go_simp; try with_reducible rfl)
          try simp only [yA, yB, yC, Act.put, yD, yE, yF]
          refine wpAnyH_ready (rs := [8]) (by kernel_rfl) (by simp) (AllReadyH.cons (i := 8) rfl (fun K hK => ?_) AllReadyH.nil)
          go_simp
          refine (give_c (HSA.out.grown (gr_drew (gr_refl _ none))) (k : Int) ek vk (k64_nat k (by omega)) ⟨by have := HKV.out; omega, by have := HKV.out; omega⟩ HKA.out (by omega)).mono ?_
          rintro e0 w5 ⟨rfl, H2, hsa, hng⟩
          rw [HSE.out]
          go_simp
          refine hK.out _ _ (⟨HC4.out hsa.gr, HC5.out hsa.gr⟩) (fun hS => ?_)
          clear hK K
          try simp only [yA, yB, yC, Act.put, yD, yE, yF]
          have HSA2 := As.mk hsa
          have HRA2 := As.mk (HRA.out.other ((ng_drew _).trans hng) (fun q hq => (HSA.out.fp q hq).1) HDJ.out)
          clear hsa hng
          refine wpAnyH_take (i := 9) (v := ?va10) rfl (by kernel_rfl) (by kernel_rfl) (by kernel_rfl) (fun _ _ _ h => h) (Or.inl ⟨by rfl, ?ya10⟩) hS ?ra10
          case ya10 => (intro w0 _; go_simp; try with_reducible rfl)
          try simp only [yA, yB, yC, Act.put, yD, yE, yF]
          refine wpAnyH_take (i := 10) (v := ?va11) rfl (by kernel_rfl) (by kernel_rfl) (by kernel_rfl) (fun _ _ _ h => h) (Or.inl ⟨by rfl, ?ya11⟩) hS ?ra11
          case ya11 => (intro w0 _; go_simp; try with_reducible rfl)
          try simp only [yA, yB, yC, Act.put, yD, yE, yF]
          refine wpAnyH_take (i := 11) (v := ?va12) rfl (by kernel_rfl) (by kernel_rfl) (by kernel_rfl) (fun _ _ _ h => h) (Or.inl ⟨by rfl, ?ya12⟩) hS ?ra12
          case ya12 => (intro w0 _; go_simp; try with_reducible rfl)
          try simp only [yA, yB, yC, Act.put, yD, yE, yF]
          refine wpAnyH_take (i := 12) (v := ?va13) rfl (by kernel_rfl) (by kernel_rfl) (by kernel_rfl) (fun _ _ _ h => h) (Or.inl ⟨by rfl, ?ya13⟩) hS ?ra13
          case ya13 => (intro w0 _; go_simp; try with_reducible rfl)
          try simp only [yA, yB, yC, Act.put, yD, yE, yF]
          refine wpAnyH_ready (rs := [13]) (by kernel_rfl) (by simp) (AllReadyH.cons (i := 13) rfl (fun K hK => ?_) AllReadyH.nil)
          go_simp
          refine (took_c HSA2.out k hlt).mono ?_
          rintro e0 w6 ⟨rfl, H3, hsa, hng⟩
          go_simp
          refine hK.out _ _ (⟨HC4.out hsa.gr, HC5.out hsa.gr⟩) (fun hS => ?_)
          clear hK K
          try simp only [yA, yB, yC, Act.put, yD, yE, yF]
          have HSA3 := As.mk hsa
          have HRA3 := As.mk (HRA2.out.1.other hng (fun q hq => (HSA2.out.fp q hq).1) HRA2.out.2)
          clear hsa hng
          refine wpAnyH_take (i := 14) (v := ?va15) rfl (by kernel_rfl) (by kernel_rfl) (by kernel_rfl) (fun _ _ _ h => h) (Or.inl ⟨by rfl, ?ya15⟩) hS ?ra15
          case ya15 => (intro w0 _; go_simp; try with_reducible rfl)
          try simp only [yA, yB, yC, Act.put, yD, yE, yF]
          refine wpAnyH_take (i := 15) (v := ?va16) rfl (by kernel_rfl) (by kernel_rfl) (by kernel_rfl) (fun _ _ _ h => h) (Or.inl ⟨by rfl, ?ya16⟩) hS ?ra16
          case ya16 => (intro w0 _; go_simp; try with_reducible rfl)
          try simp only [yA, yB, yC, Act.put, yD, yE, yF]
          refine wpAnyH_done (by kernel_rfl) ?_ _
          refine NoPanic.normal ?_
          try simp only [Exit.then]
          clear hS HSA HRA HDJ HSA2 HRA2
          go_wp2_with fail
          go_roundw
          case measure => simp [intOf]; omega
          case rel => exact ⟨k + 1, by omega, by simp, ⟨_, H3, HSA3.out.mono (by omega), HRA3.out.1, HRA3.out.2, HFN.out⟩⟩
        · obtain rfl : k = 16 := by omega
          have HB41 := As.mk (HB4.out.grown HSA.out.gr (by simp))
          have HB51 := As.mk (HB5.out.grown HSA.out.gr (by simp))
          go_wp2_with (first | (refine wpList_load_row rfl 23 _ rfl b4 rfl 23 (a16C ve) _ _ HB41.out Try.underlying23 rfl (by kernel_rfl) ?_) | (refine wpList_load_row rfl 23 _ rfl b5 rfl 23 (a16C va) _ _ HB51.out Try.underlying23 rfl (by kernel_rfl) ?_))
          clear HB41 HB51
          refine (drive_c HRA.out HP.out HWL.out (start_riv HP.out) (fun _ => rfl) (fun _ => rfl) ve va HV.out HWA.out (by omega)).mono ?_
          rintro e w5 ⟨n, s, G2, hre, h3, rfl, hra, hng⟩
          have HS2 := As.mk (HSA.out.other hng (fun q hq => (HRA.out.fp q hq).1) (fun q h1 h2 => HDJ.out q h2 h1))
          have HAH := As.mk (ahead HP.out HV.out (start_drv HP.out ve va) HFI.out.full HFI.out.sim hre h3)
          have HRI := As.mk (HFI.out.sim.riv (start_riv HP.out))
          have HRA2 := As.mk hra
          have HDR := As.mk (hre.drv HP.out HV.out (start_drv HP.out ve va))
          have HFU := As.mk HFI.out.full
          have HRD := As.mk (goR_rd l 40 s).1
          clear hra hng hre h3 HSA HRA HDJ HFI
          go_wp2_with fail
          refine (gon_c HS2.out.1 HP.out HWL.out HRI.out (by omega)).mono ?_
          rintro e w6 ⟨rfl, H2, hsa, hng, _⟩
          have HRA3 := As.mk (HRA2.out.other hng (fun q hq => (HS2.out.1.fp q hq).1) (fun q h1 h2 => HS2.out.2 q h2 h1)).1
          have HSA3 := As.mk hsa
          obtain ⟨a1, a2, a3, a4, a5, a6⟩ := HAH.out
          rw [a1, a2]
          have HA3 := As.mk a3
          have HA4 := As.mk a4
          have HA5 := As.mk a5
          have HA6 := As.mk a6
          clear hsa hng HRA2 HS2 HAH a1 a2 a3 a4 a5 a6 HRI
          have hne : ((goR l 40 s).1 != (goR l 40 s).1) = false := by simp
          generalize (goR l 40 s).1 = z1 at *
          generalize (goR l 40 s).2.2 = s2 at *
          generalize (goR l 40 t).2.2 = t2 at *
          have HLN := As.mk (show (itsN t2.rd t2.lv).length = 16 from by rw [its_len, HA4.out, keys_full HFU.out]; rfl)
          have hq8 := eqA8_same s2.rg
          go_wp2_with fail
          refine (regs_c HRA3.out).mono ?_
          rintro e w7 ⟨rfl, hg7⟩
          have HRA4 := As.mk (HRA3.out.grown hg7)
          have HSA4 := As.mk (HSA3.out.grown hg7)
          clear hg7 HRA3 HSA3
          go_wp2_with fail
          refine (regs_c HSA4.out).mono ?_
          rintro e w8 ⟨rfl, hg8⟩
          have HRA5 := As.mk (HRA4.out.grown hg8)
          have HSA5 := As.mk (HSA4.out.grown hg8)
          rw [HA3.out]
          clear hg8 HRA4 HSA4
          go_wp2_with fail
          refine (ritems_c HSA5.out).mono ?_
          rintro e w9 ⟨⟨vi, rfl, ho⟩, hg9⟩
          have HRA6 := As.mk (HRA5.out.grown hg9)
          have HSA6 := As.mk (HSA5.out.grown hg9)
          obtain ⟨Ai, ci, rfl⟩ := own_shape ho
          rw [HLN.out]
          clear hg9 ho HRA5 HSA5 hq8
          go_wp2_with fail
          refine (ritems_c HRA6.out).mono ?_
          rintro e w10 ⟨⟨vr, rfl, ho⟩, hg10⟩
          have HRA7 := As.mk (HRA6.out.grown hg10)
          have HSA7 := As.mk (HSA6.out.grown hg10)
          obtain ⟨Ar, cr, rfl⟩ := own_shape ho
          have HO := As.mk ho
          clear hg10 ho HRA6 HSA6
          go_wp2_with fail
          have HIT := As.mk (fun (j : Nat) (x : PIt) (hx : (itsN s2.rd s2.lv)[j]? = some x) => ahead_item HFU.out HA4.out HA5.out HA6.out hx)
          clear HRA7 HFU HA3 HA4 HA5 HA6 HRD HDR hne HV HP HWL HWA HB4 HB5 HL0
          have hl16 := its_le s2.rd s2.lv
          generalize hits : itsN s2.rd s2.lv = its at *
          clear hits
          generalize w9.heap.size = ob at *
          go_loopw [105] (fun i wr => ∃ j : Nat, j ≤ its.length ∧ i = .int .i64 j ∧ As (∃ K1, RunAt W wr sb H2 l t2 K1 ∧ wr.ownsRow ob 40 5 (.slice Ar its.length cr) its.length (itCells its))) (fun i _ => its.length - (intOf i).toNat)
          case atStart => exact ⟨0, Nat.zero_le _, rfl, ⟨_, HSA7.out, HO.out⟩⟩
          case round =>
            obtain ⟨j, hj, rfl, HX⟩ := hrel
            obtain ⟨K1, hsa, ho⟩ := HX.out
            clear HX HSA7 HO
            have HSA := As.mk hsa
            have HO := As.mk ho
            clear hsa ho
            by_cases hlt : j < its.length
            · have hltI : (j : Int) < (its.length : Int) := by omega
              have hj0 : (0 : Int) ≤ (j : Int) := by omega
              obtain ⟨x, hx⟩ : ∃ x, its[j]? = some x := ⟨_, List.getElem?_eq_getElem hlt⟩
              obtain ⟨kc, hk16, hxc, hxt⟩ := HIT.out j x hx
              obtain ⟨g1, c1, hv1, e0, e1, e2, e3, e4⟩ := own_it HO.out j x hx
              obtain ⟨xc, xv, xa, xwr, xnw⟩ := x
              dsimp only at hxc e0 e1 e2 e3 e4
              subst hxc
              have HXT := As.mk hxt
              have hq1 := eqIt_same (kc : Int) xv xa xnw xwr
              have hkI : (kc : Int) < 16 := by omega
              have hk0 : (0 : Int) ≤ (kc : Int) := by omega
              injection hv1 with hA1 _ hc1
              subst hA1
              clear hx hxt hc1
              have HT := As.mk (Blk.new wr 40 #[.int .i64 (kc : Int), .int .i64 xv, .int .i64 xa, .bool xwr, .int .i64 xnw])
              have HGA := As.mk (gr_alloc (gr_refl wr none) (.cells #[.int .i64 (kc : Int), .int .i64 xv, .int .i64 xa, .bool xwr, .int .i64 xnw] 40))
              go_upto_region 21 with fail
              generalize wr.alloc (.cells #[.int .i64 (kc : Int), .int .i64 xv, .int .i64 xa, .bool xwr, .int .i64 xnw] 40) = W2 at *
              replace HSA := As.mk (HSA.out.grown HGA.out)
              replace HO := As.mk (own_grown HO.out HGA.out (.inr (by simp [Value.ownBlock])))
              clear HGA e0 e1 e2 e3 e4
              generalize wr.heap.size = tb at *
              refine wp_region_noPanic ?_
              refine wp_region_held_drew (S := fun w' => Blk w' tb 40 #[.int .i64 (kc : Int), .int .i64 xv, .int .i64 xa, .bool xwr, .int .i64 xnw]) (by kernel_rfl) (HT.out.drew) (fun hS => ?_)
              refine wpAnyH_take (i := 0) (v := ?vb1) rfl (by kernel_rfl) (by kernel_rfl) (by kernel_rfl) (fun _ _ _ h => h) (Or.inl ⟨by rfl, ?yb1⟩) hS ?rb1
              case yb1 => (intro w0 _; go_simp; try with_reducible rfl)
              try simp only [yA, yB, yC, Act.put, yD, yE, yF]
              refine wpAnyH_take (i := 2) (v := ?vb2) rfl (by kernel_rfl) (by kernel_rfl) (by kernel_rfl) (fun _ _ _ h => h) (Or.inl ⟨by rfl, ?yb2⟩) hS ?rb2
              case yb2 => (intro w0 _; go_simp; try with_reducible rfl)
              try simp only [yA, yB, yC, Act.put, yD, yE, yF]
              refine wpAnyH_take (i := 3) (v := ?vb3) rfl (by kernel_rfl) (by kernel_rfl) (by kernel_rfl) (fun _ _ _ h => h) (Or.inl ⟨by rfl, ?yb3⟩) hS ?rb3
              case yb3 => (intro w0 hS0; (try simp only [] at hS0); obtain ⟨t0, t1, t2, t3, t4⟩ := Blk.c5 hS0; go_simp; try with_reducible rfl)
              try simp only [yA, yB, yC, Act.put, yD, yE, yF]
              refine wpAnyH_take (i := 6) (v := ?vb4) rfl (by kernel_rfl) (by kernel_rfl) (by kernel_rfl) (fun _ _ _ h => h) (Or.inl ⟨by rfl, ?yb4⟩) hS ?rb4
              case yb4 => (intro w0 hS0; (try simp only [] at hS0); obtain ⟨t0, t1, t2, t3, t4⟩ := Blk.c5 hS0; go_simp; try with_reducible rfl)
              try simp only [yA, yB, yC, Act.put, yD, yE, yF]
              refine wpAnyH_ready (rs := [1]) (by kernel_rfl) (by simp) (AllReadyH.cons (i := 1) rfl (fun K hK => ?_) AllReadyH.nil)
              go_simp
              refine (ritems_c (HSA.out.grown (gr_drew (gr_refl _ none)))).mono ?_
              rintro e0 w12 ⟨⟨v2, rfl, ho⟩, hg⟩
              obtain ⟨g2, c2, rfl, d0, d1, d2, d3, d4⟩ := own_it ho kc _ HXT.out
              rw [HLN.out]
              go_simp
              refine hK.out _ _ (HT.out.drew.grown hg (by simp)) (fun hS => ?_)
              clear hK K
              try simp only [yA, yB, yC, Act.put, yD, yE, yF]
              have HSA2 := As.mk (HSA.out.grown (gr_then (gr_drew (gr_refl _ none)) hg (.inl rfl)))
              have HO2 := As.mk (own_grown HO.out (gr_then (gr_drew (gr_refl _ none)) hg (.inl rfl)) (.inr (by simp [Value.ownBlock])))
              clear hg ho
              refine wpAnyH_take (i := 4) (v := ?vb6) rfl (by kernel_rfl) (by kernel_rfl) (by kernel_rfl) (fun _ _ _ h => h) (Or.inl ⟨by rfl, ?yb6⟩) hS ?rb6
              case yb6 => (intro w0 _; go_simp; try with_reducible rfl)
              try simp only [yA, yB, yC, Act.put, yD, yE, yF]
              refine wpAnyH_ready (rs := [5]) (by kernel_rfl) (by simp) (AllReadyH.cons (i := 5) rfl (fun K hK => ?_) AllReadyH.nil)
              go_simp
              refine hK.out _ _ (hS) (fun hS => ?_)
              clear hK K
              try simp only [yA, yB, yC, Act.put, yD, yE, yF]
              refine wpAnyH_take (i := 7) (v := ?vb8) rfl (by kernel_rfl) (by kernel_rfl) (by kernel_rfl) (fun _ _ _ h => h) (Or.inl ⟨by rfl, ?yb8⟩) hS ?rb8
              case yb8 => (intro w0 _; go_simp; try with_reducible rfl)
              try simp only [yA, yB, yC, Act.put, yD, yE, yF]
              refine wpAnyH_take (i := 8) (v := ?vb9) rfl (by kernel_rfl) (by kernel_rfl) (by kernel_rfl) (fun _ _ _ h => h) (Or.inl ⟨by rfl, ?yb9⟩) hS ?rb9
              case yb9 => (intro w0 _; go_simp; try with_reducible rfl)
              try simp only [yA, yB, yC, Act.put, yD, yE, yF]
              refine wpAnyH_take (i := 9) (v := undef) rfl (by kernel_rfl) (by kernel_rfl) (by kernel_rfl) (fun _ _ _ h => h) (Or.inr ⟨by kernel_rfl, rfl⟩) hS ?_
              try simp only [yA, yB, yC, Act.put, yD, yE, yF]
              refine wpAnyH_take (i := 10) (v := undef) rfl (by kernel_rfl) (by kernel_rfl) (by kernel_rfl) (fun _ _ _ h => h) (Or.inr ⟨by kernel_rfl, rfl⟩) hS ?_
              try simp only [yA, yB, yC, Act.put, yD, yE, yF]
              refine wpAnyH_take (i := 11) (v := ?vb12) rfl (by kernel_rfl) (by kernel_rfl) (by kernel_rfl) (fun _ _ _ h => h) (Or.inl ⟨by rfl, ?yb12⟩) hS ?rb12
              case yb12 => (intro w0 _; go_simp; try with_reducible rfl)
              try simp only [yA, yB, yC, Act.put, yD, yE, yF]
              refine wpAnyH_done (by kernel_rfl) ?_ _
              refine NoPanic.normal ?_
              try simp only [Exit.then]
              clear hS d0 d1 d2 d3 d4
              go_wp2_with fail
              go_roundw
              case measure => simp [intOf]; omega
              case rel => exact ⟨j + 1, by omega, by go_num, ⟨_, HSA2.out, HO2.out⟩⟩
            · obtain rfl : j = its.length := by omega
              go_wp2_with fail
              go_ret
              exact ⟨rfl, gr_then HG0.out HSA.out.gr (.inl rfl)⟩
end
section
open Go.RowKit
set_option linter.unusedVariables false

theorem ext_sorted : ∀ (l m : List Int), l.Pairwise (· < ·) → m.Pairwise (· < ·) → (∀ x, x ∈ l ↔ x ∈ m) → l = m
  | [], [], _, _, _ => rfl
  | [], y :: m, _, _, h => by have := (h y).2 (List.mem_cons_self ..); simp at this
  | x :: l, [], _, _, h => by have := (h x).1 (List.mem_cons_self ..); simp at this
  | x :: l, y :: m, hl, hm, h => by
    rw [List.pairwise_cons] at hl hm
    have hxy : x = y := by
      rcases List.mem_cons.1 ((h x).1 (List.mem_cons_self ..)) with e | e
      · exact e
      · rcases List.mem_cons.1 ((h y).2 (List.mem_cons_self ..)) with e' | e'
        · exact e'.symm
        · have a := hl.1 y e'
          have b := hm.1 x e
          omega
    subst hxy
    rw [ext_sorted l m hl.2 hm.2 (fun z => ⟨fun hz => by
      have a := hl.1 z hz
      rcases List.mem_cons.1 ((h z).1 (List.mem_cons_of_mem _ hz)) with e | e
      · omega
      · exact e, fun hz => by
      have a := hm.1 z hz
      rcases List.mem_cons.1 ((h z).2 (List.mem_cons_of_mem _ hz)) with e | e
      · omega
      · exact e⟩)]
theorem compact_upto (d : Array Int) (hd : ∀ i j, i ≤ j → j < d.size → d[i]! ≤ d[j]!) : ∀ m, m ≤ d.size →
    (Lib.compactUpTo d m).Pairwise (· < ·) ∧ (∀ x, x ∈ Lib.compactUpTo d m ↔ ∃ i, i < m ∧ d[i]! = x)
  | 0, _ => ⟨by simp [Lib.compactUpTo], by simp [Lib.compactUpTo]⟩
  | m + 1, h => by
    obtain ⟨h1, h2⟩ := compact_upto d hd m (by omega)
    rw [Lib.compactUpTo_succ]
    by_cases hk : Lib.keeps d m = true
    · rw [if_pos hk]
      refine ⟨?_, ?_⟩
      · rw [List.pairwise_append]
        refine ⟨h1, by simp, fun a ha b hb => ?_⟩
        rw [List.mem_singleton.1 hb]
        obtain ⟨i, hi, rfl⟩ := (h2 a).1 ha
        have hm0 : m ≠ 0 := by omega
        have hne : d[m]! ≠ d[m - 1]! := by
          unfold Lib.keeps at hk
          simpa [hm0] using hk
        have a1 := hd i (m - 1) (by omega) (by omega)
        have a2 := hd (m - 1) m (by omega) (by omega)
        omega
      · intro x
        rw [List.mem_append, h2]
        constructor
        · rintro (⟨i, hi, e⟩ | e)
          · exact ⟨i, by omega, e⟩
          · exact ⟨m, by omega, (List.mem_singleton.1 e).symm⟩
        · rintro ⟨i, hi, e⟩
          by_cases him : i = m
          · subst him; exact .inr (by rw [e]; simp)
          · exact .inl ⟨i, by omega, e⟩
    · rw [if_neg hk, List.append_nil]
      refine ⟨h1, fun x => ?_⟩
      rw [h2]
      unfold Lib.keeps at hk
      simp only [decide_eq_true_eq, not_or, ne_eq, Classical.not_not] at hk
      constructor
      · rintro ⟨i, hi, e⟩
        exact ⟨i, by omega, e⟩
      · rintro ⟨i, hi, e⟩
        by_cases him : i = m
        · subst him; exact ⟨i - 1, by omega, by rw [← hk.2]; exact e⟩
        · exact ⟨i, by omega, e⟩
def sortI (zs : List Int) : List Int := zs.mergeSort fun x y => decide (x ≤ y)
theorem compact_sort (zs : List Int) : (Lib.compact (sortI zs)).Pairwise (· < ·) ∧ ∀ x, x ∈ Lib.compact (sortI zs) ↔ x ∈ zs := by
  have hs : (sortI zs).Pairwise (fun a b => decide (a ≤ b) = true) := List.pairwise_mergeSort (fun a b c h1 h2 => by simp only [decide_eq_true_eq] at *; omega) (fun a b => by simp only [Bool.or_eq_true, decide_eq_true_eq]; omega) zs
  have hd : ∀ i j, i ≤ j → j < (sortI zs).toArray.size → (sortI zs).toArray[i]! ≤ (sortI zs).toArray[j]! := fun i j hij hj => by
    rw [List.size_toArray] at hj
    rw [List.getElem!_toArray, List.getElem!_toArray, getElem!_pos (sortI zs) i (by omega), getElem!_pos (sortI zs) j hj]
    rcases Nat.lt_or_ge i j with h | h
    · have := List.pairwise_iff_getElem.1 hs i j (by omega) hj h
      simpa using this
    · obtain rfl : i = j := by omega
      exact Int.le_refl _
  have := compact_upto (sortI zs).toArray hd (sortI zs).length (by simp)
  refine ⟨this.1, fun x => ?_⟩
  have h2 := this.2 x
  unfold Lib.compact
  rw [h2]
  rw [← (List.mergeSort_perm zs (fun x y => decide (x ≤ y))).mem_iff]
  show _ ↔ x ∈ sortI zs
  rw [List.mem_iff_getElem]
  constructor
  · rintro ⟨i, hi, e⟩
    exact ⟨i, hi, by rw [List.getElem!_toArray, getElem!_pos (sortI zs) i hi] at e; exact e⟩
  · rintro ⟨i, hi, e⟩
    exact ⟨i, hi, by rw [List.getElem!_toArray, getElem!_pos (sortI zs) i hi]; exact e⟩
/-- The cells that a program has to do with. -/
def cellK (k : Int) : Bool := k == 1 || (k == 2 || k == 9)
def cellsL (l : List POp) : List Int := (l.filter fun x => cellK x.k).map POp.c
theorem cellsL_snoc (l : List POp) (x : POp) : cellsL (l ++ [x]) = cellsL l ++ (if cellK x.k then [x.c] else []) := by
  unfold cellsL
  rw [List.filter_append, List.map_append]
  congr 1
  by_cases h : cellK x.k = true
  · simp [h]
  · simp [h]
def cellsC (l : List POp) : List Int := Lib.compact (sortI (cellsL l))
def hasCell (l : List POp) (c : Nat) : Bool := l.any fun x => cellK x.k && x.c == (c : Int)
def cellsD (l : List POp) (n : Nat) : List Int := ((List.range n).filter (hasCell l)).map (fun c : Nat => (c : Int))
theorem cellsD_succ (l : List POp) (n : Nat) : cellsD l (n + 1) = cellsD l n ++ (if hasCell l n then [(n : Int)] else []) := by
  unfold cellsD
  rw [List.range_succ, List.filter_append, List.map_append]
  congr 1
  by_cases h : hasCell l n = true
  · simp [h]
  · simp [h]
theorem cells_eq {l : List POp} (h : ∀ x ∈ l, 0 ≤ x.c ∧ x.c ≤ 15) : cellsC l = cellsD l 16 := by
  obtain ⟨h1, h2⟩ := compact_sort (cellsL l)
  refine ext_sorted _ _ h1 ?_ ?_
  · unfold cellsD
    rw [List.pairwise_map]
    refine List.Pairwise.filter _ ?_
    refine (List.pairwise_lt_range (n := 16)).imp ?_
    intro a b hab
    omega
  · intro x
    show x ∈ Lib.compact (sortI (cellsL l)) ↔ _
    rw [h2]
    unfold cellsL cellsD hasCell
    simp only [List.mem_map, List.mem_filter, List.mem_range, List.any_eq_true, Bool.and_eq_true, beq_iff_eq]
    constructor
    · rintro ⟨y, ⟨hy, hk⟩, rfl⟩
      have := h y hy
      exact ⟨y.c.toNat, ⟨by omega, y, hy, hk, by omega⟩, by omega⟩
    · rintro ⟨c, ⟨hc, y, hy, hk, e⟩, rfl⟩
      exact ⟨y, ⟨hy, hk⟩, e⟩
end
section
open Go.RowKit Go.Sort
set_option linter.unusedVariables false

def IntE (w : World) (x : Int) (cs : List Value) : Prop := cs = [.int .i64 x]
theorem IntE.any {w w' : World} (x : Int) (cs : List Value) (h : IntE w x cs) : IntE w' x cs := h
def iv (l : List Int) : List Value := l.map (Value.int .i64)
theorem Arr.of_ints {w : World} {base : Nat} {e : TypeId} {v : Value} {l : List Int} (h : w.ownsRow base e 1 v l.length (iv l)) : Arr IntE 1 w v l := by
  rcases h.2 with ⟨rfl, h0⟩ | ⟨g, cap, cur, rfl, hb, hh, h1, h2, h3, h4⟩
  · obtain rfl : l = [] := List.eq_nil_of_length_eq_zero h0
    exact ⟨none, 0, rfl, by simp, fun h => by simp at h⟩
  · refine ⟨some ⟨g, 0, none⟩, cap, rfl, ⟨by simp only [maxLen] at h2; omega, h1⟩, fun _ => ⟨_, rfl, rfl, fun j x hx => ⟨_, rfl, rfl, fun i u hu => ?_⟩⟩⟩
    have hi : i = 0 := by
      have := (List.getElem?_eq_some_iff.1 hu).1
      simp at this
      exact this
    subst hi
    have hc := h.cells (g := g) rfl j u (by
      simp at hu
      subst hu
      simp [iv, hx])
    rw [← hc]
    congr 1
    unfold Addr.add
    split
    · rename_i h0; simp [h0]
    · simp
theorem putRow_gr {w : World} {g n : Nat} (d : Array Int) : w.grownBy (putRow (Value.int .i64) (Sort.ahead w n) g 0 d) (some g) := by
  refine ⟨rfl, rfl, rfl, by simp [putRow, mapBlock, Sort.ahead], fun k hk hne => ?_⟩
  have : g ≠ k := fun e => hne (by rw [e])
  simp [putRow, mapBlock, Sort.ahead, Array.getElem?_modify, this]
theorem sort_c {w : World} {base : Nat} {v : Value} {zs : List Int} (h : w.ownsRow base 3 1 v zs.length (iv zs)) (hl : zs.length ≤ 1000000) :
    Calls Try.prog 32 #[v] w fun e w' => e = .returned (.tuple #[]) ∧ w'.ownsRow base 3 1 v (sortI zs).length (iv (sortI zs)) ∧ w.grownBy w' v.ownBlock := by
  have hl2 : (sortI zs).length = zs.length := List.length_mergeSort zs
  rcases h.2 with ⟨rfl, h0⟩ | ⟨g, cap, cur, rfl, hb, hh, h1, h2, h3, h4⟩
  · obtain rfl : zs = [] := List.eq_nil_of_length_eq_zero h0
    refine (Try.slices_Sort_int_none none 0 w).mono ?_
    rintro e w' ⟨rfl, rfl⟩
    exact ⟨rfl, by simpa [sortI] using h, gr_refl _ _⟩
  · refine (Try.slices_Sort_int g 0 cap zs w (holds_of_blockI hh (by have := h4; rw [Nat.mul_one] at this; exact this)) (Array.getElem?_eq_some_iff.1 hh).1 (by omega)).mono ?_
    rintro e w' ⟨rfl, n, os, rfl⟩
    refine ⟨rfl, ?_, grownBy_sortedI _⟩
    rw [hl2]
    exact ownsRow_sortedI (n := n) (os := os) hl2 hb hh h1 h2 h3
theorem compact_c {w : World} {base : Nat} {v : Value} {zs : List Int} (h : w.ownsRow base 3 1 v zs.length (iv zs)) (hl : zs.length ≤ 1000000) :
    Calls Try.prog 33 #[v] w fun e w' => (∃ v', e = .returned v' ∧ w'.ownsRow base 3 1 v' (Lib.compact zs).length (iv (Lib.compact zs))) ∧ w.grownBy w' v.ownBlock := by
  have hle := Lib.compact_length_le zs
  rcases h.2 with ⟨rfl, h0⟩ | ⟨g, cap, cur, rfl, hb, hh, h1, h2, h3, h4⟩
  · obtain rfl : zs = [] := List.eq_nil_of_length_eq_zero h0
    refine (Try.slices_Compact_int_empty none 0 w).mono ?_
    rintro e w' ⟨rfl, rfl⟩
    exact ⟨⟨_, rfl, h⟩, gr_refl _ _⟩
  · refine (Try.slices_Compact_int g 0 cap zs w (holds_of_blockI hh (by have := h4; rw [Nat.mul_one] at this; exact this)) (by omega) h1).mono ?_
    rintro e w' ⟨rfl, q, rfl⟩
    refine ⟨⟨_, rfl, ?_⟩, putRow_gr _⟩
    have hc := Lib.ownsRow_putRow (q := q) (k := (Lib.compact zs).length) (ys := Lib.compact zs ++ List.replicate (zs.length - (Lib.compact zs).length) 0) h (by simp; omega) (by omega)
    rw [List.take_left] at hc
    exact hc
theorem infoInt : (Try.prog.info? 3).map (fun i => (i.zero, i.size, i.bytes)) = some (some (.int .i64 0), 1, 8) := by kernel_rfl
theorem iv_snoc (l : List Int) (x : Int) : iv (l ++ [x]) = iv l ++ [.int .i64 x] := by simp [iv]
def cellsR (l : List POp) : List Int := if pRight l then cellsC l else []
set_option maxRecDepth 100000 in
set_option maxHeartbeats 6400000 in
theorem cells_c (v : Value) (l : List POp) (w : World) (h : Arr OpE 5 w v l) :
    Calls Try.prog 22 #[v] w fun e w' => (∃ v', e = .returned v' ∧ Arr IntE 1 w' v' (cellsR l)) ∧ w.grownBy w' none := by
  obtain ⟨A, c, rfl⟩ := h.len
  obtain ⟨i0, hi, hz0, hz1, hz2⟩ := info_parts infoInt
  have HI := As.mk (And.intro hi (And.intro hz0 (And.intro hz1 hz2)))
  clear hi hz0 hz1 hz2
  have H := As.mk h
  clear h
  have HD := As.mk (show cellsR l = (if pRight l then cellsC l else []) from rfl)
  generalize cellsR l = cr at *
  go_enter Try.func22, Try.ntmps22
  go_wp2_with fail
  refine (pRight_c _ l _ H.out _ rfl).mono ?_
  rintro e w1 ⟨rfl, g1⟩
  have G1 := As.mk g1
  have H1 := As.mk (H.out.below g1 (fun _ _ => OpE.any _ _))
  clear g1 H
  have HP := As.mk (fun h : pRight l = true => (pRight_all h).1)
  cases hp : pRight l
  · have HE : As (cr = []) := ⟨by rw [HD.out, hp]; rfl⟩
    clear hp HD
    go_wp2_with fail
    go_ret
    exact ⟨⟨_, rfl, by rw [HE.out]; exact ⟨none, 0, rfl, by simp, fun h => by simp at h⟩⟩, G1.out⟩
  · have HE : As (cr = cellsC l) := ⟨by rw [HD.out, hp]; rfl⟩
    have hl32 : l.length ≤ 32 := HP.out hp
    clear hp HD HP
    obtain ⟨base, hbase⟩ : ∃ b, b = w1.heap.size := ⟨_, rfl⟩
    have HB := As.mk hbase
    clear hbase
    go_wp2_with fail
    go_loopw [3, 11] (fun o i wr => ∃ k n : Nat, k ≤ l.length ∧ n ≤ k ∧ i = .int .i64 k ∧ (∃ A' c', o = .slice A' n c') ∧ As (n = (cellsL (l.take k)).length ∧ wr.ownsRow base 3 1 o n (iv (cellsL (l.take k))) ∧ w1.grownBy wr none)) (fun _ i _ => l.length - (intOf i).toNat)
    case atStart => exact ⟨0, 0, Nat.zero_le _, Nat.le_refl _, rfl, ⟨none, 0, rfl⟩, ⟨rfl, World.ownsRow_nil _ _ _ _, gr_refl _ _⟩⟩
    case round =>
      obtain ⟨k, n, hk, hnk, rfl, ⟨A', c', rfl⟩, HL⟩ := hrel
      by_cases hlt : k < l.length
      · have hltI : (k : Int) < (l.length : Int) := by omega
        have hk0 : (0 : Int) ≤ (k : Int) := by omega
        obtain ⟨bb, o, cs, rfl, hE, hcs, hcell⟩ := H1.out.at_ k l[k] (List.getElem?_eq_getElem hlt)
        obtain rfl := hE
        have c0 : wr.cell? ⟨bb, o + k * 5, none⟩ = _ := HL.out.2.2.cell (hcell 0 _ rfl) (by simp)
        have c1 := HL.out.2.2.cell (hcell 1 _ rfl) (by simp)
        have c2 := HL.out.2.2.cell (hcell 2 _ rfl) (by simp)
        have c3 := HL.out.2.2.cell (hcell 3 _ rfl) (by simp)
        have c4 := HL.out.2.2.cell (hcell 4 _ rfl) (by simp)
        have HT := As.mk (show cellsL (l.take (k + 1)) = cellsL (l.take k) ++ (if cellK (l[k]'hlt).k then [(l[k]'hlt).c] else []) by rw [List.take_succ_eq_append_getElem hlt, cellsL_snoc])
        clear hcell hcs
        generalize l[k]'hlt = x at *
        obtain ⟨xk, xc, xr, xo, xn⟩ := x
        dsimp only at c0 c1 c2 c3 c4 HT
        cases hck : cellK xk
        · have HN : As (cellsL (l.take (k + 1)) = cellsL (l.take k)) := ⟨by rw [HT.out, hck]; simp⟩
          have k1 : (xk == 1) = false := by rw [beq_eq_false_iff_ne]; rintro rfl; simp [cellK] at hck
          have k2 : (xk == 2) = false := by rw [beq_eq_false_iff_ne]; rintro rfl; simp [cellK] at hck
          have k9 : (xk == 9) = false := by rw [beq_eq_false_iff_ne]; rintro rfl; simp [cellK] at hck
          clear hck HT
          go_wp2_with fail
          go_roundw
          case measure => simp [intOf]; omega
          case rel => exact ⟨k + 1, n, by omega, by omega, by go_num, ⟨_, _, rfl⟩, ⟨by rw [HN.out]; exact HL.out.1, by rw [HN.out]; exact own_alloc1 HL.out.2.1 _, gr_alloc HL.out.2.2 _⟩⟩
        · have HN : As (cellsL (l.take (k + 1)) = cellsL (l.take k) ++ [xc]) := ⟨by rw [HT.out, hck]; simp⟩
          have hkk : xk = 1 ∨ xk = 2 ∨ xk = 9 := by simpa [cellK] using hck
          clear hck HT
          rcases hkk with rfl | rfl | rfl
          all_goals
            go_wp2_with (at_builtin; refine wpList_append_lies _ (by rfl) _ _ _ (by rfl) base 3 i0 _ 1 8 Try.underlying52 HI.out.1 HI.out.2.1 HI.out.2.2.1 HI.out.2.2.2 rfl (by omega) _ n _ (by rfl) (own_alloc2 HL.out.2.1 _ _) ⟨wr.heap.size + 1, 0, none⟩ 1 1 [.int .i64 xc] (by rfl) (by rfl) (World.news_of_block (cs := #[.int .i64 xc]) (t := 3) (fr := (0, 0)) (heap_alloc2_new wr _ _)) (by simp [Value.oneCell']) (by omega) (by simp only [maxLen]; omega) (by omega) (by have := HL.out.2.2.size; have := HB.out; simp; omega) (wr.heap.size + 2) (by simp) ?_; intro gg cap w5 hown1 hgrow hat hlt2)
            have HX := As.mk (And.intro hown1 (gr_then (gr_alloc (gr_alloc HL.out.2.2 _) _) hgrow (.inr (.inr (fun q hq => by have := HL.out.2.1.lt q hq; have := HB.out; omega)))))
            clear hown1 hgrow hat hlt2
            go_wp2_with fail
            go_roundw
            case measure => simp [intOf]; omega
            case rel => exact ⟨k + 1, n + 1, by omega, by omega, by go_num, ⟨_, _, rfl⟩, ⟨by rw [HN.out, List.length_append, ← HL.out.1]; rfl, by rw [HN.out, iv_snoc]; exact HX.out.1, HX.out.2⟩⟩
      · obtain rfl : k = l.length := by omega
        have hL := HL.out
        rw [List.take_of_length_le (Nat.le_refl _)] at hL
        obtain ⟨hn, ho, hg⟩ := hL
        rw [show cellsC l = Lib.compact (sortI (cellsL l)) from rfl] at HE
        generalize cellsL l = zs at *
        subst hn
        have HO := As.mk ho
        have HG := As.mk (gr_then G1.out hg (.inl rfl))
        have hz : zs.length ≤ 32 := by omega
        clear HL ho hg
        go_wp2_with fail
        refine (sort_c HO.out (by omega)).mono ?_
        rintro e w3 ⟨rfl, ho3, g3⟩
        have HO3 := As.mk ho3
        have HG3 := As.mk (gr_then HG.out g3 (.inr (.inr (fun q hq => by have := (HO.out.lt q hq).1; have := HB.out; have := G1.out.size; omega))))
        have hsl : (sortI zs).length = zs.length := List.length_mergeSort zs
        clear ho3 g3 HG HO
        rw [hsl] at HO3
        have HSL := As.mk hsl
        clear hsl
        go_wp2_with fail
        refine (compact_c (zs := sortI zs) (by rw [HSL.out]; exact HO3.out) (by rw [HSL.out]; omega)).mono ?_
        rintro e w4 ⟨⟨v4, rfl, ho4⟩, g4⟩
        have HO4 := As.mk (Arr.of_ints ho4)
        have HG4 := As.mk (gr_then HG3.out g4 (.inr (.inr (fun q hq => by have := (HO3.out.lt q hq).1; have := HB.out; have := G1.out.size; omega))))
        clear ho4 g4
        go_wp2_with fail
        go_ret
        exact ⟨⟨_, rfl, by rw [HE.out]; exact HO4.out⟩, HG4.out⟩
end
section
open Go.RowKit Go.Maps
set_option linter.unusedVariables false
set_option linter.unusedSimpArgs false
set_option maxRecDepth 100000

/-- Cells as a map of bools. -/
def fC (cs : List Int) : Int → Option Bool := fun c => if c ∈ cs then some true else none
theorem fC_nil : fC [] = fun _ => none := by funext c; simp [fC]
theorem fC_take {cs : List Int} {k : Nat} {x : Int} (hx : cs[k]? = some x) : updF (fC (cs.take k)) x true = fC (cs.take (k + 1)) := by
  obtain ⟨hk, rfl⟩ := List.getElem?_eq_some_iff.1 hx
  funext c
  have hm : c ∈ cs.take (k + 1) ↔ c ∈ cs.take k ∨ c = cs[k] := by
    rw [List.take_succ_eq_append_getElem hk, List.mem_append, List.mem_singleton]
  unfold updF fC
  by_cases e : c = cs[k]
  · rw [if_pos e, if_pos (hm.2 (.inr e))]
  · rw [if_neg e]
    by_cases h : c ∈ cs.take k
    · rw [if_pos h, if_pos (hm.2 (.inl h))]
    · rw [if_neg h, if_neg (fun q => by rcases hm.1 q with q | q; exact h q; exact e q)]
theorem mem_cellsC {l : List POp} {c : Int} : c ∈ cellsC l ↔ ∃ x ∈ l, cellK x.k = true ∧ x.c = c := by
  show c ∈ Lib.compact (sortI (cellsL l)) ↔ _
  rw [(compact_sort _).2]
  unfold cellsL
  simp only [List.mem_map, List.mem_filter]
  constructor
  · rintro ⟨x, ⟨h1, h2⟩, h3⟩; exact ⟨x, h1, h2, h3⟩
  · rintro ⟨x, h1, h2, h3⟩; exact ⟨x, ⟨h1, h2⟩, h3⟩
theorem cellsR_right {l : List POp} (hr : pRight l = true) : cellsR l = cellsC l := by unfold cellsR; rw [if_pos hr]
theorem cells_in {l : List POp} (hr : pRight l = true) {c : Int} (hc : c ∈ cellsR l) : 0 ≤ c ∧ c ≤ 15 := by
  rw [cellsR_right hr] at hc
  obtain ⟨x, h1, _, rfl⟩ := mem_cellsC.1 hc
  exact (opRight_bd ((pRight_all hr).2.1 x h1)).2.1
theorem cells_len {l : List POp} (hr : pRight l = true) : (cellsR l).length ≤ 16 := by
  rw [cellsR_right hr, cells_eq (fun x hx => (opRight_bd ((pRight_all hr).2.1 x hx)).2.1)]
  unfold cellsD
  have := List.length_filter_le (hasCell l) (List.range 16)
  rw [List.length_range] at this
  rw [List.length_map]
  exact this
theorem fC_dom {l : List POp} (hr : pRight l = true) : ∀ c, (fC (cellsR l) c).isSome = true → 0 ≤ c ∧ c < 16 := fun c hc => by
  unfold fC at hc
  split at hc
  · rename_i h; have := cells_in hr h; omega
  · cases hc
theorem Drv.cell {l : List POp} (hr : pRight l = true) {ve va : Nat → Int} {n : Nat} {s : RS} (hd : Drv l ve va n s) {c : Int} {p : Int × Int} (hp : s.rd.2 c = some p) : (0 ≤ c ∧ c ≤ 15) ∧ p = (ve c.toNat, va c.toNat) ∧ c ∈ cellsR l := by
  obtain ⟨h1, h2, x, h3, h4, h5⟩ := hd.rd c p hp
  refine ⟨h1, h2, ?_⟩
  rw [cellsR_right hr]
  exact mem_cellsC.2 ⟨x, h3, by unfold cellK; rcases h5 with h5 | h5 <;> rw [h5] <;> rfl, h4⟩
theorem reads_item {l : List POp} (hr : pRight l = true) {ve va : Nat → Int} {n : Nat} {s s2 : RS} (hd : Drv l ve va n s) (hrd : s2.rd = s.rd) {j : Nat} {x : PIt} (hx : (itsN s2.rd s2.lv)[j]? = some x) :
    ∃ kc : Nat, kc < 16 ∧ x.c = (kc : Int) ∧ x.v = ve kc ∧ x.a = va kc ∧ fC (cellsR l) (kc : Int) = some true := by
  unfold itsN at hx
  rw [List.getElem?_map] at hx
  cases hc : (keysF s2.rd.2)[j]? with
  | none => rw [hc] at hx; cases hx
  | some c =>
    rw [hc] at hx
    injection hx with hx
    obtain ⟨_, h2⟩ := mem_keysF.1 (List.mem_of_getElem? hc)
    obtain ⟨p, hp⟩ := Option.isSome_iff_exists.1 h2
    obtain ⟨h0, h1, h3⟩ := hd.cell hr (by rw [← hrd]; exact hp)
    have e : ((c.toNat : Nat) : Int) = c := by omega
    refine ⟨c.toNat, by omega, by rw [← hx, e]; rfl, ?_, ?_, ?_⟩
    · rw [← hx]; show ((s2.rd.2 c).getD (0, 0)).1 = _; rw [hp, h1]; rfl
    · rw [← hx]; show ((s2.rd.2 c).getD (0, 0)).2 = _; rw [hp, h1]; rfl
    · rw [e]; unfold fC; rw [if_pos h3]
theorem reads_len {l : List POp} (hr : pRight l = true) {ve va : Nat → Int} {n : Nat} {s s2 : RS} (hd : Drv l ve va n s) (hrd : s2.rd = s.rd) : (itsN s2.rd s2.lv).length ≤ (keysF (fC (cellsR l))).length := by
  rw [its_len]
  unfold keysF
  rw [← List.countP_eq_length_filter, ← List.countP_eq_length_filter]
  refine List.countP_mono_left fun c _ hc => ?_
  obtain ⟨p, hp⟩ := Option.isSome_iff_exists.1 hc
  obtain ⟨_, _, h3⟩ := hd.cell hr (by rw [← hrd]; exact hp)
  unfold fC
  rw [if_pos h3]
  rfl
/-- A cell stands in no map's block. -/
theorem cell_map {α : Type} {L : El α} {w : World} {b n : Nat} {f : Int → Option α} (h : MapF L w b n f) {a : Addr} {v : Value} (hc : w.cell? a = some v) : a.block ≠ b := by
  rintro rfl
  obtain ⟨D, h1, _⟩ := h
  obtain ⟨es, clock, hb, _⟩ := h1
  unfold World.cell? at hc
  rw [hb] at hc
  cases hc
set_option maxHeartbeats 12800000 in
theorem rreads_walk (w : World) (v0 : Value) (l : List POp) (ve va : Nat → Int) (hl : Arr OpE 5 w v0 l) (wl : ∀ x ∈ l, K64 x.n) (wa : ∀ k, k < 16 → K64 (va k)) :
    Calls Try.prog 6 #[v0, .agg (a16C ve), .agg (a16C va)] w fun e w' => e = .returned (.bool true) ∧ w.grownBy w' none := by
  obtain ⟨A0, c0, rfl⟩ := hl.len
  have HL := As.mk hl
  have HWL := As.mk wl
  have HWA := As.mk wa
  have hl1 := hl.le
  have HB4 := As.mk ((Blk.new w 23 (a16C ve)).alloc (.cells (a16C va) 23))
  have HB5 := As.mk (Blk.new2 w (.cells (a16C ve) 23) 23 (a16C va))
  have HG0 := As.mk (gr_alloc (gr_alloc (gr_refl w none) (.cells (a16C ve) 23)) (.cells (a16C va) 23))
  have HL0 := As.mk (hl.below HG0.out (fun _ _ h => h))
  have hmm := @run_makeMap Try.prog
  clear hl wl wa HL
  go_enter Try.func6, Try.ntmps6
  go_wp2_with fail
  generalize (w.alloc (.cells (a16C ve) 23)).alloc (.cells (a16C va) 23) = W at *
  generalize w.heap.size + 1 = b5 at *
  generalize w.heap.size = b4 at *
  refine (awake22 W).mono ?_
  rintro e w1 ⟨rfl, hg⟩
  have HG1 := As.mk hg
  clear hg
  by_cases h80 : (80 : Int) < (l.length : Int)
  · go_wp2_with fail
    go_ret
    exact ⟨rfl, gr_then HG0.out HG1.out (.inl rfl)⟩
  have hd80 : decide ((80 : Int) < (l.length : Int)) = false := decide_eq_false h80
  have HB41 := As.mk (HB4.out.grown HG1.out (by simp))
  go_wp2_with (refine wpl_load_row_g (by rfl) 23 _ rfl b4 rfl 23 (a16C ve) _ _ HB41.out Try.underlying23 rfl (by kernel_rfl) ?_)
  refine (versioned_c w1 ve).mono ?_
  rintro e w2 ⟨⟨bv, rfl, hbv⟩, hg⟩
  have HG2 := As.mk (gr_then HG1.out hg (.inl rfl))
  have HBV := As.mk hbv
  clear hg hbv HB41 HG1
  cases bv with
  | false =>
    go_wp2_with fail
    go_ret
    exact ⟨rfl, gr_then HG0.out HG2.out (.inl rfl)⟩
  | true =>
    have HV := As.mk (HBV.out rfl)
    clear HBV
    go_wp2_with fail
    cases hp : pRight l with
    | false =>
      refine (rnew_no (HL0.out.below HG2.out (fun _ _ h => h)) hp).mono ?_
      rintro e w3 ⟨rfl, hg⟩
      have HG3 := As.mk (gr_then HG2.out hg (.inl rfl))
      clear hg hp HG2
      go_wp2_with fail
      go_ret
      exact ⟨rfl, gr_then HG0.out HG3.out (.inl rfl)⟩
    | true =>
      refine (rnew_c HG2.out (HL0.out.below HG2.out (fun _ _ h => h)) hp).mono ?_
      rintro e w3 ⟨rb, G, rfl, hra, _, _⟩
      have HP := As.mk hp
      have HRA := As.mk hra
      clear hra hp HG2
      go_wp2_with fail
      have HM0 := As.mk (show MapF elB (w3.alloc (.map #[] 0)) w3.heap.size 0 (fC []) from by rw [fC_nil]; exact MapF.new elB w3)
      have HGM := As.mk (show ¬ G w3.heap.size from fun q => absurd (HRA.out.fp _ q).2 (Nat.lt_irrefl _))
      have HLO := As.mk (show W.heap.size ≤ w3.heap.size from HRA.out.gr.size)
      replace HRA := As.mk (HRA.out.grown (gr_alloc (gr_refl w3 none) (.map #[] 0)))
      clear hmm
      generalize w3.alloc (.map #[] 0) = W3 at *
      generalize w3.heap.size = mb at *
      refine (cells_c _ l _ (HL0.out.below HRA.out.gr (fun _ _ h => h))).mono ?_
      rintro e w4 ⟨⟨v4, rfl, hc4⟩, hg⟩
      obtain ⟨A4, c4, rfl⟩ := hc4.len
      have HC := As.mk hc4
      have HM1 := As.mk (HM0.out.kept hg (by simp))
      have HRA1 := As.mk (HRA.out.grown hg)
      have hcl := cells_len HP.out
      have HCI := As.mk (fun (c : Int) (hc : c ∈ cellsR l) => cells_in HP.out hc)
      have HFD := As.mk (fC_dom HP.out)
      have HRI := As.mk (fun {ve va : Nat → Int} {n : Nat} {s s2 : RS} (hd : Drv l ve va n s) (hrd : s2.rd = s.rd) (j : Nat) (x : PIt) => reads_item (j := j) (x := x) HP.out hd hrd)
      have HRL := As.mk (fun {ve va : Nat → Int} {n : Nat} {s s2 : RS} (hd : Drv l ve va n s) (hrd : s2.rd = s.rd) => reads_len HP.out hd hrd)
      clear hg hc4 HM0 HRA
      generalize cellsR l = cs at *
      go_wp2_with fail
      go_loopw [39] (fun i wr => ∃ k : Nat, k ≤ cs.length ∧ i = .int .i64 k ∧ As (MapF elB wr mb k (fC (cs.take k)) ∧ RunAt W wr rb G l startR 0 ∧ w4.grownBy wr (some mb))) (fun i _ => cs.length - (intOf i).toNat)
      case atStart => exact ⟨0, Nat.zero_le _, rfl, ⟨HM1.out, HRA1.out, gr_refl _ _⟩⟩
      case round =>
        obtain ⟨k, hk, rfl, HX⟩ := hrel
        by_cases hlt : k < cs.length
        · have hltI : (k : Int) < (cs.length : Int) := by omega
          have hk0 : (0 : Int) ≤ (k : Int) := by omega
          obtain ⟨c, hc⟩ : ∃ c, cs[k]? = some c := ⟨_, List.getElem?_eq_getElem hlt⟩
          obtain ⟨b, off, ds, rfl, rfl, _, hcs⟩ := HC.out.at_ k c hc
          have e0 := HX.out.2.2.cell (hcs 0 _ rfl) (by have := cell_map HM1.out (hcs 0 _ rfl); intro q; injection q with q; exact this q)
          simp only [Nat.add_zero, Nat.mul_one] at e0
          have HKC := As.mk (show K64 c from by have := HCI.out c (List.mem_of_getElem? hc); exact ⟨by omega, by omega⟩)
          have HFT := As.mk (fC_take hc)
          clear hcs hc
          go_wp2_with (at_mapUpdate; refine wpList_put_F elB _ rfl _ _ _ rfl mb k (fC (cs.take k)) rfl HX.out.1 (by omega) c true rfl rfl HKC.out trivial ?_; intro w7 hm7 hg7; have HM7 := As.mk hm7; have HG7 := As.mk hg7; clear hm7 hg7)
          have HO7 := As.mk (HX.out.2.1.other (NG.ofgr (F := fun q => q = mb) HG7.out (fun q e => .inl (by injection e with e; exact e.symm))) (fun q hq => by rw [hq]; exact HLO.out) (fun q hq e => HGM.out (e ▸ hq)))
          go_roundw
          case measure => simp [intOf]; omega
          case rel => exact ⟨k + 1, by omega, by go_num, ⟨by rw [← HFT.out]; exact HM7.out, HO7.out.1, gr_then HX.out.2.2 HG7.out (.inl rfl)⟩⟩
        · obtain rfl : k = cs.length := by omega
          have hX := HX.out
          rw [List.take_of_length_le (Nat.le_refl _)] at hX
          have HM2 := As.mk hX.1
          have HRA2 := As.mk hX.2.1
          have HB41 := As.mk (HB4.out.grown hX.2.1.gr (by simp))
          have HB51 := As.mk (HB5.out.grown hX.2.1.gr (by simp))
          clear hX HX HM1 HRA1 HC
          go_wp2_with (first | (refine wpList_load_row rfl 23 _ rfl b4 rfl 23 (a16C ve) _ _ HB41.out Try.underlying23 rfl (by kernel_rfl) ?_) | (refine wpList_load_row rfl 23 _ rfl b5 rfl 23 (a16C va) _ _ HB51.out Try.underlying23 rfl (by kernel_rfl) ?_))
          clear HB41 HB51
          refine (drive_c HRA2.out HP.out HWL.out (start_riv HP.out) (fun _ => rfl) (fun _ => rfl) ve va HV.out HWA.out (by omega)).mono ?_
          rintro e w5 ⟨n, s, G2, hre, h3, rfl, hra, hng⟩
          have hd := hre.drv HP.out HV.out (start_drv HP.out ve va)
          have HM3 := As.mk (HM2.out.ng hng HGM.out)
          have hle := hd.le
          have HIT := As.mk (HRI.out hd (goR_rd l 40 s).1)
          have HIL := As.mk (HRL.out hd (goR_rd l 40 s).1)
          have HRA3 := As.mk hra
          clear hng hre hra hd HRA2 HM2 HRI HRL
          generalize (goR l 40 s).1 = z1 at *
          generalize (goR l 40 s).2.2 = s2 at *
          have z1d : decide (z1 < 3) = false := decide_eq_false (by omega)
          have z2d : decide ((32 : Int) < (n : Int)) = false := decide_eq_false (by omega)
          go_wp2_with fail
          refine (ritems_c HRA3.out).mono ?_
          rintro e w7 ⟨⟨vr, rfl, ho⟩, hg7⟩
          have HRA4 := As.mk (HRA3.out.grown hg7)
          have HM4 := As.mk (HM3.out.1.kept hg7 (by simp))
          obtain ⟨Ar, cr, rfl⟩ := own_shape ho
          have HO := As.mk ho
          have hl16 := its_le s2.rd s2.lv
          clear hg7 ho HRA3 HM3 z1d z2d
          generalize hits : itsN s2.rd s2.lv = its at HIT HIL HO hl16 ⊢
          have HITS := As.mk hits
          clear hits
          generalize w5.heap.size = ob at *
          go_wp2_with fail
          go_loopw [62] (fun i wr => ∃ j : Nat, j ≤ its.length ∧ i = .int .i64 j ∧ As (RunAt W wr rb G2 l s2 (0 + 4000) ∧ MapF elB wr mb cs.length (fC cs) ∧ wr.ownsRow ob 40 5 (.slice Ar its.length cr) its.length (itCells its))) (fun i _ => its.length - (intOf i).toNat)
          case atStart => exact ⟨0, Nat.zero_le _, rfl, ⟨HRA4.out, HM4.out, HO.out⟩⟩
          case round =>
            obtain ⟨j, hj, rfl, HX⟩ := hrel
            obtain ⟨hra, hm, ho⟩ := HX.out
            clear HX HRA4 HM4 HO
            have HRA := As.mk hra
            have HM := As.mk hm
            have HO := As.mk ho
            clear hra hm ho
            by_cases hlt : j < its.length
            · have hltI : (j : Int) < (its.length : Int) := by omega
              have hj0 : (0 : Int) ≤ (j : Int) := by omega
              obtain ⟨x, hx⟩ : ∃ x, its[j]? = some x := ⟨_, List.getElem?_eq_getElem hlt⟩
              obtain ⟨kc, hk16, hxc, hxv, hxa, hxf⟩ := HIT.out j x hx
              obtain ⟨g1, c1, hv1, e0, e1, e2, e3, e4⟩ := own_it HO.out j x hx
              obtain ⟨xc, xv, xa, xwr, xnw⟩ := x
              dsimp only at hxc hxv hxa e0 e1 e2 e3 e4
              subst hxc hxv hxa
              have HXF := As.mk hxf
              have HKK := As.mk (k64_nat kc (by omega))
              have hkI : (kc : Int) < 16 := by omega
              have hk0 : (0 : Int) ≤ (kc : Int) := by omega
              injection hv1 with hA1 _ hc1
              subst hA1
              clear hx hxf hc1
              have hc4 : ∀ {w' : World}, W.grownBy w' none → w'.cell? ⟨b4, kc, none⟩ = some (.int .i64 (ve kc)) := fun hg => ((HB4.out.grown hg (by simp)).cell kc).trans (a16_get ve kc hk16)
              have hc5 : ∀ {w' : World}, W.grownBy w' none → w'.cell? ⟨b5, kc, none⟩ = some (.int .i64 (va kc)) := fun hg => ((HB5.out.grown hg (by simp)).cell kc).trans (a16_get va kc hk16)
              have HC4 := As.mk @hc4
              have HC5 := As.mk @hc5
              clear hc4 hc5
              generalize va kc = xa at *
              generalize ve kc = xv at *
              have HT := As.mk (Blk.new wr 40 #[.int .i64 (kc : Int), .int .i64 xv, .int .i64 xa, .bool xwr, .int .i64 xnw])
              have HGA := As.mk (gr_alloc (gr_refl wr none) (.cells #[.int .i64 (kc : Int), .int .i64 xv, .int .i64 xa, .bool xwr, .int .i64 xnw] 40))
              go_upto_region 20 with fail
              generalize wr.alloc (.cells #[.int .i64 (kc : Int), .int .i64 xv, .int .i64 xa, .bool xwr, .int .i64 xnw] 40) = W2 at *
              replace HRA := As.mk (HRA.out.grown HGA.out)
              replace HM := As.mk (HM.out.kept HGA.out (by simp))
              replace HO := As.mk (own_grown HO.out HGA.out (.inr (by simp [Value.ownBlock])))
              clear HGA e0 e1 e2 e3 e4
              generalize wr.heap.size = tb at *
              refine wp_region_noPanic ?_
              refine wp_region_held_drew (S := fun w' => Blk w' tb 40 #[.int .i64 (kc : Int), .int .i64 xv, .int .i64 xa, .bool xwr, .int .i64 xnw] ∧ MapF elB w' mb cs.length (fC cs) ∧ w'.cell? ⟨b4, kc, none⟩ = some (.int .i64 xv) ∧ w'.cell? ⟨b5, kc, none⟩ = some (.int .i64 xa)) (by kernel_rfl) (⟨HT.out.drew, HM.out.drew, HC4.out (gr_drew HRA.out.gr), HC5.out (gr_drew HRA.out.gr)⟩) (fun hS => ?_)
              refine wpAnyH_take (i := 0) (v := ?vb1) rfl (by kernel_rfl) (by kernel_rfl) (by kernel_rfl) (fun _ _ _ h => h) (Or.inl ⟨by rfl, ?yb1⟩) hS ?rb1
              case yb1 => (intro w0 _; go_simp; try with_reducible rfl)
              try simp only [yA, yB, yC, Act.put, yD, yE, yF]
              refine wpAnyH_take (i := 1) (v := ?vb2) rfl (by kernel_rfl) (by kernel_rfl) (by kernel_rfl) (fun _ _ _ h => h) (Or.inl ⟨by rfl, ?yb2⟩) hS ?rb2
              case yb2 => (intro w0 _; go_simp; try with_reducible rfl)
              try simp only [yA, yB, yC, Act.put, yD, yE, yF]
              refine wpAnyH_take (i := 2) (v := ?vb3) rfl (by kernel_rfl) (by kernel_rfl) (by kernel_rfl) (fun _ _ _ h => h) (Or.inl ⟨by rfl, ?yb3⟩) hS ?rb3
              case yb3 => (intro w0 hS0; (try simp only [] at hS0); obtain ⟨hS0_0, hS0_1, hS0_2, hS0_3⟩ := hS0; obtain ⟨t0, t1, t2, t3, t4⟩ := hS0_0.c5; go_simp; try with_reducible rfl)
              try simp only [yA, yB, yC, Act.put, yD, yE, yF]
              refine wpAnyH_take (i := 3) (v := ?vb4) rfl (by kernel_rfl) (by kernel_rfl) (by kernel_rfl) (fun _ _ _ h => h) (Or.inl ⟨by rfl, ?yb4⟩) hS ?rb4
              case yb4 => (intro w0 hS0; (try simp only [] at hS0); obtain ⟨hS0_0, hS0_1, hS0_2, hS0_3⟩ := hS0; have q : (Instr.lookup 53 (.map (some mb)) (.int .i64 (kc : Int)) false).run Try.prog w0 = .ok (.bool true) w0 := hS0_1.run1 HKK.out HXF.out; go_simp; try with_reducible rfl)
              try simp only [yA, yB, yC, Act.put, yD, yE, yF]
              refine wpAnyH_take (i := 4) (v := ?vb5) rfl (by kernel_rfl) (by kernel_rfl) (by kernel_rfl) (fun _ _ _ h => h) (Or.inl ⟨by rfl, ?yb5⟩) hS ?rb5
              case yb5 => (intro w0 _; go_simp; try with_reducible rfl)
              try simp only [yA, yB, yC, Act.put, yD, yE, yF]
              refine wpAnyH_take (i := 5) (v := ?vb6) rfl (by kernel_rfl) (by kernel_rfl) (by kernel_rfl) (fun _ _ _ h => h) (Or.inl ⟨by rfl, ?yb6⟩) hS ?rb6
              case yb6 => (intro w0 _; go_simp; try with_reducible rfl)
              try simp only [yA, yB, yC, Act.put, yD, yE, yF]
              refine wpAnyH_take (i := 6) (v := ?vb7) rfl (by kernel_rfl) (by kernel_rfl) (by kernel_rfl) (fun _ _ _ h => h) (Or.inl ⟨by rfl, ?yb7⟩) hS ?rb7
              case yb7 => (intro w0 _; go_simp; try with_reducible rfl)
              try simp only [yA, yB, yC, Act.put, yD, yE, yF]
              refine wpAnyH_take (i := 7) (v := ?vb8) rfl (by kernel_rfl) (by kernel_rfl) (by kernel_rfl) (fun _ _ _ h => h) (Or.inl ⟨by rfl, ?yb8⟩) hS ?rb8
              case yb8 => (intro w0 hS0; (try simp only [] at hS0); obtain ⟨hS0_0, hS0_1, hS0_2, hS0_3⟩ := hS0; obtain ⟨t0, t1, t2, t3, t4⟩ := hS0_0.c5; go_simp; try with_reducible rfl)
              try simp only [yA, yB, yC, Act.put, yD, yE, yF]
              refine wpAnyH_take (i := 8) (v := ?vb9) rfl (by kernel_rfl) (by kernel_rfl) (by kernel_rfl) (fun _ _ _ h => h) (Or.inl ⟨by rfl, ?yb9⟩) hS ?rb9
              case yb9 => (intro w0 _; go_simp; try with_reducible rfl)
              try simp only [yA, yB, yC, Act.put, yD, yE, yF]
              refine wpAnyH_take (i := 9) (v := ?vb10) rfl (by kernel_rfl) (by kernel_rfl) (by kernel_rfl) (fun _ _ _ h => h) (Or.inl ⟨by rfl, ?yb10⟩) hS ?rb10
              case yb10 => (intro w0 hS0; (try simp only [] at hS0); obtain ⟨hS0_0, hS0_1, hS0_2, hS0_3⟩ := hS0; obtain ⟨t0, t1, t2, t3, t4⟩ := hS0_0.c5; go_simp; try with_reducible rfl)
              try simp only [yA, yB, yC, Act.put, yD, yE, yF]
              refine wpAnyH_take (i := 10) (v := ?vb11) rfl (by kernel_rfl) (by kernel_rfl) (by kernel_rfl) (fun _ _ _ h => h) (Or.inl ⟨by rfl, ?yb11⟩) hS ?rb11
              case yb11 => (intro w0 _; go_simp; try with_reducible rfl)
              try simp only [yA, yB, yC, Act.put, yD, yE, yF]
              refine wpAnyH_take (i := 11) (v := ?vb12) rfl (by kernel_rfl) (by kernel_rfl) (by kernel_rfl) (fun _ _ _ h => h) (Or.inl ⟨by rfl, ?yb12⟩) hS ?rb12
              case yb12 => (intro w0 hS0; (try simp only [] at hS0); obtain ⟨hS0_0, hS0_1, hS0_2, hS0_3⟩ := hS0; go_simp; try with_reducible rfl)
              try simp only [yA, yB, yC, Act.put, yD, yE, yF]
              refine wpAnyH_take (i := 12) (v := ?vb13) rfl (by kernel_rfl) (by kernel_rfl) (by kernel_rfl) (fun _ _ _ h => h) (Or.inl ⟨by rfl, ?yb13⟩) hS ?rb13
              case yb13 => (intro w0 _; go_simp; try with_reducible rfl)
              try simp only [yA, yB, yC, Act.put, yD, yE, yF]
              refine wpAnyH_take (i := 13) (v := ?vb14) rfl (by kernel_rfl) (by kernel_rfl) (by kernel_rfl) (fun _ _ _ h => h) (Or.inl ⟨by rfl, ?yb14⟩) hS ?rb14
              case yb14 => (intro w0 _; go_simp; try with_reducible rfl)
              try simp only [yA, yB, yC, Act.put, yD, yE, yF]
              refine wpAnyH_take (i := 14) (v := ?vb15) rfl (by kernel_rfl) (by kernel_rfl) (by kernel_rfl) (fun _ _ _ h => h) (Or.inl ⟨by rfl, ?yb15⟩) hS ?rb15
              case yb15 => (intro w0 _; go_simp; try with_reducible rfl)
              try simp only [yA, yB, yC, Act.put, yD, yE, yF]
              refine wpAnyH_take (i := 15) (v := ?vb16) rfl (by kernel_rfl) (by kernel_rfl) (by kernel_rfl) (fun _ _ _ h => h) (Or.inl ⟨by rfl, ?yb16⟩) hS ?rb16
              case yb16 => (intro w0 _; go_simp; try with_reducible rfl)
              try simp only [yA, yB, yC, Act.put, yD, yE, yF]
              refine wpAnyH_take (i := 16) (v := ?vb17) rfl (by kernel_rfl) (by kernel_rfl) (by kernel_rfl) (fun _ _ _ h => h) (Or.inl ⟨by rfl, ?yb17⟩) hS ?rb17
              case yb17 => (intro w0 hS0; (try simp only [] at hS0); obtain ⟨hS0_0, hS0_1, hS0_2, hS0_3⟩ := hS0; obtain ⟨t0, t1, t2, t3, t4⟩ := hS0_0.c5; go_simp; try with_reducible rfl)
              try simp only [yA, yB, yC, Act.put, yD, yE, yF]
              refine wpAnyH_take (i := 17) (v := ?vb18) rfl (by kernel_rfl) (by kernel_rfl) (by kernel_rfl) (fun _ _ _ h => h) (Or.inl ⟨by rfl, ?yb18⟩) hS ?rb18
              case yb18 => (intro w0 _; go_simp; try with_reducible rfl)
              try simp only [yA, yB, yC, Act.put, yD, yE, yF]
              refine wpAnyH_take (i := 18) (v := ?vb19) rfl (by kernel_rfl) (by kernel_rfl) (by kernel_rfl) (fun _ _ _ h => h) (Or.inl ⟨by rfl, ?yb19⟩) hS ?rb19
              case yb19 => (intro w0 hS0; (try simp only [] at hS0); obtain ⟨hS0_0, hS0_1, hS0_2, hS0_3⟩ := hS0; obtain ⟨t0, t1, t2, t3, t4⟩ := hS0_0.c5; go_simp; try with_reducible rfl)
              try simp only [yA, yB, yC, Act.put, yD, yE, yF]
              refine wpAnyH_take (i := 19) (v := ?vb20) rfl (by kernel_rfl) (by kernel_rfl) (by kernel_rfl) (fun _ _ _ h => h) (Or.inl ⟨by rfl, ?yb20⟩) hS ?rb20
              case yb20 => (intro w0 _; go_simp; try with_reducible rfl)
              try simp only [yA, yB, yC, Act.put, yD, yE, yF]
              refine wpAnyH_take (i := 20) (v := ?vb21) rfl (by kernel_rfl) (by kernel_rfl) (by kernel_rfl) (fun _ _ _ h => h) (Or.inl ⟨by rfl, ?yb21⟩) hS ?rb21
              case yb21 => (intro w0 hS0; (try simp only [] at hS0); obtain ⟨hS0_0, hS0_1, hS0_2, hS0_3⟩ := hS0; go_simp; try with_reducible rfl)
              try simp only [yA, yB, yC, Act.put, yD, yE, yF]
              refine wpAnyH_take (i := 21) (v := ?vb22) rfl (by kernel_rfl) (by kernel_rfl) (by kernel_rfl) (fun _ _ _ h => h) (Or.inl ⟨by rfl, ?yb22⟩) hS ?rb22
              case yb22 => (intro w0 _; go_simp; try with_reducible rfl)
              try simp only [yA, yB, yC, Act.put, yD, yE, yF]
              refine wpAnyH_take (i := 22) (v := ?vb23) rfl (by kernel_rfl) (by kernel_rfl) (by kernel_rfl) (fun _ _ _ h => h) (Or.inl ⟨by rfl, ?yb23⟩) hS ?rb23
              case yb23 => (intro w0 _; go_simp; try with_reducible rfl)
              try simp only [yA, yB, yC, Act.put, yD, yE, yF]
              refine wpAnyH_done (by kernel_rfl) ?_ _
              refine NoPanic.normal ?_
              try simp only [Exit.then]
              clear hS
              go_wp2_with fail
              go_roundw
              case measure => simp [intOf]; omega
              case rel => exact ⟨j + 1, by omega, by go_num, ⟨HRA.out.grown (gr_drew (gr_refl _ none)), HM.out.drew, HO.out⟩⟩
            · obtain rfl : j = its.length := by omega
              go_wp2_with fail
              refine (ritems_c HRA.out).mono ?_
              rintro e w9 ⟨⟨v9, rfl, ho9⟩, hg9⟩
              obtain ⟨A9, c9, rfl⟩ := own_shape ho9
              rw [HITS.out]
              obtain ⟨D, hown, hD⟩ := HM.out.kept hg9 (by simp)
              have HSZ := As.mk (size_F hown hD HFD.out)
              have HGE := As.mk (HRA.out.gr.trans hg9)
              clear ho9 hg9 hD
              go_wp2_with (at_len; refine wpList_len_own _ rfl _ 53 rfl 3 4 Try.underlying53 _ mb cs.length D rfl hown ?_)
              go_ret
              refine ⟨?_, gr_then HG0.out HGE.out (.inl rfl)⟩
              rw [HSZ.out]
              have := HIL.out
              simp
              omega
end
end Go.Proofs.Ytgmhopkajopfcaa
