/- LedgerStays: what a record that can follow leaves as it was. Plain Lean. -/
import Derived.Test.YtdmkijdbldcdiaaOi
namespace Go.Proofs.Ytdmkijdbldcdiaa
open Go.RowKit
set_option linter.unusedVariables false
set_option linter.unusedSimpArgs false

structure StaysP (s t : PSt) (inn : Bool) : Prop where
  de : ∀ d ∈ s.decided, d ∈ t.decided
  cm : ∀ (i : Nat) (c : PCm), s.commits[i]? = some c → ∃ c', t.commits[i]? = some c' ∧ c'.tid = c.tid ∧ (c.over = true → c'.over = true)
  pr : ∀ p ∈ s.prepared, knownB t p.tid = true
  len : t.places.length = s.places.length
  pl : ∀ (i : Nat) (p q : PPl), s.places[i]? = some p → t.places[i]? = some q → p.hop ≤ q.hop ∧ (inn = false → p.st = 1 → q.st = 1 → p.ver ≤ q.ver) ∧ (lockedB s i = true → lockedB t i = true → q = p)
  ep : s.epoch ≤ t.epoch
theorem known_pr {s : PSt} {p : PPr} (hp : p ∈ s.prepared) : knownB s p.tid = true := known_yes.2 (.inl ⟨p, hp, rfl⟩)
theorem same_pl {s t : PSt} {inn : Bool} (h : t.places = s.places) : ∀ (i : Nat) (p q : PPl), s.places[i]? = some p → t.places[i]? = some q → p.hop ≤ q.hop ∧ (inn = false → p.st = 1 → q.st = 1 → p.ver ≤ q.ver) ∧ (lockedB s i = true → lockedB t i = true → q = p) := fun i p q h1 h2 => by
  rw [h, h1] at h2
  injection h2 with h2
  subst h2
  exact ⟨Int.le_refl _, fun _ _ _ => Int.le_refl _, fun _ _ => rfl⟩
theorem same_cm {s t : PSt} (h : t.commits = s.commits) : ∀ (i : Nat) (c : PCm), s.commits[i]? = some c → ∃ c', t.commits[i]? = some c' ∧ c'.tid = c.tid ∧ (c.over = true → c'.over = true) := fun i c hc => ⟨c, by rw [h]; exact hc, rfl, fun h => h⟩
theorem StaysP.refl (s : PSt) (b : Bool) : StaysP s s b := ⟨fun d h => h, same_cm rfl, fun p hp => known_pr hp, rfl, same_pl rfl, Int.le_refl _⟩
theorem StaysP.dec (s : PSt) (t : PTid) (y b : Bool) : StaysP s (decS s t y) b := by
  refine ⟨fun d h => (insT_mem' _ _ _ _).2 (.inr h), same_cm rfl, fun p hp => ?_, rfl, same_pl rfl, Int.le_refl _⟩
  exact known_yes.2 (.inl ⟨p, hp, rfl⟩)
/-- One place is set, which is not locked. -/
theorem StaysP.setAt {s : PSt} {c : Int} (hc : 0 ≤ c ∧ c < s.places.length) (hl : lockedB s c = false) {p : PPl} {b : Bool} (h1 : (placeAt s c).hop ≤ p.hop) (h2 : b = false → (placeAt s c).st = 1 → p.st = 1 → (placeAt s c).ver ≤ p.ver) : StaysP s (setAt s c p) b := by
  refine ⟨fun d h => h, same_cm rfl, fun q hq => known_yes.2 (.inl ⟨q, hq, rfl⟩), by simp [Go.Proofs.Ytdmkijdbldcdiaa.setAt], fun i u v hu hv => ?_, Int.le_refl _⟩
  have hv' : (s.places.set c.toNat p)[i]? = some v := hv
  by_cases e : c.toNat = i
  · subst e
    rw [List.getElem?_set_self (by omega)] at hv'
    injection hv' with hv'
    subst hv'
    have := (placeAt_mem hc).2
    rw [hu] at this
    injection this with this
    subst this
    refine ⟨h1, h2, fun h => ?_⟩
    rw [show ((c.toNat : Nat) : Int) = c by omega, hl] at h
    cases h
  · rw [List.getElem?_set_ne e, hu] at hv'
    injection hv' with hv'
    subst hv'
    exact ⟨Int.le_refl _, fun _ _ _ => Int.le_refl _, fun _ _ => rfl⟩
theorem StaysP.fin {s : PSt} (h : SInv s) {k : Nat} {p : PPr} (hp : s.prepared[k]? = some p) (y b : Bool) : StaysP s (finS s k p y) b := by
  have hk := h.pr p (List.mem_of_getElem? hp)
  have hpw := ((itemsOk_iff _).1 hk.items).2.2
  have hp0 : ∀ x ∈ p.items, 0 ≤ x.c := fun x hx => (hk.itemOk hx).1.1
  refine ⟨fun d hd => (insT_mem' _ _ _ _).2 (.inr hd), same_cm rfl, fun q hq => ?_, fin_len, fun i u v hu hv => ?_, Int.le_refl _⟩
  · by_cases e : q.tid = p.tid
    · exact known_yes.2 (.inr ⟨⟨p.tid, y⟩, (insT_mem' _ _ _ _).2 (.inl rfl), e.symm⟩)
    · refine known_yes.2 (.inl ⟨q, ?_, rfl⟩)
      show q ∈ s.prepared.eraseIdx k
      obtain ⟨j, hj⟩ := List.getElem?_of_mem hq
      obtain ⟨hjl, hje⟩ := List.getElem?_eq_some_iff.1 hj
      refine List.mem_eraseIdx_iff_getElem.2 ⟨j, hjl, fun ej => e ?_, hje⟩
      subst ej
      rw [hp] at hj
      injection hj with hj
      rw [hj]
  · have hv' : (if y = true then p.items.foldl updP s.places else s.places)[i]? = some v := hv
    have hsame : v = u → p.items = p.items → u.hop ≤ v.hop ∧ (b = false → u.st = 1 → v.st = 1 → u.ver ≤ v.ver) ∧ (lockedB s i = true → lockedB (finS s k p y) i = true → v = u) := fun e _ => by
      subst e
      exact ⟨Int.le_refl _, fun _ _ _ => Int.le_refl _, fun _ _ => rfl⟩
    cases y
    · rw [if_neg (by decide), hu] at hv'
      injection hv' with hv'
      exact hsame hv'.symm rfl
    · rw [if_pos rfl, fold_at _ hpw hp0, hu, Option.map_some] at hv'
      injection hv' with hv'
      rcases updAt_cases p.items i u with hc | ⟨x, hx, hw, hxi, hc⟩
      · rw [hc] at hv'
        exact hsame hv'.symm rfl
      · rw [hc] at hv'
        subst hv'
        have hver := (h.pl u (List.mem_of_getElem? hu)).ver
        refine ⟨Int.le_refl _, fun _ _ _ => by show u.ver ≤ IntKind.i64.wrap (u.ver + 1); rw [wrap1 _ hver]; omega, fun _ hl => ?_⟩
        have h2 := fin_unlocked h hp true hx
        have h3 := hp0 x hx
        rw [show (i : Int) = x.c by omega, h2] at hl
        cases hl
theorem stays {s : PSt} (h : SInv s) {r : PRec} (hr : rightR r = true) (h0 : (applyE s r).1 = 0) (hk1 : r.kind ≠ 1) (hk3 : r.kind ≠ 3) : StaysP s (applyE s r).2 (r.kind == 9) := by
  have hk : rightK r = true := by unfold rightR at hr; rw [Bool.and_eq_true] at hr; exact hr.2
  unfold applyE at h0 ⊢
  rw [if_neg (by simpa using hk1)] at h0 ⊢
  by_cases k2 : (r.kind == 2) = true
  · rw [if_pos k2] at h0 ⊢
    split at h0
    · cases h0
    · rename_i hne
      rw [if_neg hne]
      exact ⟨fun d h => h, same_cm rfl, fun p hp => known_yes.2 (.inl ⟨p, hp, rfl⟩), rfl, same_pl rfl, by show s.epoch ≤ r.num; omega⟩
  rw [if_neg k2, if_neg (by simpa using hk3)] at h0 ⊢
  by_cases k4 : (r.kind == 4) = true
  · rw [if_pos k4] at h0 ⊢
    unfold prepE at h0 ⊢
    rcases bool_cases (knownB s r.tid) with c1 | c1
    · rw [if_neg (by rw [c1]; decide)] at h0 ⊢
      by_cases c2 : s.nodes < r.tid.n
      · rw [if_pos c2] at h0; cases h0
      rw [if_neg c2] at h0 ⊢
      rcases bool_cases (strangeB s r.nodes) with c3 | c3
      · rw [if_neg (by rw [c3]; decide)] at h0 ⊢
        rcases bool_cases (r.nodes.any (fun x => s.node == x)) with c4 | c4
        · rw [if_pos c4] at h0; cases h0
        rw [if_neg (by rw [c4]; decide)] at h0 ⊢
        rcases bool_cases (r.items.any (fun x : PIt => !cellB s x.c)) with c5 | c5
        · rw [if_neg (by rw [c5]; decide)] at h0 ⊢
          by_cases c6 : freeE s r.items ≠ 0
          · rw [if_pos c6] at h0; exact absurd h0 c6
          rw [if_neg c6] at h0 ⊢
          rcases bool_cases (roomB s) with c7 | c7
          · rw [if_pos c7] at h0; cases h0
          rw [if_neg (by rw [c7]; decide)]
          exact ⟨fun d h => h, same_cm rfl, fun p hp => known_yes.2 (.inl ⟨p, (insT_mem' _ _ _ _).2 (.inr hp), rfl⟩), rfl, same_pl rfl, Int.le_refl _⟩
        · rw [if_pos c5] at h0; cases h0
      · rw [if_pos c3] at h0; cases h0
    · rw [if_pos c1] at h0; cases h0
  rw [if_neg k4] at h0 ⊢
  by_cases k5 : (r.kind == 5) = true
  · rw [if_pos k5] at h0 ⊢
    unfold commitE at h0 ⊢
    rcases bool_cases (r.tid.n == s.node) with c1 | c1
    · rw [if_pos c1] at h0; cases h0
    rw [if_neg (by rw [c1]; decide)] at h0 ⊢
    rcases bool_cases (strangeB s r.nodes) with c2 | c2
    · rw [if_neg (by rw [c2]; decide)] at h0 ⊢
      by_cases c3 : 0 ≤ findI (fun x : PCm => eqT x.tid r.tid) s.commits
      · rw [if_pos c3] at h0; cases h0
      rw [if_neg c3] at h0 ⊢
      by_cases c4 : 512 ≤ s.commits.length
      · rw [if_pos c4] at h0; cases h0
      rw [if_neg c4]
      refine ⟨fun d h => h, fun i c hc => ⟨c, ?_, rfl, fun h => h⟩, fun p hp => known_yes.2 (.inl ⟨p, hp, rfl⟩), rfl, same_pl rfl, Int.le_refl _⟩
      show (s.commits ++ [_])[i]? = some c
      rw [List.getElem?_append_left (List.getElem?_eq_some_iff.1 hc).1]
      exact hc
    · rw [if_pos c2] at h0; cases h0
  rw [if_neg k5] at h0 ⊢
  by_cases k6 : (r.kind == 6) = true
  · rw [if_pos k6] at h0 ⊢
    have hk6 : r.kind = 6 := by simpa using k6
    unfold doneE at h0 ⊢
    split at h0
    · rename_i i hi
      obtain ⟨p, hp, ht⟩ := find_some hi
      have hia : itemsAt s i = p.items := by unfold itemsAt; rw [hp]
      have he : (if r.yes = true then { s with places := (itemsAt s i).foldl updP s.places } else s : PSt) = { s with places := if r.yes = true then p.items.foldl updP s.places else s.places } := by
        rw [hia]; split <;> rfl
      dsimp only
      rw [he, ← ht]
      exact StaysP.fin h hp r.yes _
    · rcases bool_cases (knownB s r.tid) with c1 | c1
      · rw [if_neg (by rw [c1]; decide)] at h0 ⊢
        rcases bool_cases r.yes with c2 | c2
        · rw [if_neg (by rw [c2]; decide)] at h0 ⊢
          by_cases c3 : freshE s r.tid = 0
          · rw [if_pos c3]; exact StaysP.dec _ _ _ _
          · rw [if_neg c3] at h0; exact absurd h0 c3
        · rw [if_pos c2] at h0; cases h0
      · rw [if_pos c1] at h0; cases h0
  rw [if_neg k6] at h0 ⊢
  by_cases k7 : (r.kind == 7) = true
  · rw [if_pos k7] at h0 ⊢
    unfold endE at h0 ⊢
    split at h0
    · rename_i i hi
      rcases bool_cases (overAt s i) with c1 | c1
      · rw [if_neg (by rw [c1]; decide)]
        obtain ⟨hil, _⟩ := List.findIdx?_eq_some_iff_getElem.1 hi
        have hov : overSet s.commits i = s.commits.set i { s.commits[i] with over := true } := by unfold overSet; rw [List.getElem?_eq_getElem hil]
        refine ⟨fun d h => h, fun j c hc => ?_, fun p hp => known_yes.2 (.inl ⟨p, hp, rfl⟩), rfl, same_pl rfl, Int.le_refl _⟩
        show ∃ c', (overSet s.commits i)[j]? = some c' ∧ _
        rw [hov]
        by_cases e : i = j
        · subst e
          have := (List.getElem?_eq_some_iff.1 hc).2
          exact ⟨_, List.getElem?_set_self hil, by rw [← this], fun _ => rfl⟩
        · exact ⟨c, by rw [List.getElem?_set_ne e]; exact hc, rfl, fun h => h⟩
      · rw [if_pos c1] at h0; cases h0
    · cases h0
  rw [if_neg k7] at h0 ⊢
  by_cases k8 : (r.kind == 8) = true
  · rw [if_pos k8] at h0 ⊢
    have hk8 : r.kind = 8 := by simpa using k8
    unfold outE at h0 ⊢
    rcases bool_cases (cellB s r.cell) with c1 | c1
    · rw [if_pos c1] at h0; cases h0
    rw [if_neg (by rw [c1]; decide)] at h0 ⊢
    by_cases c2 : s.nodes < r.node
    · rw [if_pos c2] at h0; cases h0
    rw [if_neg c2] at h0 ⊢
    rcases bool_cases (r.node == s.node) with c3 | c3
    · rw [if_neg (by rw [c3]; decide)] at h0 ⊢
      rcases bool_cases (ownsB s r.cell) with c4 | c4
      · rw [if_pos c4] at h0; cases h0
      rw [if_neg (by rw [c4]; decide)] at h0 ⊢
      rcases bool_cases (lockedB s r.cell) with c5 | c5
      · rw [if_neg (by rw [c5]; decide)] at h0 ⊢
        rcases bool_cases (r.hop == IntKind.i64.wrap ((placeAt s r.cell).hop + 1)) with c6 | c6
        · rw [if_pos c6] at h0; cases h0
        rw [if_neg (by rw [c6]; decide)]
        have hq := h.pl _ (placeAt_mem (cellB_iff.1 c1)).1
        have h6 : r.hop = (placeAt s r.cell).hop + 1 := by rw [← wrap1 _ hq.hop]; simpa using c6
        refine StaysP.setAt (cellB_iff.1 c1) c5 (by show _ ≤ r.hop; omega) fun _ _ h2 => ?_
        exact absurd (show (2 : Int) = 1 from h2) (by decide)
      · rw [if_pos c5] at h0; cases h0
    · rw [if_pos c3] at h0; cases h0
  rw [if_neg k8] at h0 ⊢
  by_cases k9 : (r.kind == 9) = true
  · rw [if_pos k9] at h0 ⊢
    unfold inE at h0 ⊢
    rcases bool_cases (cellB s r.cell) with c1 | c1
    · rw [if_pos c1] at h0; cases h0
    rw [if_neg (by rw [c1]; decide)] at h0 ⊢
    rcases bool_cases (ownsB s r.cell) with c2 | c2
    · rw [if_neg (by rw [c2]; decide)] at h0 ⊢
      by_cases c3 : r.hop ≤ (placeAt s r.cell).hop
      · rw [if_pos c3] at h0; cases h0
      rw [if_neg c3]
      have hul : lockedB s r.cell = false := by
        rw [Bool.eq_false_iff]
        intro hl
        obtain ⟨hc, p, hp, x, hx, e⟩ := lockedB_iff.1 hl
        obtain ⟨q, hq, hq1, _⟩ := (h.pr p hp).own x hx
        rw [e] at hq
        have := ownsB_iff.2 ⟨hc, by unfold placeAt; rw [hq]; exact hq1⟩
        rw [c2] at this; cases this
      exact StaysP.setAt (cellB_iff.1 c1) hul (by show _ ≤ r.hop; omega) fun hb => by rw [k9] at hb; cases hb
    · rw [if_pos c2] at h0; cases h0
  rw [if_neg k9] at h0 ⊢
  by_cases k10 : (r.kind == 10) = true
  · rw [if_pos k10] at h0 ⊢
    unfold goneE at h0 ⊢
    rcases bool_cases (cellB s r.cell) with c1 | c1
    · rw [if_pos c1] at h0; cases h0
    rw [if_neg (by rw [c1]; decide)] at h0 ⊢
    rcases bool_cases ((placeAt s r.cell).st == 2) with c2 | c2
    · rw [if_pos c2] at h0; cases h0
    rw [if_neg (by rw [c2]; decide)] at h0 ⊢
    rcases bool_cases (r.hop == (placeAt s r.cell).hop) with c3 | c3
    · rw [if_pos c3] at h0; cases h0
    rw [if_neg (by rw [c3]; decide)]
    have hul : lockedB s r.cell = false := by
      rw [Bool.eq_false_iff]
      intro hl
      obtain ⟨hc, p, hp, x, hx, e⟩ := lockedB_iff.1 hl
      obtain ⟨q, hq, hq1, _⟩ := (h.pr p hp).own x hx
      rw [e] at hq
      have h2 : (placeAt s r.cell).st = 2 := by simpa using c2
      unfold placeAt at h2
      rw [hq] at h2
      dsimp only at h2
      omega
    have h3 : r.hop = (placeAt s r.cell).hop := by simpa using c3
    exact StaysP.setAt (cellB_iff.1 c1) hul (by show _ ≤ r.hop; omega) fun _ _ h2 => absurd (show (0 : Int) = 1 from h2) (by decide)
  rw [if_neg k10] at h0 ⊢
  by_cases k11 : (r.kind == 11) = true
  · rw [if_pos k11] at h0 ⊢
    unfold pastE at h0 ⊢
    rcases bool_cases (knownB s r.tid) with c1 | c1
    · rw [if_neg (by rw [c1]; decide)] at h0 ⊢
      by_cases c3 : freshE s r.tid = 0
      · rw [if_pos c3]; exact StaysP.dec _ _ _ _
      · rw [if_neg c3] at h0; exact absurd h0 c3
    · rw [if_pos c1] at h0; cases h0
  rw [if_neg k11]
  exact StaysP.refl _ _
theorem applyL_inv' {s : PSt} {r : PRec} (h : SInv s) (h0 : (applyL s [r]).1 = 0) : SInv (applyL s [r]).2 := by
  have := stepS_inv h r
  unfold stepS at this
  rw [if_pos h0] at this
  exact this
theorem stays1 {s : PSt} {r : PRec} (h : SInv s) (h0 : (applyL s [r]).1 = 0) (h1 : r.kind ≠ 1) (h3 : r.kind ≠ 3) : StaysP s (applyL s [r]).2 (r.kind == 9) := by
  rw [applyL_one'] at h0 ⊢
  cases hr : rightR r
  · rw [hr] at h0; cases h0
  · rw [hr] at h0
    simp only [if_true] at h0 ⊢
    by_cases h2 : (applyE s r).1 = 0
    · rw [if_pos h2]; exact stays h hr h2 h1 h3
    · rw [if_neg h2] at h0; exact absurd h0 h2
end Go.Proofs.Ytdmkijdbldcdiaa
