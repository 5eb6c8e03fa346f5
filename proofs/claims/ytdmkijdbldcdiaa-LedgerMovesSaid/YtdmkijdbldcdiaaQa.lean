/- LedgerAgain: a state's own records make it. Plain Lean. -/
import Derived.Test.YtdmkijdbldcdiaaOi
namespace Go.Proofs.Ytdmkijdbldcdiaa
open Go.RowKit
set_option linter.unusedVariables false
set_option linter.unusedSimpArgs false

def isZ (p : PPl) : Bool := p.st == 0 && (p.hop == 0 && (p.to_ == 0 && (p.ver == 0 && p.val == 0)))
def baseR (s : PSt) : PRec := ⟨1, zT, [], [], s.node, s.nodes, s.cells, 0, 0, 0, 0, 0, false⟩
def epR (s : PSt) : PRec := ⟨2, zT, [], [], 0, 0, s.epoch, 0, 0, 0, 0, 0, false⟩
def cellR (c : Int) (p : PPl) : PRec := ⟨3, zT, [], [], p.to_, 0, 0, c, p.st, p.hop, p.ver, p.val, false⟩
def pastR (d : PDe) : PRec := ⟨11, d.tid, [], [], 0, 0, 0, 0, 0, 0, 0, 0, d.yes⟩
def prepR (p : PPr) : PRec := ⟨4, p.tid, p.items, p.nodes, 0, 0, 0, 0, 0, 0, 0, 0, false⟩
def comR (c : PCm) : PRec := ⟨5, c.tid, c.items, c.nodes, 0, 0, 0, 0, 0, 0, 0, 0, false⟩
def endR (c : PCm) : PRec := ⟨7, c.tid, [], [], 0, 0, 0, 0, 0, 0, 0, 0, false⟩
/-- The records of the first k places. -/
def plR (ps : List PPl) : Nat → List PRec
  | 0 => []
  | k + 1 => plR ps k ++ (match ps[k]? with | some p => if isZ p = true then [] else [cellR (k : Int) p] | none => [])
def cmR (c : PCm) : List PRec := if c.over = true then [comR c, endR c] else [comR c]
def headR (s : PSt) : List PRec := if 0 < s.epoch then [baseR s, epR s] else [baseR s]
def recsS (s : PSt) : List PRec := headR s ++ plR s.places s.places.length ++ s.decided.map pastR ++ s.prepared.map prepR ++ s.commits.flatMap cmR
theorem applyL_app {s t : PSt} {l m : List PRec} (h : applyL s l = (0, t)) : applyL s (l ++ m) = applyL t m := by
  induction l generalizing s with
  | nil => injection h with _ h; subst h; rfl
  | cons r l ih =>
    rw [List.cons_append]
    show (if rightR r = true then (if (applyE s r).1 = 0 then applyL (applyE s r).2 (l ++ m) else ((applyE s r).1, zS)) else (1, zS)) = _
    have h' : (if rightR r = true then (if (applyE s r).1 = 0 then applyL (applyE s r).2 l else ((applyE s r).1, zS)) else (1, zS)) = (0, t) := h
    split at h'
    · rename_i h1
      rw [if_pos h1]
      split at h'
      · rename_i h2
        rw [if_pos h2]
        exact ih h'
      · rename_i h2
        injection h' with h3 _
        exact absurd h3 h2
    · injection h' with h3 _
      cases h3
theorem apply1 {s t : PSt} {r : PRec} (hr : rightR r = true) (h : applyE s r = (0, t)) : applyL s [r] = (0, t) := by
  rw [applyL_one', if_pos hr, h, if_pos rfl]
theorem isZ_iff (p : PPl) : isZ p = true ↔ p = zPl := by
  obtain ⟨a, b, c, d, e⟩ := p
  simp [isZ, zPl]
section
variable {s : PSt}
theorem headR_apply (h : SInv s) (t : PSt) : applyL t (headR s) = (0, { baseS s.node s.nodes s.cells with epoch := s.epoch }) := by
  have h1 : applyL t [baseR s] = (0, baseS s.node s.nodes s.cells) := by
    refine apply1 ?_ ?_
    · unfold rightR
      rw [Bool.and_eq_true]
      refine ⟨by simp [bareB, plainR, bareX, baseR, eqT, zT], ?_⟩
      have := h.nodes; have := h.node; have := h.cells
      simp [rightK, baseR, inR_iff]
      omega
    · simp [applyE, baseR]
  unfold headR
  by_cases h0 : 0 < s.epoch
  · rw [if_pos h0, show [baseR s, epR s] = [baseR s] ++ [epR s] from rfl, applyL_app h1]
    refine apply1 ?_ ?_
    · unfold rightR
      rw [Bool.and_eq_true]
      refine ⟨by simp [bareB, plainR, bareX, epR, eqT, zT], ?_⟩
      have := h.epoch
      simp [rightK, epR, inR_iff]
      omega
    · have e : applyE (baseS s.node s.nodes s.cells) (epR s) = if s.epoch ≤ 0 then (10, baseS s.node s.nodes s.cells) else (0, { baseS s.node s.nodes s.cells with epoch := s.epoch }) := by
        unfold applyE epR
        rw [if_neg (show ¬ ((2 : Int) == 1) = true by decide), if_pos (show ((2 : Int) == 2) = true by decide)]
        rfl
      rw [e, if_neg (by omega)]
  · rw [if_neg h0, h1]
    have := h.epoch.1
    rw [show s.epoch = 0 by omega]; rfl
/-- The first k places are s's. -/
def pl1 (s : PSt) (k : Nat) : PSt := { baseS s.node s.nodes s.cells with epoch := s.epoch, places := s.places.take k ++ List.replicate (s.places.length - k) zPl }
theorem pl1_len (k : Nat) (hk : k ≤ s.places.length) : (pl1 s k).places.length = s.places.length := by
  show (s.places.take k ++ List.replicate (s.places.length - k) zPl).length = _
  rw [List.length_append, List.length_take, List.length_replicate]; omega
theorem pl1_set (k : Nat) (hk : k < s.places.length) : (s.places.take k ++ List.replicate (s.places.length - k) zPl).set k (s.places[k]'hk) = s.places.take (k + 1) ++ List.replicate (s.places.length - (k + 1)) zPl := by
  have hl : (s.places.take k).length = k := by rw [List.length_take]; omega
  rw [List.set_append_right _ _ (by omega), hl, Nat.sub_self, show s.places.length - k = (s.places.length - (k + 1)) + 1 by omega, List.replicate_succ, List.set_cons_zero, List.take_succ_eq_append_getElem hk, List.append_assoc]; rfl
theorem pl1_skip (k : Nat) (hk : k < s.places.length) (hz : s.places[k]'hk = zPl) : s.places.take (k + 1) ++ List.replicate (s.places.length - (k + 1)) zPl = s.places.take k ++ List.replicate (s.places.length - k) zPl := by
  rw [show s.places.length - k = (s.places.length - (k + 1)) + 1 by omega, List.replicate_succ, List.take_succ_eq_append_getElem hk, List.append_assoc, hz]; rfl
theorem plR_apply (h : SInv s) (k : Nat) (hk : k ≤ s.places.length) : applyL (pl1 s 0) (plR s.places k) = (0, pl1 s k) := by
  induction k with
  | zero => rfl
  | succ k ih =>
    have hkl : k < s.places.length := by omega
    unfold plR
    rw [applyL_app (ih (by omega)), List.getElem?_eq_getElem hkl]
    dsimp only
    by_cases hz : isZ (s.places[k]'hkl) = true
    · rw [if_pos hz]
      show (0, pl1 s k) = (0, pl1 s (k + 1))
      unfold pl1
      rw [pl1_skip k hkl ((isZ_iff _).1 hz)]
    · rw [if_neg hz]
      have hp := h.pl _ (List.getElem_mem hkl)
      have hc16 := h.cells.2.2
      have hn16 := h.nodes.2
      refine apply1 ?_ ?_
      · unfold rightR
        rw [Bool.and_eq_true]
        refine ⟨by simp [bareB, plainR, bareX, cellR, eqT, zT], ?_⟩
        have e : rightK (cellR (k : Int) (s.places[k]'hkl)) = rcellB (cellR (k : Int) (s.places[k]'hkl)) := by simp [rightK, cellR]
        rw [e]
        unfold rcellB placedB
        have h1 := hp.st
        have h2 := hp.hop
        have h3 := hp.ver
        rw [Bool.and_eq_true, Bool.and_eq_true, Bool.and_eq_true, Bool.and_eq_true, inR_iff, inR_iff, inR_iff, inR_iff]
        refine ⟨?_, ⟨by show (0 : Int) ≤ (k : Int) ∧ (k : Int) ≤ 15; omega, by show 0 ≤ (s.places[k]'hkl).hop ∧ (s.places[k]'hkl).hop ≤ 1099511627776; omega⟩, by show 0 ≤ (s.places[k]'hkl).st ∧ (s.places[k]'hkl).st ≤ 2; omega, by show 0 ≤ (s.places[k]'hkl).ver ∧ (s.places[k]'hkl).ver ≤ 1099511627776; omega⟩
        by_cases h2 : (s.places[k]'hkl).st = 2
        · rw [if_pos (show (cellR (k : Int) (s.places[k]'hkl)).st = 2 from h2), inR_iff]
          have := hp.to1 h2
          show 1 ≤ (s.places[k]'hkl).to_ ∧ (s.places[k]'hkl).to_ ≤ 16
          omega
        · rw [if_neg (show ¬ (cellR (k : Int) (s.places[k]'hkl)).st = 2 from h2)]
          have := hp.to2 h2
          show ((s.places[k]'hkl).to_ == 0) = true
          simpa using this
      · have e1 : cellB (pl1 s k) (k : Int) = true := cellB_iff.2 ⟨by omega, by rw [pl1_len k (by omega)]; omega⟩
        have e2 : lockedB (pl1 s k) (k : Int) = false := by
          rw [Bool.eq_false_iff]
          intro hl
          obtain ⟨_, p, hp, _⟩ := lockedB_iff.1 hl
          cases hp
        have e3 : ¬ (pl1 s k).nodes < (s.places[k]'hkl).to_ := by
          show ¬ s.nodes < (s.places[k]'hkl).to_
          by_cases h2 : (s.places[k]'hkl).st = 2
          · have := hp.to1 h2; omega
          · have := hp.to2 h2; have := h.nodes.1; omega
        have e4 : applyE (pl1 s k) (cellR (k : Int) (s.places[k]'hkl)) = if cellB (pl1 s k) (k : Int) = false then (1, pl1 s k) else if (pl1 s k).nodes < (s.places[k]'hkl).to_ then (1, pl1 s k) else if lockedB (pl1 s k) (k : Int) = true then (12, pl1 s k) else (0, setAt (pl1 s k) (k : Int) (s.places[k]'hkl)) := by
          unfold applyE cellR
          rw [if_neg (show ¬ ((3 : Int) == 1) = true by decide), if_neg (show ¬ ((3 : Int) == 2) = true by decide), if_pos (show ((3 : Int) == 3) = true by decide)]
        rw [e4, if_neg (by rw [e1]; decide), if_neg e3, if_neg (by rw [e2]; decide)]
        unfold setAt
        rw [Int.toNat_natCast]
        show (0, ({ pl1 s k with places := (s.places.take k ++ List.replicate (s.places.length - k) zPl).set k (s.places[k]'hkl) } : PSt)) = _
        rw [pl1_set k hkl]; rfl
def de1 (s : PSt) (k : Nat) : PSt := ⟨s.node, s.nodes, s.cells, s.epoch, s.places, [], s.decided.take k, []⟩
theorem de1_apply (h : SInv s) (k : Nat) (hk : k ≤ s.decided.length) : applyL (de1 s 0) ((s.decided.take k).map pastR) = (0, de1 s k) := by
  induction k with
  | zero => rfl
  | succ k ih =>
    have hkl : k < s.decided.length := by omega
    have hd := h.de _ (List.getElem_mem hkl)
    have hlt : ∀ x ∈ s.decided.take k, ordT x.tid (s.decided[k]'hkl).tid < 0 := fun x hx => by
      obtain ⟨j, hj, rfl⟩ := List.mem_take_iff_getElem.1 hx
      exact List.pairwise_iff_getElem.1 h.ded j k (by omega) hkl (by omega)
    rw [List.take_succ_eq_append_getElem hkl, List.map_append, applyL_app (ih (by omega))]
    refine apply1 ?_ ?_
    · unfold rightR
      rw [Bool.and_eq_true]
      exact ⟨by simp [bareB, plainR, bareX, pastR, eqT], by simp [rightK, pastR]; exact hd.1⟩
    · have e1 : applyE (de1 s k) (pastR (s.decided[k]'hkl)) = pastE (de1 s k) (pastR (s.decided[k]'hkl)) := by simp [applyE, pastR]
      have e2 : knownB (de1 s k) (pastR (s.decided[k]'hkl)).tid = false := by
        rw [Bool.eq_false_iff]
        intro hkn
        rcases known_yes.1 hkn with ⟨p, hp, _⟩ | ⟨x, hx, e⟩
        · cases hp
        · exact ordT_ne (hlt x hx) e
      have e3 : freshE (de1 s k) (pastR (s.decided[k]'hkl)).tid = 0 := by
        unfold freshE
        rw [if_neg (show ¬ (de1 s k).nodes < (pastR (s.decided[k]'hkl)).tid.n from by have := hd.2; show ¬ s.nodes < (s.decided[k]'hkl).tid.n; omega), if_pos]
        have := h.tb
        simp [roomB, de1]
        omega
      rw [e1]
      unfold pastE
      rw [if_neg (by rw [e2]; decide), if_pos e3]
      unfold decS
      show (0, ({ de1 s k with decided := insT (fun x : PDe => x.tid) (s.decided.take k) (s.decided[k]'hkl) } : PSt)) = _
      rw [insT_last _ _ _ hlt, ← List.take_succ_eq_append_getElem hkl]; rfl
def pr1 (s : PSt) (k : Nat) : PSt := ⟨s.node, s.nodes, s.cells, s.epoch, s.places, s.prepared.take k, s.decided, []⟩
theorem free_zero {t : PSt} {l : List PIt} (h : ∀ x ∈ l, ownsB t x.c = true ∧ lockedB t x.c = false ∧ verAt t x.c = x.v) : freeE t l = 0 := by
  induction l with
  | nil => rfl
  | cons x l ih =>
    obtain ⟨h1, h2, h3⟩ := h x List.mem_cons_self
    unfold freeE
    rw [if_neg (by rw [h1]; decide), if_neg (by rw [h2]; decide), if_neg (by rw [h3]; simp)]
    exact ih fun y hy => h y (List.mem_cons_of_mem _ hy)
theorem pr1_apply (h : SInv s) (k : Nat) (hk : k ≤ s.prepared.length) : applyL (pr1 s 0) ((s.prepared.take k).map prepR) = (0, pr1 s k) := by
  induction k with
  | zero => rfl
  | succ k ih =>
    have hkl : k < s.prepared.length := by omega
    have hp := h.pr _ (List.getElem_mem hkl)
    have hlt : ∀ x ∈ s.prepared.take k, ordT x.tid (s.prepared[k]'hkl).tid < 0 ∧ ∀ a ∈ x.items, ∀ b ∈ (s.prepared[k]'hkl).items, a.c ≠ b.c := fun x hx => by
      obtain ⟨j, hj, rfl⟩ := List.mem_take_iff_getElem.1 hx
      exact ⟨List.pairwise_iff_getElem.1 h.prd j k (by omega) hkl (by omega), List.pairwise_iff_getElem.1 h.prx j k (by omega) hkl (by omega)⟩
    rw [List.take_succ_eq_append_getElem hkl, List.map_append, applyL_app (ih (by omega))]
    have hx : ∀ x ∈ (s.prepared[k]'hkl).items, (0 ≤ x.c ∧ x.c < (pr1 s k).places.length) ∧ ownsB (pr1 s k) x.c = true ∧ lockedB (pr1 s k) x.c = false ∧ verAt (pr1 s k) x.c = x.v := fun x hx => by
      have hc := hp.cellOk hx
      obtain ⟨q, hq, hq1, hq2⟩ := hp.own x hx
      refine ⟨hc, ownsB_iff.2 ⟨hc, ?_⟩, ?_, ?_⟩
      · unfold placeAt
        rw [show (pr1 s k).places[x.c.toNat]? = some q from hq]; exact hq1
      · rw [Bool.eq_false_iff]
        intro hl
        obtain ⟨_, z, hz, y, hy, e⟩ := lockedB_iff.1 hl
        exact (hlt z hz).2 y hy x hx e
      · unfold verAt
        rw [show (pr1 s k).places[x.c.toNat]? = some q from hq]; exact hq2
    refine apply1 ?_ ?_
    · unfold rightR
      rw [Bool.and_eq_true]
      refine ⟨by simp [bareB, plainR, bareX, prepR, eqT], ?_⟩
      simp [rightK, prepR]
      exact ⟨hp.tid, hp.items, hp.nodes⟩
    · have e1 : applyE (pr1 s k) (prepR (s.prepared[k]'hkl)) = prepE (pr1 s k) (prepR (s.prepared[k]'hkl)) := by simp [applyE, prepR]
      have e2 : knownB (pr1 s k) (prepR (s.prepared[k]'hkl)).tid = false := by
        rw [Bool.eq_false_iff]
        intro hkn
        rcases known_yes.1 hkn with ⟨z, hz, e⟩ | ⟨x, hx, e⟩
        · exact ordT_ne (hlt z hz).1 e
        · exact h.dis _ (List.getElem_mem hkl) x hx e.symm
      have e5 : (prepR (s.prepared[k]'hkl)).nodes.any (fun x => (pr1 s k).node == x) = true := List.any_eq_true.2 ⟨s.node, hp.has, by show (s.node == s.node) = true; simp⟩
      have e6 : (prepR (s.prepared[k]'hkl)).items.any (fun x : PIt => !cellB (pr1 s k) x.c) = false := by
        rw [List.any_eq_false]
        intro x hx'
        rw [cellB_iff.2 (hx x hx').1]
        decide
      have e7 : freeE (pr1 s k) (prepR (s.prepared[k]'hkl)).items = 0 := free_zero fun x hx' => (hx x hx').2
      have e8 : roomB (pr1 s k) = true := by
        have := h.tb
        simp [roomB, pr1]
        omega
      rw [e1]
      unfold prepE
      rw [if_neg (by rw [e2]; decide), if_neg (show ¬ (pr1 s k).nodes < (prepR (s.prepared[k]'hkl)).tid.n from by have := hp.tn; show ¬ s.nodes < (s.prepared[k]'hkl).tid.n; omega), if_neg (by rw [show strangeB (pr1 s k) (prepR (s.prepared[k]'hkl)).nodes = false from hp.str]; decide), if_neg (by rw [e5]; decide), if_neg (by rw [e6]; decide), if_neg (by rw [e7]; decide), if_neg (by rw [e8]; decide)]
      show (0, ({ pr1 s k with prepared := insT (fun x : PPr => x.tid) (s.prepared.take k) (s.prepared[k]'hkl) } : PSt)) = _
      rw [insT_last _ _ _ (fun x hx => (hlt x hx).1), ← List.take_succ_eq_append_getElem hkl]; rfl
def cm1 (s : PSt) (k : Nat) : PSt := ⟨s.node, s.nodes, s.cells, s.epoch, s.places, s.prepared, s.decided, s.commits.take k⟩
theorem cm1_apply (h : SInv s) (k : Nat) (hk : k ≤ s.commits.length) : applyL (cm1 s 0) ((s.commits.take k).flatMap cmR) = (0, cm1 s k) := by
  induction k with
  | zero => rfl
  | succ k ih =>
    have hkl : k < s.commits.length := by omega
    have hc := h.cmo _ (List.getElem_mem hkl)
    have hlt : ∀ x ∈ s.commits.take k, x.tid ≠ (s.commits[k]'hkl).tid := fun x hx => by
      obtain ⟨j, hj, rfl⟩ := List.mem_take_iff_getElem.1 hx
      exact List.pairwise_iff_getElem.1 h.cmd j k (by omega) hkl (by omega)
    rw [List.take_succ_eq_append_getElem hkl, List.flatMap_append, applyL_app (ih (by omega))]
    rw [List.flatMap_cons, List.flatMap_nil, List.append_nil]
    have hlen : (s.commits.take k).length = k := by rw [List.length_take]; omega
    have hcom : applyL (cm1 s k) [comR (s.commits[k]'hkl)] = (0, { cm1 s k with commits := s.commits.take k ++ [{ (s.commits[k]'hkl) with over := false }] }) := by
      refine apply1 ?_ ?_
      · unfold rightR
        rw [Bool.and_eq_true]
        refine ⟨by simp [bareB, plainR, bareX, comR, eqT], ?_⟩
        simp [rightK, comR]
        exact ⟨hc.tid, by rcases hc.items with e | e; exact .inl e; exact .inr e, hc.nodes⟩
      · have e1 : applyE (cm1 s k) (comR (s.commits[k]'hkl)) = commitE (cm1 s k) (comR (s.commits[k]'hkl)) := by simp [applyE, comR]
        rw [e1]
        unfold commitE
        have e4 : ¬ 0 ≤ findI (fun x : PCm => eqT x.tid (comR (s.commits[k]'hkl)).tid) (cm1 s k).commits := by
          rw [findI_none]
          · decide
          · rw [List.any_eq_false]
            intro x hx e
            exact hlt x hx ((eqT_iff _ _).1 e)
        rw [if_neg (by rw [show ((comR (s.commits[k]'hkl)).tid.n == (cm1 s k).node) = true from by show ((s.commits[k]'hkl).tid.n == s.node) = true; rw [hc.tn]; simp]; decide), if_neg (by rw [show strangeB (cm1 s k) (comR (s.commits[k]'hkl)).nodes = false from hc.str]; decide), if_neg e4, if_neg (show ¬ 512 ≤ (cm1 s k).commits.length from by have := h.cm; show ¬ 512 ≤ (s.commits.take k).length; omega)]
        rfl
    unfold cmR
    rcases bool_cases (s.commits[k]'hkl).over with ho | ho
    · rw [if_neg (by rw [ho]; decide), hcom]
      show (0, ({ cm1 s k with commits := s.commits.take k ++ [{ (s.commits[k]'hkl) with over := false }] } : PSt)) = (0, cm1 s (k + 1))
      unfold cm1
      rw [List.take_succ_eq_append_getElem hkl]
      congr 3
      rw [← ho]
    · rw [if_pos ho, show [comR (s.commits[k]'hkl), endR (s.commits[k]'hkl)] = [comR (s.commits[k]'hkl)] ++ [endR (s.commits[k]'hkl)] from rfl, applyL_app hcom]
      refine apply1 ?_ ?_
      · unfold rightR
        rw [Bool.and_eq_true]
        exact ⟨by simp [bareB, plainR, bareX, endR, eqT], by simp [rightK, endR]; exact hc.tid⟩
      · generalize hS : ({ cm1 s k with commits := s.commits.take k ++ [{ (s.commits[k]'hkl) with over := false }] } : PSt) = S
        have hcs : S.commits = s.commits.take k ++ [{ (s.commits[k]'hkl) with over := false }] := by rw [← hS]
        have e1 : applyE S (endR (s.commits[k]'hkl)) = endE S (endR (s.commits[k]'hkl)) := by simp [applyE, endR]
        have hat : S.commits[k]? = some { (s.commits[k]'hkl) with over := false } := by
          rw [hcs, List.getElem?_append_right (by omega), hlen]; simp
        have e2 : S.commits.findIdx? (fun x => eqT x.tid (endR (s.commits[k]'hkl)).tid) = some k := by
          refine findI_one (fun x : PCm => x.tid) (d := { (s.commits[k]'hkl) with over := false }) ?_ hat
          rw [hcs, List.pairwise_append]
          refine ⟨h.cmd.sublist (List.take_sublist _ _), by simp, fun a ha b hb => ?_⟩
          have := List.mem_singleton.1 hb
          subst this
          exact hlt a ha
        rw [e1]
        unfold endE
        rw [e2]
        dsimp only
        have e3 : overAt S k = false := by unfold overAt; rw [hat]
        rw [if_neg (by rw [e3]; decide)]
        have e4 : overSet S.commits k = s.commits.take k ++ [s.commits[k]'hkl] := by
          unfold overSet
          rw [hat]
          dsimp only
          rw [hcs, List.set_append_right _ _ (by omega), hlen, Nat.sub_self, List.set_cons_zero, ← ho]
        rw [e4, ← List.take_succ_eq_append_getElem hkl, ← hS]; rfl
/-- A state's own records make it, behind whatever state. -/
theorem again (h : SInv s) (t : PSt) : applyL t (recsS s) = (0, s) := by
  unfold recsS
  rw [List.append_assoc, List.append_assoc, List.append_assoc, applyL_app (headR_apply h t)]
  have e0 : ({ baseS s.node s.nodes s.cells with epoch := s.epoch } : PSt) = pl1 s 0 := by
    unfold pl1 baseS
    rw [show s.cells.toNat = s.places.length by have := h.cells.1; omega]; rfl
  have e1 : pl1 s s.places.length = de1 s 0 := by
    unfold pl1 baseS de1
    rw [List.take_length, Nat.sub_self, List.replicate_zero, List.append_nil]; rfl
  have e2 : de1 s s.decided.length = pr1 s 0 := by unfold de1 pr1; rw [List.take_length]; rfl
  have e3 : pr1 s s.prepared.length = cm1 s 0 := by unfold pr1 cm1; rw [List.take_length]; rfl
  have e4 : cm1 s s.commits.length = s := by unfold cm1; rw [List.take_length]
  have h1 := plR_apply h s.places.length (Nat.le_refl _)
  have h2 := de1_apply h s.decided.length (Nat.le_refl _)
  have h3 := pr1_apply h s.prepared.length (Nat.le_refl _)
  have h4 := cm1_apply h s.commits.length (Nat.le_refl _)
  rw [List.take_length] at h2 h3 h4
  rw [e0, applyL_app h1, e1, applyL_app h2, e2, applyL_app h3, e3, h4, e4]
end
end Go.Proofs.Ytdmkijdbldcdiaa
