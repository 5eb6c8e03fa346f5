/- LedgerMoves: a cell that goes round. Plain Lean. -/
import Derived.Test.YtdmkijdbldcdiaaQa
namespace Go.Proofs.Ytdmkijdbldcdiaa
open Go.RowKit
set_option linter.unusedVariables false
set_option linter.unusedSimpArgs false

/-- A node's state in the round: one cell, nothing else but what is prepared and decided. -/
def mS (i n : Int) (p : PPl) (pr : List PPr) (ds : List PDe) : PSt := ⟨i, n, 1, 0, [p], pr, ds, []⟩
def mT (k : Nat) : PTid := ⟨1, 1, (k : Int) + 1⟩
def mIt (k : Nat) (p : PPl) : PIt := ⟨0, p.ver, p.val, true, (k : Int) + 7⟩
def mPr (k : Nat) (i : Int) (p : PPl) : PRec := ⟨4, mT k, [mIt k p], [i], 0, 0, 0, 0, 0, 0, 0, 0, false⟩
def mOut (h b : Int) : PRec := ⟨8, zT, [], [], b, 0, 0, 0, 0, h, 0, 0, false⟩
def mIn (h v a : Int) : PRec := ⟨9, zT, [], [], 0, 0, 0, 0, 0, h, v, a, false⟩
def mGone (h : Int) : PRec := ⟨10, zT, [], [], 0, 0, 0, 0, 0, h, 0, 0, false⟩
theorem rightR_of {r : PRec} (h1 : bareB r = true) (h2 : rightK r = true) : rightR r = true := by unfold rightR; rw [h1, h2]; rfl
theorem mT_ok (k : Nat) (hk : k ≤ 100) : tidOk (mT k) = true := (tidOk_iff _).2 ⟨by show (1 : Int) ≤ 1 ∧ (1 : Int) ≤ 16; omega, by show (1 : Int) ≤ 1 ∧ (1 : Int) ≤ 1099511627776; omega, by show (1 : Int) ≤ (k : Int) + 1 ∧ (k : Int) + 1 ≤ 1099511627776; omega⟩
theorem mPr_right {k : Nat} {i : Int} {p : PPl} (hk : k ≤ 100) (hi : 1 ≤ i ∧ i ≤ 16) (hv : 0 ≤ p.ver ∧ p.ver ≤ 1000) : rightR (mPr k i p) = true := by
  refine rightR_of (by simp [bareB, plainR, bareX, mPr, eqT]) ?_
  have e : rightK (mPr k i p) = (tidOk (mT k) && (itemsOk [mIt k p] && nodesOk [i])) := by
    unfold rightK mPr
    rw [if_neg (show ¬ ((4 : Int) == 1) = true by decide), if_neg (show ¬ ((4 : Int) == 2) = true by decide), if_neg (show ¬ ((4 : Int) == 3) = true by decide), if_pos (show ((4 : Int) == 4) = true by decide)]
  rw [e, mT_ok k hk, Bool.true_and, Bool.and_eq_true]
  refine ⟨(itemsOk_iff _).2 ⟨by simp, fun x hx => ?_, by simp⟩, (nodesOk_iff _).2 ⟨fun x hx => ?_, by simp⟩⟩
  · rw [List.mem_singleton] at hx
    subst hx
    exact (itemOk_iff _).2 ⟨by show (0 : Int) ≤ 0 ∧ (0 : Int) ≤ 15; omega, by show 0 ≤ p.ver ∧ p.ver ≤ 1099511627775; omega, .inl rfl⟩
  · rw [List.mem_singleton] at hx
    subst hx
    exact hi
theorem mOut_right {h b : Int} (hh : 1 ≤ h ∧ h ≤ 1000) (hb : 1 ≤ b ∧ b ≤ 16) : rightR (mOut h b) = true := by
  refine rightR_of (by simp [bareB, plainR, bareX, mOut, eqT, zT]) ?_
  simp [rightK, mOut, placedB, inR_iff]
  omega
theorem mIn_right {h v a : Int} (hh : 1 ≤ h ∧ h ≤ 1000) (hv : 0 ≤ v ∧ v ≤ 1000) : rightR (mIn h v a) = true := by
  refine rightR_of (by simp [bareB, plainR, bareX, mIn, eqT, zT]) ?_
  simp [rightK, mIn, placedB, inR_iff]
  omega
theorem mGone_right {h : Int} (hh : 1 ≤ h ∧ h ≤ 1000) : rightR (mGone h) = true := by
  refine rightR_of (by simp [bareB, plainR, bareX, mGone, eqT, zT]) ?_
  simp [rightK, mGone, placedB, inR_iff]
  omega
theorem applyK {s : PSt} {r : PRec} {k : Int} (hk : r.kind = k) : applyE s r =
  if (k == 1) = true then (0, baseS r.node r.count r.num) else if (k == 2) = true then (if r.num ≤ s.epoch then (10, s) else (0, { s with epoch := r.num }))
  else if (k == 3) = true then (if cellB s r.cell = false then (1, s) else if s.nodes < r.node then (1, s) else if lockedB s r.cell = true then (12, s) else (0, setAt s r.cell ⟨r.st, r.hop, r.node, r.ver, r.val⟩))
  else if (k == 4) = true then prepE s r else if (k == 5) = true then commitE s r else if (k == 6) = true then doneE s r else if (k == 7) = true then endE s r else if (k == 8) = true then outE s r
  else if (k == 9) = true then inE s r else if (k == 10) = true then goneE s r else if (k == 11) = true then pastE s r else (0, s) := by
  subst hk; rfl
theorem apply1e {s : PSt} {r : PRec} {e : Int} {t : PSt} (hr : rightR r = true) (h : applyE s r = (e, t)) (he : e ≠ 0) : applyL s [r] = (e, zS) := by
  rw [applyL_one', if_pos hr, h, if_neg he]
section
variable {i n : Int} {p : PPl} {ds : List PDe} {k : Nat}
theorem m_cell {pr : List PPr} : cellB (mS i n p pr ds) 0 = true := cellB_iff.2 ⟨Int.le_refl _, by show (0 : Int) < ([p].length : Int); simp⟩
theorem m_place {pr : List PPr} : placeAt (mS i n p pr ds) 0 = p := rfl
theorem m_owns {pr : List PPr} : ownsB (mS i n p pr ds) 0 = (p.st == 1) := by
  unfold ownsB
  rw [m_cell]
  rfl
theorem m_free : lockedB (mS i n p [] ds) 0 = false := by
  rw [Bool.eq_false_iff]
  intro hl
  obtain ⟨_, q, hq, _⟩ := lockedB_iff.1 hl
  cases hq
theorem m_set {pr : List PPr} (q : PPl) : setAt (mS i n p pr ds) 0 q = mS i n q pr ds := rfl
theorem m_known (hd : ∀ d ∈ ds, d.tid.s ≤ (k : Int)) : knownB (mS i n p [] ds) (mT k) = false := by
  rw [Bool.eq_false_iff]
  intro h
  rcases known_yes.1 h with ⟨q, hq, _⟩ | ⟨d, hd', e⟩
  · cases hq
  · have := hd d hd'
    rw [e] at this
    have : (k : Int) + 1 ≤ k := this
    omega
/-- 1: prepared. -/
theorem m1 (hk : k ≤ 100) (hi : 1 ≤ i ∧ i ≤ n) (hn : n ≤ 16) (hp : p.st = 1) (hv : 0 ≤ p.ver ∧ p.ver ≤ 1000) (hd : ∀ d ∈ ds, d.tid.s ≤ (k : Int)) (hl : ds.length ≤ 100) :
    applyL (mS i n p [] ds) [mPr k i p] = (0, mS i n p [⟨mT k, [mIt k p], [i]⟩] ds) := by
  refine apply1 (mPr_right hk (by omega) hv) ?_
  rw [applyK (k := 4) rfl, if_neg (by decide), if_neg (by decide), if_neg (by decide), if_pos (by decide)]
  unfold prepE
  have e6 : freeE (mS i n p [] ds) (mPr k i p).items = 0 := free_zero fun x hx => by
    have hx' : x ∈ [mIt k p] := hx
    rw [List.mem_singleton] at hx'
    subst hx'
    exact ⟨by show ownsB _ 0 = true; rw [m_owns, hp]; rfl, m_free, rfl⟩
  rw [if_neg (by rw [show knownB (mS i n p [] ds) (mPr k i p).tid = false from m_known hd]; decide), if_neg (show ¬ (mS i n p [] ds).nodes < (mPr k i p).tid.n from by show ¬ n < 1; omega), if_neg (by
    rw [show strangeB (mS i n p [] ds) (mPr k i p).nodes = false from by
      unfold strangeB
      rw [List.any_eq_false]
      intro x hx
      have hx' : x ∈ [i] := hx
      rw [List.mem_singleton] at hx'
      subst hx'
      show ¬ decide (n < x) = true
      rw [decide_eq_true_eq]; omega]
    decide), if_neg (by
    rw [show (mPr k i p).nodes.any (fun x => (mS i n p [] ds).node == x) = true from List.any_eq_true.2 ⟨i, List.mem_singleton.2 rfl, by show (i == i) = true; simp⟩]
    decide), if_neg (by
    rw [show (mPr k i p).items.any (fun x : PIt => !cellB (mS i n p [] ds) x.c) = false from by
      rw [List.any_eq_false]
      intro x hx
      have hx' : x ∈ [mIt k p] := hx
      rw [List.mem_singleton] at hx'
      subst hx'
      show ¬ (!cellB (mS i n p [] ds) 0) = true
      rw [m_cell]; decide]
    decide), if_neg (by rw [e6]; decide), if_neg (by
    rw [show roomB (mS i n p [] ds) = true from by simp [roomB, mS]; omega]
    decide)]
  rfl
theorem m_locked {k' : Nat} {q : PPl} : lockedB (mS i n p [⟨mT k', [mIt k' q], [i]⟩] ds) 0 = true :=
  lockedB_iff.2 ⟨⟨Int.le_refl _, by show (0 : Int) < ([p].length : Int); simp⟩, _, List.mem_singleton.2 rfl, _, List.mem_singleton.2 rfl, rfl⟩
/-- 2: it can't leave then. -/
theorem m2 {h b : Int} (hh : 1 ≤ h ∧ h ≤ 1000) (hb : 1 ≤ b ∧ b ≤ n) (hn : n ≤ 16) (hbi : b ≠ i) (hp : p.st = 1) {q : PPl} : applyL (mS i n p [⟨mT k, [mIt k q], [i]⟩] ds) [mOut h b] = (12, zS) := by
  refine apply1e (t := mS i n p [⟨mT k, [mIt k q], [i]⟩] ds) (mOut_right hh (by omega)) ?_ (by decide)
  rw [applyK (k := 8) rfl, if_neg (by decide), if_neg (by decide), if_neg (by decide), if_neg (by decide), if_neg (by decide), if_neg (by decide), if_neg (by decide), if_pos (by decide)]
  unfold outE
  rw [if_neg (by rw [show cellB _ (mOut h b).cell = true from m_cell]; decide), if_neg (show ¬ (mS i n p [⟨mT k, [mIt k q], [i]⟩] ds).nodes < (mOut h b).node from by show ¬ n < b; omega), if_neg (show ¬ ((mOut h b).node == (mS i n p [⟨mT k, [mIt k q], [i]⟩] ds).node) = true from by show ¬ (b == i) = true; simpa using hbi), if_neg (by rw [show ownsB _ (mOut h b).cell = (p.st == 1) from m_owns, hp]; decide), if_pos (show lockedB _ (mOut h b).cell = true from m_locked)]
/-- 3: it is decided. -/
theorem m3 (hk : k ≤ 100) (hv : 0 ≤ p.ver ∧ p.ver ≤ 1000) (hd : ∀ d ∈ ds, d.tid = ⟨1, 1, d.tid.s⟩ ∧ d.tid.s ≤ (k : Int)) :
    applyL (mS i n p [⟨mT k, [mIt k p], [i]⟩] ds) [doneR (mT k) true] = (0, mS i n ⟨p.st, p.hop, p.to_, p.ver + 1, (k : Int) + 7⟩ [] (ds ++ [⟨mT k, true⟩])) := by
  refine apply1 (doneR_right (mT_ok k hk)) ?_
  rw [doneR_apply]
  unfold doneE
  have hf : (mS i n p [⟨mT k, [mIt k p], [i]⟩] ds).prepared.findIdx? (fun x => eqT x.tid (doneR (mT k) true).tid) = some 0 := by
    show [(⟨mT k, [mIt k p], [i]⟩ : PPr)].findIdx? (fun x => eqT x.tid (mT k)) = some 0
    rw [List.findIdx?_cons, if_pos ((eqT_iff _ _).2 rfl)]
  rw [hf]
  dsimp only
  have hw : IntKind.i64.wrap (p.ver + 1) = p.ver + 1 := wrap1 _ (by omega)
  have hins : insT (fun x : PDe => x.tid) ds ⟨mT k, true⟩ = ds ++ [⟨mT k, true⟩] := insT_last _ _ _ fun d hd' => by
    obtain ⟨h1, h2⟩ := hd d hd'
    rw [ordT_lt, h1]
    show (1 : Int) < 1 ∨ (1 = 1 ∧ ((1 : Int) < 1 ∨ (1 = 1 ∧ d.tid.s < (k : Int) + 1)))
    omega
  show (0, decS _ (mT k) true) = _
  unfold decS
  show (0, (⟨i, n, 1, 0, [(p.setF 3 (IntKind.i64.wrap (p.ver + 1))).setF 4 ((k : Int) + 7)], [], insT (fun x : PDe => x.tid) ds ⟨mT k, true⟩, []⟩ : PSt)) = _
  rw [hins, hw]; rfl
/-- 4: it leaves. -/
theorem m4 {h b : Int} (hh : 1 ≤ h ∧ h ≤ 1000) (hb : 1 ≤ b ∧ b ≤ n) (hn : n ≤ 16) (hbi : b ≠ i) (hp : p.st = 1) (hph : h = p.hop + 1) : applyL (mS i n p [] ds) [mOut h b] = (0, mS i n ⟨2, h, b, p.ver, p.val⟩ [] ds) := by
  refine apply1 (mOut_right hh (by omega)) ?_
  rw [applyK (k := 8) rfl, if_neg (by decide), if_neg (by decide), if_neg (by decide), if_neg (by decide), if_neg (by decide), if_neg (by decide), if_neg (by decide), if_pos (by decide)]
  unfold outE
  rw [if_neg (by rw [show cellB _ (mOut h b).cell = true from m_cell]; decide), if_neg (show ¬ (mS i n p [] ds).nodes < (mOut h b).node from by show ¬ n < b; omega), if_neg (show ¬ ((mOut h b).node == (mS i n p [] ds).node) = true from by show ¬ (b == i) = true; simpa using hbi), if_neg (by rw [show ownsB _ (mOut h b).cell = (p.st == 1) from m_owns, hp]; decide), if_neg (by rw [show lockedB _ (mOut h b).cell = false from m_free]; decide), if_neg (by
    rw [show placeAt (mS i n p [] ds) (mOut h b).cell = p from rfl, wrap1 _ (by omega)]
    show ¬ (h == p.hop + 1) = false
    rw [hph]; simp)]
  rfl
/-- 5: it comes. -/
theorem m5 {h v a : Int} (hh : 1 ≤ h ∧ h ≤ 1000) (hv : 0 ≤ v ∧ v ≤ 1000) (hp : p.st ≠ 1) (hph : p.hop < h) : applyL (mS i n p [] ds) [mIn h v a] = (0, mS i n ⟨1, h, 0, v, a⟩ [] ds) := by
  refine apply1 (mIn_right hh hv) ?_
  rw [applyK (k := 9) rfl, if_neg (by decide), if_neg (by decide), if_neg (by decide), if_neg (by decide), if_neg (by decide), if_neg (by decide), if_neg (by decide), if_neg (by decide), if_pos (by decide)]
  unfold inE
  rw [if_neg (by rw [show cellB _ (mIn h v a).cell = true from m_cell]; decide), if_neg (by rw [show ownsB _ (mIn h v a).cell = (p.st == 1) from m_owns]; simpa using hp), if_neg (show ¬ (mIn h v a).hop ≤ (placeAt (mS i n p [] ds) (mIn h v a).cell).hop from by show ¬ h ≤ p.hop; omega)]
  rfl
/-- 6: it can't come twice. -/
theorem m6 {h v a : Int} (hh : 1 ≤ h ∧ h ≤ 1000) (hv : 0 ≤ v ∧ v ≤ 1000) (hp : p.st = 1) : applyL (mS i n p [] ds) [mIn h v a] = (9, zS) := by
  refine apply1e (t := mS i n p [] ds) (mIn_right hh hv) ?_ (by decide)
  rw [applyK (k := 9) rfl, if_neg (by decide), if_neg (by decide), if_neg (by decide), if_neg (by decide), if_neg (by decide), if_neg (by decide), if_neg (by decide), if_neg (by decide), if_pos (by decide)]
  unfold inE
  rw [if_neg (by rw [show cellB _ (mIn h v a).cell = true from m_cell]; decide), if_pos (by rw [show ownsB _ (mIn h v a).cell = (p.st == 1) from m_owns, hp]; rfl)]
/-- 7: it is gone. -/
theorem m7 {h : Int} (hh : 1 ≤ h ∧ h ≤ 1000) (hp : p.st = 2) (hph : h = p.hop) : applyL (mS i n p [] ds) [mGone h] = (0, mS i n ⟨0, h, 0, 0, 0⟩ [] ds) := by
  refine apply1 (mGone_right hh) ?_
  rw [applyK (k := 10) rfl, if_neg (by decide), if_neg (by decide), if_neg (by decide), if_neg (by decide), if_neg (by decide), if_neg (by decide), if_neg (by decide), if_neg (by decide), if_neg (by decide), if_pos (by decide)]
  unfold goneE
  rw [if_neg (by rw [show cellB _ (mGone h).cell = true from m_cell]; decide), if_neg (by rw [show placeAt (mS i n p [] ds) (mGone h).cell = p from rfl, hp]; decide), if_neg (by
    rw [show placeAt (mS i n p [] ds) (mGone h).cell = p from rfl]
    show ¬ (h == p.hop) = false
    rw [hph]; simp)]
  rfl
theorem m8 {h : Int} (hh : 1 ≤ h ∧ h ≤ 1000) (hp : p.st ≠ 2) : applyL (mS i n p [] ds) [mGone h] = (8, zS) := by
  refine apply1e (t := mS i n p [] ds) (mGone_right hh) ?_ (by decide)
  rw [applyK (k := 10) rfl, if_neg (by decide), if_neg (by decide), if_neg (by decide), if_neg (by decide), if_neg (by decide), if_neg (by decide), if_neg (by decide), if_neg (by decide), if_neg (by decide), if_pos (by decide)]
  unfold goneE
  rw [if_neg (by rw [show cellB _ (mGone h).cell = true from m_cell]; decide), if_pos (by
    rw [show placeAt (mS i n p [] ds) (mGone h).cell = p from rfl]
    simpa using hp)]
end
/-- How the states stand ahead of step k. -/
structure MInv (n : Nat) (a : Nat) (hop val : Int) (k : Nat) (ss : List PSt) : Prop where
  len : ss.length = n
  at_ : a < n
  hopk : 0 ≤ hop ∧ hop ≤ k
  each : ∀ (j : Nat) (s : PSt), ss[j]? = some s → SInv s ∧ ∃ p ds, s = mS ((j : Int) + 1) n p [] ds ∧ (∀ d ∈ ds, d.tid = ⟨1, 1, d.tid.s⟩ ∧ d.tid.s ≤ (k : Int)) ∧ ds.length ≤ k ∧ 0 ≤ p.hop ∧ p.hop ≤ hop ∧ 0 ≤ p.ver ∧ p.ver ≤ k ∧ (j = a → p.st = 1 ∧ p.hop = hop ∧ p.val = val) ∧ (j ≠ a → p.st ≠ 1)
theorem MInv.mono {n a : Nat} {hop val : Int} {k : Nat} {ss : List PSt} (h : MInv n a hop val k ss) : MInv n a hop val (k + 1) ss := by
  refine ⟨h.len, h.at_, ⟨h.hopk.1, by have := h.hopk.2; omega⟩, fun j s hj => ?_⟩
  obtain ⟨h0, p, ds, h1, h2, h3, h4, h5, h6, h7, h8, h9⟩ := h.each j s hj
  refine ⟨h0, p, ds, h1, fun d hd => ⟨(h2 d hd).1, ?_⟩, by omega, h4, h5, h6, by omega, h8, h9⟩
  have := (h2 d hd).2
  omega
/-- One step of the round: who had it has sent it (or put it away), who gets it has it. -/
theorem MInv.next {n a b : Nat} {hop val : Int} {k : Nat} {ss ss' : List PSt} (h : MInv n a hop val k ss) (hb : b < n) (hab : b ≠ a) {p : PPl} {ds : List PDe} {pb : PPl} {db : List PDe}
    (ha' : ss[a]? = some (mS ((a : Int) + 1) n p [] ds)) (hb' : ss[b]? = some (mS ((b : Int) + 1) n pb [] db)) (hl : ss'.length = n) {q : PPl} (hq : q = ⟨2, hop + 1, (b : Int) + 1, p.ver + 1, (k : Int) + 7⟩ ∨ q = ⟨0, hop + 1, 0, 0, 0⟩)
    (ea : ss'[a]? = some (mS ((a : Int) + 1) n q [] (ds ++ [⟨mT k, true⟩]))) (eb : ss'[b]? = some (mS ((b : Int) + 1) n ⟨1, hop + 1, 0, p.ver + 1, (k : Int) + 7⟩ [] db)) (eo : ∀ j, j ≠ a → j ≠ b → ss'[j]? = ss[j]?)
    (ia : SInv (mS ((a : Int) + 1) n q [] (ds ++ [⟨mT k, true⟩]))) (ib : SInv (mS ((b : Int) + 1) n ⟨1, hop + 1, 0, p.ver + 1, (k : Int) + 7⟩ [] db)) : MInv n b (hop + 1) ((k : Int) + 7) (k + 1) ss' := by
  have hh := h.hopk
  refine ⟨hl, hb, by omega, fun j s hj => ?_⟩
  by_cases ja : j = a
  · subst ja
    rw [ea] at hj
    injection hj with hj
    subst hj
    obtain ⟨_, p0, d0, e0, h2, h3, h4, h5, h6, h7, _, _⟩ := h.each j _ ha'
    have e1 : d0 = ds := by unfold mS at e0; injection e0 with _ _ _ _ _ _ e _; exact e.symm
    have e2 : p0 = p := by unfold mS at e0; injection e0 with _ _ _ _ e _ _ _; injection e with e _; exact e.symm
    subst e1 e2
    refine ⟨ia, q, _, rfl, fun d hd => ?_, by rw [List.length_append]; simp; omega, ?_, ?_, ?_, ?_, fun e => absurd e hab.symm, fun _ => ?_⟩
    · rcases List.mem_append.1 hd with hd | hd
      · exact ⟨(h2 d hd).1, by have := (h2 d hd).2; omega⟩
      · rw [List.mem_singleton] at hd
        subst hd
        exact ⟨rfl, by show (k : Int) + 1 ≤ ((k + 1 : Nat) : Int); omega⟩
    all_goals rcases hq with rfl | rfl
    all_goals dsimp only
    all_goals first | omega | decide
  · by_cases jb : j = b
    · subst jb
      rw [eb] at hj
      injection hj with hj
      subst hj
      obtain ⟨_, p0, d0, e0, h2, h3, h4, h5, h6, h7, _, _⟩ := h.each j _ hb'
      have e1 : d0 = db := by unfold mS at e0; injection e0 with _ _ _ _ _ _ e _; exact e.symm
      subst e1
      obtain ⟨_, p1, d1, e1, _, _, _, _, g6, g7, _, _⟩ := h.each a _ ha'
      have e2 : p1 = p := by unfold mS at e1; injection e1 with _ _ _ _ e _ _ _; injection e with e _; exact e.symm
      subst e2
      refine ⟨ib, _, _, rfl, fun d hd => ⟨(h2 d hd).1, by have := (h2 d hd).2; omega⟩, by omega, ?_, ?_, ?_, ?_, fun _ => ⟨rfl, rfl, rfl⟩, fun e => absurd rfl e⟩
      all_goals dsimp only
      all_goals omega
    · rw [eo j ja jb] at hj
      obtain ⟨h0, p0, d0, e0, h2, h3, h4, h5, h6, h7, _, h9⟩ := h.each j s hj
      exact ⟨h0, p0, d0, e0, fun d hd => ⟨(h2 d hd).1, by have := (h2 d hd).2; omega⟩, by omega, h4, by omega, h6, by omega, fun e => absurd e jb, fun _ => h9 ja⟩
theorem first_m {n j : Nat} (hn : 2 ≤ n ∧ n ≤ 16) (hj : j < n) : firstS ((j : Int) + 1) n 1 = mS ((j : Int) + 1) n (if j = 0 then ownPl else zPl) [] [] := by
  have e : firstPl ((j : Int) + 1) n (Int.toNat 1) (Int.toNat 1) = [if j = 0 then ownPl else zPl] := by
    show (List.range 1).map (fun (c : Nat) => if c < 1 ∧ homeI (c : Int) n = (j : Int) + 1 then ownPl else zPl) = _
    show [if 0 < 1 ∧ homeI ((0 : Nat) : Int) n = (j : Int) + 1 then ownPl else zPl] = _
    have h1 : homeI ((0 : Nat) : Int) n = 1 := by
      unfold homeI
      rw [if_neg (by omega), if_neg (by omega)]
      simp
    rw [h1]
    by_cases h : j = 0
    · rw [if_pos ⟨by omega, by omega⟩, if_pos h]
    · rw [if_neg (fun q => h (by omega)), if_neg h]
  unfold firstS
  rw [e]; rfl
theorem first_right {n j : Nat} (hn : 2 ≤ n ∧ n ≤ 16) (hj : j < n) : rightR (fr ((j : Int) + 1) n 1) = true := by
  refine rightR_of (by simp [bareB, plainR, bareX, fr, eqT, zT]) ?_
  simp [rightK, fr, inR_iff]
  omega
theorem MInv.start {n : Nat} (hn : 2 ≤ n ∧ n ≤ 16) : MInv n 0 0 0 0 ((List.range n).map (fun (j : Nat) => firstS ((j : Int) + 1) n 1)) := by
  refine ⟨by simp, by omega, by omega, fun j s hj => ?_⟩
  rw [List.getElem?_map, Option.map_eq_some_iff] at hj
  obtain ⟨i, hi, rfl⟩ := hj
  obtain ⟨hil, rfl⟩ := List.getElem?_eq_some_iff.1 hi
  rw [List.getElem_range]
  have hjn : j < n := by simpa using hil
  refine ⟨first_inv (first_right hn hjn), (if j = 0 then ownPl else zPl), [], first_m hn hjn, fun d hd => (by cases hd), by simp, ?_⟩
  by_cases h : j = 0
  · rw [if_pos h]
    exact ⟨by decide, by decide, by decide, by decide, fun _ => ⟨rfl, rfl, rfl⟩, fun e => absurd h e⟩
  · rw [if_neg h]
    exact ⟨by decide, by decide, by decide, by decide, fun e => absurd e h, fun _ => by decide⟩
end Go.Proofs.Ytdmkijdbldcdiaa
