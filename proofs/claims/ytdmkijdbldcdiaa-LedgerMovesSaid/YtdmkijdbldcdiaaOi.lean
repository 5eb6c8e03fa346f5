/- LedgerFinishes: what a Done makes of a state in which its transaction is prepared. Plain Lean. -/
import Derived.Test.YtdmkijdbldcdiaaOe
namespace Go.Proofs.Ytdmkijdbldcdiaa
open Go.RowKit
set_option linter.unusedVariables false
set_option linter.unusedSimpArgs false

theorem applyL_one' {s : PSt} {r : PRec} : applyL s [r] = if rightR r = true then (if (applyE s r).1 = 0 then (0, (applyE s r).2) else ((applyE s r).1, zS)) else (1, zS) := rfl
def doneR (t : PTid) (y : Bool) : PRec := ⟨6, t, [], [], 0, 0, 0, 0, 0, 0, 0, 0, y⟩
theorem doneR_right {t : PTid} {y : Bool} (h : tidOk t = true) : rightR (doneR t y) = true := by
  unfold rightR
  rw [Bool.and_eq_true]
  exact ⟨by simp [bareB, plainR, bareX, doneR, eqT], by simp [rightK, doneR]; exact h⟩
theorem doneR_apply (s : PSt) (t : PTid) (y : Bool) : applyE s (doneR t y) = doneE s (doneR t y) := by simp [applyE, doneR]
def finS (s : PSt) (k : Nat) (p : PPr) (y : Bool) : PSt := decS { s with places := if y = true then p.items.foldl updP s.places else s.places, prepared := s.prepared.eraseIdx k } p.tid y
/-- Where a name stands that stands once. -/
theorem findI_one {α : Type} (f : α → PTid) {l : List α} (hs : l.Pairwise (fun a b => f a ≠ f b)) {i : Nat} {d : α} (hi : l[i]? = some d) : l.findIdx? (fun x => eqT (f x) (f d)) = some i := by
  obtain ⟨hil, rfl⟩ := List.getElem?_eq_some_iff.1 hi
  rw [List.findIdx?_eq_some_iff_getElem]
  refine ⟨hil, (eqT_iff _ _).2 rfl, fun j hj => ?_⟩
  have := List.pairwise_iff_getElem.1 hs j i (by omega) hil hj
  exact fun h => this ((eqT_iff _ _).1 h)
theorem SInv.prn {s : PSt} (h : SInv s) : s.prepared.Pairwise (fun a b => a.tid ≠ b.tid) := h.prd.imp ordT_ne
theorem SInv.den {s : PSt} (h : SInv s) : s.decided.Pairwise (fun a b => a.tid ≠ b.tid) := h.ded.imp ordT_ne
theorem fin_apply {s : PSt} (h : SInv s) {k : Nat} {p : PPr} (hp : s.prepared[k]? = some p) (y : Bool) : applyL s [doneR p.tid y] = (0, finS s k p y) := by
  have hr : rightR (doneR p.tid y) = true := doneR_right (h.pr p (List.mem_of_getElem? hp)).tid
  have hf := findI_one (fun x : PPr => x.tid) h.prn hp
  rw [applyL_one', if_pos hr, doneR_apply]
  have he : doneE s (doneR p.tid y) = (0, finS s k p y) := by
    unfold doneE
    rw [show s.prepared.findIdx? (fun x => eqT x.tid (doneR p.tid y).tid) = some k from hf]
    dsimp only
    have hia : itemsAt s k = p.items := by unfold itemsAt; rw [hp]
    rw [hia]
    unfold finS
    show (0, decS _ p.tid y) = _
    cases y <;> rfl
  rw [he, if_pos rfl]
theorem fin_inv {s : PSt} (h : SInv s) {k : Nat} {p : PPr} (hp : s.prepared[k]? = some p) (y : Bool) : SInv (finS s k p y) := by
  have h1 := fin_apply h hp y
  have h2 := stepS_inv h (doneR p.tid y)
  unfold stepS at h2
  rw [h1, if_pos rfl] at h2
  exact h2
theorem it_same {l : List PIt} (hp : l.Pairwise (fun a b => a.c < b.c)) {x z : PIt} (hx : x ∈ l) (hz : z ∈ l) (e : x.c = z.c) : x = z := by
  obtain ⟨i, hi, rfl⟩ := List.mem_iff_getElem.1 hx
  obtain ⟨j, hj, rfl⟩ := List.mem_iff_getElem.1 hz
  rcases Nat.lt_trichotomy i j with h | h | h
  · have := List.pairwise_iff_getElem.1 hp i j hi hj h; omega
  · subst h; rfl
  · have := List.pairwise_iff_getElem.1 hp j i hj hi h; omega
theorem updAt_in {l : List PIt} (hp : l.Pairwise (fun a b => a.c < b.c)) (h0 : ∀ x ∈ l, 0 ≤ x.c) {x : PIt} (hx : x ∈ l) (q : PPl) : updAt l x.c.toNat q = if x.wr = true then ⟨q.st, q.hop, q.to_, IntKind.i64.wrap (q.ver + 1), x.nw⟩ else q := by
  unfold updAt
  split
  · rename_i z hz
    have h1 := List.find?_some hz
    simp at h1
    have hzm := List.mem_of_find?_eq_some hz
    have := h0 x hx
    have := h0 z hzm
    obtain rfl := it_same hp hx hzm (by omega)
    rw [if_pos h1.1]; rfl
  · rename_i hn
    rw [List.find?_eq_none] at hn
    have := hn x hx
    simp at this
    rw [if_neg (by rw [this]; decide)]
theorem fin_place {s : PSt} (h : SInv s) {k : Nat} {p : PPr} (hp : s.prepared[k]? = some p) (y : Bool) {x : PIt} (hx : x ∈ p.items) :
    ∃ q, s.places[x.c.toNat]? = some q ∧ (finS s k p y).places[x.c.toNat]? = some (if y = true ∧ x.wr = true then ⟨q.st, q.hop, q.to_, IntKind.i64.wrap (q.ver + 1), x.nw⟩ else q) := by
  have hk := h.pr p (List.mem_of_getElem? hp)
  obtain ⟨q, hq, _⟩ := hk.own x hx
  have hpw := ((itemsOk_iff _).1 hk.items).2.2
  have hp0 : ∀ x ∈ p.items, 0 ≤ x.c := fun x hx => (hk.itemOk hx).1.1
  refine ⟨q, hq, ?_⟩
  show (if y = true then p.items.foldl updP s.places else s.places)[x.c.toNat]? = _
  cases y
  · simp [hq]
  · simp only [if_true, true_and]
    rw [fold_at _ hpw hp0, hq, Option.map_some, updAt_in hpw hp0 hx]
theorem fin_len {s : PSt} {k : Nat} {p : PPr} {y : Bool} : (finS s k p y).places.length = s.places.length := by
  show (if y = true then p.items.foldl updP s.places else s.places).length = _
  split
  · exact foldP_len _ _
  · rfl
theorem erase_apart {s : PSt} (h : SInv s) {i : Nat} {p : PPr} (hi : s.prepared[i]? = some p) : ∀ q ∈ s.prepared.eraseIdx i, q.tid ≠ p.tid ∧ ∀ x ∈ p.items, ∀ z ∈ q.items, x.c ≠ z.c := by
  obtain ⟨hil, hie⟩ := List.getElem?_eq_some_iff.1 hi
  intro q hq
  obtain ⟨j, hj, hji, he⟩ := List.mem_eraseIdx_iff_getElem.1 hq
  rcases Nat.lt_or_gt_of_ne hji with hlt | hgt
  · have h1 := List.pairwise_iff_getElem.1 h.prx j i hj hil hlt
    have h2 := List.pairwise_iff_getElem.1 h.prd j i hj hil hlt
    rw [he, hie] at h1 h2
    exact ⟨ordT_ne h2, fun x hx z hz => (h1 z hz x hx).symm⟩
  · have h1 := List.pairwise_iff_getElem.1 h.prx i j hil hj hgt
    have h2 := List.pairwise_iff_getElem.1 h.prd i j hil hj hgt
    rw [he, hie] at h1 h2
    exact ⟨(ordT_ne h2).symm, h1⟩
theorem fin_unlocked {s : PSt} (h : SInv s) {k : Nat} {p : PPr} (hp : s.prepared[k]? = some p) (y : Bool) {x : PIt} (hx : x ∈ p.items) : lockedB (finS s k p y) x.c = false := by
  rw [Bool.eq_false_iff]
  intro hl
  obtain ⟨_, q, hq, z, hz, e⟩ := lockedB_iff.1 hl
  exact (erase_apart h hp q hq).2 x hx z hz e.symm
theorem fin_dec {s : PSt} (h : SInv s) {k : Nat} {p : PPr} (hp : s.prepared[k]? = some p) (y : Bool) : ∃ i : Nat, findI (fun d : PDe => eqT d.tid p.tid) (finS s k p y).decided = i ∧ (finS s k p y).decided[i]? = some ⟨p.tid, y⟩ := by
  have hm : (⟨p.tid, y⟩ : PDe) ∈ (finS s k p y).decided := (insT_mem' _ _ _ _).2 (.inl rfl)
  obtain ⟨i, hi⟩ := List.getElem?_of_mem hm
  refine ⟨i, ?_, hi⟩
  unfold findI
  rw [findI_one (fun d : PDe => d.tid) (fin_inv h hp y).den hi]
theorem fin_prep {s : PSt} (h : SInv s) {k : Nat} {p : PPr} (hp : s.prepared[k]? = some p) (y : Bool) : findI (fun d : PPr => eqT d.tid p.tid) (finS s k p y).prepared = -1 := by
  apply findI_none
  rw [List.any_eq_false]
  intro q hq e
  exact (erase_apart h hp q hq).1 ((eqT_iff _ _).1 e)
end Go.Proofs.Ytdmkijdbldcdiaa
