/- A ledger's state: each record that can follow leaves one that may be. Plain Lean. -/
import Derived.Test.YtdmkijdbldcdiaaMj
import Derived.IntWalk
namespace Go.Proofs.Ytdmkijdbldcdiaa
open Go.RowKit
set_option linter.unusedVariables false
set_option linter.unusedSimpArgs false

theorem bool_cases (b : Bool) : b = false ∨ b = true := by cases b <;> simp
theorem wrap1 (v : Int) (h : 0 ≤ v ∧ v ≤ 1099511627776) : IntKind.i64.wrap (v + 1) = v + 1 := IntWalk.i64_in _ (by omega)
theorem known_no {s : PSt} {t : PTid} (h : knownB s t = false) : (∀ p ∈ s.prepared, p.tid ≠ t) ∧ ∀ d ∈ s.decided, d.tid ≠ t := by
  unfold knownB at h
  rw [Bool.or_eq_false_iff, List.any_eq_false, List.any_eq_false] at h
  exact ⟨fun p hp e => h.1 p hp ((eqT_iff _ _).2 e), fun p hp e => h.2 p hp ((eqT_iff _ _).2 e)⟩
theorem known_yes {s : PSt} {t : PTid} : knownB s t = true ↔ (∃ p ∈ s.prepared, p.tid = t) ∨ ∃ d ∈ s.decided, d.tid = t := by
  unfold knownB
  rw [Bool.or_eq_true, List.any_eq_true, List.any_eq_true]
  simp only [eqT_iff]
theorem cellB_iff {s : PSt} {c : Int} : cellB s c = true ↔ 0 ≤ c ∧ c < s.places.length := by simp [cellB]
theorem lockedB_iff {s : PSt} {c : Int} : lockedB s c = true ↔ (0 ≤ c ∧ c < s.places.length) ∧ ∃ p ∈ s.prepared, ∃ x ∈ p.items, x.c = c := by
  unfold lockedB
  rw [Bool.and_eq_true, cellB_iff, List.any_eq_true]
  simp only [hasIt, List.any_eq_true, beq_iff_eq]
theorem ownsB_iff {s : PSt} {c : Int} : ownsB s c = true ↔ (0 ≤ c ∧ c < s.places.length) ∧ (placeAt s c).st = 1 := by
  unfold ownsB placeAt
  rw [Bool.and_eq_true, cellB_iff]
  constructor
  · rintro ⟨h1, h2⟩
    refine ⟨h1, ?_⟩
    split at h2
    · rename_i p hp; simpa [hp] using h2
    · cases h2
  · rintro ⟨h1, h2⟩
    refine ⟨h1, ?_⟩
    rw [List.getElem?_eq_getElem (show c.toNat < s.places.length by omega)] at h2 ⊢
    simpa using h2
theorem placeAt_mem {s : PSt} {c : Int} (h : 0 ≤ c ∧ c < s.places.length) : placeAt s c ∈ s.places ∧ s.places[c.toNat]? = some (placeAt s c) := by
  unfold placeAt
  rw [List.getElem?_eq_getElem (show c.toNat < s.places.length by omega)]
  exact ⟨List.getElem_mem _, rfl⟩
/-- A place is set that no transaction has locked. -/
theorem SInv.setAt {s : PSt} (h : SInv s) {c : Int} (hc : 0 ≤ c ∧ c < s.places.length) (hl : lockedB s c = false) {p : PPl} (hp : PlOk s.nodes p) : SInv (setAt s c p) := by
  refine ⟨h.nodes, h.node, ⟨by simpa [Go.Proofs.Ytdmkijdbldcdiaa.setAt] using h.cells.1, by simpa [Go.Proofs.Ytdmkijdbldcdiaa.setAt] using h.cells.2.1, by simpa [Go.Proofs.Ytdmkijdbldcdiaa.setAt] using h.cells.2.2⟩, h.epoch, fun q hq => ?_, h.tb, h.cm, h.prd, h.ded, h.dis, fun q hq => ?_, h.prx, h.de, fun c hc => ?_, h.cmd⟩
  · rcases List.mem_or_eq_of_mem_set hq with hq | rfl
    · exact h.pl q hq
    · exact hp
  · have h1 := h.pr q hq
    refine ⟨h1.tid, h1.tn, h1.items, h1.nodes, h1.str, h1.has, fun x hx => ?_⟩
    obtain ⟨u, hu, hu2⟩ := h1.own x hx
    have hne : c.toNat ≠ x.c.toNat := fun e => by
      have h2 := (h1.cellOk hx)
      have : lockedB s c = true := lockedB_iff.2 ⟨hc, q, hq, x, hx, by omega⟩
      rw [hl] at this; cases this
    exact ⟨u, by show (s.places.set c.toNat p)[x.c.toNat]? = _; rw [List.getElem?_set_ne hne]; exact hu, hu2⟩
  · have h1 := h.cmo c hc
    exact ⟨h1.tid, h1.tn, h1.items, h1.nodes, h1.str⟩
theorem SInv.dec {s : PSt} (h : SInv s) {t : PTid} (ht : tidOk t = true) (htn : t.n ≤ s.nodes) (hk : knownB s t = false) (hr : s.prepared.length + s.decided.length < 512) (y : Bool) : SInv (decS s t y) := by
  have hn := known_no hk
  refine ⟨h.nodes, h.node, h.cells, h.epoch, h.pl, ?_, h.cm, h.prd, insT_sorted _ _ _ h.ded (fun x hx => hn.2 x hx), fun p hp d hd => ?_, fun q hq => ?_, h.prx, fun d hd => ?_, fun c hc => ?_, h.cmd⟩
  · have : (decS s t y).decided.length = s.decided.length + 1 := insT_len _ _ _
    rw [this]
    show s.prepared.length + _ ≤ _
    omega
  · rcases (insT_mem' _ _ _ _).1 hd with rfl | hd
    · exact hn.1 p hp
    · exact h.dis p hp d hd
  · have h1 := h.pr q hq
    exact ⟨h1.tid, h1.tn, h1.items, h1.nodes, h1.str, h1.has, h1.own⟩
  · rcases (insT_mem' _ _ _ _).1 hd with rfl | hd
    · exact ⟨ht, htn⟩
    · exact h.de d hd
  · have h1 := h.cmo c hc
    exact ⟨h1.tid, h1.tn, h1.items, h1.nodes, h1.str⟩
/-- What a list of items makes of place j. -/
def updAt (l : List PIt) (j : Nat) (q : PPl) : PPl := match l.find? (fun x => x.wr && x.c.toNat == j) with
  | some x => (q.setF 3 (IntKind.i64.wrap (q.ver + 1))).setF 4 x.nw
  | none => q
theorem updP_at (ps : List PPl) (x : PIt) (j : Nat) : (updP ps x)[j]? = (ps[j]?).map (fun q => if x.wr = true ∧ x.c.toNat = j then (q.setF 3 (IntKind.i64.wrap (q.ver + 1))).setF 4 x.nw else q) := by
  unfold updP
  by_cases hw : x.wr = true
  · rw [if_pos hw]
    by_cases hj : x.c.toNat = j
    · subst hj
      cases hp : ps[x.c.toNat]? with
      | none => simp [hp]
      | some p =>
        have hlt := (List.getElem?_eq_some_iff.1 hp).1
        simp [hw, hlt]
    · have : (fun q : PPl => if x.wr = true ∧ x.c.toNat = j then (q.setF 3 (IntKind.i64.wrap (q.ver + 1))).setF 4 x.nw else q) = id := by funext q; rw [if_neg (fun h => hj h.2)]; rfl
      rw [this, Option.map_id]
      split
      · rw [List.getElem?_set_ne hj]; rfl
      · rfl
  · have : (fun q : PPl => if x.wr = true ∧ x.c.toNat = j then (q.setF 3 (IntKind.i64.wrap (q.ver + 1))).setF 4 x.nw else q) = id := by funext q; rw [if_neg (fun h => hw h.1)]; rfl
    rw [if_neg hw, this, Option.map_id]; rfl
theorem fold_at (l : List PIt) (hp : l.Pairwise (fun a b => a.c < b.c)) (h0 : ∀ x ∈ l, 0 ≤ x.c) (ps : List PPl) (j : Nat) : (l.foldl updP ps)[j]? = (ps[j]?).map (updAt l j) := by
  induction l generalizing ps with
  | nil => have : updAt [] j = id := by funext q; rfl
           simp [this]
  | cons x l ih =>
    rw [List.foldl_cons, ih (List.pairwise_cons.1 hp).2 (fun y hy => h0 y (List.mem_cons_of_mem _ hy)), updP_at, Option.map_map]
    congr 1
    funext q
    show updAt l j (if _ then _ else _) = updAt (x :: l) j q
    unfold updAt
    rw [List.find?_cons]
    by_cases hx : x.wr = true ∧ x.c.toNat = j
    · have hnone : l.find? (fun x => x.wr && x.c.toNat == j) = none := by
        rw [List.find?_eq_none]
        intro y hy hyj
        have h1 := (List.pairwise_cons.1 hp).1 y hy
        have h2 := h0 x List.mem_cons_self
        have h3 := h0 y (List.mem_cons_of_mem _ hy)
        simp at hyj
        omega
      have : (x.wr && x.c.toNat == j) = true := by simpa using hx
      simp [hnone, this, if_pos hx]
    · have : (x.wr && x.c.toNat == j) = false := by rw [Bool.eq_false_iff]; simpa using hx
      simp only [this, if_neg hx]
theorem updAt_none {l : List PIt} {j : Nat} (h : ∀ x ∈ l, x.c.toNat ≠ j) (q : PPl) : updAt l j q = q := by
  unfold updAt
  have : l.find? (fun x => x.wr && x.c.toNat == j) = none := by
    rw [List.find?_eq_none]
    intro y hy hyj
    simp at hyj
    exact h y hy hyj.2
  rw [this]
theorem updAt_cases (l : List PIt) (j : Nat) (q : PPl) : updAt l j q = q ∨ ∃ x ∈ l, x.wr = true ∧ x.c.toNat = j ∧ updAt l j q = ⟨q.st, q.hop, q.to_, IntKind.i64.wrap (q.ver + 1), x.nw⟩ := by
  unfold updAt
  split
  · rename_i x hx
    have h1 := List.find?_some hx
    simp at h1
    exact .inr ⟨x, List.mem_of_find?_eq_some hx, h1.1, h1.2, rfl⟩
  · exact .inl rfl
theorem sub_erase {α : Type} {R : α → α → Prop} {l : List α} (h : l.Pairwise R) (i : Nat) : (l.eraseIdx i).Pairwise R := h.sublist (List.eraseIdx_sublist _ _)
/-- What is prepared at i goes; its items are written, or not. -/
theorem SInv.drop {s : PSt} (h : SInv s) {i : Nat} {p : PPr} (hi : s.prepared[i]? = some p) (y : Bool) (ps : List PPl) (hps : ps = if y = true then p.items.foldl updP s.places else s.places) :
    SInv { s with places := ps, prepared := s.prepared.eraseIdx i } ∧ knownB { s with places := ps, prepared := s.prepared.eraseIdx i } p.tid = false := by
  have hm : p ∈ s.prepared := List.mem_of_getElem? hi
  obtain ⟨hil, hie⟩ := List.getElem?_eq_some_iff.1 hi
  have hp := h.pr p hm
  have hlen : ps.length = s.places.length := by subst hps; split; exact foldP_len _ _; rfl
  have hsub : ∀ q ∈ s.prepared.eraseIdx i, q ∈ s.prepared := fun q hq => (List.eraseIdx_sublist _ _).subset hq
  have hpw : p.items.Pairwise (fun a b => a.c < b.c) := ((itemsOk_iff _).1 hp.items).2.2
  have hp0 : ∀ x ∈ p.items, 0 ≤ x.c := fun x hx => (hp.itemOk hx).1.1
  have hat : ∀ j q, ps[j]? = some q → ∃ q0, s.places[j]? = some q0 ∧ (q = q0 ∨ ∃ x ∈ p.items, x.wr = true ∧ x.c.toNat = j ∧ q = ⟨q0.st, q0.hop, q0.to_, IntKind.i64.wrap (q0.ver + 1), x.nw⟩) := fun j q hq => by
    subst hps
    split at hq
    · rw [fold_at _ hpw hp0, Option.map_eq_some_iff] at hq
      obtain ⟨q0, hq0, rfl⟩ := hq
      refine ⟨q0, hq0, ?_⟩
      exact updAt_cases _ _ _
    · exact ⟨q, hq, .inl rfl⟩
  have hoth : ∀ j q0, s.places[j]? = some q0 → (∀ x ∈ p.items, x.c.toNat ≠ j) → ps[j]? = some q0 := fun j q0 hq0 hx => by
    subst hps
    split
    · rw [fold_at _ hpw hp0, hq0, Option.map_some, updAt_none hx]
    · exact hq0
  have hne : ∀ q ∈ s.prepared.eraseIdx i, ∀ x ∈ p.items, ∀ z ∈ q.items, x.c ≠ z.c := fun q hq x hx z hz => by
    obtain ⟨j, hj, hji, he⟩ : ∃ j, ∃ hj : j < s.prepared.length, j ≠ i ∧ s.prepared[j]'hj = q := by
      obtain ⟨j, hj, hji, he⟩ := List.mem_eraseIdx_iff_getElem.1 hq
      exact ⟨j, hj, hji, he⟩
    rcases Nat.lt_or_gt_of_ne hji with hlt | hgt
    · have := List.pairwise_iff_getElem.1 h.prx j i hj hil hlt
      rw [he, hie] at this
      exact (this z hz x hx).symm
    · have := List.pairwise_iff_getElem.1 h.prx i j hil hj hgt
      rw [he, hie] at this
      exact this x hx z hz
  have htid : ∀ q ∈ s.prepared.eraseIdx i, q.tid ≠ p.tid := fun q hq => by
    obtain ⟨j, hj, hji, he⟩ := List.mem_eraseIdx_iff_getElem.1 hq
    rcases Nat.lt_or_gt_of_ne hji with hlt | hgt
    · have := List.pairwise_iff_getElem.1 h.prd j i hj hil hlt
      rw [he, hie] at this
      exact ordT_ne this
    · have := List.pairwise_iff_getElem.1 h.prd i j hil hj hgt
      rw [he, hie] at this
      exact (ordT_ne this).symm
  refine ⟨⟨h.nodes, h.node, ⟨by show s.cells = _; rw [hlen]; exact h.cells.1, by show 1 ≤ ps.length; rw [hlen]; exact h.cells.2.1, by show ps.length ≤ 16; rw [hlen]; exact h.cells.2.2⟩, h.epoch, fun q hq => ?_, ?_, h.cm, sub_erase h.prd i, h.ded, fun q hq d hd => h.dis q (hsub q hq) d hd, fun q hq => ?_, sub_erase h.prx i, h.de, fun c hc => ?_, h.cmd⟩, ?_⟩
  · obtain ⟨j, hj⟩ := List.getElem?_of_mem hq
    obtain ⟨q0, hq0, hh⟩ := hat j q hj
    have hk := h.pl q0 (List.mem_of_getElem? hq0)
    rcases hh with rfl | ⟨x, hx, hw, hxj, rfl⟩
    · exact hk
    · obtain ⟨u, hu, hu1, hu2⟩ := hp.own x hx
      rw [hxj, hq0] at hu
      cases hu
      have hv := (hp.itemOk hx).2.1
      rw [wrap1 _ hk.ver]
      exact ⟨hk.st, hk.hop, ⟨by show 0 ≤ q0.ver + 1; omega, by show q0.ver + 1 ≤ _; omega⟩, hk.to1, hk.to2⟩
  · show (s.prepared.eraseIdx i).length + s.decided.length ≤ 512
    have h1 := h.tb
    have h2 := List.length_eraseIdx_le s.prepared i
    omega
  · have h1 := h.pr q (hsub q hq)
    refine ⟨h1.tid, h1.tn, h1.items, h1.nodes, h1.str, h1.has, fun x hx => ?_⟩
    obtain ⟨u, hu, hu2⟩ := h1.own x hx
    refine ⟨u, hoth _ _ hu (fun z hz e => ?_), hu2⟩
    have h2 := hne q hq z hz x hx
    have h3 := hp0 z hz
    have h4 := (h1.itemOk hx).1.1
    omega
  · have h1 := h.cmo c hc
    exact ⟨h1.tid, h1.tn, h1.items, h1.nodes, h1.str⟩
  · rw [Bool.eq_false_iff]
    intro hk
    rcases known_yes.1 hk with ⟨q, hq, e⟩ | ⟨d, hd, e⟩
    · exact htid q hq e
    · exact h.dis p hm d hd e.symm
theorem base_inv {a b n : Int} (hb : 1 ≤ b ∧ b ≤ 16) (ha : 1 ≤ a ∧ a ≤ b) (hn : 1 ≤ n ∧ n ≤ 16) : SInv (baseS a b n) := by
  refine ⟨hb, ha, ⟨?_, ?_, ?_⟩, ⟨by show (0 : Int) ≤ 0; decide, by show (0 : Int) ≤ 1099511627776; decide⟩, fun p hp => ?_, by simp [baseS], by simp [baseS], List.Pairwise.nil, List.Pairwise.nil, fun p hp => (by cases hp), fun p hp => (by cases hp), List.Pairwise.nil, fun p hp => (by cases hp), fun p hp => (by cases hp), List.Pairwise.nil⟩
  · simp [baseS]; omega
  · simp [baseS]; omega
  · simp [baseS]; omega
  · have := List.eq_of_mem_replicate hp
    subst this
    exact ⟨⟨by decide, by decide⟩, ⟨by decide, by decide⟩, ⟨by decide, by decide⟩, fun h => absurd h (by decide), fun _ => rfl⟩
theorem find_some {l : List PPr} {t : PTid} {i : Nat} (h : l.findIdx? (fun x => eqT x.tid t) = some i) : ∃ p, l[i]? = some p ∧ p.tid = t := by
  rw [List.findIdx?_eq_some_iff_getElem] at h
  obtain ⟨hi, h1, _⟩ := h
  exact ⟨l[i], List.getElem?_eq_getElem hi, (eqT_iff _ _).1 h1⟩
theorem free_ok {s : PSt} {l : List PIt} (h : freeE s l = 0) : ∀ x ∈ l, ownsB s x.c = true ∧ lockedB s x.c = false ∧ verAt s x.c = x.v := by
  induction l with
  | nil => intro x hx; cases hx
  | cons y l ih =>
    unfold freeE at h
    cases h1 : ownsB s y.c
    · rw [if_pos h1] at h; cases h
    · rw [if_neg (by rw [h1]; decide)] at h
      cases h2 : lockedB s y.c
      · rw [if_neg (by rw [h2]; decide)] at h
        cases h3 : (verAt s y.c == y.v)
        · rw [if_pos h3] at h; cases h
        · rw [if_neg (by rw [h3]; decide)] at h
          intro x hx
          rcases List.mem_cons.1 hx with rfl | hx
          · exact ⟨h1, h2, by simpa using h3⟩
          · exact ih h x hx
      · rw [if_pos h2] at h; cases h
theorem verAt_place (s : PSt) (c : Int) : verAt s c = (placeAt s c).ver := by unfold verAt placeAt; cases s.places[c.toNat]? <;> rfl
theorem strange_same {s s' : PSt} (h : s.nodes = s'.nodes) (l : List Int) : strangeB s l = strangeB s' l := by unfold strangeB; rw [h]
theorem SInv.step {s : PSt} {r : PRec} (h : SInv s) (hr : rightR r = true) (h0 : (applyE s r).1 = 0) : SInv (applyE s r).2 := by
  have hk : rightK r = true := by unfold rightR at hr; rw [Bool.and_eq_true] at hr; exact hr.2
  unfold applyE at h0 ⊢
  by_cases k1 : (r.kind == 1) = true
  · rw [if_pos k1]
    have : r.kind = 1 := by simpa using k1
    simp [rightK, this, inR_iff] at hk
    exact base_inv hk.1 hk.2.1 hk.2.2
  rw [if_neg k1] at h0 ⊢
  by_cases k2 : (r.kind == 2) = true
  · rw [if_pos k2] at h0 ⊢
    have : r.kind = 2 := by simpa using k2
    simp [rightK, this, inR_iff] at hk
    split at h0
    · cases h0
    · rename_i hne
      rw [if_neg hne]
      exact ⟨h.nodes, h.node, h.cells, ⟨by show 0 ≤ r.num; omega, hk.2⟩, h.pl, h.tb, h.cm, h.prd, h.ded, h.dis, fun p hp => let q := h.pr p hp; ⟨q.tid, q.tn, q.items, q.nodes, q.str, q.has, q.own⟩, h.prx, h.de, fun c hc => let q := h.cmo c hc; ⟨q.tid, q.tn, q.items, q.nodes, q.str⟩, h.cmd⟩
  rw [if_neg k2] at h0 ⊢
  by_cases k3 : (r.kind == 3) = true
  · rw [if_pos k3] at h0 ⊢
    have hk3 : r.kind = 3 := by simpa using k3
    simp [rightK, hk3] at hk
    rcases bool_cases (cellB s r.cell) with c1 | c1
    · rw [if_pos c1] at h0; cases h0
    rw [if_neg (by rw [c1]; decide)] at h0 ⊢
    by_cases c2 : s.nodes < r.node
    · rw [if_pos c2] at h0; cases h0
    rw [if_neg c2] at h0 ⊢
    rcases bool_cases (lockedB s r.cell) with c3 | c3
    · rw [if_neg (by rw [c3]; decide)] at h0 ⊢
      simp only [rcellB, placedB, Bool.and_eq_true, inR_iff] at hk
      refine h.setAt (cellB_iff.1 c1) c3 ⟨hk.2.2.1, hk.2.1.2, hk.2.2.2, fun e => ?_, fun e => ?_⟩
      · have h1 := hk.1
        rw [if_pos e, inR_iff] at h1
        exact ⟨h1.1, by show r.node ≤ s.nodes; omega⟩
      · have h1 := hk.1
        rw [if_neg e] at h1
        simpa using h1
    · rw [if_pos c3] at h0; cases h0
  rw [if_neg k3] at h0 ⊢
  by_cases k4 : (r.kind == 4) = true
  · rw [if_pos k4] at h0 ⊢
    have hk4 : r.kind = 4 := by simpa using k4
    simp [rightK, hk4] at hk
    unfold prepE at h0 ⊢
    rcases bool_cases (knownB s r.tid) with c1 | c1
    · rw [if_neg (by rw [c1]; decide)] at h0 ⊢
      by_cases c2 : s.nodes < r.tid.n
      · rw [if_pos c2] at h0; cases h0
      rw [if_neg c2] at h0 ⊢
      rcases bool_cases (strangeB s r.nodes) with c3 | c3
      · rw [if_neg (by rw [c3]; decide)] at h0 ⊢
        rcases bool_cases (r.nodes.any (fun x => s.node == x)) with c4 | c4
        · rw [if_pos c4] at h0; cases h0
        rw [if_neg (by rw [c4]; decide)] at h0 ⊢
        rcases bool_cases (r.items.any (fun x : PIt => !cellB s x.c)) with c5 | c5
        · rw [if_neg (by rw [c5]; decide)] at h0 ⊢
          by_cases c6 : freeE s r.items ≠ 0
          · rw [if_pos c6] at h0; exact absurd h0 c6
          rw [if_neg c6] at h0 ⊢
          rcases bool_cases (roomB s) with c7 | c7
          · rw [if_pos c7] at h0; cases h0
          rw [if_neg (by rw [c7]; decide)]
          have hfree := free_ok (show freeE s r.items = 0 by omega)
          have hroom : s.prepared.length + s.decided.length < 512 := by simpa [roomB] using c7
          have hn := known_no c1
          have hpl : ∀ x ∈ r.items, (0 ≤ x.c ∧ x.c < s.places.length) ∧ (placeAt s x.c).st = 1 ∧ (placeAt s x.c).ver = x.v ∧ s.places[x.c.toNat]? = some (placeAt s x.c) := fun x hx => by
            obtain ⟨q1, q2, q3⟩ := hfree x hx
            have := ownsB_iff.1 q1
            exact ⟨this.1, this.2, by rw [← verAt_place]; exact q3, (placeAt_mem this.1).2⟩
          have hnew : PrOk s ⟨r.tid, r.items, r.nodes⟩ := ⟨hk.1, by show r.tid.n ≤ _; omega, hk.2.1, hk.2.2, c3, by
            obtain ⟨x, hx, e⟩ := List.any_eq_true.1 c4
            have : s.node = x := by simpa using e
            rw [this]; exact hx, fun x hx => ⟨_, (hpl x hx).2.2.2, (hpl x hx).2.1, (hpl x hx).2.2.1⟩⟩
          have hapart : ∀ q ∈ s.prepared, ∀ x ∈ r.items, ∀ z ∈ q.items, x.c ≠ z.c := fun q hq x hx z hz e => by
            have : lockedB s x.c = true := lockedB_iff.2 ⟨(hpl x hx).1, q, hq, z, hz, e.symm⟩
            rw [(hfree x hx).2.1] at this; cases this
          refine ⟨h.nodes, h.node, h.cells, h.epoch, h.pl, ?_, h.cm, insT_sorted _ _ _ h.prd (fun x hx => hn.1 x hx), h.ded, fun p hp d hd => ?_, fun q hq => ?_, ?_, h.de, fun c hc => let q := h.cmo c hc; ⟨q.tid, q.tn, q.items, q.nodes, q.str⟩, h.cmd⟩
          · show (insT _ _ _).length + _ ≤ _
            rw [insT_len]
            show s.prepared.length + 1 + s.decided.length ≤ _
            omega
          · rcases (insT_mem' _ _ _ _).1 hp with rfl | hp
            · exact (hn.2 d hd).symm
            · exact h.dis p hp d hd
          · rcases (insT_mem' _ _ _ _).1 hq with rfl | hq
            · exact ⟨hnew.tid, hnew.tn, hnew.items, hnew.nodes, hnew.str, hnew.has, hnew.own⟩
            · have q := h.pr q hq
              exact ⟨q.tid, q.tn, q.items, q.nodes, q.str, q.has, q.own⟩
          · show List.Pairwise _ (insT _ _ _)
            unfold insT
            rw [List.pairwise_append, List.pairwise_cons]
            refine ⟨h.prx.sublist (List.take_sublist _ _), ⟨fun q hq => hapart q (List.mem_of_mem_drop hq), h.prx.sublist (List.drop_sublist _ _)⟩, fun a ha b hb => ?_⟩
            rcases List.mem_cons.1 hb with rfl | hb
            · exact fun x hx y hy => (hapart a (List.mem_of_mem_take ha) y hy x hx).symm
            · have := h.prx
              rw [← List.take_append_drop (posT (fun x : PPr => x.tid) s.prepared r.tid) s.prepared, List.pairwise_append] at this
              exact this.2.2 a ha b hb
        · rw [if_pos c5] at h0; cases h0
      · rw [if_pos c3] at h0; cases h0
    · rw [if_pos c1] at h0; cases h0
  rw [if_neg k4] at h0 ⊢
  by_cases k5 : (r.kind == 5) = true
  · rw [if_pos k5] at h0 ⊢
    have hk5 : r.kind = 5 := by simpa using k5
    simp [rightK, hk5] at hk
    unfold commitE at h0 ⊢
    rcases bool_cases ((r.tid.n == s.node)) with c1 | c1
    · rw [if_pos c1] at h0; cases h0
    rw [if_neg (by rw [c1]; decide)] at h0 ⊢
    rcases bool_cases (strangeB s r.nodes) with c2 | c2
    · rw [if_neg (by rw [c2]; decide)] at h0 ⊢
      by_cases c3 : 0 ≤ findI (fun x : PCm => eqT x.tid r.tid) s.commits
      · rw [if_pos c3] at h0; cases h0
      rw [if_neg c3] at h0 ⊢
      by_cases c4 : 512 ≤ s.commits.length
      · rw [if_pos c4] at h0; cases h0
      rw [if_neg c4]
      have hno : ∀ c ∈ s.commits, c.tid ≠ r.tid := fun c hc e => by
        have := findI_neg (fun x : PCm => eqT x.tid r.tid) s.commits
        rw [decide_eq_false c3] at this
        exact absurd (List.any_eq_false.1 this.symm c hc) (by simpa using (eqT_iff _ _).2 e)
      refine ⟨h.nodes, h.node, h.cells, h.epoch, h.pl, h.tb, ?_, h.prd, h.ded, h.dis, fun p hp => let q := h.pr p hp; ⟨q.tid, q.tn, q.items, q.nodes, q.str, q.has, q.own⟩, h.prx, h.de, fun c hc => ?_, ?_⟩
      · show (s.commits ++ [_]).length ≤ 512
        rw [List.length_append]; simp; omega
      · rcases List.mem_append.1 hc with hc | hc
        · have q := h.cmo c hc
          exact ⟨q.tid, q.tn, q.items, q.nodes, q.str⟩
        · have := List.mem_singleton.1 hc
          subst this
          exact ⟨hk.1, by simpa using c1, hk.2.1, hk.2.2, c2⟩
      · show List.Pairwise _ (s.commits ++ [_])
        rw [List.pairwise_append]
        refine ⟨h.cmd, by simp, fun a ha b hb => ?_⟩
        have := List.mem_singleton.1 hb
        subst this
        exact hno a ha
    · rw [if_pos c2] at h0; cases h0
  rw [if_neg k5] at h0 ⊢
  by_cases k6 : (r.kind == 6) = true
  · rw [if_pos k6] at h0 ⊢
    have hk6 : r.kind = 6 := by simpa using k6
    simp [rightK, hk6] at hk
    unfold doneE at h0 ⊢
    split at h0
    · rename_i i hi
      obtain ⟨p, hp, ht⟩ := find_some hi
      have hia : itemsAt s i = p.items := by unfold itemsAt; rw [hp]
      have hd := h.drop hp r.yes (if r.yes = true then p.items.foldl updP s.places else s.places) rfl
      have hil := (List.getElem?_eq_some_iff.1 hp).1
      have hm : p ∈ s.prepared := List.mem_of_getElem? hp
      have he : (if r.yes = true then { s with places := (itemsAt s i).foldl updP s.places } else s : PSt) = { s with places := if r.yes = true then p.items.foldl updP s.places else s.places } := by
        rw [hia]; split <;> rfl
      dsimp only
      rw [he]
      refine hd.1.dec hk (by rw [← ht]; exact (h.pr p hm).tn) (by rw [← ht]; exact hd.2) ?_ r.yes
      show (s.prepared.eraseIdx i).length + s.decided.length < 512
      rw [List.length_eraseIdx_of_lt hil]
      have := h.tb
      omega
    · rcases bool_cases (knownB s r.tid) with c1 | c1
      · rw [if_neg (by rw [c1]; decide)] at h0 ⊢
        rcases bool_cases (r.yes) with c2 | c2
        · rw [if_neg (by rw [c2]; decide)] at h0 ⊢
          by_cases c3 : freshE s r.tid = 0
          · rw [if_pos c3]
            unfold freshE at c3
            split at c3
            · cases c3
            · rename_i hn
              rcases bool_cases (roomB s) with c4 | c4
              · rw [if_neg (by rw [c4]; decide)] at c3; cases c3
              · exact h.dec hk (by omega) c1 (by simpa [roomB] using c4) false
          · rw [if_neg c3] at h0; exact absurd h0 c3
        · rw [if_pos c2] at h0; cases h0
      · rw [if_pos c1] at h0; cases h0
  rw [if_neg k6] at h0 ⊢
  by_cases k7 : (r.kind == 7) = true
  · rw [if_pos k7] at h0 ⊢
    unfold endE at h0 ⊢
    split at h0
    · rename_i i hi
      rcases bool_cases (overAt s i) with c1 | c1
      · rw [if_neg (by rw [c1]; decide)]
        obtain ⟨hil, _⟩ := List.findIdx?_eq_some_iff_getElem.1 hi
        have hov : overSet s.commits i = s.commits.set i { s.commits[i] with over := true } := by unfold overSet; rw [List.getElem?_eq_getElem hil]
        refine ⟨h.nodes, h.node, h.cells, h.epoch, h.pl, h.tb, ?_, h.prd, h.ded, h.dis, fun p hp => let q := h.pr p hp; ⟨q.tid, q.tn, q.items, q.nodes, q.str, q.has, q.own⟩, h.prx, h.de, fun c hc => ?_, ?_⟩
        · show (overSet s.commits i).length ≤ 512
          rw [hov, List.length_set]; exact h.cm
        · have hc' : c ∈ overSet s.commits i := hc
          rw [hov] at hc'
          rcases List.mem_or_eq_of_mem_set hc' with hc' | rfl
          · have q := h.cmo c hc'
            exact ⟨q.tid, q.tn, q.items, q.nodes, q.str⟩
          · have q := h.cmo _ (List.getElem_mem hil)
            exact ⟨q.tid, q.tn, q.items, q.nodes, q.str⟩
        · show (overSet s.commits i).Pairwise _
          rw [hov, ← List.pairwise_map (f := fun c : PCm => c.tid) (R := fun a b => a ≠ b), List.map_set]
          show ((s.commits.map (fun c : PCm => c.tid)).set i (s.commits[i]).tid).Pairwise _
          rw [← List.getElem_map (fun c : PCm => c.tid) (h := by simpa using hil), List.set_getElem_self, List.pairwise_map]
          exact h.cmd
      · rw [if_pos c1] at h0; cases h0
    · cases h0
  rw [if_neg k7] at h0 ⊢
  by_cases k8 : (r.kind == 8) = true
  · rw [if_pos k8] at h0 ⊢
    have hk8 : r.kind = 8 := by simpa using k8
    simp [rightK, hk8, placedB, inR_iff] at hk
    unfold outE at h0 ⊢
    rcases bool_cases (cellB s r.cell) with c1 | c1
    · rw [if_pos c1] at h0; cases h0
    rw [if_neg (by rw [c1]; decide)] at h0 ⊢
    by_cases c2 : s.nodes < r.node
    · rw [if_pos c2] at h0; cases h0
    rw [if_neg c2] at h0 ⊢
    rcases bool_cases ((r.node == s.node)) with c3 | c3
    · rw [if_neg (by rw [c3]; decide)] at h0 ⊢
      rcases bool_cases (ownsB s r.cell) with c4 | c4
      · rw [if_pos c4] at h0; cases h0
      rw [if_neg (by rw [c4]; decide)] at h0 ⊢
      rcases bool_cases (lockedB s r.cell) with c5 | c5
      · rw [if_neg (by rw [c5]; decide)] at h0 ⊢
        rcases bool_cases ((r.hop == IntKind.i64.wrap ((placeAt s r.cell).hop + 1))) with c6 | c6
        · rw [if_pos c6] at h0; cases h0
        rw [if_neg (by rw [c6]; decide)]
        have hq := h.pl _ (placeAt_mem (cellB_iff.1 c1)).1
        refine h.setAt (cellB_iff.1 c1) c5 ⟨by show (0 : Int) ≤ 2 ∧ (2 : Int) ≤ 2; omega, by show 0 ≤ r.hop ∧ r.hop ≤ _; omega, hq.ver, fun _ => by show 1 ≤ r.node ∧ r.node ≤ _; omega, fun e => absurd rfl e⟩
      · rw [if_pos c5] at h0; cases h0
    · rw [if_pos c3] at h0; cases h0
  rw [if_neg k8] at h0 ⊢
  by_cases k9 : (r.kind == 9) = true
  · rw [if_pos k9] at h0 ⊢
    have hk9 : r.kind = 9 := by simpa using k9
    simp [rightK, hk9, placedB, inR_iff] at hk
    unfold inE at h0 ⊢
    rcases bool_cases (cellB s r.cell) with c1 | c1
    · rw [if_pos c1] at h0; cases h0
    rw [if_neg (by rw [c1]; decide)] at h0 ⊢
    rcases bool_cases (ownsB s r.cell) with c2 | c2
    · rw [if_neg (by rw [c2]; decide)] at h0 ⊢
      by_cases c3 : r.hop ≤ (placeAt s r.cell).hop
      · rw [if_pos c3] at h0; cases h0
      rw [if_neg c3]
      have hul : lockedB s r.cell = false := by
        rw [Bool.eq_false_iff]
        intro hl
        obtain ⟨hc, p, hp, x, hx, e⟩ := lockedB_iff.1 hl
        obtain ⟨q, hq, hq1, _⟩ := (h.pr p hp).own x hx
        rw [e] at hq
        have := ownsB_iff.2 ⟨hc, by unfold placeAt; rw [hq]; exact hq1⟩
        rw [c2] at this; cases this
      refine h.setAt (cellB_iff.1 c1) hul ⟨by show (0 : Int) ≤ 1 ∧ (1 : Int) ≤ 2; omega, by show 0 ≤ r.hop ∧ r.hop ≤ _; omega, hk.2, fun e => absurd (show (1 : Int) = 2 from e) (by decide), fun _ => rfl⟩
    · rw [if_pos c2] at h0; cases h0
  rw [if_neg k9] at h0 ⊢
  by_cases k10 : (r.kind == 10) = true
  · rw [if_pos k10] at h0 ⊢
    have hk10 : r.kind = 10 := by simpa using k10
    simp [rightK, hk10, placedB, inR_iff] at hk
    unfold goneE at h0 ⊢
    rcases bool_cases (cellB s r.cell) with c1 | c1
    · rw [if_pos c1] at h0; cases h0
    rw [if_neg (by rw [c1]; decide)] at h0 ⊢
    rcases bool_cases (((placeAt s r.cell).st == 2)) with c2 | c2
    · rw [if_pos c2] at h0; cases h0
    rw [if_neg (by rw [c2]; decide)] at h0 ⊢
    rcases bool_cases ((r.hop == (placeAt s r.cell).hop)) with c3 | c3
    · rw [if_pos c3] at h0; cases h0
    rw [if_neg (by rw [c3]; decide)]
    have hul : lockedB s r.cell = false := by
      rw [Bool.eq_false_iff]
      intro hl
      obtain ⟨hc, p, hp, x, hx, e⟩ := lockedB_iff.1 hl
      obtain ⟨q, hq, hq1, _⟩ := (h.pr p hp).own x hx
      rw [e] at hq
      have h2 : (placeAt s r.cell).st = 2 := by simpa using c2
      unfold placeAt at h2
      rw [hq] at h2
      dsimp only at h2
      omega
    refine h.setAt (cellB_iff.1 c1) hul ⟨by show (0 : Int) ≤ 0 ∧ (0 : Int) ≤ 2; omega, by show 0 ≤ r.hop ∧ r.hop ≤ _; omega, by show (0 : Int) ≤ 0 ∧ (0 : Int) ≤ _; omega, fun e => absurd (show (0 : Int) = 2 from e) (by decide), fun _ => rfl⟩
  rw [if_neg k10] at h0 ⊢
  by_cases k11 : (r.kind == 11) = true
  · rw [if_pos k11] at h0 ⊢
    have hk11 : r.kind = 11 := by simpa using k11
    simp [rightK, hk11] at hk
    unfold pastE at h0 ⊢
    rcases bool_cases (knownB s r.tid) with c1 | c1
    · rw [if_neg (by rw [c1]; decide)] at h0 ⊢
      by_cases c3 : freshE s r.tid = 0
      · rw [if_pos c3]
        unfold freshE at c3
        split at c3
        · cases c3
        · rename_i hn
          rcases bool_cases (roomB s) with c4 | c4
          · rw [if_neg (by rw [c4]; decide)] at c3; cases c3
          · exact h.dec hk (by omega) c1 (by simpa [roomB] using c4) r.yes
      · rw [if_neg c3] at h0; exact absurd h0 c3
    · rw [if_pos c1] at h0; cases h0
  rw [if_neg k11]
  exact h
end Go.Proofs.Ytdmkijdbldcdiaa
