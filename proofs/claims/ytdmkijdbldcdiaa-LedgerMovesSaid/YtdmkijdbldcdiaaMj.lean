/- A ledger's state: what holds of every state that records come to. Plain Lean. -/
import Derived.Test.YtdmkijdbldcdiaaMr
namespace Go.Proofs.Ytdmkijdbldcdiaa
open Go.RowKit
set_option linter.unusedVariables false
set_option linter.unusedSimpArgs false

theorem up_lt {α : Type} (f : α → Int) (l : List α) (h : ∀ j (hj : j + 1 < l.length), f (l[j]'(by omega)) < f (l[j + 1]'hj)) : ∀ (j i : Nat) (hi : i < j) (hj : j < l.length), f (l[i]'(by omega)) < f (l[j]'hj) := by
  intro j
  induction j with
  | zero => intro i hi; omega
  | succ j ih =>
    intro i hi hj
    by_cases e : i = j
    · subst e; exact h i hj
    · exact Int.lt_trans (ih i (by omega) (by omega)) (h j hj)
theorem up_len {α : Type} (f : α → Int) (l : List α) (h : ∀ j (hj : j + 1 < l.length), f (l[j]'(by omega)) < f (l[j + 1]'hj)) (lo hi : Int) (hb : ∀ x ∈ l, lo ≤ f x ∧ f x ≤ hi) (hlh : lo ≤ hi + 1) : (l.length : Int) ≤ hi - lo + 1 := by
  have h2 : ∀ (j : Nat) (hj : j < l.length), lo + j ≤ f (l[j]'hj) := by
    intro j
    induction j with
    | zero => intro hj; have := (hb _ (List.getElem_mem hj)).1; omega
    | succ j ih => intro hj; have := ih (by omega); have := h j hj; omega
  by_cases e : l.length = 0
  · omega
  · have h3 := h2 (l.length - 1) (by omega)
    have h4 := (hb _ (List.getElem_mem (show l.length - 1 < l.length by omega))).2
    omega
theorem up_pair {α : Type} (f : α → Int) (l : List α) (h : ∀ j (hj : j + 1 < l.length), f (l[j]'(by omega)) < f (l[j + 1]'hj)) : l.Pairwise (fun a b => f a < f b) :=
  List.pairwise_iff_getElem.2 fun i j hi hj hij => up_lt f l h j i hij hj
theorem inR_iff (n lo hi : Int) : inR n lo hi = true ↔ lo ≤ n ∧ n ≤ hi := by simp [inR]
theorem itemsOk_iff (l : List PIt) : itemsOk l = true ↔ l ≠ [] ∧ (∀ x ∈ l, itemOk x = true) ∧ l.Pairwise (fun a b => a.c < b.c) := by
  have hg : ∀ (i : Nat) (x : PIt), l[i]? = some x → goodAt l i = (itemOk x && (match i with | 0 => true | j + 1 => match l[j]? with | some y => decide (y.c < x.c) | none => true)) := fun i x hx => by
    unfold goodAt; rw [hx]; rfl
  unfold itemsOk goodTo
  rw [Bool.and_eq_true, List.all_eq_true, decide_eq_true_eq]
  constructor
  · rintro ⟨h1, h2⟩
    have h3 : ∀ i (hi : i < l.length), goodAt l i = true := fun i hi => h1 i (List.mem_range.2 hi)
    refine ⟨fun e => by subst e; simp at h2, fun x hx => ?_, up_pair (fun x => x.c) l fun j hj => ?_⟩
    · obtain ⟨i, hi, rfl⟩ := List.mem_iff_getElem.1 hx
      have := h3 i hi
      rw [hg i _ (List.getElem?_eq_getElem hi), Bool.and_eq_true] at this
      exact this.1
    · have := h3 (j + 1) hj
      rw [hg _ _ (List.getElem?_eq_getElem hj), Bool.and_eq_true] at this
      have := this.2
      dsimp only at this
      rw [List.getElem?_eq_getElem (show j < l.length by omega)] at this
      simpa using this
  · rintro ⟨h1, h2, h3⟩
    refine ⟨fun i hi => ?_, List.length_pos_iff.2 h1⟩
    have hi := List.mem_range.1 hi
    rw [hg i _ (List.getElem?_eq_getElem hi), Bool.and_eq_true]
    refine ⟨h2 _ (List.getElem_mem hi), ?_⟩
    rcases i with _ | j
    · rfl
    · dsimp only
      rw [List.getElem?_eq_getElem (show j < l.length by omega)]
      exact decide_eq_true (List.pairwise_iff_getElem.1 h3 j (j + 1) (by omega) hi (by omega))
theorem nodesOk_iff (l : List Int) : nodesOk l = true ↔ (∀ x ∈ l, 1 ≤ x ∧ x ≤ 16) ∧ l.Pairwise (fun a b => a < b) := by
  have hg : ∀ (i : Nat) (x : Int), l[i]? = some x → upAt l i = (match i with | 0 => true | j + 1 => match l[j]? with | some y => decide (y < x) | none => true) := fun i x hx => by
    unfold upAt; rw [hx]; rfl
  unfold nodesOk upTo
  rw [Bool.and_eq_true, List.all_eq_true, List.all_eq_true]
  constructor
  · rintro ⟨h1, h2⟩
    refine ⟨fun x hx => (inR_iff _ _ _).1 (h2 x hx), up_pair (fun x => x) l fun j hj => ?_⟩
    have := h1 (j + 1) (List.mem_range.2 hj)
    rw [hg _ _ (List.getElem?_eq_getElem hj)] at this
    dsimp only at this
    rw [List.getElem?_eq_getElem (show j < l.length by omega)] at this
    simpa using this
  · rintro ⟨h1, h2⟩
    refine ⟨fun i hi => ?_, fun x hx => (inR_iff _ _ _).2 (h1 x hx)⟩
    have hi := List.mem_range.1 hi
    rw [hg i _ (List.getElem?_eq_getElem hi)]
    rcases i with _ | j
    · rfl
    · dsimp only
      rw [List.getElem?_eq_getElem (show j < l.length by omega)]
      exact decide_eq_true (List.pairwise_iff_getElem.1 h2 j (j + 1) (by omega) hi (by omega))
theorem itemOk_iff (x : PIt) : itemOk x = true ↔ (0 ≤ x.c ∧ x.c ≤ 15) ∧ (0 ≤ x.v ∧ x.v ≤ 1099511627775) ∧ (x.wr = true ∨ x.nw = 0) := by
  simp [itemOk, inR, and_assoc]
theorem itemsOk_len {l : List PIt} (h : itemsOk l = true) : l.length ≤ 16 := by
  obtain ⟨_, h2, h3⟩ := (itemsOk_iff l).1 h
  have := up_len (fun x : PIt => x.c) l (fun j hj => List.pairwise_iff_getElem.1 h3 j (j + 1) (by omega) hj (by omega)) 0 15 (fun x hx => ((itemOk_iff x).1 (h2 x hx)).1) (by omega)
  omega
theorem nodesOk_len {l : List Int} (h : nodesOk l = true) : l.length ≤ 16 := by
  obtain ⟨h2, h3⟩ := (nodesOk_iff l).1 h
  have := up_len (fun x : Int => x) l (fun j hj => List.pairwise_iff_getElem.1 h3 j (j + 1) (by omega) hj (by omega)) 1 16 (fun x hx => h2 x hx) (by omega)
  omega
theorem tidOk_iff (t : PTid) : tidOk t = true ↔ (1 ≤ t.n ∧ t.n ≤ 16) ∧ (1 ≤ t.e ∧ t.e ≤ 1099511627776) ∧ (1 ≤ t.s ∧ t.s ≤ 1099511627776) := by
  simp [tidOk, inR, and_assoc]
theorem ordT_lt (a b : PTid) : ordT a b < 0 ↔ a.n < b.n ∨ (a.n = b.n ∧ (a.e < b.e ∨ (a.e = b.e ∧ a.s < b.s))) := by
  unfold ordT orI orI orI orI cmpI
  repeat' split
  all_goals omega
theorem ordT_trans {a b c : PTid} (h1 : ordT a b < 0) (h2 : ordT b c < 0) : ordT a c < 0 := by
  rw [ordT_lt] at *; omega
theorem ordT_total {a b : PTid} (h1 : ¬ ordT a b < 0) (h : a ≠ b) : ordT b a < 0 := by
  rw [ordT_lt] at *
  have : ¬ (a.n = b.n ∧ a.e = b.e ∧ a.s = b.s) := fun ⟨h1, h2, h3⟩ => h (by cases a; cases b; simp_all)
  omega
theorem ordT_ne {a b : PTid} (h : ordT a b < 0) : a ≠ b := fun e => by subst e; rw [ordT_lt] at h; omega
/-- Where it's put: what is ahead stands lower, what's behind doesn't. -/
theorem posT_lt {α : Type} (f : α → PTid) (l : List α) (t : PTid) : ∀ x ∈ l.take (posT f l t), ordT (f x) t < 0 := by
  induction l with
  | nil => intro x hx; simp at hx
  | cons y l ih =>
    intro x hx
    unfold posT at hx
    rw [List.takeWhile_cons] at hx
    by_cases h : ordT (f y) t < 0
    · rw [if_pos (by simpa using h)] at hx
      simp only [List.length_cons, List.take_succ_cons, List.mem_cons] at hx
      rcases hx with rfl | hx
      · exact h
      · exact ih x hx
    · rw [if_neg (by simpa using h)] at hx
      simp at hx
theorem posT_ge {α : Type} (f : α → PTid) (l : List α) (t : PTid) (hs : l.Pairwise (fun a b => ordT (f a) (f b) < 0)) (hn : ∀ x ∈ l, f x ≠ t) : ∀ x ∈ l.drop (posT f l t), ordT t (f x) < 0 := by
  induction l with
  | nil => intro x hx; simp at hx
  | cons y l ih =>
    intro x hx
    unfold posT at hx
    rw [List.takeWhile_cons] at hx
    by_cases h : ordT (f y) t < 0
    · rw [if_pos (by simpa using h)] at hx
      simp only [List.length_cons, List.drop_succ_cons] at hx
      exact ih (List.pairwise_cons.1 hs).2 (fun x hx => hn x (List.mem_cons_of_mem _ hx)) x hx
    · rw [if_neg (by simpa using h)] at hx
      simp only [List.length_nil, List.drop_zero, List.mem_cons] at hx
      have hy := ordT_total h (hn y List.mem_cons_self)
      rcases hx with rfl | hx
      · exact hy
      · exact ordT_trans hy ((List.pairwise_cons.1 hs).1 x hx)
theorem insT_sorted {α : Type} (f : α → PTid) (l : List α) (d : α) (hs : l.Pairwise (fun a b => ordT (f a) (f b) < 0)) (hn : ∀ x ∈ l, f x ≠ f d) : (insT f l d).Pairwise (fun a b => ordT (f a) (f b) < 0) := by
  unfold insT
  rw [List.pairwise_append, List.pairwise_cons]
  have h1 := posT_lt f l (f d)
  have h2 := posT_ge f l (f d) hs hn
  refine ⟨hs.sublist (List.take_sublist _ _), ⟨h2, hs.sublist (List.drop_sublist _ _)⟩, fun a ha b hb => ?_⟩
  rcases List.mem_cons.1 hb with rfl | hb
  · exact h1 a ha
  · exact ordT_trans (h1 a ha) (h2 b hb)
theorem insT_mem' {α : Type} (f : α → PTid) (l : List α) (d x : α) : x ∈ insT f l d ↔ x = d ∨ x ∈ l := by
  unfold insT
  rw [List.mem_append, List.mem_cons]
  conv => rhs; rw [← List.take_append_drop (posT f l (f d)) l, List.mem_append]
  constructor
  · rintro (h | h | h)
    · exact .inr (.inl h)
    · exact .inl h
    · exact .inr (.inr h)
  · rintro (h | h | h)
    · exact .inr (.inl h)
    · exact .inl h
    · exact .inr (.inr h)
/-- Sorted: what is put at the end comes last. -/
theorem insT_last {α : Type} (f : α → PTid) (l : List α) (d : α) (h : ∀ x ∈ l, ordT (f x) (f d) < 0) : insT f l d = l ++ [d] := by
  have : posT f l (f d) = l.length := takeWhile_all _ _ (List.all_eq_true.2 fun x hx => by simpa using h x hx)
  unfold insT
  rw [this]; simp
def MAXN : Int := 1099511627776
structure PlOk (n : Int) (p : PPl) : Prop where
  st : 0 ≤ p.st ∧ p.st ≤ 2
  hop : 0 ≤ p.hop ∧ p.hop ≤ 1099511627776
  ver : 0 ≤ p.ver ∧ p.ver ≤ 1099511627776
  to1 : p.st = 2 → 1 ≤ p.to_ ∧ p.to_ ≤ n
  to2 : p.st ≠ 2 → p.to_ = 0
structure PrOk (s : PSt) (p : PPr) : Prop where
  tid : tidOk p.tid = true
  tn : p.tid.n ≤ s.nodes
  items : itemsOk p.items = true
  nodes : nodesOk p.nodes = true
  str : strangeB s p.nodes = false
  has : s.node ∈ p.nodes
  own : ∀ x ∈ p.items, ∃ q, s.places[x.c.toNat]? = some q ∧ q.st = 1 ∧ q.ver = x.v
structure CmOk (s : PSt) (c : PCm) : Prop where
  tid : tidOk c.tid = true
  tn : c.tid.n = s.node
  items : c.items = [] ∨ itemsOk c.items = true
  nodes : nodesOk c.nodes = true
  str : strangeB s c.nodes = false
/-- What holds of every state that records come to. -/
structure SInv (s : PSt) : Prop where
  nodes : 1 ≤ s.nodes ∧ s.nodes ≤ 16
  node : 1 ≤ s.node ∧ s.node ≤ s.nodes
  cells : s.cells = s.places.length ∧ 1 ≤ s.places.length ∧ s.places.length ≤ 16
  epoch : 0 ≤ s.epoch ∧ s.epoch ≤ 1099511627776
  pl : ∀ p ∈ s.places, PlOk s.nodes p
  tb : s.prepared.length + s.decided.length ≤ 512
  cm : s.commits.length ≤ 512
  prd : s.prepared.Pairwise (fun a b => ordT a.tid b.tid < 0)
  ded : s.decided.Pairwise (fun a b => ordT a.tid b.tid < 0)
  dis : ∀ p ∈ s.prepared, ∀ d ∈ s.decided, p.tid ≠ d.tid
  pr : ∀ p ∈ s.prepared, PrOk s p
  prx : s.prepared.Pairwise (fun a b => ∀ x ∈ a.items, ∀ y ∈ b.items, x.c ≠ y.c)
  de : ∀ d ∈ s.decided, tidOk d.tid = true ∧ d.tid.n ≤ s.nodes
  cmo : ∀ c ∈ s.commits, CmOk s c
  cmd : s.commits.Pairwise (fun a b => a.tid ≠ b.tid)
theorem CmOk.len {s : PSt} {c : PCm} (h : CmOk s c) : c.items.length ≤ 16 ∧ c.nodes.length ≤ 16 := by
  refine ⟨?_, nodesOk_len h.nodes⟩
  rcases h.items with e | e
  · rw [e]; simp
  · exact itemsOk_len e
theorem PrOk.len {s : PSt} {c : PPr} (h : PrOk s c) : c.items.length ≤ 16 ∧ c.nodes.length ≤ 16 := ⟨itemsOk_len h.items, nodesOk_len h.nodes⟩
theorem PrOk.itemOk {s : PSt} {p : PPr} (h : PrOk s p) {x : PIt} (hx : x ∈ p.items) : (0 ≤ x.c ∧ x.c ≤ 15) ∧ (0 ≤ x.v ∧ x.v ≤ 1099511627775) ∧ (x.wr = true ∨ x.nw = 0) := (itemOk_iff x).1 (((itemsOk_iff _).1 h.items).2.1 x hx)
theorem PrOk.cellOk {s : PSt} {p : PPr} (h : PrOk s p) {x : PIt} (hx : x ∈ p.items) : 0 ≤ x.c ∧ x.c < s.places.length := by
  obtain ⟨q, hq, _⟩ := h.own x hx
  have h1 := (h.itemOk hx).1
  have := (List.getElem?_eq_some_iff.1 hq).1
  omega
theorem SInv.bounds {s : PSt} (h : SInv s) : s.places.length ≤ 1000000 ∧ s.prepared.length ≤ 1000000 ∧ s.decided.length ≤ 1000000 ∧ s.commits.length ≤ 1000000 ∧ (∀ p ∈ s.prepared, p.items.length ≤ 1000000 ∧ p.nodes.length ≤ 1000000) ∧ (∀ p ∈ s.commits, p.items.length ≤ 1000000 ∧ p.nodes.length ≤ 1000000) := by
  have h1 := h.cells.2.2
  have h2 := h.tb
  have h3 := h.cm
  refine ⟨by omega, by omega, by omega, by omega, fun p hp => ?_, fun p hp => ?_⟩
  · have := (h.pr p hp).len; omega
  · have := (h.cmo p hp).len; omega
theorem SInv.sum {s : PSt} (h : SInv s) : s.prepared.length + s.decided.length ≤ 1000 := by have := h.tb; omega
theorem SInv.cms {s : PSt} (h : SInv s) : s.commits.length ≤ 1000000 := by have := h.cm; omega
theorem SInv.cellsP {s : PSt} (h : SInv s) : ∀ p ∈ s.prepared, ∀ x ∈ p.items, 0 ≤ x.c ∧ x.c < s.places.length := fun p hp x hx => (h.pr p hp).cellOk hx
/-- A state that isn't. -/
def zS : PSt := ⟨0, 0, 0, 0, [], [], [], []⟩
def applyL (s : PSt) : List PRec → Int × PSt
  | [] => (0, s)
  | r :: l => if rightR r = true then (if (applyE s r).1 = 0 then applyL (applyE s r).2 l else ((applyE s r).1, zS)) else (1, zS)
theorem rightR_base {r : PRec} (h : rightR r = true) : (r.kind == 1) = true → 0 ≤ r.num ∧ r.num ≤ 16 := fun hk => by
  unfold rightR rightK at h
  rw [hk] at h
  simp [inR] at h
  omega
theorem rightR_len {r : PRec} (h : rightR r = true) : r.items.length ≤ 1000000 ∧ r.nodes.length ≤ 1000000 := by
  unfold rightR at h
  rw [Bool.and_eq_true] at h
  obtain ⟨h1, h2⟩ := h
  by_cases k4 : (r.kind == 4) = true
  · have : r.kind = 4 := by simpa using k4
    simp [rightK, this] at h2
    have a := itemsOk_len h2.2.1
    have b := nodesOk_len h2.2.2
    omega
  by_cases k5 : (r.kind == 5) = true
  · have : r.kind = 5 := by simpa using k5
    simp [rightK, this] at h2
    have b := nodesOk_len h2.2.2
    rcases h2.2.1 with a | a
    · rw [a]; simp; omega
    · have := itemsOk_len a; omega
  · have h3 : (plainR r).items = [] ∧ (plainR r).nodes = [] := by
      unfold plainR
      rw [if_neg k4, if_neg k5]
      repeat' split
      all_goals exact ⟨rfl, rfl⟩
    simp [bareB, bareX, h3] at h1
    omega
end Go.Proofs.Ytdmkijdbldcdiaa
