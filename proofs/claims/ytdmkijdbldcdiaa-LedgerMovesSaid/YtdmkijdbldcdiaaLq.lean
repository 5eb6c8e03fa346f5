/- A ledger's state that the call owns, behind a pointer. -/
import Derived.Test.YtdmkijdbldcdiaaLp
import Derived.Test.YtdmkijdbldcdiaaLdl
import Derived.Test.YtdmkijdbldcdiaaLs1
namespace Go.Proofs.Ytdmkijdbldcdiaa
open Go.RowKit
set_option linter.unusedVariables false
set_option linter.unusedSimpArgs false
set_option maxRecDepth 100000

/-- A Commit as it lies in a row. -/
structure QCm where
  p : PCm
  A1 : Option Addr
  c1 : Nat
  A2 : Option Addr
  c2 : Nat
def qcC (x : QCm) : List Value := [.int .i64 x.p.tid.n, .int .i64 x.p.tid.e, .int .i64 x.p.tid.s, .slice x.A1 x.p.items.length x.c1, .slice x.A2 x.p.nodes.length x.c2, .bool x.p.over]
/-- A slice that reads as a list and lies in a block of type T. -/
def TArr {α : Type} (E : World → α → List Value → Prop) (sz : Nat) (T : TypeId) (w : World) (v : Value) (xs : List α) : Prop := Arr E sz w v xs ∧ ∀ a n c, v = .slice (some a) n c → 0 < xs.length → ∃ cs, Blk w a.block T cs
theorem TArr.step {α : Type} {E : World → α → List Value → Prop} {sz : Nat} {T : TypeId} {w w' : World} {v : Value} {xs : List α} (h : TArr E sz T w v xs) {row : Option Nat} (hg : w.grownBy w' row) (hE : ∀ x cs, E w x cs → E w' x cs)
    (hr : ∀ g, row = some g → ∀ cs, ¬ Blk w g T cs) : TArr E sz T w' v xs := by
  obtain ⟨⟨A, c, e, hm, hh⟩, h2⟩ := h
  subst e
  have hne : ∀ a, A = some a → 0 < xs.length → some a.block ≠ row := fun a ha h0 q => by
    obtain ⟨cs, hb⟩ := h2 a _ c (by rw [ha]) h0
    exact hr _ q.symm cs hb
  refine ⟨⟨A, c, rfl, hm, fun h0 => ?_⟩, fun a n c' e h0 => ?_⟩
  · obtain ⟨ad, h1, h3, h4⟩ := hh h0
    refine ⟨ad, h1, h3, fun j x hx => ?_⟩
    obtain ⟨cs, g1, g2, g3⟩ := h4 j x hx
    exact ⟨cs, hE _ _ g1, g2, fun i u hu => hg.cell (g3 i u hu) (hne ad h1 h0)⟩
  · obtain ⟨cs, hb⟩ := h2 a n c' e h0
    injection e with e
    exact ⟨cs, hb.grown hg (hne a e h0)⟩
/-- A row of one-word elements that the call made. -/
theorem TArr.own {α : Type} {f : α → List Value} {sz : Nat} {T : TypeId} {w : World} {base : Nat} {v : Value} {xs : List α} (h : w.ownsRow base T sz v xs.length (xs.flatMap f)) (hf : ∀ x, (f x).length = sz) : TArr (fun _ x cs => cs = f x) sz T w v xs := by
  rcases h.2 with ⟨rfl, h0⟩ | ⟨g, cap, cur, rfl, hb, hh, h1, h2, h3, h4⟩
  · obtain rfl : xs = [] := List.eq_nil_of_length_eq_zero h0
    exact ⟨⟨none, 0, rfl, by simp, fun h => by simp at h⟩, fun a n c e => by cases e⟩
  · refine ⟨⟨some ⟨g, 0, none⟩, cap, rfl, ⟨by simp only [maxLen] at h2; omega, h1⟩, fun _ => ⟨_, rfl, rfl, fun j x hx => ⟨_, rfl, hf x, fun i u hu => ?_⟩⟩⟩, fun a n c e _ => ?_⟩
    · rw [Nat.zero_add]
      exact own_cellAt h (j * sz + i) u (flat_at f sz hf xs j x hx i u hu)
    · injection e with e
      injection e with e
      subst e
      exact ⟨cur, hh⟩
structure OwnSt (w : World) (B sb : Nat) (s : PSt) (vP vQ vD vC : Value) (qs : List QPr) (cs : List QCm) : Prop where
  blk : Blk w sb 32 (stCells s vP vQ vD vC)
  lo : B ≤ sb
  pl : w.ownsRow B 62 5 vP s.places.length (s.places.flatMap plCells)
  pr : w.ownsRow B 60 5 vQ qs.length (qs.flatMap qpC)
  de : w.ownsRow B 55 4 vD s.decided.length (s.decided.flatMap deC)
  cm : w.ownsRow B 58 6 vC cs.length (cs.flatMap qcC)
  qp : qs.map QPr.p = s.prepared
  cp : cs.map QCm.p = s.commits
  qi : ∀ q ∈ qs, TArr ItE 5 66 w (.slice q.A1 q.p.items.length q.c1) q.p.items ∧ TArr IE 1 3 w (.slice q.A2 q.p.nodes.length q.c2) q.p.nodes
  ci : ∀ q ∈ cs, TArr ItE 5 66 w (.slice q.A1 q.p.items.length q.c1) q.p.items ∧ TArr IE 1 3 w (.slice q.A2 q.p.nodes.length q.c2) q.p.nodes
def StO (w : World) (B sb : Nat) (s : PSt) : Prop := ∃ vP vQ vD vC qs cs, OwnSt w B sb s vP vQ vD vC qs cs
section
variable {w w' : World} {B sb : Nat} {s : PSt} {vP vQ vD vC : Value} {qs : List QPr} {cs : List QCm}
/-- Nested slices stay behind a write to a block of another type. -/
theorem nest_step {its : List PIt} {ns : List Int} {v1 v2 : Value} (h : TArr ItE 5 66 w v1 its ∧ TArr IE 1 3 w v2 ns) {row : Option Nat} (hg : w.grownBy w' row)
    (hr : ∀ g, row = some g → ∀ cs, ¬ Blk w g 66 cs ∧ ¬ Blk w g 3 cs) : TArr ItE 5 66 w' v1 its ∧ TArr IE 1 3 w' v2 ns :=
  ⟨h.1.step hg (fun _ _ h => h) (fun g e cs => (hr g e cs).1), h.2.step hg (fun _ _ h => h) (fun g e cs => (hr g e cs).2)⟩
theorem OwnSt.grown (h : OwnSt w B sb s vP vQ vD vC qs cs) (hg : w.grownBy w' none) : OwnSt w' B sb s vP vQ vD vC qs cs :=
  ⟨h.blk.grown hg (by simp), h.lo, own_gr0 h.pl hg, own_gr0 h.pr hg, own_gr0 h.de hg, own_gr0 h.cm hg, h.qp, h.cp, fun q hq => nest_step (h.qi q hq) hg (fun g e => by cases e), fun q hq => nest_step (h.ci q hq) hg (fun g e => by cases e)⟩
theorem StO.grown (h : StO w B sb s) (hg : w.grownBy w' none) : StO w' B sb s := by
  obtain ⟨vP, vQ, vD, vC, qs, cs, h⟩ := h
  exact ⟨vP, vQ, vD, vC, qs, cs, h.grown hg⟩
theorem OwnSt.read (h : OwnSt w B sb s vP vQ vD vC qs cs) : StR w s vP vQ vD vC := by
  refine ⟨(TArr.own h.pl (fun _ => rfl)).1, ?_, (TArr.own h.de (fun _ => rfl)).1, ?_⟩
  · obtain ⟨A, c, e, hm, hh⟩ := (TArr.own h.pr (fun _ => rfl)).1
    have hl : qs.length = s.prepared.length := by rw [← h.qp, List.length_map]
    refine ⟨A, c, by rw [e, hl], by rw [← hl]; exact hm, fun h0 => ?_⟩
    obtain ⟨ad, h1, h2, h3⟩ := hh (by omega)
    refine ⟨ad, h1, h2, fun j x hx => ?_⟩
    rw [← h.qp, List.getElem?_map, Option.map_eq_some_iff] at hx
    obtain ⟨q, hq, rfl⟩ := hx
    obtain ⟨cs', g1, g2, g3⟩ := h3 j q hq
    have hm := h.qi q (List.mem_of_getElem? hq)
    exact ⟨cs', ⟨q.A1, q.c1, q.A2, q.c2, g1, hm.1.1, hm.2.1⟩, g2, g3⟩
  · obtain ⟨A, c, e, hm, hh⟩ := (TArr.own h.cm (fun _ => rfl)).1
    have hl : cs.length = s.commits.length := by rw [← h.cp, List.length_map]
    refine ⟨A, c, by rw [e, hl], by rw [← hl]; exact hm, fun h0 => ?_⟩
    obtain ⟨ad, h1, h2, h3⟩ := hh (by omega)
    refine ⟨ad, h1, h2, fun j x hx => ?_⟩
    rw [← h.cp, List.getElem?_map, Option.map_eq_some_iff] at hx
    obtain ⟨q, hq, rfl⟩ := hx
    obtain ⟨cs', g1, g2, g3⟩ := h3 j q hq
    have hm := h.ci q (List.mem_of_getElem? hq)
    exact ⟨cs', ⟨q.A1, q.c1, q.A2, q.c2, g1, hm.1.1, hm.2.1⟩, g2, g3⟩
theorem StO.toP (h : StO w B sb s) : StP w sb s := by
  obtain ⟨vP, vQ, vD, vC, qs, cs, h⟩ := h
  exact ⟨vP, vQ, vD, vC, h.blk, h.read⟩
/-- A block's type. -/
theorem own_typed {base : Nat} {e : TypeId} {size n : Nat} {v : Value} {xs : List Value} (h : w.ownsRow base e size v n xs) {t : TypeId} (ht : e ≠ t) : ∀ g, v.ownBlock = some g → ∀ cs, ¬ Blk w g t cs := fun g hg cs hb => own_ne hb h (Ne.symm ht) hg.symm
theorem new_typed {g : Nat} (hg : w.heap.size ≤ g) {t : TypeId} (cs : Array Value) : ¬ Blk w g t cs := fun h => by have := h.lt; omega
/-- The field of a row is stored anew: what else there is stays. -/
theorem OwnSt.setQ (h : OwnSt w B sb s vP vQ vD vC qs cs) (hg : w.grownBy w' vQ.ownBlock) {vQ' : Value} {qs' : List QPr} (ho : w'.ownsRow B 60 5 vQ' qs'.length (qs'.flatMap qpC))
    (hi : ∀ q ∈ qs', TArr ItE 5 66 w' (.slice q.A1 q.p.items.length q.c1) q.p.items ∧ TArr IE 1 3 w' (.slice q.A2 q.p.nodes.length q.c2) q.p.nodes) :
    OwnSt (w'.setCell ⟨sb, 5, none⟩ vQ') B sb { s with prepared := qs'.map QPr.p } vP vQ' vD vC qs' cs := by
  have hsb : some sb ≠ vQ.ownBlock := own_ne h.blk h.pr (by decide)
  have hb1 := h.blk.grown hg hsb
  have hpl := own_grown h.pl hg (own_types h.pl h.pr (by decide))
  have hde := own_grown h.de hg (own_types h.de h.pr (by decide))
  have hcm := own_grown h.cm hg (own_types h.cm h.pr (by decide))
  have hci := fun q hq => nest_step (h.ci q hq) hg (fun g e cs => ⟨own_typed h.pr (by decide) g e cs, own_typed h.pr (by decide) g e cs⟩)
  have hs : w'.grownBy (w'.setCell ⟨sb, 5, none⟩ vQ') (some sb) := gr_set (gr_refl w' (some sb)) (.inl rfl) _
  have hn : ∀ g, some sb = some g → ∀ cs, ¬ Blk w' g 66 cs ∧ ¬ Blk w' g 3 cs := fun g e cs => by
    injection e with e
    subst e
    exact ⟨fun q => Blk.ne hb1 q (by decide) rfl, fun q => Blk.ne hb1 q (by decide) rfl⟩
  refine ⟨?_, h.lo, own_far hpl (own_ne hb1 hpl (by decide)) _, own_far ho (own_ne hb1 ho (by decide)) _, own_far hde (own_ne hb1 hde (by decide)) _, own_far hcm (own_ne hb1 hcm (by decide)) _, rfl, h.cp, fun q hq => nest_step (hi q hq) hs hn, fun q hq => nest_step (hci q hq) hs hn⟩
  have := hb1.set 5 vQ'
  simpa [stCells] using this
theorem OwnSt.setD (h : OwnSt w B sb s vP vQ vD vC qs cs) (hg : w.grownBy w' vD.ownBlock) {vD' : Value} {ds' : List PDe} (ho : w'.ownsRow B 55 4 vD' ds'.length (ds'.flatMap deC)) :
    OwnSt (w'.setCell ⟨sb, 6, none⟩ vD') B sb { s with decided := ds' } vP vQ vD' vC qs cs := by
  have hsb : some sb ≠ vD.ownBlock := own_ne h.blk h.de (by decide)
  have hb1 := h.blk.grown hg hsb
  have hpl := own_grown h.pl hg (own_types h.pl h.de (by decide))
  have hpr := own_grown h.pr hg (own_types h.pr h.de (by decide))
  have hcm := own_grown h.cm hg (own_types h.cm h.de (by decide))
  have hty : ∀ g, vD.ownBlock = some g → ∀ cs, ¬ Blk w g 66 cs ∧ ¬ Blk w g 3 cs := fun g e cs => ⟨own_typed h.de (by decide) g e cs, own_typed h.de (by decide) g e cs⟩
  have hci := fun q hq => nest_step (h.ci q hq) hg hty
  have hqi := fun q hq => nest_step (h.qi q hq) hg hty
  have hs : w'.grownBy (w'.setCell ⟨sb, 6, none⟩ vD') (some sb) := gr_set (gr_refl w' (some sb)) (.inl rfl) _
  have hn : ∀ g, some sb = some g → ∀ cs, ¬ Blk w' g 66 cs ∧ ¬ Blk w' g 3 cs := fun g e cs => by
    injection e with e
    subst e
    exact ⟨fun q => Blk.ne hb1 q (by decide) rfl, fun q => Blk.ne hb1 q (by decide) rfl⟩
  refine ⟨?_, h.lo, own_far hpl (own_ne hb1 hpl (by decide)) _, own_far hpr (own_ne hb1 hpr (by decide)) _, own_far ho (own_ne hb1 ho (by decide)) _, own_far hcm (own_ne hb1 hcm (by decide)) _, h.qp, h.cp, fun q hq => nest_step (hqi q hq) hs hn, fun q hq => nest_step (hci q hq) hs hn⟩
  have := hb1.set 6 vD'
  simpa [stCells] using this
theorem OwnSt.setC (h : OwnSt w B sb s vP vQ vD vC qs cs) (hg : w.grownBy w' vC.ownBlock) {vC' : Value} {cs' : List QCm} (ho : w'.ownsRow B 58 6 vC' cs'.length (cs'.flatMap qcC))
    (hi : ∀ q ∈ cs', TArr ItE 5 66 w' (.slice q.A1 q.p.items.length q.c1) q.p.items ∧ TArr IE 1 3 w' (.slice q.A2 q.p.nodes.length q.c2) q.p.nodes) :
    OwnSt (w'.setCell ⟨sb, 7, none⟩ vC') B sb { s with commits := cs'.map QCm.p } vP vQ vD vC' qs cs' := by
  have hsb : some sb ≠ vC.ownBlock := own_ne h.blk h.cm (by decide)
  have hb1 := h.blk.grown hg hsb
  have hpl := own_grown h.pl hg (own_types h.pl h.cm (by decide))
  have hpr := own_grown h.pr hg (own_types h.pr h.cm (by decide))
  have hde := own_grown h.de hg (own_types h.de h.cm (by decide))
  have hqi := fun q hq => nest_step (h.qi q hq) hg (fun g e cs => ⟨own_typed h.cm (by decide) g e cs, own_typed h.cm (by decide) g e cs⟩)
  have hs : w'.grownBy (w'.setCell ⟨sb, 7, none⟩ vC') (some sb) := gr_set (gr_refl w' (some sb)) (.inl rfl) _
  have hn : ∀ g, some sb = some g → ∀ cs, ¬ Blk w' g 66 cs ∧ ¬ Blk w' g 3 cs := fun g e cs => by
    injection e with e
    subst e
    exact ⟨fun q => Blk.ne hb1 q (by decide) rfl, fun q => Blk.ne hb1 q (by decide) rfl⟩
  refine ⟨?_, h.lo, own_far hpl (own_ne hb1 hpl (by decide)) _, own_far hpr (own_ne hb1 hpr (by decide)) _, own_far hde (own_ne hb1 hde (by decide)) _, own_far ho (own_ne hb1 ho (by decide)) _, h.qp, rfl, fun q hq => nest_step (hqi q hq) hs hn, fun q hq => nest_step (hi q hq) hs hn⟩
  have := hb1.set 7 vC'
  simpa [stCells] using this
/-- A row is written in its place: places. -/
theorem OwnSt.setP (h : OwnSt w B sb s vP vQ vD vC qs cs) (hg : w.grownBy w' vP.ownBlock) {ps : List PPl} (hl : ps.length = s.places.length) (ho : w'.ownsRow B 62 5 vP ps.length (ps.flatMap plCells)) :
    OwnSt w' B sb { s with places := ps } vP vQ vD vC qs cs := by
  have hsb : some sb ≠ vP.ownBlock := own_ne h.blk h.pl (by decide)
  have hb1 := h.blk.grown hg hsb
  have hpr := own_grown h.pr hg (own_types h.pr h.pl (by decide))
  have hde := own_grown h.de hg (own_types h.de h.pl (by decide))
  have hcm := own_grown h.cm hg (own_types h.cm h.pl (by decide))
  have hty : ∀ g, vP.ownBlock = some g → ∀ cs, ¬ Blk w g 66 cs ∧ ¬ Blk w g 3 cs := fun g e cs => ⟨own_typed h.pl (by decide) g e cs, own_typed h.pl (by decide) g e cs⟩
  exact ⟨hb1, h.lo, ho, hpr, hde, hcm, h.qp, h.cp, fun q hq => nest_step (h.qi q hq) hg hty, fun q hq => nest_step (h.ci q hq) hg hty⟩
theorem OwnSt.drew (h : OwnSt w B sb s vP vQ vD vC qs cs) : OwnSt w.drew B sb s vP vQ vD vC qs cs := h.grown (gr_drew (gr_refl w none))
theorem StO.drew (h : StO w B sb s) : StO w.drew B sb s := h.grown (gr_drew (gr_refl w none))
end
/-- Types of the rows that a state's methods write into. -/
def lty (t : TypeId) : Bool := t == 62 || (t == 60 || (t == 55 || t == 58))
/-- All other blocks stay, but for the state's own. -/
def Keeps (sb : Nat) (w w' : World) : Prop := ∀ b t cs, Blk w b t cs → lty t = false → b ≠ sb → Blk w' b t cs
section
variable {sb : Nat}
theorem Keeps.trans {w w' w'' : World} (h : Keeps sb w w') (h' : Keeps sb w' w'') : Keeps sb w w'' := fun b t cs hb ht hn => h' b t cs (h b t cs hb ht hn) ht hn
theorem Keeps.refl (w : World) : Keeps sb w w := fun _ _ _ h _ _ => h
theorem Keeps.row {w w' : World} {row : Option Nat} (hg : w.grownBy w' row) (hr : ∀ g, row = some g → ∀ t cs, lty t = false → ¬ Blk w g t cs) : Keeps sb w w' := fun b t cs hb ht _ =>
  hb.grown hg (fun e => hr b e.symm t cs ht hb)
theorem Keeps.none {w w' : World} (hg : w.grownBy w' none) : Keeps sb w w' := .row hg (fun g e => by cases e)
theorem Keeps.own {w w' : World} {base : Nat} {e : TypeId} {size n : Nat} {v : Value} {xs : List Value} (h : w.ownsRow base e size v n xs) (he : lty e = true) (hg : w.grownBy w' v.ownBlock) : Keeps sb w w' :=
  .row hg (fun g hgb t cs ht => own_typed h (fun q => by rw [q, ht] at he; cases he) g hgb cs)
theorem Keeps.set {w : World} {t : TypeId} {cs : Array Value} (_ : Blk w sb t cs) (_ : True) (i : Nat) (v : Value) : Keeps sb w (w.setCell ⟨sb, i, .none⟩ v) := fun b' t' cs' hb _ hn =>
  hb.far (a := ⟨sb, i, .none⟩) hn v
end
/-- What a method that writes leaves. -/
def MutPost (w0 w : World) (sb : Nat) (v : Value) (s : PSt) (e : Ending) (w' : World) : Prop := e = .returned v ∧ w0.grownBy w' none ∧ Keeps sb w w' ∧ StO w' w0.heap.size sb s
end Go.Proofs.Ytdmkijdbldcdiaa
