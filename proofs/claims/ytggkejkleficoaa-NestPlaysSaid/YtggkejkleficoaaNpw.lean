/- The law NestPlays. -/
import Derived.Test.YtggkejkleficoaaNps
import Derived.Test.YtggkejkleficoaaNfl
import Derived.Test.YtggkejkleficoaaNt
namespace Go.Proofs.Ytggkejkleficoaa
open Go.RowKit Go.Maps
set_option linter.unusedVariables false
attribute [local go_sem] Oper.semAt_some

/-- The nest and the document's, beside each other. -/
structure Both (w0 w : World) (B nb : Nat) (F : Nat → Prop) (B' rb : Nat) (G : Nat → Prop) (rd : Rd) (lv : Lv) (rd' : Rd) (lv' : Lv) (K K' : Nat) : Prop where
  a : USt w0 w B nb F rd lv K
  d : DocAt w B' rb G rd' lv' K'
  lo : w0.heap.size ≤ B'
  hi : B' ≤ w.heap.size
  dis : ∀ k, G k → ¬ F k
theorem Both.grow {w0 w w' : World} {B nb : Nat} {F : Nat → Prop} {B' rb : Nat} {G : Nat → Prop} {rd rd' : Rd} {lv lv' : Lv} {K K' : Nat} (h : Both w0 w B nb F B' rb G rd lv rd' lv' K K') (hg : w.grownBy w' none) : Both w0 w' B nb F B' rb G rd lv rd' lv' K K' :=
  ⟨h.a.grow hg, h.d.gr hg, h.lo, Nat.le_trans h.hi hg.size, h.dis⟩
theorem Both.doc {w0 w w' : World} {B nb : Nat} {F : Nat → Prop} {B' rb : Nat} {G G' : Nat → Prop} {rd rd' rd2 : Rd} {lv lv' lv2 : Lv} {K K' K2 : Nat} (h : Both w0 w B nb F B' rb G rd lv rd' lv' K K') (hd : DocAt w' B' rb G' rd2 lv2 K2) (hg : NG w w' G G') : Both w0 w' B nb F B' rb G' rd lv rd2 lv2 K K2 := by
  obtain ⟨h1, h2⟩ := h.a.other (hg.gr h.a.gr (fun k hk => Nat.le_trans h.lo (h.d.fp k hk).1)) hg (fun k hk q => h.dis k q hk)
  exact ⟨h1, hd, h.lo, Nat.le_trans h.hi hg.size, fun k hk q => h2 k q hk⟩
theorem Both.doc_blk {w0 w w' : World} {B nb : Nat} {F : Nat → Prop} {B' rb : Nat} {G G' : Nat → Prop} {rd rd' : Rd} {lv lv' : Lv} {K K' : Nat} (h : Both w0 w B nb F B' rb G rd lv rd' lv' K K') (hg : NG w w' G G') {x : Nat} {t : TypeId} {cs : Array Value} (hx : Blk w x t cs) (hn : ¬ G x) : Blk w' x t cs := (hx.ng hg hn).1
theorem Both.does {w0 w : World} {B nb : Nat} {F : Nat → Prop} {B' rb : Nat} {G : Nat → Prop} {rd rd' : Rd} {lv lv' : Lv} {K K' : Nat} (h : Both w0 w B nb F B' rb G rd lv rd' lv' K K') (hK : K < 300000) (o : PNo) (ho : o.ok) :
    Calls Try.prog 9 #[NP nb, noV o] w fun e w' => e = .returned (.int .i64 (doE o rd lv)) ∧ ∃ F2, Both w0 w' B nb F2 B' rb G (doR o rd) (doL o rd lv) rd' lv' (K + 1) K' ∧ NG w w' F F2 := by
  refine (h.a.does hK o ho).mono ?_
  rintro e w1 ⟨rfl, F2, hU, hG⟩
  obtain ⟨h1, h2⟩ := h.d.other hG h.dis
  exact ⟨rfl, F2, ⟨hU, h1, h.lo, Nat.le_trans h.hi hG.size, h2⟩, hG⟩
/-- Both, the operation's block, and the document's nest's own block. -/
structure Pst (w0 w : World) (B nb B' rb : Nat) (rd : Rd) (lv : Lv) (rd' : Rd) (lv' : Lv) (K K' x : Nat) (oo : PNo) (v0 v1 : Value) : Prop where
  both : ∃ F G, Both w0 w B nb F B' rb G rd lv rd' lv' K K' ∧ ¬ F x ∧ ¬ F rb
  xb : Blk w x 27 #[.int .i64 oo.k, .int .i64 oo.c, .int .i64 oo.v, .int .i64 oo.a]
  rbb : Blk w rb 46 #[v0, v1]
theorem Pst.grow {w0 w w' : World} {B nb B' rb : Nat} {rd : Rd} {lv : Lv} {rd' : Rd} {lv' : Lv} {K K' x : Nat} {oo : PNo} {v0 v1 : Value} (h : Pst w0 w B nb B' rb rd lv rd' lv' K K' x oo v0 v1) (hg : w.grownBy w' none) : Pst w0 w' B nb B' rb rd lv rd' lv' K K' x oo v0 v1 := by
  obtain ⟨⟨F, G, hb, h1, h2⟩, h3, h4⟩ := h
  exact ⟨⟨F, G, hb.grow hg, h1, h2⟩, h3.grown hg (by simp), h4.grown hg (by simp)⟩
theorem Pst.does {w0 w : World} {B nb B' rb : Nat} {rd : Rd} {lv : Lv} {rd' : Rd} {lv' : Lv} {K K' x : Nat} {oo : PNo} {v0 v1 : Value} (h : Pst w0 w B nb B' rb rd lv rd' lv' K K' x oo v0 v1) (hK : K < 300000) (ho : oo.ok) :
    Calls Try.prog 9 #[NP nb, noV oo] w fun e w' => e = .returned (.int .i64 (doE oo rd lv)) ∧ Pst w0 w' B nb B' rb (doR oo rd) (doL oo rd lv) rd' lv' (K + 1) K' x oo v0 v1 := by
  obtain ⟨⟨F, G, hb, h1, h2⟩, h3, h4⟩ := h
  refine (hb.does hK oo ho).mono ?_
  rintro e w1 ⟨rfl, F2, hB, hG⟩
  obtain ⟨e1, e2⟩ := h3.ng hG h1
  obtain ⟨e3, e4⟩ := h4.ng hG h2
  exact ⟨rfl, ⟨F2, G, hB, e2, e4⟩, e1, e3⟩
theorem Pst.levels {w0 w : World} {B nb B' rb : Nat} {rd : Rd} {lv : Lv} {rd' : Rd} {lv' : Lv} {K K' x : Nat} {oo : PNo} {v0 v1 : Value} (h : Pst w0 w B nb B' rb rd lv rd' lv' K K' x oo v0 v1) :
    Calls Try.prog 10 #[NP nb] w fun e w' => e = .returned (.int .i64 lv.length) ∧ w' = w := by
  obtain ⟨⟨F, G, hb, h1, h2⟩, h3, h4⟩ := h
  exact levels_c hb.a.nest
theorem Pst.items {w0 w : World} {B nb B' rb : Nat} {rd : Rd} {lv : Lv} {rd' : Rd} {lv' : Lv} {K K' x : Nat} {oo : PNo} {v0 v1 : Value} (h : Pst w0 w B nb B' rb rd lv rd' lv' K K' x oo v0 v1) :
    Calls Try.prog 23 #[NP nb] w fun e w' => (∃ v, e = .returned v ∧ Arr ItE 5 w' v (itsN rd lv)) ∧ w.grownBy w' none := by
  obtain ⟨⟨F, G, hb, h1, h2⟩, h3, h4⟩ := h
  refine (items_c hb.a.nest (by have := hb.a.inv.five; omega) hb.a.inv.pos hb.a.val).mono ?_
  rintro e w1 ⟨⟨v, rfl, ho⟩, hg⟩
  exact ⟨⟨v, rfl, Arr.of_its ho⟩, hg⟩
theorem Pst.ritems {w0 w : World} {B nb B' rb : Nat} {rd : Rd} {lv : Lv} {rd' : Rd} {lv' : Lv} {K K' x : Nat} {oo : PNo} {v0 v1 : Value} (h : Pst w0 w B nb B' rb rd lv rd' lv' K K' x oo v0 v1) (h5 : lv'.length ≤ 5) (hK : K' ≤ 100000) :
    Calls Try.prog 24 #[NP rb] w fun e w' => (∃ v, e = .returned v ∧ Arr ItE 5 w' v (itsN rd' lv')) ∧ w.grownBy w' none := by
  obtain ⟨⟨F, G, hb, h1, h2⟩, h3, h4⟩ := h
  obtain ⟨Rs, Ls, hR, hP⟩ := hb.d
  refine (items_r hR (by have := hP.rlen; omega) (by have := hP.len; omega) (fun L hL => by have := hP.llen L hL; omega)).mono ?_
  rintro e w1 ⟨⟨v, rfl, ho⟩, hg⟩
  rw [hP.its] at ho
  exact ⟨⟨v, rfl, Arr.of_its ho⟩, hg⟩
theorem Pst.value {w0 w : World} {B nb B' rb : Nat} {rd : Rd} {lv : Lv} {rd' : Rd} {lv' : Lv} {K K' x : Nat} {oo : PNo} {v0 v1 : Value} (h : Pst w0 w B nb B' rb rd lv rd' lv' K K' x oo v0 v1) (c : Int) (hc : K64 c) :
    Calls Try.prog 16 #[NP nb, .int .i64 c] w fun e w' => e = .returned (.tuple #[.int .i64 ((valF rd lv c).getD 0), .bool (valF rd lv c).isSome]) ∧ w.grownBy w' none := by
  obtain ⟨⟨F, G, hb, h1, h2⟩, h3, h4⟩ := h
  exact value_c hb.a.nest (by have := hb.a.inv.five; omega) hb.a.inv.pos c hc _ rfl
theorem Pst.rvalue {w0 w : World} {B nb B' rb : Nat} {rd : Rd} {lv : Lv} {K K' x : Nat} {oo : PNo} {v0 v1 : Value} (h : Pst w0 w B nb B' rb rd lv rd lv K K' x oo v0 v1) (hK : K' ≤ 100000) (c : Int) :
    Calls Try.prog 25 #[NP rb, .int .i64 c] w fun e w' => e = .returned (.tuple #[.int .i64 ((valF rd lv c).getD 0), .bool (valF rd lv c).isSome]) ∧ w' = w := by
  obtain ⟨⟨F, G, hb, h1, h2⟩, h3, h4⟩ := h
  obtain ⟨Rs, Ls, hR, hP⟩ := hb.d
  refine (value_r hR (by have := hP.rlen; omega) (by have := hP.len; have := hb.a.inv.five; omega) (fun L hL => by have := hP.llen L hL; omega) c).mono ?_
  rintro e w1 ⟨⟨r, rfl, hr⟩, rfl⟩
  rw [hP.val hb.a.val hr]
  exact ⟨rfl, rfl⟩
theorem Pst.has {w0 w : World} {B nb B' rb : Nat} {rd : Rd} {lv : Lv} {rd' : Rd} {lv' : Lv} {K K' x : Nat} {oo : PNo} {v0 v1 : Value} (h : Pst w0 w B nb B' rb rd lv rd' lv' K K' x oo v0 v1) (c : Int) (hc : K64 c) :
    Calls Try.prog 26 #[NP nb, .int .i64 c] w fun e w' => e = .returned (.bool (rd.2 c).isSome) ∧ w.grownBy w' none := by
  obtain ⟨⟨F, G, hb, h1, h2⟩, h3, h4⟩ := h
  exact has_c hb.a.nest c hc _ rfl
theorem Pst.at_ {w0 w : World} {B nb B' rb : Nat} {rd : Rd} {lv : Lv} {K K' x : Nat} {oo : PNo} {v0 v1 : Value} (h : Pst w0 w B nb B' rb rd lv rd lv K K' x oo v0 v1) (c : Int) :
    Calls Try.prog 27 #[NP rb, .int .i64 c] w fun e w' => (∃ r, e = .returned (.int .i64 r) ∧ decide (0 ≤ r) = (rd.2 c).isSome) ∧ w' = w := by
  obtain ⟨⟨F, G, hb, h1, h2⟩, h3, h4⟩ := h
  obtain ⟨Rs, Ls, hR, hP⟩ := hb.d
  refine (at_r hR (by have := hP.rlen; omega) c).mono ?_
  rintro e w1 ⟨⟨r, rfl, hr⟩, rfl⟩
  exact ⟨⟨r, rfl, hP.at_ hb.a.val hr⟩, rfl⟩
/-- Behind the document's call. -/
theorem Both.pst {w0 w : World} {B nb : Nat} {F : Nat → Prop} {B' rb : Nat} {G : Nat → Prop} {rd rd' : Rd} {lv lv' : Lv} {K K' x : Nat} {oo : PNo} (h : Both w0 w B nb F B' rb G rd lv rd' lv' K K') (hx : Blk w x 27 #[.int .i64 oo.k, .int .i64 oo.c, .int .i64 oo.v, .int .i64 oo.a]) (hF : ¬ F x) :
    ∃ v0 A cap, Pst w0 w B nb B' rb rd lv rd' lv' K K' x oo v0 (.slice A lv'.length cap) := by
  obtain ⟨Rs, Ls, hR, hP⟩ := h.d
  obtain ⟨v0, v1, vs, hW, hG, hlo⟩ := hR
  obtain ⟨A, cap, rfl⟩ := own_shape hW.outer
  have hl : vs.length = lv'.length := by rw [hW.len, hP.len]
  have hb := hW.blk
  rw [hl] at hb
  exact ⟨v0, A, cap, ⟨F, G, h, hF, h.dis _ (hG rb (.inl rfl))⟩, hx, hb⟩
theorem Pst.gr {w0 w : World} {B nb B' rb : Nat} {rd : Rd} {lv : Lv} {rd' : Rd} {lv' : Lv} {K K' x : Nat} {oo : PNo} {v0 v1 : Value} (h : Pst w0 w B nb B' rb rd lv rd' lv' K K' x oo v0 v1) : w0.grownBy w none := by
  obtain ⟨⟨F, G, hb, _⟩, _⟩ := h
  exact hb.a.gr
theorem Pst.drew {w0 w : World} {B nb B' rb : Nat} {rd : Rd} {lv : Lv} {rd' : Rd} {lv' : Lv} {K K' x : Nat} {oo : PNo} {v0 v1 : Value} (h : Pst w0 w B nb B' rb rd lv rd' lv' K K' x oo v0 v1) : Pst w0 w.drew B nb B' rb rd lv rd' lv' K K' x oo v0 v1 := h.grow (gr_drew (gr_refl _ none))
theorem Pst.S {w0 w : World} {B nb B' rb : Nat} {rd : Rd} {lv : Lv} {rd' : Rd} {lv' : Lv} {K K' x k c v a : _} {v0 v1 : Value} (h : Pst w0 w B nb B' rb rd lv rd' lv' K K' x ⟨k, c, v, a⟩ v0 v1) :
    w.cell? ⟨x, 0, none⟩ = some (.int .i64 k) ∧ w.cell? ⟨x, 1, none⟩ = some (.int .i64 c) ∧ w.cell? ⟨x, 2, none⟩ = some (.int .i64 v) ∧ w.cell? ⟨x, 3, none⟩ = some (.int .i64 a) ∧ w.cell? ⟨rb, 1, none⟩ = some v1 := ⟨h.xb.cell 0, h.xb.cell 1, h.xb.cell 2, h.xb.cell 3, h.rbb.cell 1⟩
end Go.Proofs.Ytggkejkleficoaa
