/- Two nests beside each other; what is written without levels. -/
import Derived.Test.YtggkejkleficoaaNx
import Derived.Test.YtggkejkleficoaaNq
namespace Go.Proofs.Ytggkejkleficoaa
open Go.RowKit Go.Maps
set_option linter.unusedVariables false

theorem USt.other {w0 w w' : World} {B nb : Nat} {F G G' : Nat → Prop} {rd : Rd} {lv : Lv} {K : Nat} (h : USt w0 w B nb F rd lv K) (g : w0.grownBy w' none) (hg : NG w w' G G') (hd : ∀ k, F k → ¬ G k) : USt w0 w' B nb F rd lv K ∧ ∀ k, F k → ¬ G' k := by
  obtain ⟨h1, h2⟩ := h.nest.other hg hd
  exact ⟨⟨h1, g, h.inv, h.val, h.lo, Nat.le_trans h.hi hg.size⟩, h2⟩
theorem Blk.ng {w w' : World} {b : Nat} {t : TypeId} {cs : Array Value} {F F' : Nat → Prop} (h : Blk w b t cs) (hg : NG w w' F F') (hb : ¬ F b) : Blk w' b t cs ∧ ¬ F' b := by
  have h2 := hg.old b h.lt hb
  exact ⟨h2.1.trans h, h2.2⟩
/-- What n wrote through its levels, w wrote without. -/
structure Flat (rd : Rd) (lv : Lv) (rd' : Rd) (lv' : Lv) : Prop where
  fn : rd.2 = rd'.2
  wr : ∀ c, wrF lv c = wrF lv' c
  one : lv'.length = 1
theorem wrF_upd {lv : Lv} (h : 0 < lv.length) (c a x : Int) : wrF (updLast lv c a) x = if x = c then some a else wrF lv x := by
  obtain ⟨ini, p, rfl⟩ := lv_last h
  unfold updLast
  rw [List.getLast?_concat, List.dropLast_concat]
  unfold wrF updF
  simp only [List.reverse_append, List.reverse_cons, List.reverse_nil, List.nil_append, List.cons_append, List.findSome?_cons]
  by_cases e : x = c
  · rw [if_pos e, if_pos e]
  · rw [if_neg e, if_neg e]
theorem wrF_beg (lv : Lv) (x : Int) : wrF (begL lv) x = wrF lv x := by
  unfold begL
  split
  · rfl
  · unfold wrF
    simp only [List.reverse_append, List.reverse_cons, List.reverse_nil, List.nil_append, List.cons_append, List.findSome?_cons]
theorem updLast_one {lv : Lv} (h : lv.length = 1) (c a : Int) : (updLast lv c a).length = 1 := by rw [updLast_len lv c a (by omega)]; exact h
theorem Flat.both {rd : Rd} {lv : Lv} {rd' : Rd} {lv' : Lv} (h : Flat rd lv rd' lv') (h0 : 0 < lv.length) (o : PNo) (hk : o.k < 2) : Flat (doR o rd) (doL o rd lv) (doR o rd') (doL o rd' lv') ∧ doE o rd' lv' = doE o rd lv := by
  obtain ⟨hf, hw, ho⟩ := h
  have hs : ∀ c v, sawE rd c v = sawE rd' c v := fun c v => by unfold sawE; rw [hf]
  have hwe : ∀ c, wriE rd c = wriE rd' c := fun c => by unfold wriE; rw [hf]
  unfold doR doL doE
  by_cases k0 : o.k = 0
  · rw [if_pos k0, if_pos k0, if_pos k0, if_pos k0, if_neg (by omega), if_neg (by omega), if_neg (by omega), if_neg (by omega), if_neg (by omega), if_neg (by omega), if_neg (by omega), if_neg (by omega)]
    refine ⟨⟨?_, hw, ho⟩, (hs _ _).symm⟩
    unfold sawR
    rw [hs]
    split
    · show updF rd.2 _ _ = updF rd'.2 _ _
      rw [hf]
    · exact hf
  · rw [if_neg k0, if_neg k0, if_neg k0, if_neg k0]
    by_cases k1 : o.k = 1
    · rw [if_pos k1, if_pos k1, if_pos k1, if_pos k1]
      refine ⟨⟨hf, fun c => ?_, ?_⟩, (hwe _).symm⟩
      · unfold wriL
        rw [hwe]
        split
        · rw [wrF_upd h0, wrF_upd (by omega), hw]
        · exact hw c
      · unfold wriL
        split
        · exact updLast_one ho _ _
        · exact ho
    · rw [if_neg k1, if_neg k1, if_neg k1, if_neg k1, if_neg (by omega), if_neg (by omega), if_neg (by omega), if_neg (by omega), if_neg (by omega), if_neg (by omega), if_neg (by omega), if_neg (by omega), if_neg (by omega), if_neg (by omega), if_neg (by omega), if_neg (by omega)]
      exact ⟨⟨hf, hw, ho⟩, rfl⟩
theorem Flat.lone {rd : Rd} {lv : Lv} {rd' : Rd} {lv' : Lv} (h : Flat rd lv rd' lv') (o : PNo) (hk : 2 ≤ o.k) (h3 : o.k ≠ 3) : Flat (doR o rd) (doL o rd lv) rd' lv' := by
  obtain ⟨hf, hw, ho⟩ := h
  unfold doR doL
  rw [if_neg (by omega), if_neg (by omega)]
  refine ⟨hf, fun c => ?_, ho⟩
  split
  · rw [wrF_beg]; exact hw c
  · split
    · rw [wrF_mer]; exact hw c
    · exact hw c
theorem Flat.its {rd : Rd} {lv : Lv} {rd' : Rd} {lv' : Lv} (h : Flat rd lv rd' lv') : itsN rd lv = itsN rd' lv' := by
  unfold itsN itN
  rw [h.fn]
  refine List.map_congr_left fun c _ => ?_
  rw [h.wr]
theorem Flat.vals {rd : Rd} {lv : Lv} {rd' : Rd} {lv' : Lv} (h : Flat rd lv rd' lv') : valsN rd lv 16 = valsN rd' lv' 16 := by
  funext c
  unfold valsN valF
  rw [h.fn, h.wr]
theorem flat0 : Flat aR0 aL0 aR0 aL0 := ⟨rfl, fun _ => rfl, rfl⟩
/-- Two nests. -/
structure Two (w0 w : World) (B nb : Nat) (F : Nat → Prop) (rd : Rd) (lv : Lv) (B' nb' : Nat) (F' : Nat → Prop) (rd' : Rd) (lv' : Lv) (K : Nat) : Prop where
  a : USt w0 w B nb F rd lv K
  b : USt w0 w B' nb' F' rd' lv' K
  dis : ∀ k, F' k → ¬ F k
theorem Two.grow {w0 w w' : World} {B nb : Nat} {F : Nat → Prop} {rd : Rd} {lv : Lv} {B' nb' : Nat} {F' : Nat → Prop} {rd' : Rd} {lv' : Lv} {K : Nat} (h : Two w0 w B nb F rd lv B' nb' F' rd' lv' K) (hg : w.grownBy w' none) : Two w0 w' B nb F rd lv B' nb' F' rd' lv' K :=
  ⟨h.a.grow hg, h.b.grow hg, h.dis⟩
theorem Two.le {w0 w : World} {B nb : Nat} {F : Nat → Prop} {rd : Rd} {lv : Lv} {B' nb' : Nat} {F' : Nat → Prop} {rd' : Rd} {lv' : Lv} {K K' : Nat} (h : Two w0 w B nb F rd lv B' nb' F' rd' lv' K) (hk : K ≤ K') : Two w0 w B nb F rd lv B' nb' F' rd' lv' K' :=
  ⟨h.a.le hk, h.b.le hk, h.dis⟩
theorem Two.does {w0 w : World} {B nb : Nat} {F : Nat → Prop} {rd : Rd} {lv : Lv} {B' nb' : Nat} {F' : Nat → Prop} {rd' : Rd} {lv' : Lv} {K : Nat} (h : Two w0 w B nb F rd lv B' nb' F' rd' lv' K) (hK : K < 300000) (o : PNo) (ho : o.ok) {x : Nat} {t : TypeId} {cs : Array Value} (hx : Blk w x t cs) (hxa : ¬ F x) (hxb : ¬ F' x) :
    Calls Try.prog 9 #[NP nb, noV o] w fun e w' => e = .returned (.int .i64 (doE o rd lv)) ∧ ∃ F2, Two w0 w' B nb F2 (doR o rd) (doL o rd lv) B' nb' F' rd' lv' (K + 1) ∧ Blk w' x t cs ∧ ¬ F2 x ∧ ¬ F' x := by
  refine (h.a.does hK o ho).mono ?_
  rintro e w1 ⟨rfl, F2, hU, hG⟩
  obtain ⟨h1, h2⟩ := h.b.other hU.gr hG h.dis
  obtain ⟨h3, h4⟩ := hx.ng hG hxa
  exact ⟨rfl, F2, ⟨hU, h1.le (by omega), h2⟩, h3, h4, hxb⟩
theorem Two.does' {w0 w : World} {B nb : Nat} {F : Nat → Prop} {rd : Rd} {lv : Lv} {B' nb' : Nat} {F' : Nat → Prop} {rd' : Rd} {lv' : Lv} {K : Nat} (h : Two w0 w B nb F rd lv B' nb' F' rd' lv' K) (hK : K < 300000) (o : PNo) (ho : o.ok) :
    Calls Try.prog 9 #[NP nb', noV o] w fun e w' => e = .returned (.int .i64 (doE o rd' lv')) ∧ ∃ F2, Two w0 w' B nb F rd lv B' nb' F2 (doR o rd') (doL o rd' lv') (K + 1) := by
  refine (h.b.does hK o ho).mono ?_
  rintro e w1 ⟨rfl, F2, hU, hG⟩
  obtain ⟨h1, h2⟩ := h.a.other hU.gr hG (fun k hk q => h.dis k q hk)
  exact ⟨rfl, F2, ⟨h1.le (by omega), hU, fun k hk q => h2 k q hk⟩⟩
theorem Two.merge {w0 w : World} {B nb : Nat} {F : Nat → Prop} {rd : Rd} {lv : Lv} {B' nb' : Nat} {F' : Nat → Prop} {rd' : Rd} {lv' : Lv} {K : Nat} (h : Two w0 w B nb F rd lv B' nb' F' rd' lv' K) (hK : K < 300000) :
    Calls Try.prog 13 #[NP nb] w fun e w' => e = .returned (.int .i64 (undE lv)) ∧ ∃ F2, Two w0 w' B nb F2 rd (merL lv) B' nb' F' rd' lv' K := by
  refine (h.a.merge hK).mono ?_
  rintro e w1 ⟨rfl, F2, hU, hG⟩
  obtain ⟨h1, h2⟩ := h.b.other hU.gr hG h.dis
  exact ⟨rfl, F2, ⟨hU, h1, h2⟩⟩
end Go.Proofs.Ytggkejkleficoaa
