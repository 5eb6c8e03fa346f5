/- The document's nest's calls, told by the same functions as the nest's. -/
import Derived.Test.YtggkejkleficoaaNpr
namespace Go.Proofs.Ytggkejkleficoaa
open Go.RowKit Go.Maps
set_option linter.unusedVariables false

def DocAt (w : World) (B rb : Nat) (G : Nat → Prop) (rd : Rd) (lv : Lv) (K : Nat) : Prop := ∃ Rs Ls, RefAt w B rb G Rs Ls ∧ PRel K rd lv Rs Ls
theorem DocAt.gr {w w' : World} {B rb : Nat} {G : Nat → Prop} {rd : Rd} {lv : Lv} {K : Nat} (h : DocAt w B rb G rd lv K) (hg : w.grownBy w' none) : DocAt w' B rb G rd lv K := let ⟨Rs, Ls, h1, h2⟩ := h; ⟨Rs, Ls, h1.gr hg, h2⟩
theorem DocAt.fp {w : World} {B rb : Nat} {G : Nat → Prop} {rd : Rd} {lv : Lv} {K : Nat} (h : DocAt w B rb G rd lv K) : ∀ k, G k → B ≤ k ∧ k < w.heap.size := let ⟨_, _, h1, _⟩ := h; h1.fp
theorem DocAt.other {w w' : World} {B rb : Nat} {G F F' : Nat → Prop} {rd : Rd} {lv : Lv} {K : Nat} (h : DocAt w B rb G rd lv K) (hg : NG w w' F F') (hd : ∀ k, G k → ¬ F k) : DocAt w' B rb G rd lv K ∧ ∀ k, G k → ¬ F' k := let ⟨Rs, Ls, h1, h2⟩ := h; ⟨⟨Rs, Ls, (h1.other hg hd).1, h2⟩, (h1.other hg hd).2⟩
theorem DocAt.le {w : World} {B rb : Nat} {G : Nat → Prop} {rd : Rd} {lv : Lv} {K K' : Nat} (h : DocAt w B rb G rd lv K) (hk : K ≤ K') : DocAt w B rb G rd lv K' := let ⟨Rs, Ls, h1, h2⟩ := h; ⟨Rs, Ls, h1, h2.rs, h2.ls, Nat.le_trans h2.sum hk⟩
theorem ng_refl (w : World) (G : Nat → Prop) : NG w w G G := NG.ofgr (gr_refl w none) (by simp)
theorem doc_saw {w : World} {B rb : Nat} {G : Nat → Prop} {rd : Rd} {lv : Lv} {K : Nat} (h : DocAt w B rb G rd lv K) (hB : B ≤ w.heap.size) (hv : NVal rd lv) (c ver a : Int) :
    Calls Try.prog 18 #[NP rb, .int .i64 c, .int .i64 ver, .int .i64 a] w fun e w' => e = .returned (.int .i64 (sawE rd c ver)) ∧ ∃ G', DocAt w' B rb G' (sawR rd c ver a) lv (K + 1) ∧ NG w w' G G' := by
  obtain ⟨Rs, Ls, h1, h2⟩ := h
  have hl := h2.rlen
  by_cases hbad : cellOk c = false ∨ ver < 0 ∨ 1099511627776 < ver
  · refine (saw_bad c ver a hbad).mono ?_
    rintro e w1 ⟨rfl, rfl⟩
    have e1 : sawE rd c ver = 1 := by unfold sawE; rw [if_pos hbad]
    have e2 : sawR rd c ver a = rd := by unfold sawR; rw [e1, if_neg (by decide)]
    rw [e1, e2]
    exact ⟨rfl, G, ⟨Rs, Ls, h1, h2.rs, h2.ls, Nat.le_succ_of_le h2.sum⟩, ng_refl _ _⟩
  · have hc : 0 ≤ c ∧ c ≤ 15 ∧ 0 ≤ ver ∧ ver ≤ 1099511627776 := by
      have hck : cellOk c = true := by cases hq : cellOk c; exact absurd (.inl hq) hbad; rfl
      unfold cellOk at hck
      simp at hck
      have h3 : ¬ ver < 0 := fun q => hbad (.inr (.inl q))
      have h4 : ¬ 1099511627776 < ver := fun q => hbad (.inr (.inr q))
      omega
    cases hs : (rd.2 c).isSome with
    | true =>
      refine (saw_there h1 (by omega) c ver a hc ⟨_, h2.has hv hs, rfl⟩).mono ?_
      rintro e w1 ⟨rfl, rfl⟩
      have e1 : sawE rd c ver = 9 := by unfold sawE; rw [if_neg hbad, if_pos hs]
      have e2 : sawR rd c ver a = rd := by unfold sawR; rw [e1, if_neg (by decide)]
      rw [e1, e2]
      exact ⟨rfl, G, ⟨Rs, Ls, h1, h2.rs, h2.ls, Nat.le_succ_of_le h2.sum⟩, ng_refl _ _⟩
    | false =>
      refine (saw_r h1 hB (by omega) c ver a hc (h2.none hs)).mono ?_
      rintro e w1 ⟨rfl, k, G', hk, hR, hN⟩
      have e1 : sawE rd c ver = 0 := by unfold sawE; rw [if_neg hbad, hs]; rfl
      have e2 : sawR rd c ver a = (rd.1 + 1, updF rd.2 c (ver, a)) := by unfold sawR; rw [e1, if_pos rfl]
      rw [e1, e2]
      exact ⟨rfl, G', ⟨_, _, hR, h2.saw hv (by omega) hs hk⟩, hN⟩
theorem doc_write {w : World} {B rb : Nat} {G : Nat → Prop} {rd : Rd} {lv : Lv} {K : Nat} (h : DocAt w B rb G rd lv K) (hB : B ≤ w.heap.size) (hv : NVal rd lv) (h0 : 0 < lv.length) (h5 : lv.length ≤ 5) (hK : K ≤ 100000) (c a : Int) :
    Calls Try.prog 19 #[NP rb, .int .i64 c, .int .i64 a] w fun e w' => e = .returned (.int .i64 (wriE rd c)) ∧ ∃ G', DocAt w' B rb G' rd (wriL rd lv c a) (K + 1) ∧ NG w w' G G' := by
  obtain ⟨Rs, Ls, h1, h2⟩ := h
  have hl := h2.rlen
  cases hck : cellOk c with
  | false =>
    refine (write_bad c a hck).mono ?_
    rintro e w1 ⟨rfl, rfl⟩
    have e1 : wriE rd c = 1 := by unfold wriE; rw [if_pos hck]
    have e2 : wriL rd lv c a = lv := by unfold wriL; rw [e1, if_neg (by decide)]
    rw [e1, e2]
    exact ⟨rfl, G, ⟨Rs, Ls, h1, h2.rs, h2.ls, Nat.le_succ_of_le h2.sum⟩, ng_refl _ _⟩
  | true =>
    have hc : 0 ≤ c ∧ c ≤ 15 := by
      have hck2 := hck
      unfold cellOk at hck2
      simp at hck2
      omega
    cases hs : (rd.2 c).isSome with
    | false =>
      refine (write_no h1 (by omega) c a hc (h2.none hs)).mono ?_
      rintro e w1 ⟨rfl, rfl⟩
      have e1 : wriE rd c = 16 := by unfold wriE; rw [hck, hs]; rfl
      have e2 : wriL rd lv c a = lv := by unfold wriL; rw [e1, if_neg (by decide)]
      rw [e1, e2]
      exact ⟨rfl, G, ⟨Rs, Ls, h1, h2.rs, h2.ls, Nat.le_succ_of_le h2.sum⟩, ng_refl _ _⟩
    | true =>
      obtain ⟨ini, L, lini, p, rfl, rfl, e1, e2⟩ := h2.last h0
      have hLl := h2.llen L (by simp)
      have hlen := h2.len
      simp at hlen h5
      refine (write_r h1 hB (by omega) (by omega) (by omega) c a hc ⟨_, h2.has hv hs, rfl⟩).mono ?_
      rintro e w1 ⟨rfl, G', hR, hN⟩
      have e3 : wriE rd c = 0 := by unfold wriE; rw [hck, hs]; rfl
      have e4 : wriL rd (lini ++ [p]) c a = lini ++ [(p.1 + 1, updF p.2 c a)] := by
        unfold wriL updLast
        rw [e3, if_pos rfl, List.getLast?_concat, List.dropLast_concat]
      rw [e3, e4]
      refine ⟨rfl, G', ⟨_, _, hR, h2.rs, ?_, ?_⟩, hN⟩
      · rw [List.map_append, List.map_append, e1]
        simp [lastL_snoc, e2]
      · have := h2.sum
        simp at this ⊢
        omega
theorem doc_begin {w : World} {B rb : Nat} {G : Nat → Prop} {rd : Rd} {lv : Lv} {K : Nat} (h : DocAt w B rb G rd lv K) (hB : B ≤ w.heap.size) (h5 : lv.length ≤ 5) :
    Calls Try.prog 20 #[NP rb] w fun e w' => e = .returned (.int .i64 (begE lv)) ∧ ∃ G', DocAt w' B rb G' rd (begL lv) (K + 1) ∧ NG w w' G G' := by
  obtain ⟨Rs, Ls, h1, h2⟩ := h
  have hlen := h2.len
  refine (begin_r h1 hB (by omega)).mono ?_
  rintro e w1 ⟨rfl, G', hR, hN⟩
  unfold begE begL
  rw [hlen] at hR ⊢
  refine ⟨rfl, G', ?_, hN⟩
  by_cases h4 : 4 < lv.length
  · rw [if_pos h4] at hR ⊢
    exact ⟨_, _, hR, h2.rs, h2.ls, Nat.le_succ_of_le h2.sum⟩
  · rw [if_neg h4] at hR ⊢
    refine ⟨_, _, hR, h2.rs, ?_, ?_⟩
    · rw [List.map_append, List.map_append, h2.ls]
      rfl
    · have := h2.sum
      simp
      omega
theorem doc_undo {w : World} {B rb : Nat} {G : Nat → Prop} {rd : Rd} {lv : Lv} {K : Nat} (h : DocAt w B rb G rd lv K) (hB : B ≤ w.heap.size) (h0 : 0 < lv.length) (h5 : lv.length ≤ 5) :
    Calls Try.prog 21 #[NP rb, .bool false] w fun e w' => e = .returned (.int .i64 (undE lv)) ∧ ∃ G', DocAt w' B rb G' rd (undL lv) (K + 1) ∧ NG w w' G G' := by
  obtain ⟨Rs, Ls, h1, h2⟩ := h
  obtain ⟨ini, L, lini, p, rfl, rfl, e1, e2⟩ := h2.last h0
  have hlen := h2.len
  simp at hlen h5
  by_cases hz : ini.length = 0
  · obtain rfl : ini = [] := List.eq_nil_of_length_eq_zero hz
    obtain rfl : lini = [] := List.eq_nil_of_length_eq_zero (by simpa using hlen.symm)
    refine (end_one h1 false).mono ?_
    rintro e w1 ⟨rfl, rfl⟩
    exact ⟨rfl, G, ⟨_, _, h1, h2.rs, h2.ls, Nat.le_succ_of_le h2.sum⟩, ng_refl _ _⟩
  · refine (end_undo h1 hB (by omega) (by omega)).mono ?_
    rintro e w1 ⟨rfl, G', hR, hN⟩
    have e3 : undE (lini ++ [p]) = 0 := by unfold undE; rw [if_neg (by simp; intro q; subst q; exact hz (by simpa using hlen))]
    have e4 : undL (lini ++ [p]) = lini := by unfold undL; rw [if_neg (by simp; intro q; subst q; exact hz (by simpa using hlen)), List.dropLast_concat]
    rw [e3, e4]
    refine ⟨rfl, G', ⟨_, _, hR, h2.rs, e1, ?_⟩, hN⟩
    have := h2.sum
    simp at this
    omega
theorem doc_merge {w : World} {B rb : Nat} {G : Nat → Prop} {rd : Rd} {lv : Lv} {K : Nat} (h : DocAt w B rb G rd lv K) (hB : B ≤ w.heap.size) (h0 : 0 < lv.length) (h5 : lv.length ≤ 5) (hK : K ≤ 100000) :
    Calls Try.prog 21 #[NP rb, .bool true] w fun e w' => e = .returned (.int .i64 (undE lv)) ∧ ∃ G', DocAt w' B rb G' rd (merL lv) (K + 1) ∧ NG w w' G G' := by
  obtain ⟨Rs, Ls, h1, h2⟩ := h
  obtain ⟨ini, L, lini, p, rfl, rfl, e1, e2⟩ := h2.last h0
  have hlen := h2.len
  simp at hlen h5
  by_cases hz : ini.length = 0
  · obtain rfl : ini = [] := List.eq_nil_of_length_eq_zero hz
    obtain rfl : lini = [] := List.eq_nil_of_length_eq_zero (by simpa using hlen.symm)
    refine (end_one h1 true).mono ?_
    rintro e w1 ⟨rfl, rfl⟩
    exact ⟨rfl, G, ⟨_, _, h1, h2.rs, h2.ls, Nat.le_succ_of_le h2.sum⟩, ng_refl _ _⟩
  · obtain ⟨lini2, q, rfl⟩ := lv_last (lv := lini) (by omega)
    rcases List.eq_nil_or_concat ini with e | ⟨ini2, M, e⟩
    · subst e; simp at hz
    · rw [List.concat_eq_append] at e
      subst e
      have hMl := h2.llen M (by simp)
      have hLl := h2.llen L (by simp)
      rw [List.map_append, List.map_append] at e1
      simp at hlen h5
      obtain ⟨f1, f2⟩ := List.append_inj e1 (by simp; omega)
      simp at f2
      refine (end_keep h1 hB (by omega) (by omega) (by omega)).mono ?_
      rintro e w1 ⟨rfl, G', hR, hN⟩
      have e3 : undE (lini2 ++ [q] ++ [p]) = 0 := by unfold undE; rw [if_neg (by simp)]
      rw [e3, merL_two]
      refine ⟨rfl, G', ⟨_, _, hR, h2.rs, ?_, ?_⟩, hN⟩
      · rw [List.map_append, List.map_append, f1]
        simp [lastL_app, f2, e2]
      · have := h2.sum
        simp at this ⊢
        omega
end Go.Proofs.Ytggkejkleficoaa
