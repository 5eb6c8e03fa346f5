/- What holds of a nest while operations go on above a level. -/
import Derived.Test.YtgmhopkajopfcaaNy
namespace Go.Proofs.Ytgmhopkajopfcaa
open Go.RowKit Go.Maps
set_option linter.unusedVariables false

structure UInv (rd0 : Rd) (lv0 : Lv) (rd : Rd) (lv : Lv) : Prop where
  pre : ∃ tl, lv = lv0 ++ tl ∧ 1 ≤ tl.length
  rds : ∀ c p, rd0.2 c = some p → rd.2 c = some p
theorem UInv.len {rd0 : Rd} {lv0 : Lv} {rd : Rd} {lv : Lv} (h : UInv rd0 lv0 rd lv) : lv0.length + 1 ≤ lv.length := by
  obtain ⟨tl, rfl, h1⟩ := h.pre
  simp; omega
theorem lv_two {lv : Lv} (h : 2 ≤ lv.length) : ∃ ini q p, lv = ini ++ [q] ++ [p] := by
  obtain ⟨i1, p, rfl⟩ := lv_last (by omega : 0 < lv.length)
  have h : 1 ≤ i1.length := by simpa using h
  obtain ⟨i2, q, rfl⟩ := lv_last (by omega : 0 < i1.length)
  exact ⟨i2, q, p, rfl⟩
theorem merL_two (ini : Lv) (q p : Nat × (Int → Option Int)) : merL (ini ++ [q] ++ [p]) = ini ++ [(q.1 + p.1, orF p.2 q.2)] := by
  unfold merL
  rw [List.getLast?_concat, List.dropLast_concat, List.getLast?_concat, List.dropLast_concat]
theorem merL_one (p : Nat × (Int → Option Int)) : merL [p] = [p] := rfl
theorem updLast_app (lv0 tl : Lv) (c a : Int) (h : 1 ≤ tl.length) : updLast (lv0 ++ tl) c a = lv0 ++ updLast tl c a := by
  obtain ⟨ini, p, rfl⟩ := lv_last (by omega : 0 < tl.length)
  unfold updLast
  rw [← List.append_assoc, List.getLast?_concat, List.getLast?_concat, List.dropLast_concat, List.dropLast_concat]
  simp
theorem updLast_len (tl : Lv) (c a : Int) (h : 1 ≤ tl.length) : (updLast tl c a).length = tl.length := by
  obtain ⟨ini, p, rfl⟩ := lv_last (by omega : 0 < tl.length)
  unfold updLast
  rw [List.getLast?_concat, List.dropLast_concat]
  simp
theorem UInv.start {rd : Rd} {lv : Lv} (h : ¬ 4 < lv.length) : UInv rd lv rd (begL lv) :=
  ⟨⟨[(0, fun _ => none)], by unfold begL; rw [if_neg h], by simp⟩, fun _ _ h => h⟩
theorem UInv.mer {rd0 : Rd} {lv0 : Lv} {rd : Rd} {lv : Lv} (h : UInv rd0 lv0 rd lv) (hn : lv.length ≠ lv0.length + 1) : UInv rd0 lv0 rd (merL lv) ∧ (merL lv).length + 1 = lv.length := by
  obtain ⟨tl, rfl, h1⟩ := h.pre
  obtain ⟨ini, q, p, rfl⟩ := lv_two (by simp at hn; omega : 2 ≤ tl.length)
  have e : merL (lv0 ++ (ini ++ [q] ++ [p])) = lv0 ++ (ini ++ [(q.1 + p.1, orF p.2 q.2)]) := by
    have := merL_two (lv0 ++ ini) q p
    simpa using this
  rw [e]
  exact ⟨⟨⟨_, rfl, by simp⟩, h.rds⟩, by simp; omega⟩
theorem UInv.step {rd0 : Rd} {lv0 : Lv} {rd : Rd} {lv : Lv} (h : UInv rd0 lv0 rd lv) (h0 : 1 ≤ lv0.length) (o : PNo) (hn : ¬ (3 ≤ o.k ∧ lv.length = lv0.length + 1)) : UInv rd0 lv0 (doR o rd) (doL o rd lv) := by
  unfold doR doL
  by_cases k0 : o.k = 0
  · rw [if_pos k0, if_neg (by omega), if_neg (by omega), if_neg (by omega), if_neg (by omega)]
    refine ⟨h.pre, fun c p hp => ?_⟩
    have h2 := h.rds c p hp
    unfold sawR
    split
    · rename_i hs
      unfold updF
      dsimp only
      split
      · rename_i e
        subst e
        unfold sawE at hs
        rw [h2] at hs
        split at hs
        · cases hs
        · simp at hs
      · exact h2
    · exact h2
  · rw [if_neg k0]
    by_cases k1 : o.k = 1
    · rw [if_pos k1]
      unfold wriL
      split
      · obtain ⟨tl, rfl, h1⟩ := h.pre
        exact ⟨⟨_, updLast_app lv0 tl _ _ h1, by rw [updLast_len _ _ _ h1]; exact h1⟩, h.rds⟩
      · exact h
    · rw [if_neg k1]
      by_cases k2 : o.k = 2
      · rw [if_pos k2]
        unfold begL
        split
        · exact h
        · obtain ⟨tl, rfl, h1⟩ := h.pre
          exact ⟨⟨tl ++ [(0, fun _ => none)], by simp, by simp⟩, h.rds⟩
      · rw [if_neg k2]
        by_cases k3 : o.k = 3
        · rw [if_pos k3]
          have hl := h.len
          obtain ⟨tl, rfl, h1⟩ := h.pre
          have h2 : 2 ≤ tl.length := by simp at hn; omega
          obtain ⟨ini, p, rfl⟩ := lv_last (by omega : 0 < tl.length)
          unfold undL
          rw [if_neg (by omega)]
          rw [← List.append_assoc, List.dropLast_concat]
          exact ⟨⟨ini, rfl, by simp at h2; omega⟩, h.rds⟩
        · rw [if_neg k3]
          by_cases k4 : o.k = 4
          · rw [if_pos k4]
            exact (h.mer (by omega)).1
          · rw [if_neg k4]
            exact h
theorem wrF_mer {lv : Lv} (c : Int) : wrF (merL lv) c = wrF lv c := by
  by_cases h : 2 ≤ lv.length
  · obtain ⟨ini, q, p, rfl⟩ := lv_two h
    rw [merL_two]
    unfold wrF orF
    simp only [List.reverse_append, List.reverse_cons, List.reverse_nil, List.nil_append, List.cons_append, List.findSome?_cons]
    cases p.2 c <;> rfl
  · rcases lv with _ | ⟨p, _ | ⟨q, t⟩⟩
    · rfl
    · rfl
    · simp at h
theorem valF_mer (rd : Rd) (lv : Lv) : valF rd (merL lv) = valF rd lv := by
  funext c
  unfold valF
  rw [wrF_mer]
theorem valsN_mer (rd : Rd) (lv : Lv) (k : Nat) : valsN rd (merL lv) k = valsN rd lv k := by
  unfold valsN
  rw [valF_mer]
theorem UInv.last {rd0 : Rd} {lv0 : Lv} {rd : Rd} {lv : Lv} (h : UInv rd0 lv0 rd lv) (h0 : 1 ≤ lv0.length) (hl : lv.length = lv0.length + 1) : undL lv = lv0 ∧ undE lv = 0 := by
  obtain ⟨tl, rfl, h1⟩ := h.pre
  obtain ⟨ini, p, rfl⟩ := lv_last (by omega : 0 < tl.length)
  have : ini = [] := by
    simp at hl
    exact hl
  subst this
  unfold undL undE
  rw [if_neg (by rw [hl]; omega), if_neg (by rw [hl]; omega)]
  simp
theorem UInv.was {rd0 : Rd} {lv0 : Lv} {rd : Rd} {lv : Lv} (h : UInv rd0 lv0 rd lv) {c u : Int} (hu : valF rd0 lv0 c = some u) : valF rd lv0 c = some u := by
  unfold valF at hu ⊢
  split at hu
  · cases hu
  · rename_i p hp
    rw [h.rds c p hp]
    exact hu
theorem valF_some (rd : Rd) (lv : Lv) (c : Int) : (valF rd lv c).isSome = (rd.2 c).isSome := by
  unfold valF
  cases rd.2 c <;> rfl
theorem keysF_vals (rd : Rd) (lv lv' : Lv) : keysF (valsN rd lv 16) = keysF (valsN rd lv' 16) := by
  refine keysF_congr fun c => ?_
  unfold valsN
  split
  · rw [valF_some, valF_some]
  · rfl
/-- A nest on a walk's way. -/
structure USt (w0 w : World) (B nb : Nat) (F : Nat → Prop) (rd : Rd) (lv : Lv) (K : Nat) : Prop where
  nest : NestAt w B nb F rd lv
  gr : w0.grownBy w none
  inv : NInv K rd lv
  val : NVal rd lv
  lo : w0.heap.size ≤ B
  hi : B ≤ w.heap.size
theorem USt.step {w0 w w' : World} {B nb : Nat} {F F' : Nat → Prop} {rd rd' : Rd} {lv lv' : Lv} {K K' : Nat} (h : USt w0 w B nb F rd lv K) (hn : NestAt w' B nb F' rd' lv') (hg : NG w w' F F') (hi : NInv K' rd' lv') (hv : NVal rd' lv') : USt w0 w' B nb F' rd' lv' K' :=
  ⟨hn, hg.gr h.gr (fun k hk => Nat.le_trans h.lo (h.nest.fp k hk).1), hi, hv, h.lo, Nat.le_trans h.hi hg.size⟩
theorem USt.grow {w0 w w' : World} {B nb : Nat} {F : Nat → Prop} {rd : Rd} {lv : Lv} {K : Nat} (h : USt w0 w B nb F rd lv K) (hg : w.grownBy w' none) : USt w0 w' B nb F rd lv K :=
  ⟨h.nest.gr hg (by simp), h.gr.trans hg, h.inv, h.val, h.lo, Nat.le_trans h.hi hg.size⟩
theorem USt.le {w0 w : World} {B nb : Nat} {F : Nat → Prop} {rd : Rd} {lv : Lv} {K K' : Nat} (h : USt w0 w B nb F rd lv K) (hk : K ≤ K') : USt w0 w B nb F rd lv K' :=
  ⟨h.nest, h.gr, h.inv.mono hk, h.val, h.lo, h.hi⟩
theorem MapF.ng {α : Type} {L : El α} {w w' : World} {b n : Nat} {f : Int → Option α} {F F' : Nat → Prop} (h : MapF L w b n f) (hg : NG w w' F F') (hb : ¬ F b) : MapF L w' b n f ∧ ¬ F' b := by
  have h2 := hg.old b h.lt hb
  obtain ⟨D, ⟨es, cl, hq, r⟩, h3⟩ := h
  exact ⟨⟨D, ⟨es, cl, h2.1.trans hq, r⟩, h3⟩, h2.2⟩
/-- How many levels a nest has, read off the memory. -/
def levOf (w : World) (nb : Nat) : Nat := match w.cell? ⟨nb, 1, none⟩ with | some (.slice _ n _) => n | _ => 0
theorem NestAt.levOf {w : World} {B nb : Nat} {F : Nat → Prop} {rd : Rd} {lv : Lv} (h : NestAt w B nb F rd lv) : levOf w nb = lv.length := by
  obtain ⟨rb, v, bs, rfl, h⟩ := h
  obtain ⟨_, c1, _, A, c, rfl⟩ := h.parts
  unfold Go.Proofs.Ytgmhopkajopfcaa.levOf
  rw [c1]
theorem USt.merge {w0 w : World} {B nb : Nat} {F : Nat → Prop} {rd : Rd} {lv : Lv} {K : Nat} (h : USt w0 w B nb F rd lv K) (hK : K < 300000) :
    Calls Try.prog 59 #[NP nb] w fun e w' => e = .returned (.int .i64 (undE lv)) ∧ ∃ F', USt w0 w' B nb F' rd (merL lv) K ∧ NG w w' F F' := by
  refine (merge_c h.nest h.inv.pos (by have := h.inv.five; omega) (fun p hp => by have := h.inv.mem p hp; omega)).mono ?_
  rintro e w1 ⟨rfl, F', hN, hG⟩
  exact ⟨rfl, F', h.step hN hG h.inv.mer h.val.mer, hG⟩
theorem merL_len {lv : Lv} (h : 2 ≤ lv.length) : (merL lv).length + 1 = lv.length := by
  obtain ⟨ini, q, p, rfl⟩ := lv_two h
  rw [merL_two]
  simp
theorem USt.undo {w0 w : World} {B nb : Nat} {F : Nat → Prop} {rd : Rd} {lv : Lv} {K : Nat} (h : USt w0 w B nb F rd lv K) :
    Calls Try.prog 60 #[NP nb] w fun e w' => e = .returned (.int .i64 (undE lv)) ∧ ∃ F', USt w0 w' B nb F' rd (undL lv) K ∧ NG w w' F F' := by
  refine (undo_c h.nest h.inv.pos (by have := h.inv.five; omega)).mono ?_
  rintro e w1 ⟨rfl, F', hN, hG⟩
  exact ⟨rfl, F', h.step hN hG h.inv.und h.val.und, hG⟩
theorem valsN_val {rd : Rd} {lv : Lv} {c u : Int} (h : valsN rd lv 16 c = some u) : valF rd lv c = some u := by
  unfold valsN at h
  split at h
  · exact h
  · cases h
theorem inv0 : NInv 0 aR0 aL0 := ⟨by decide, by decide, by decide, by decide⟩
theorem val0 : NVal aR0 aL0 := by
  refine ⟨fun c p h => ?_, fun c p h => ?_, fun p hp c u h => ?_⟩
  · cases h
  · cases h
  · obtain rfl : p = (0, fun _ => none) := by simpa using hp
    cases h
end Go.Proofs.Ytgmhopkajopfcaa
