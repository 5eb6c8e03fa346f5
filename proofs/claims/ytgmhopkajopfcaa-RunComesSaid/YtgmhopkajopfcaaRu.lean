/- A run in memory. (Printed by wip/gen/gen_ru.py.) -/
import Derived.Test.YtgmhopkajopfcaaNx
import Derived.Test.YtgmhopkajopfcaaPf
namespace Go.Proofs.Ytgmhopkajopfcaa
open Go.RowKit Go.Maps
set_option linter.unusedVariables false
set_option linter.unusedSimpArgs false

structure RCh where
  a : Int
  o : Int
  e : Int
  r : Nat → Int
structure RS where
  at_ : Nat
  rg : Nat → Int
  cho : List RCh
  tk : Nat → Bool
  rd : Rd
  lv : Lv
def updN {α : Type} (f : Nat → α) (k : Nat) (v : α) : Nat → α := fun i => if i = k then v else f i
theorem updN_same {α : Type} (f : Nat → α) (k : Nat) (v : α) : updN f k v k = v := if_pos rfl
theorem updN_ne {α : Type} (f : Nat → α) {k i : Nat} (v : α) (h : i ≠ k) : updN f k v i = f i := if_neg h
def chC (x : RCh) : List Value := [.int .i64 x.a, .int .i64 x.o, .int .i64 x.e, .int .i64 (x.r 0), .int .i64 (x.r 1), .int .i64 (x.r 2), .int .i64 (x.r 3), .int .i64 (x.r 4), .int .i64 (x.r 5), .int .i64 (x.r 6), .int .i64 (x.r 7)]
def runC (np lv : Value) (at_ : Int) (rg : Nat → Int) (cv : Value) (tk : Nat → Bool) : Array Value := #[np, lv, .int .i64 at_, .int .i64 (rg 0), .int .i64 (rg 1), .int .i64 (rg 2), .int .i64 (rg 3), .int .i64 (rg 4), .int .i64 (rg 5), .int .i64 (rg 6), .int .i64 (rg 7), cv, .bool (tk 0), .bool (tk 1), .bool (tk 2), .bool (tk 3), .bool (tk 4), .bool (tk 5), .bool (tk 6), .bool (tk 7), .bool (tk 8), .bool (tk 9), .bool (tk 10), .bool (tk 11), .bool (tk 12), .bool (tk 13), .bool (tk 14), .bool (tk 15)]
section
variable (np lv : Value) (at_ : Int) (rg : Nat → Int) (cv : Value) (tk : Nat → Bool)
theorem runC_size : (runC np lv at_ rg cv tk).size = 28 := rfl
theorem runC_reg : ∀ k, k < 8 → (runC np lv at_ rg cv tk)[3 + k]? = some (.int .i64 (rg k))
  | 0, _ => rfl
  | 1, _ => rfl
  | 2, _ => rfl
  | 3, _ => rfl
  | 4, _ => rfl
  | 5, _ => rfl
  | 6, _ => rfl
  | 7, _ => rfl
  | k + 8, h => by omega
theorem runC_tk : ∀ k, k < 16 → (runC np lv at_ rg cv tk)[12 + k]? = some (.bool (tk k))
  | 0, _ => rfl
  | 1, _ => rfl
  | 2, _ => rfl
  | 3, _ => rfl
  | 4, _ => rfl
  | 5, _ => rfl
  | 6, _ => rfl
  | 7, _ => rfl
  | 8, _ => rfl
  | 9, _ => rfl
  | 10, _ => rfl
  | 11, _ => rfl
  | 12, _ => rfl
  | 13, _ => rfl
  | 14, _ => rfl
  | 15, _ => rfl
  | k + 16, h => by omega
theorem runC_setA (b : Int) : (runC np lv at_ rg cv tk).setIfInBounds 2 (.int .i64 b) = runC np lv b rg cv tk := rfl
theorem runC_setV (v : Value) : (runC np lv at_ rg cv tk).setIfInBounds 11 v = runC np lv at_ rg v tk := rfl
theorem runC_setR (v : Int) : ∀ k, k < 8 → (runC np lv at_ rg cv tk).setIfInBounds (3 + k) (.int .i64 v) = runC np lv at_ (updN rg k v) cv tk
  | 0, _ => rfl
  | 1, _ => rfl
  | 2, _ => rfl
  | 3, _ => rfl
  | 4, _ => rfl
  | 5, _ => rfl
  | 6, _ => rfl
  | 7, _ => rfl
  | k + 8, h => by omega
theorem runC_setT (v : Bool) : ∀ k, k < 16 → (runC np lv at_ rg cv tk).setIfInBounds (12 + k) (.bool v) = runC np lv at_ rg cv (updN tk k v)
  | 0, _ => rfl
  | 1, _ => rfl
  | 2, _ => rfl
  | 3, _ => rfl
  | 4, _ => rfl
  | 5, _ => rfl
  | 6, _ => rfl
  | 7, _ => rfl
  | 8, _ => rfl
  | 9, _ => rfl
  | 10, _ => rfl
  | 11, _ => rfl
  | 12, _ => rfl
  | 13, _ => rfl
  | 14, _ => rfl
  | 15, _ => rfl
  | k + 16, h => by omega
end
def fpR (F : Nat → Prop) (rb : Nat) (lv_ cv : Value) : Nat → Prop := fun k => F k ∨ k = rb ∨ lv_.ownBlock = some k ∨ cv.ownBlock = some k
/-- A run on a walk's way: its nest, its own cells, its program, its choices. -/
structure RunW (w0 w : World) (B nb rb : Nat) (F : Nat → Prop) (lv_ cv : Value) (l : List POp) (s : RS) (K : Nat) : Prop where
  nest : NestAt w B nb F s.rd s.lv
  inv : NInv K s.rd s.lv
  val : NVal s.rd s.lv
  blk : Blk w rb 65 (runC (NP nb) lv_ s.at_ s.rg cv s.tk)
  lrow : w.ownsRow B 57 5 lv_ l.length (opsCells l)
  crow : w.ownsRow B 111 11 cv s.cho.length (s.cho.flatMap chC)
  nF : ¬ F rb ∧ (∀ k, lv_.ownBlock = some k → ¬ F k) ∧ (∀ k, cv.ownBlock = some k → ¬ F k)
  lo : w0.heap.size ≤ B ∧ B ≤ rb ∧ B ≤ w.heap.size
  gr : w0.grownBy w none
  regs : ∀ k, k < 8 → K64 (s.rg k)
  cregs : ∀ q ∈ s.cho, ∀ k, k < 8 → K64 (q.r k)
def RunAt (w0 w : World) (rb : Nat) (G : Nat → Prop) (l : List POp) (s : RS) (K : Nat) : Prop := ∃ B nb F lv_ cv, G = fpR F rb lv_ cv ∧ RunW w0 w B nb rb F lv_ cv l s K
section
variable {w0 w w' : World} {B nb rb : Nat} {F : Nat → Prop} {lv_ cv : Value} {l : List POp} {s : RS} {K : Nat}
theorem RunW.fp (h : RunW w0 w B nb rb F lv_ cv l s K) : ∀ k, fpR F rb lv_ cv k → B ≤ k ∧ k < w.heap.size := by
  rintro k (hk | rfl | hk | hk)
  · exact h.nest.fp k hk
  · exact ⟨h.lo.2.1, h.blk.lt⟩
  · exact h.lrow.lt k hk
  · exact h.crow.lt k hk
theorem own_ng {F F' : Nat → Prop} {base : Nat} {e : TypeId} {size n : Nat} {v : Value} {xs : List Value} (h : w.ownsRow base e size v n xs) (hg : NG w w' F F') (hv : ∀ k, v.ownBlock = some k → ¬ F k) :
    w'.ownsRow base e size v n xs ∧ ∀ k, v.ownBlock = some k → ¬ F' k := by
  refine ⟨⟨h.1, ?_⟩, fun k hk => (hg.old k (h.lt k hk).2 (hv k hk)).2⟩
  rcases h.2 with q | ⟨g, cap, cur, rfl, h1, h2, r⟩
  · exact .inl q
  · exact .inr ⟨g, cap, cur, rfl, h1, (hg.old g (h.lt g rfl).2 (hv g rfl)).1.trans h2, r⟩
/-- Nothing of it is turned. -/
theorem RunW.grown (h : RunW w0 w B nb rb F lv_ cv l s K) (hg : w.grownBy w' none) : RunW w0 w' B nb rb F lv_ cv l s K :=
  ⟨h.nest.gr hg (by simp), h.inv, h.val, h.blk.grown hg (by simp), own_grown h.lrow hg (by rcases hv : lv_.ownBlock with _ | x; exact .inl rfl; exact .inr (by simp)), own_grown h.crow hg (by rcases hv : cv.ownBlock with _ | x; exact .inl rfl; exact .inr (by simp)), h.nF, ⟨h.lo.1, h.lo.2.1, Nat.le_trans h.lo.2.2 hg.size⟩, h.gr.trans hg, h.regs, h.cregs⟩
/-- Its own cells are written. -/
theorem RunW.put (h : RunW w0 w B nb rb F lv_ cv l s K) (hg : w.grownBy w' (some rb)) {s' : RS} (hb : Blk w' rb 65 (runC (NP nb) lv_ s'.at_ s'.rg cv s'.tk)) (hr : s'.rd = s.rd) (hl : s'.lv = s.lv) (hc : s'.cho = s.cho) (hk : ∀ k, k < 8 → K64 (s'.rg k)) :
    RunW w0 w' B nb rb F lv_ cv l s' K ∧ NG w w' (fpR F rb lv_ cv) (fpR F rb lv_ cv) := by
  refine ⟨⟨?_, ?_, ?_, hb, own_grown h.lrow hg (.inr (Ne.symm (own_ne h.blk h.lrow (by decide)))), ?_, h.nF, ⟨h.lo.1, h.lo.2.1, Nat.le_trans h.lo.2.2 hg.size⟩, ?_, hk, ?_⟩, NG.ofgr hg (fun k e => .inl (.inr (.inl (by injection e with e; exact e.symm))))⟩
  · rw [hr, hl]; exact h.nest.gr hg (fun k e => by injection e with e; subst e; exact h.nF.1)
  · rw [hr, hl]; exact h.inv
  · rw [hr, hl]; exact h.val
  · rw [hc]; exact own_grown h.crow hg (.inr (Ne.symm (own_ne h.blk h.crow (by decide))))
  · exact (NG.ofgr (F := fpR F rb lv_ cv) hg (fun k e => .inl (.inr (.inl (by injection e with e; exact e.symm))))).gr h.gr (fun k hk => Nat.le_trans h.lo.1 (h.fp k hk).1)
  · rw [hc]; exact h.cregs
/-- Its nest is turned. -/
theorem RunW.nested (h : RunW w0 w B nb rb F lv_ cv l s K) {F' : Nat → Prop} (hg : NG w w' F F') {s' : RS} {K' : Nat} (hn : NestAt w' B nb F' s'.rd s'.lv) (hi : NInv K' s'.rd s'.lv) (hv : NVal s'.rd s'.lv) (ha : s'.at_ = s.at_) (hr : s'.rg = s.rg) (hc : s'.cho = s.cho) (ht : s'.tk = s.tk) :
    RunW w0 w' B nb rb F' lv_ cv l s' K' ∧ NG w w' (fpR F rb lv_ cv) (fpR F' rb lv_ cv) := by
  have h1 := hg.old rb h.blk.lt h.nF.1
  have h2 := own_ng h.lrow hg h.nF.2.1
  have h3 := own_ng h.crow hg h.nF.2.2
  have hG : NG w w' (fpR F rb lv_ cv) (fpR F' rb lv_ cv) := ⟨hg.os, hg.tape, hg.output, hg.size, fun k hk hn' => by
    have q := hg.old k hk (fun q => hn' (.inl q))
    refine ⟨q.1, ?_⟩
    rintro (q2 | q2)
    · exact q.2 q2
    · exact hn' (.inr q2)⟩
  exact ⟨⟨hn, hi, hv, by rw [ha, hr, ht]; exact h1.1.trans h.blk, h2.1, by rw [hc]; exact h3.1, ⟨h1.2, h2.2, h3.2⟩, ⟨h.lo.1, h.lo.2.1, Nat.le_trans h.lo.2.2 hg.size⟩, hG.gr h.gr (fun k hk => Nat.le_trans h.lo.1 (h.fp k hk).1), by rw [hr]; exact h.regs, by rw [hc]; exact h.cregs⟩, hG⟩
/-- Its choices lie elsewhere. -/
theorem RunW.chosen (h : RunW w0 w B nb rb F lv_ cv l s K) (hg : w.grownBy w' cv.ownBlock) {cv' : Value} {c' : List RCh} (hr : w'.ownsRow B 111 11 cv' c'.length (c'.flatMap chC)) (ho : cv'.ownBlock = cv.ownBlock ∨ cv'.ownBlock = none ∨ cv'.ownBlock = some w.heap.size) (hk : ∀ q ∈ c', ∀ k, k < 8 → K64 (q.r k)) {w'' : World} (hg2 : w'.grownBy w'' (some rb)) {s' : RS} (hb : Blk w'' rb 65 (runC (NP nb) lv_ s'.at_ s'.rg cv' s'.tk)) (hrd : s'.rd = s.rd) (hlv : s'.lv = s.lv) (hc : s'.cho = c') (hks : ∀ k, k < 8 → K64 (s'.rg k)) :
    RunW w0 w'' B nb rb F lv_ cv' l s' K ∧ NG w w'' (fpR F rb lv_ cv) (fpR F rb lv_ cv') := by
  have hneF : ∀ k, cv.ownBlock = some k → ¬ F k := h.nF.2.2
  have hb1 : Blk w' rb 65 (runC (NP nb) lv_ s.at_ s.rg cv s.tk) := h.blk.grown hg (own_ne h.blk h.crow (by decide))
  have hl1 : w'.ownsRow B 57 5 lv_ l.length (opsCells l) := own_grown h.lrow hg (by
    rcases hv : lv_.ownBlock with _ | x
    · exact .inl rfl
    · refine .inr (fun e => ?_)
      rcases h.crow.2 with ⟨q, _⟩ | ⟨g, cap, cur, q, _, h2, _⟩
      · rw [q] at e; cases e
      · rw [q] at e
        injection e with e
        exact own_ne (show Blk w g 111 cur from h2) h.lrow (by decide) (by rw [hv, e]))
  have hG : NG w w'' (fpR F rb lv_ cv) (fpR F rb lv_ cv') := by
    refine ⟨hg2.os.trans hg.os, hg2.tape.trans hg.tape, hg2.output.trans hg.output, Nat.le_trans hg.size hg2.size, fun k hk hn => ⟨?_, ?_⟩⟩
    · rw [hg2.block k (Nat.lt_of_lt_of_le hk hg.size) (fun e => hn (.inr (.inl (by injection e)))), hg.block k hk (fun e => hn (.inr (.inr (.inr e.symm))))]
    · rintro (q | q | q | q)
      · exact hn (.inl q)
      · exact hn (.inr (.inl q))
      · exact hn (.inr (.inr (.inl q)))
      · rcases ho with o | o | o
        · exact hn (.inr (.inr (.inr (o ▸ q))))
        · rw [o] at q; cases q
        · rw [o] at q; injection q with q; omega
  refine ⟨⟨?_, ?_, ?_, hb, own_grown hl1 hg2 (.inr (Ne.symm (own_ne hb1 hl1 (by decide)))), ?_, ⟨h.nF.1, h.nF.2.1, ?_⟩, ⟨h.lo.1, h.lo.2.1, Nat.le_trans h.lo.2.2 (Nat.le_trans hg.size hg2.size)⟩, hG.gr h.gr (fun k hk => Nat.le_trans h.lo.1 (h.fp k hk).1), hks, by rw [hc]; exact hk⟩, hG⟩
  · rw [hrd, hlv]; exact (h.nest.gr hg hneF).gr hg2 (fun k e => by injection e with e; subst e; exact h.nF.1)
  · rw [hrd, hlv]; exact h.inv
  · rw [hrd, hlv]; exact h.val
  · rw [hc]; exact own_grown hr hg2 (.inr (Ne.symm (own_ne hb1 hr (by decide))))
  · intro k hk
    rcases ho with o | o | o
    · exact hneF k (o ▸ hk)
    · rw [o] at hk; cases hk
    · rw [o] at hk
      injection hk with hk
      subst hk
      intro q
      have := (h.nest.fp _ q).2
      omega
end
theorem RunAt.fp {w0 w : World} {rb : Nat} {G : Nat → Prop} {l : List POp} {s : RS} {K : Nat} (h : RunAt w0 w rb G l s K) : ∀ k, G k → w0.heap.size ≤ k ∧ k < w.heap.size := by
  obtain ⟨B, nb, F, lv_, cv, rfl, h⟩ := h
  exact fun k hk => ⟨Nat.le_trans h.lo.1 (h.fp k hk).1, (h.fp k hk).2⟩
theorem RunAt.gr {w0 w : World} {rb : Nat} {G : Nat → Prop} {l : List POp} {s : RS} {K : Nat} (h : RunAt w0 w rb G l s K) : w0.grownBy w none := by
  obtain ⟨B, nb, F, lv_, cv, rfl, h⟩ := h
  exact h.gr
theorem RunAt.grown {w0 w w' : World} {rb : Nat} {G : Nat → Prop} {l : List POp} {s : RS} {K : Nat} (h : RunAt w0 w rb G l s K) (hg : w.grownBy w' none) : RunAt w0 w' rb G l s K := by
  obtain ⟨B, nb, F, lv_, cv, e, h⟩ := h
  exact ⟨B, nb, F, lv_, cv, e, h.grown hg⟩
theorem RunAt.mono {w0 w : World} {rb : Nat} {G : Nat → Prop} {l : List POp} {s : RS} {K K' : Nat} (h : RunAt w0 w rb G l s K) (hk : K ≤ K') : RunAt w0 w rb G l s K' := by
  obtain ⟨B, nb, F, lv_, cv, e, h⟩ := h
  exact ⟨B, nb, F, lv_, cv, e, h.nest, h.inv.mono hk, h.val, h.blk, h.lrow, h.crow, h.nF, h.lo, h.gr, h.regs, h.cregs⟩
/-- Another run, whose blocks are others, stays. -/
theorem RunAt.other {w0 w w' : World} {rb : Nat} {G H H' : Nat → Prop} {l : List POp} {s : RS} {K : Nat} (h : RunAt w0 w rb G l s K) (hg : NG w w' H H') (hH : ∀ k, H k → w0.heap.size ≤ k) (hd : ∀ k, G k → ¬ H k) : RunAt w0 w' rb G l s K ∧ ∀ k, G k → ¬ H' k := by
  have hfp := h.fp
  refine ⟨?_, fun k hk => (hg.old k (hfp k hk).2 (hd k hk)).2⟩
  obtain ⟨B, nb, F, lv_, cv, rfl, h⟩ := h
  have hn := h.nest.other hg (fun k hk => hd k (.inl hk))
  exact ⟨B, nb, F, lv_, cv, rfl, hn.1, h.inv, h.val, (hg.old rb h.blk.lt (hd rb (.inr (.inl rfl)))).1.trans h.blk, (own_ng h.lrow hg (fun k hk => hd k (.inr (.inr (.inl hk))))).1, (own_ng h.crow hg (fun k hk => hd k (.inr (.inr (.inr hk))))).1, h.nF, ⟨h.lo.1, h.lo.2.1, Nat.le_trans h.lo.2.2 hg.size⟩, hg.gr h.gr hH, h.regs, h.cregs⟩
end Go.Proofs.Ytgmhopkajopfcaa
