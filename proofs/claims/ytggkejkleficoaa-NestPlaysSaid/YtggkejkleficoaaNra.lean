/- The document's nest in memory; the walks of its New, At, Written, Value. -/
import Derived.Test.YtggkejkleficoaaNpa
import Derived.Test.YtggkejkleficoaaNq
namespace Go.Proofs.Ytggkejkleficoaa
open Go.RowKit Go.Maps
set_option linter.unusedVariables false

structure PPr where
  c : Int
  v : Int
def prCells (l : List PPr) : List Value := l.flatMap fun x => [.int .i64 x.c, .int .i64 x.v]
theorem prCells_app (l m : List PPr) : prCells (l ++ m) = prCells l ++ prCells m := by simp [prCells]
theorem prCells_at (l : List PPr) (j : Nat) (x : PPr) (hx : l[j]? = some x) : (prCells l)[j * 2]? = some (.int .i64 x.c) ∧ (prCells l)[j * 2 + 1]? = some (.int .i64 x.v) := by
  induction l generalizing j with
  | nil => simp at hx
  | cons y l ih =>
    have e : prCells (y :: l) = [.int .i64 y.c, .int .i64 y.v] ++ prCells l := rfl
    cases j with
    | zero =>
      simp at hx
      subst hx
      exact ⟨rfl, rfl⟩
    | succ j =>
      simp at hx
      obtain ⟨h1, h2⟩ := ih j hx
      rw [e]
      refine ⟨?_, ?_⟩
      · rw [List.getElem?_append_right (by simp; omega), ← h1]
        congr 1
        simp; omega
      · rw [List.getElem?_append_right (by simp; omega), ← h2]
        congr 1
        simp; omega
theorem prCells_one (l : List PPr) : ∀ u ∈ prCells l, u.oneCell' = true := by
  intro u hu
  obtain ⟨x, _, hx⟩ := List.mem_flatMap.1 hu
  simp at hx
  rcases hx with rfl | rfl <;> rfl
theorem itCells_one (l : List PIt) : ∀ u ∈ itCells l, u.oneCell' = true := by
  intro u hu
  obtain ⟨x, _, hx⟩ := List.mem_flatMap.1 hu
  simp at hx
  rcases hx with rfl | rfl | rfl | rfl | rfl <;> rfl
theorem own_one {w : World} {base : Nat} {e : TypeId} {size n : Nat} {v : Value} {xs : List Value} (h : w.ownsRow base e size v n xs) : v.oneCell' = true := by
  rcases h.2 with ⟨rfl, _⟩ | ⟨g, cap, cur, rfl, _⟩ <;> rfl
theorem own_same {w w' : World} {base : Nat} {e : TypeId} {size n : Nat} {v : Value} {xs : List Value} (h : w.ownsRow base e size v n xs) (hb : ∀ k, v.ownBlock = some k → w'.heap[k]? = w.heap[k]?) : w'.ownsRow base e size v n xs := by
  refine ⟨h.1, ?_⟩
  rcases h.2 with q | ⟨g, cap, cur, rfl, h1, h2, r⟩
  · exact .inl q
  · exact .inr ⟨g, cap, cur, rfl, h1, (hb g rfl).trans h2, r⟩
structure RefW (w : World) (B rb : Nat) (v0 v1 : Value) (vs : List Value) (Rs : List PIt) (Ls : List (List PPr)) : Prop where
  blk : Blk w rb 46 #[v0, v1]
  reads : w.ownsRow B 67 5 v0 Rs.length (itCells Rs)
  outer : w.ownsRow B 65 1 v1 vs.length vs
  len : vs.length = Ls.length
  inner : ∀ (i : Nat) (v : Value) (L : List PPr), vs[i]? = some v → Ls[i]? = some L → w.ownsRow B 69 2 v L.length (prCells L)
  lo : B ≤ rb
def FR (rb : Nat) (v0 v1 : Value) (vs : List Value) : Nat → Prop := fun k => k = rb ∨ v0.ownBlock = some k ∨ v1.ownBlock = some k ∨ ∃ v ∈ vs, v.ownBlock = some k
theorem RefW.fp {w : World} {B rb : Nat} {v0 v1 : Value} {vs : List Value} {Rs : List PIt} {Ls : List (List PPr)} (h : RefW w B rb v0 v1 vs Rs Ls) : ∀ k, FR rb v0 v1 vs k → B ≤ k ∧ k < w.heap.size := by
  rintro k (rfl | hk | hk | ⟨v, hv, hk⟩)
  · exact ⟨h.lo, h.blk.lt⟩
  · exact h.reads.lt k hk
  · exact h.outer.lt k hk
  · obtain ⟨i, hi, e⟩ := List.mem_iff_getElem.1 hv
    have hil : i < Ls.length := by rw [← h.len]; exact hi
    exact (h.inner i v Ls[i] (by rw [List.getElem?_eq_getElem hi, e]) (List.getElem?_eq_getElem hil)).lt k hk
theorem RefW.same {w w' : World} {B rb : Nat} {v0 v1 : Value} {vs : List Value} {Rs : List PIt} {Ls : List (List PPr)} (h : RefW w B rb v0 v1 vs Rs Ls) (hb : ∀ k, FR rb v0 v1 vs k → w'.heap[k]? = w.heap[k]?) : RefW w' B rb v0 v1 vs Rs Ls :=
  ⟨(hb rb (.inl rfl)).trans h.blk, own_same h.reads (fun k hk => hb k (.inr (.inl hk))), own_same h.outer (fun k hk => hb k (.inr (.inr (.inl hk)))), h.len,
    fun i v L h1 h2 => own_same (h.inner i v L h1 h2) (fun k hk => hb k (.inr (.inr (.inr ⟨v, List.mem_of_getElem? h1, hk⟩)))), h.lo⟩
def RefAt (w : World) (B rb : Nat) (G : Nat → Prop) (Rs : List PIt) (Ls : List (List PPr)) : Prop :=
  ∃ v0 v1 vs, RefW w B rb v0 v1 vs Rs Ls ∧ (∀ k, FR rb v0 v1 vs k → G k) ∧ ∀ k, G k → B ≤ k ∧ k < w.heap.size
theorem RefAt.fp {w : World} {B rb : Nat} {G : Nat → Prop} {Rs : List PIt} {Ls : List (List PPr)} (h : RefAt w B rb G Rs Ls) : ∀ k, G k → B ≤ k ∧ k < w.heap.size := let ⟨_, _, _, _, _, q⟩ := h; q
theorem RefAt.same {w w' : World} {B rb : Nat} {G : Nat → Prop} {Rs : List PIt} {Ls : List (List PPr)} (h : RefAt w B rb G Rs Ls) (hs : w.heap.size ≤ w'.heap.size) (hb : ∀ k, G k → w'.heap[k]? = w.heap[k]?) : RefAt w' B rb G Rs Ls := by
  obtain ⟨v0, v1, vs, hW, hG, hl⟩ := h
  exact ⟨v0, v1, vs, hW.same (fun k hk => hb k (hG k hk)), hG, fun k hk => ⟨(hl k hk).1, Nat.lt_of_lt_of_le (hl k hk).2 hs⟩⟩
theorem RefAt.gr {w w' : World} {B rb : Nat} {G : Nat → Prop} {Rs : List PIt} {Ls : List (List PPr)} (h : RefAt w B rb G Rs Ls) (hg : w.grownBy w' none) : RefAt w' B rb G Rs Ls :=
  h.same hg.size (fun k hk => hg.block k (h.fp k hk).2 (by simp))
theorem RefAt.other {w w' : World} {B rb : Nat} {G F F' : Nat → Prop} {Rs : List PIt} {Ls : List (List PPr)} (h : RefAt w B rb G Rs Ls) (hg : NG w w' F F') (hd : ∀ k, G k → ¬ F k) : RefAt w' B rb G Rs Ls ∧ ∀ k, G k → ¬ F' k :=
  ⟨h.same hg.size (fun k hk => (hg.old k (h.fp k hk).2 (hd k hk)).1), fun k hk => (hg.old k (h.fp k hk).2 (hd k hk)).2⟩
/-- What was there is kept but for the nest's own blocks. -/
theorem RefAt.turn {w w' : World} {B rb : Nat} {G : Nat → Prop} {Rs Rs' : List PIt} {Ls Ls' : List (List PPr)} {v0 v1 : Value} {vs : List Value} (h : RefAt w B rb G Rs Ls) (hB : B ≤ w.heap.size) (hW : RefW w' B rb v0 v1 vs Rs' Ls') (hf : ∀ k, FR rb v0 v1 vs k → G k ∨ w.heap.size ≤ k)
    (hos : w'.os = w.os) (ht : w'.tape = w.tape) (ho : w'.output = w.output) (hs : w.heap.size ≤ w'.heap.size) (hk : ∀ k, k < w.heap.size → ¬ G k → w'.heap[k]? = w.heap[k]?) :
    ∃ G', RefAt w' B rb G' Rs' Ls' ∧ NG w w' G G' ∧ RefW w' B rb v0 v1 vs Rs' Ls' ∧ ∀ k, FR rb v0 v1 vs k → G' k := by
  have hGG : ∀ k, FR rb v0 v1 vs k → G k ∨ (w.heap.size ≤ k ∧ k < w'.heap.size) := fun k hk => by
    rcases hf k hk with q | q
    · exact .inl q
    · exact .inr ⟨q, (hW.fp k hk).2⟩
  refine ⟨fun k => G k ∨ (w.heap.size ≤ k ∧ k < w'.heap.size), ⟨v0, v1, vs, hW, hGG, fun k hk => ?_⟩, ⟨hos, ht, ho, hs, fun k h1 h2 => ⟨hk k h1 h2, fun q => ?_⟩⟩, hW, hGG⟩
  · rcases hk with q | q
    · have := h.fp k q
      exact ⟨this.1, by omega⟩
    · exact ⟨by omega, q.2⟩
  · rcases q with q | q
    · exact h2 q
    · omega
theorem turn_old {w w5 : World} {G : Nat → Prop} (hg : w.grownBy w5 none) {a : Addr} (ha : G a.block) (u : Value) : ∀ k, k < w.heap.size → ¬ G k → (w5.setCell a u).heap[k]? = w.heap[k]? := fun k h1 h2 => by
  rw [heap_setCell_other w5 a k u (fun e => h2 (e ▸ ha))]
  exact hg.block k h1 (by simp)
/-- A new outer row is stored. -/
theorem RefW.put1 {w w5 : World} {B rb : Nat} {G : Nat → Prop} {v0 v1 u : Value} {vs vs' : List Value} {Rs : List PIt} {Ls Ls' : List (List PPr)} (hR : RefAt w B rb G Rs Ls) (h : RefW w B rb v0 v1 vs Rs Ls) (hG : ∀ k, FR rb v0 v1 vs k → G k) (hB : B ≤ w.heap.size) (hg : w.grownBy w5 none)
    (ho : w5.ownsRow w.heap.size 65 1 u vs'.length vs') (hlen : vs'.length = Ls'.length) (hin : ∀ (i : Nat) (v : Value) (L : List PPr), vs'[i]? = some v → Ls'[i]? = some L → w5.ownsRow B 69 2 v L.length (prCells L))
    (hf : ∀ v ∈ vs', v ∈ vs ∨ ∀ k, v.ownBlock = some k → w.heap.size ≤ k) : ∃ G', RefAt (w5.setCell ⟨rb, 1, none⟩ u) B rb G' Rs Ls' ∧ NG w (w5.setCell ⟨rb, 1, none⟩ u) G G' ∧ RefW (w5.setCell ⟨rb, 1, none⟩ u) B rb v0 u vs' Rs Ls' ∧ ∀ k, FR rb v0 u vs' k → G' k := by
  have hb5 := h.blk.grown hg (by simp)
  have hr5 := own_gr0 h.reads hg
  have ho5 := ownsRow_base_a ho hB
  refine hR.turn hB (v0 := v0) (v1 := u) (vs := vs') ⟨by have := hb5.set 1 u; simpa using this, own_far hr5 (a := ⟨rb, 1, none⟩) (own_ne hb5 hr5 (by decide)) u, own_far ho5 (a := ⟨rb, 1, none⟩) (own_ne hb5 ho5 (by decide)) u, hlen, fun i v L h1 h2 => own_far (hin i v L h1 h2) (a := ⟨rb, 1, none⟩) (own_ne hb5 (hin i v L h1 h2) (by decide)) u, h.lo⟩ ?_ hg.os hg.tape hg.output (by simpa [World.setCell] using hg.size) (turn_old hg (hG rb (.inl rfl)) u)
  rintro k (rfl | hk | hk | ⟨v, hv, hk⟩)
  · exact .inl (hG _ (.inl rfl))
  · exact .inl (hG k (.inr (.inl hk)))
  · exact .inr (ho.lt k hk).1
  · rcases hf v hv with q | q
    · exact .inl (hG k (.inr (.inr (.inr ⟨v, q, hk⟩))))
    · exact .inr (q k hk)
/-- New readings are stored. -/
theorem RefW.put0 {w w5 : World} {B rb : Nat} {G : Nat → Prop} {v0 v1 u : Value} {vs : List Value} {Rs Rs' : List PIt} {Ls : List (List PPr)} (hR : RefAt w B rb G Rs Ls) (h : RefW w B rb v0 v1 vs Rs Ls) (hG : ∀ k, FR rb v0 v1 vs k → G k) (hB : B ≤ w.heap.size) (hg : w.grownBy w5 none)
    (ho : w5.ownsRow w.heap.size 67 5 u Rs'.length (itCells Rs')) : ∃ G', RefAt (w5.setCell ⟨rb, 0, none⟩ u) B rb G' Rs' Ls ∧ NG w (w5.setCell ⟨rb, 0, none⟩ u) G G' ∧ RefW (w5.setCell ⟨rb, 0, none⟩ u) B rb u v1 vs Rs' Ls ∧ ∀ k, FR rb u v1 vs k → G' k := by
  have hb5 := h.blk.grown hg (by simp)
  have hr5 := own_gr0 h.outer hg
  have ho5 := ownsRow_base_a ho hB
  refine hR.turn hB (v0 := u) (v1 := v1) (vs := vs) ⟨by have := hb5.set 0 u; simpa using this, own_far ho5 (a := ⟨rb, 0, none⟩) (own_ne hb5 ho5 (by decide)) u, own_far hr5 (a := ⟨rb, 0, none⟩) (own_ne hb5 hr5 (by decide)) u, h.len, fun i v L h1 h2 => own_far (own_gr0 (h.inner i v L h1 h2) hg) (a := ⟨rb, 0, none⟩) (own_ne hb5 (own_gr0 (h.inner i v L h1 h2) hg) (by decide)) u, h.lo⟩ ?_ hg.os hg.tape hg.output (by simpa [World.setCell] using hg.size) (turn_old hg (hG rb (.inl rfl)) u)
  rintro k (rfl | hk | hk | ⟨v, hv, hk⟩)
  · exact .inl (hG _ (.inl rfl))
  · exact .inr (ho.lt k hk).1
  · exact .inl (hG k (.inr (.inr (.inl hk))))
  · exact .inl (hG k (.inr (.inr (.inr ⟨v, hv, hk⟩))))
/-- A new inner row is stored into the outer row. -/
theorem RefW.putL {w w5 : World} {B rb g cap : Nat} {G : Nat → Prop} {v0 u : Value} {vs : List Value} {Rs : List PIt} {Ls : List (List PPr)} {i : Nat} {L' : List PPr} (hR : RefAt w B rb G Rs Ls) (h : RefW w B rb v0 (.slice (some ⟨g, 0, none⟩) vs.length cap) vs Rs Ls) (hG : ∀ k, FR rb v0 (.slice (some ⟨g, 0, none⟩) vs.length cap) vs k → G k) (hB : B ≤ w.heap.size) (hg : w.grownBy w5 none) (hi : i < vs.length)
    (ho : w5.ownsRow w.heap.size 69 2 u L'.length (prCells L')) : ∃ G', RefAt (w5.setCell ⟨g, i, none⟩ u) B rb G' Rs (Ls.set i L') ∧ NG w (w5.setCell ⟨g, i, none⟩ u) G G' ∧ RefW (w5.setCell ⟨g, i, none⟩ u) B rb v0 (.slice (some ⟨g, 0, none⟩) vs.length cap) (vs.set i u) Rs (Ls.set i L') ∧ ∀ k, FR rb v0 (.slice (some ⟨g, 0, none⟩) vs.length cap) (vs.set i u) k → G' k := by
  have hb5 := h.blk.grown hg (by simp)
  have hr5 := own_gr0 h.reads hg
  have ht5 := own_gr0 h.outer hg
  have ho5 := ownsRow_base_a ho hB
  obtain ⟨cur, hcur⟩ : ∃ cur, Blk w5 g 65 cur := by
    rcases ht5.2 with ⟨q, _⟩ | ⟨g', cap', cur, q, _, hh, _⟩
    · cases q
    · injection q with q _ _
      injection q with q
      injection q with q
      subst q
      exact ⟨cur, hh⟩
  have hset := own_set ht5 i (by omega) u
  have hgne : rb ≠ g := fun e => by
    subst e
    exact own_ne hb5 ht5 (by decide) rfl
  refine hR.turn hB (v0 := v0) (v1 := .slice (some ⟨g, 0, none⟩) vs.length cap) (vs := vs.set i u) ⟨hb5.far (a := ⟨g, i, none⟩) hgne u, own_far hr5 (a := ⟨g, i, none⟩) (own_ne hcur hr5 (by decide)) u, by rw [List.length_set]; exact hset, by rw [List.length_set, List.length_set]; exact h.len, fun j v L h1 h2 => ?_, h.lo⟩ ?_ hg.os hg.tape hg.output (by simpa [World.setCell] using hg.size) (turn_old hg (a := ⟨g, i, none⟩) (hG g (.inr (.inr (.inl rfl)))) u)
  · by_cases e : j = i
    · subst e
      rw [List.getElem?_set_self (by omega)] at h1
      have := h.len
      rw [List.getElem?_set_self (by omega)] at h2
      injection h1 with h1
      injection h2 with h2
      subst h1 h2
      exact own_far ho5 (a := ⟨g, j, none⟩) (own_ne hcur ho5 (by decide)) u
    · rw [List.getElem?_set_ne (fun q => e q.symm)] at h1 h2
      have hj := own_gr0 (h.inner j v L h1 h2) hg
      exact own_far hj (a := ⟨g, i, none⟩) (own_ne hcur hj (by decide)) u
  · rintro k (rfl | hk | hk | ⟨v, hv, hk⟩)
    · exact .inl (hG _ (.inl rfl))
    · exact .inl (hG k (.inr (.inl hk)))
    · exact .inl (hG k (.inr (.inr (.inl hk))))
    · rcases List.mem_or_eq_of_mem_set hv with q | q
      · exact .inl (hG k (.inr (.inr (.inr ⟨v, q, hk⟩))))
      · subst q
        exact .inr (ho.lt k hk).1
def AtR (Rs : List PIt) (c r : Int) : Prop := (∃ (i : Nat) (x : PIt), r = i ∧ Rs[i]? = some x ∧ x.c = c) ∨ (r = -1 ∧ ∀ x ∈ Rs, x.c ≠ c)
set_option maxRecDepth 100000 in
set_option maxHeartbeats 3200000 in
theorem at_r {w : World} {B rb : Nat} {G : Nat → Prop} {Rs : List PIt} {Ls : List (List PPr)} (h : RefAt w B rb G Rs Ls) (hl : Rs.length ≤ 1000000) (c : Int) :
    Calls Try.prog 27 #[NP rb, .int .i64 c] w fun e w' => (∃ r, e = .returned (.int .i64 r) ∧ AtR Rs c r) ∧ w' = w := by
  obtain ⟨v0, v1, vs, hW, -, -⟩ := h
  have c0 := hW.blk.cell 0
  obtain ⟨A, cap, rfl⟩ := own_shape hW.reads
  have HW := As.mk hW
  clear hW
  unfold NP
  go_enter Try.func27, Try.ntmps27
  go_wp2_with fail
  go_loopw [5] (fun i wr => ∃ k : Nat, k ≤ Rs.length ∧ i = .int .i64 k ∧ wr = w ∧ As (∀ x ∈ Rs.take k, x.c ≠ c)) (fun i _ => Rs.length - (Go.RowKit.intOf i).toNat)
  case atStart => exact ⟨0, Nat.zero_le _, rfl, rfl, ⟨by simp⟩⟩
  case round =>
    obtain ⟨k, hk, rfl, rfl, HL⟩ := hrel
    by_cases hlt : k < Rs.length
    · have hltI : (k : Int) < (Rs.length : Int) := by omega
      have hk0 : (0 : Int) ≤ (k : Int) := by omega
      obtain ⟨g, cap', hv⟩ := own_some HW.out.reads (by omega)
      injection hv with hv1 _ hv3
      subst hv1 hv3
      have d0 : wr.cell? ⟨g, k * 5, none⟩ = some (.int .i64 Rs[k].c) := own_cellAt HW.out.reads (k * 5) _ (by have := itCells_at Rs k Rs[k] (List.getElem?_eq_getElem hlt) 0 _ rfl; simpa using this)
      have HT := As.mk (And.intro (List.take_succ_eq_append_getElem hlt) (show Rs[k]? = some Rs[k] from List.getElem?_eq_getElem hlt))
      generalize Rs[k] = x at *
      by_cases hx : x.c = c
      · have hxb : (x.c == c) = true := by rw [beq_iff_eq]; exact hx
        have HX := As.mk hx
        clear hx
        go_wp2_with fail
        go_ret
        exact ⟨⟨k, rfl, .inl ⟨k, x, rfl, HT.out.2, HX.out⟩⟩, rfl⟩
      · have hxb : (x.c == c) = false := by rw [beq_eq_false_iff_ne]; exact hx
        have HX := As.mk hx
        clear hx
        go_wp2_with fail
        go_roundw
        case measure => simp [Go.RowKit.intOf]; omega
        case rel =>
          refine ⟨k + 1, by omega, by simp, by trivial, ⟨fun y hy => ?_⟩⟩
          rw [HT.out.1] at hy
          rcases List.mem_append.1 hy with hy | hy
          · exact HL.out y hy
          · simp at hy; subst hy; exact HX.out
    · obtain rfl : k = Rs.length := by omega
      have HL2 := HL.out
      rw [List.take_of_length_le (Nat.le_refl _)] at HL2
      have HF := As.mk HL2
      clear HL2
      go_wp2_with fail
      go_ret
      exact ⟨⟨-1, rfl, .inr ⟨rfl, HF.out⟩⟩, rfl⟩
def lastF (o : Option Int) (l : List PPr) (c : Int) : Option Int := l.foldl (fun acc p => if p.c = c then some p.v else acc) o
def wrR (Ls : List (List PPr)) (c : Int) : Option Int := Ls.foldl (fun o L => lastF o L c) none
theorem lastF_take (o : Option Int) (l : List PPr) (c : Int) (k : Nat) (h : k < l.length) : lastF o (l.take (k + 1)) c = if l[k].c = c then some l[k].v else lastF o (l.take k) c := by
  unfold lastF
  rw [List.take_succ_eq_append_getElem h, List.foldl_append]
  rfl
theorem wrR_take (Ls : List (List PPr)) (c : Int) (k : Nat) (h : k < Ls.length) : wrR (Ls.take (k + 1)) c = lastF (wrR (Ls.take k) c) Ls[k] c := by
  unfold wrR
  rw [List.take_succ_eq_append_getElem h, List.foldl_append]
  rfl
set_option maxRecDepth 100000 in
set_option maxHeartbeats 6400000 in
theorem written_r {w : World} {B rb : Nat} {G : Nat → Prop} {Rs : List PIt} {Ls : List (List PPr)} (h : RefAt w B rb G Rs Ls) (hl : Ls.length ≤ 1000000) (hL : ∀ L ∈ Ls, L.length ≤ 1000000) (c : Int) :
    Calls Try.prog 35 #[NP rb, .int .i64 c] w fun e w' => e = .returned (wrV (wrR Ls c)) ∧ w' = w := by
  obtain ⟨v0, v1, vs, hW, -, -⟩ := h
  have c1 := hW.blk.cell 1
  have hlen := hW.len
  obtain ⟨A, cap, rfl⟩ := own_shape hW.outer
  rw [hlen] at c1
  have HW := As.mk (And.intro hW hL)
  clear hW hL
  unfold NP
  go_enter Try.func35, Try.ntmps35
  go_wp2_with fail
  go_loopw [6, 7, 8] (fun v t i wr => ∃ k : Nat, k ≤ Ls.length ∧ i = .int .i64 k ∧ wr = w ∧ v = .int .i64 ((wrR (Ls.take k) c).getD 0) ∧ t = .bool (wrR (Ls.take k) c).isSome) (fun _ _ i _ => Ls.length - (Go.RowKit.intOf i).toNat)
  case atStart => exact ⟨0, Nat.zero_le _, rfl, rfl, rfl, rfl⟩
  case round =>
    obtain ⟨k, hk, rfl, rfl, rfl, rfl⟩ := hrel
    by_cases hlt : k < Ls.length
    · have hltI : (k : Int) < (Ls.length : Int) := by omega
      have hk0 : (0 : Int) ≤ (k : Int) := by omega
      obtain ⟨g, cap', hv⟩ := own_some HW.out.1.outer (by omega)
      injection hv with hv1 _ hv3
      subst hv1 hv3
      have hkv : k < vs.length := by omega
      have d0 : wr.cell? ⟨g, k, none⟩ = some vs[k] := own_cellAt HW.out.1.outer k _ (List.getElem?_eq_getElem hkv)
      have hin := HW.out.1.inner k vs[k] Ls[k] (List.getElem?_eq_getElem hkv) (List.getElem?_eq_getElem hlt)
      have hLk := HW.out.2 Ls[k] (List.getElem_mem hlt)
      have HT := As.mk (wrR_take Ls c k hlt)
      generalize vs[k] = vk at *
      generalize Ls[k] = L at *
      obtain ⟨A', cap2, rfl⟩ := own_shape hin
      have HI := As.mk hin
      clear hin
      generalize wrR (Ls.take k) c = o at *
      go_wp2_with fail
      go_loopw [6, 7, 9] (fun v t i wx => ∃ j : Nat, j ≤ L.length ∧ i = .int .i64 j ∧ wx = wr ∧ v = .int .i64 ((lastF o (L.take j) c).getD 0) ∧ t = .bool (lastF o (L.take j) c).isSome) (fun _ _ i _ => L.length - (Go.RowKit.intOf i).toNat)
      case atStart => exact ⟨0, Nat.zero_le _, rfl, rfl, rfl, rfl⟩
      case round =>
        obtain ⟨j, hj, rfl, rfl, rfl, rfl⟩ := hrel
        by_cases hjl : j < L.length
        · have hjI : (j : Int) < (L.length : Int) := by omega
          have hj0 : (0 : Int) ≤ (j : Int) := by omega
          obtain ⟨g2, cap3, hv⟩ := own_some HI.out (by omega)
          injection hv with hv1 _ hv3
          subst hv1 hv3
          obtain ⟨p0, p1⟩ := prCells_at L j L[j] (List.getElem?_eq_getElem hjl)
          have e0 : wr.cell? ⟨g2, j * 2, none⟩ = _ := own_cellAt HI.out (j * 2) _ p0
          have e1 : wr.cell? ⟨g2, j * 2 + 1, none⟩ = _ := own_cellAt HI.out (j * 2 + 1) _ p1
          have HS := As.mk (lastF_take o L c j hjl)
          clear p0 p1
          generalize L[j] = x at *
          by_cases hx : x.c = c
          · have hxb : (x.c == c) = true := by rw [beq_iff_eq]; exact hx
            have HX := As.mk (show lastF o (L.take (j + 1)) c = some x.v by rw [HS.out, if_pos hx])
            clear hx HS
            go_wp2_with fail
            go_roundw
            case measure => simp [Go.RowKit.intOf]; omega
            case rel => exact ⟨j + 1, by omega, by simp, by trivial, by rw [HX.out]; rfl, by rw [HX.out]; rfl⟩
          · have hxb : (x.c == c) = false := by rw [beq_eq_false_iff_ne]; exact hx
            have HX := As.mk (show lastF o (L.take (j + 1)) c = lastF o (L.take j) c by rw [HS.out, if_neg hx])
            clear hx HS
            go_wp2_with fail
            go_roundw
            case measure => simp [Go.RowKit.intOf]; omega
            case rel => exact ⟨j + 1, by omega, by simp, by trivial, by rw [HX.out], by rw [HX.out]⟩
        · obtain rfl : j = L.length := by omega
          rw [List.take_of_length_le (Nat.le_refl _)]
          go_wp2_with fail
          go_roundw
          case measure => simp [Go.RowKit.intOf]; omega
          case rel => exact ⟨k + 1, by omega, by simp, by trivial, by rw [HT.out], by rw [HT.out]⟩
    · obtain rfl : k = Ls.length := by omega
      rw [List.take_of_length_le (Nat.le_refl _)]
      go_wp2_with fail
      go_ret2
      exact ⟨rfl, rfl⟩
end Go.Proofs.Ytggkejkleficoaa
