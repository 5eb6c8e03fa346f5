/- The walk of the law ScriptCuts. -/
import Derived.Test.YtmmgmdfhdhnmaaaAwk
import Derived.Test.YtmmgmdfhdhnmaaaSm
namespace Go.Proofs.Ytmmgmdfhdhnmaaa
open Go.RowKit
set_option linter.unusedVariables false

theorem rByte_p (S : ByteArray) (p : Nat) (h : p < S.size) : rByte S ⟨p, false⟩ = (byteAt S p, ⟨p + 1, false⟩) := by unfold rByte; rw [if_pos ⟨rfl, h⟩]
theorem rCount_p (S : ByteArray) (p : Nat) (h : p + 2 ≤ S.size) : rCount S ⟨p, false⟩ = (byteAt S p * 256 + byteAt S (p + 1), ⟨p + 2, false⟩) := by unfold rCount; rw [if_pos ⟨rfl, h⟩]
theorem big_nodes (S : ByteArray) (h4 : 4 ≤ S.size) : pNodes S = (byteAt S 0 : Int) % 16 + 1 := by unfold pNodes; rw [rByte_p S 0 (by omega)]
theorem big_cells (S : ByteArray) (h4 : 4 ≤ S.size) : pCells S = (byteAt S 1 : Int) % 16 + 1 := by unfold pCells; rw [rByte_p S 0 (by omega)]; dsimp only; rw [rByte_p S 1 (by omega)]
theorem big_disk (S : ByteArray) (h4 : 4 ≤ S.size) : pDisk S = 16 * (byteAt S 2 * 256 + byteAt S 3 : Nat) := by unfold pDisk; rw [rByte_p S 0 (by omega)]; dsimp only; rw [rByte_p S 1 (by omega)]; dsimp only; rw [rCount_p S 2 h4]
theorem big_evs (S : ByteArray) (h4 : 4 ≤ S.size) : pEvs S = evsFrom S (S.size + 1) 4 0 := by unfold pEvs; rw [rByte_p S 0 (by omega)]; dsimp only; rw [rByte_p S 1 (by omega)]; dsimp only; rw [rCount_p S 2 h4]; rfl

/-- T is a beginning of S. -/
def Pre (T S : ByteArray) : Prop := T.size ≤ S.size ∧ ∀ i, i < T.size → byteAt T i = byteAt S i
theorem opAt_pre {T S : ByteArray} (h : Pre T S) (p : Nat) (hp : p + 5 ≤ T.size) : opAt T p = opAt S p := by
  unfold opAt
  rw [h.2 p (by omega), h.2 (p + 1) (by omega), h.2 (p + 2) (by omega), h.2 (p + 3) (by omega), h.2 (p + 4) (by omega)]
theorem opsAt_pre {T S : ByteArray} (h : Pre T S) (p : Nat) : ∀ n, p + 5 * n ≤ T.size → opsAt T p n = opsAt S p n
  | 0, _ => rfl
  | n + 1, hn => by rw [opsAt, opsAt, opsAt_pre h p n (by omega), opAt_pre h (p + 5 * n) (by omega)]
theorem evAt_pre {T S : ByteArray} (h : Pre T S) (p kind : Nat) (q : PEv × Nat) (hq : evAt T p kind = some q) : evAt S p kind = some q ∧ q.2 ≤ T.size ∧ p < q.2 := by
  have hs := h.1
  unfold evAt at *
  by_cases hk : kind = 1
  · rw [if_neg (by simp [hk])] at hq ⊢
    split at hq
    · rename_i hc
      have e1 := h.2 (p + 1) (by omega)
      rw [if_pos (by rw [← e1]; omega), ← e1, ← h.2 p (by omega), ← opsAt_pre h (p + 2) _ (by omega)]
      refine ⟨hq, ?_⟩
      injection hq with hq
      rw [← hq]
      dsimp only
      omega
    · cases hq
  · rw [if_pos hk] at hq ⊢
    split at hq
    · rename_i hc
      rw [if_pos (by omega), ← h.2 p (by omega), ← h.2 (p + 1) (by omega), ← h.2 (p + 2) (by omega), ← h.2 (p + 3) (by omega)]
      refine ⟨hq, ?_⟩
      injection hq with hq
      rw [← hq]
      dsimp only
      omega
    · cases hq
theorem evsFrom_pre {T S : ByteArray} (h : Pre T S) : ∀ fuel fuel' p n, S.size - p < fuel' → evsFrom T fuel p n <+: evsFrom S fuel' p n
  | 0, _, _, _, _ => by simp [evsFrom]
  | fuel + 1, 0, _, _, h0 => by omega
  | fuel + 1, fuel' + 1, p, n, hf => by
    have hs := h.1
    by_cases hc : n < 400 ∧ p < T.size
    · have e1 : evsFrom T (fuel + 1) p n = if byteAt T p % 12 = 0 then evsFrom T fuel (p + 1) n else match evAt T (p + 1) (byteAt T p % 12) with | none => [] | some (e, p') => e :: evsFrom T fuel p' (n + 1) := by rw [evsFrom, if_pos hc]; rfl
      have e2 : evsFrom S (fuel' + 1) p n = if byteAt T p % 12 = 0 then evsFrom S fuel' (p + 1) n else match evAt S (p + 1) (byteAt T p % 12) with | none => [] | some (e, p') => e :: evsFrom S fuel' p' (n + 1) := by rw [evsFrom, if_pos ⟨hc.1, by omega⟩, ← h.2 p hc.2]; rfl
      rw [e1, e2]
      by_cases hk : byteAt T p % 12 = 0
      · rw [if_pos hk, if_pos hk]
        exact evsFrom_pre h fuel fuel' (p + 1) n (by omega)
      · rw [if_neg hk, if_neg hk]
        cases he : evAt T (p + 1) (byteAt T p % 12) with
        | none => simp
        | some q =>
          obtain ⟨h1, h2, h3⟩ := evAt_pre h _ _ _ he
          rw [h1]
          dsimp only
          exact List.cons_prefix_cons.2 ⟨rfl, evsFrom_pre h fuel fuel' q.2 (n + 1) (by omega)⟩
    · have e1 : evsFrom T (fuel + 1) p n = [] := by rw [evsFrom, if_neg hc]
      rw [e1]
      simp
theorem pEvs_pre {T S : ByteArray} (h : Pre T S) (h4 : 4 ≤ T.size) : pEvs T <+: pEvs S := by
  rw [big_evs T h4, big_evs S (by have := h.1; omega)]
  exact evsFrom_pre h _ _ _ _ (by omega)
theorem pre_cut (S : ByteArray) (k : Nat) (hk : k ≤ S.size) : Pre (S.extract 0 k) S ∧ (S.extract 0 k).size = k := by
  have hz : (S.extract 0 k).size = k := by simp; omega
  refine ⟨⟨by omega, fun i hi => ?_⟩, hz⟩
  unfold byteAt
  rw [dif_pos hi, dif_pos (show i < S.size by omega)]
  simp [ByteArray.getElem_extract]
theorem pre_more (S M : ByteArray) : Pre S (S ++ M) ∧ (S ++ M).size = S.size + M.size := by
  have hz : (S ++ M).size = S.size + M.size := ByteArray.size_append
  refine ⟨⟨by omega, fun i hi => ?_⟩, hz⟩
  unfold byteAt
  rw [dif_pos hi, dif_pos (show i < (S ++ M).size by omega)]
  rw [ByteArray.getElem_append_left hi]
theorem Arr.take {α : Type} {E : World → α → List Value → Prop} {sz : Nat} {w : World} {A : Option Addr} {n c : Nat} {xs : List α} (h : Arr E sz w (.slice A n c) xs) (k : Nat) (hk : k ≤ xs.length) : Arr E sz w (.slice A k c) (xs.take k) := by
  obtain ⟨A', c', he, hm, h⟩ := h
  injection he with h1 h2 h3
  subst h1 h3
  have hl : (xs.take k).length = k := by rw [List.length_take]; omega
  refine ⟨_, _, by rw [hl], ⟨by omega, by omega⟩, fun h0 => ?_⟩
  obtain ⟨ad, g1, g2, g3⟩ := h (by omega)
  refine ⟨ad, g1, g2, fun j x hx => g3 j x ?_⟩
  rw [List.getElem?_take] at hx
  split at hx
  · exact hx
  · cases hx
theorem opsAt_lens (S : ByteArray) (p : Nat) : ∀ n, (opsAt S p n).length = n
  | 0 => rfl
  | n + 1 => by simp [opsAt, opsAt_lens S p n]
theorem evsFrom_lens (S : ByteArray) : ∀ fuel p n, (evsFrom S fuel p n).length + n ≤ max n 400 ∧ ∀ x ∈ evsFrom S fuel p n, x.ops.length ≤ 32
  | 0, _, _ => by simp [evsFrom]; omega
  | fuel + 1, p, n => by
    rw [evsFrom]
    split
    · rename_i h
      split
      · exact evsFrom_lens S fuel _ _
      · cases he : evAt S (p + 1) (byteAt S p % 12) with
        | none => simp; omega
        | some q =>
          have := evsFrom_lens S fuel q.2 (n + 1)
          refine ⟨by simp only [List.length_cons]; omega, fun x hx => ?_⟩
          rcases List.mem_cons.1 hx with rfl | hx
          · unfold evAt at he
            split at he
            · split at he
              · injection he with he
                rw [← he]
                exact Nat.zero_le _
              · cases he
            · split at he
              · injection he with he
                rw [← he]
                dsimp only
                rw [opsAt_lens]
                omega
              · cases he
          · exact this.2 x hx
    · simp; omega
theorem pEvs_lens (S : ByteArray) : (pEvs S).length ≤ 100000000 ∧ ∀ x ∈ pEvs S, x.ops.length ≤ 100000000 := by
  unfold pEvs evsT
  split
  · simp
  · have h1 := evsFrom_lens S (S.size + 1) (rCount S (rByte S (rByte S ⟨0, false⟩).2).2).2.p 0
    exact ⟨by omega, fun x hx => Nat.le_trans (h1.2 x hx) (by omega)⟩

set_option maxRecDepth 100000 in
set_option maxHeartbeats 6400000 in
theorem cuts_walk (S : ByteArray) (at_ : Int) (M : ByteArray) (w : World) (hS : S.size ≤ 140737488351232) (hM : M.size ≤ 140737488351232) (ha : (Lit.int .i64 at_).wf = true) :
    Calls Try.prog 4 #[.string S, .int .i64 at_, .string M] w fun e w' => e = .returned (.bool true) ∧ As (Below w.heap.size w w') := by
  have hx : -9223372036854775808 ≤ at_ ∧ at_ ≤ 9223372036854775807 := by simpa [Lit.wf, IntKind.min, IntKind.max, IntKind.signed, IntKind.bits] using ha
  have HX := As.mk hx
  clear hx ha
  by_cases h1 : 1500 < S.size
  · have h1I : (1500 : Int) < (S.size : Int) := by omega
    go_enter Try.func4, Try.ntmps4
    go_wp2_with (go_at_call 6; refine (awake_walk _).mono ?_; rintro e w1 ⟨rfl, hg⟩)
    go_ret
    exact ⟨rfl, ⟨gr_below hg⟩⟩
  · have h1I : ¬ (1500 : Int) < (S.size : Int) := by omega
    by_cases h2 : 500 < M.size
    · have h2I : (500 : Int) < (M.size : Int) := by omega
      go_enter Try.func4, Try.ntmps4
      go_wp2_with (go_at_call 6; refine (awake_walk _).mono ?_; rintro e w1 ⟨rfl, hg⟩)
      go_ret
      exact ⟨rfl, ⟨gr_below hg⟩⟩
    · have h2I : ¬ (500 : Int) < (M.size : Int) := by omega
      by_cases h3 : at_ < 4
      · go_enter Try.func4, Try.ntmps4
        go_wp2_with (go_at_call 6; refine (awake_walk _).mono ?_; rintro e w1 ⟨rfl, hg⟩)
        go_ret
        exact ⟨rfl, ⟨gr_below hg⟩⟩
      · by_cases h4 : (S.size : Int) < at_
        · go_enter Try.func4, Try.ntmps4
          go_wp2_with (go_at_call 6; refine (awake_walk _).mono ?_; rintro e w1 ⟨rfl, hg⟩)
          go_ret
          exact ⟨rfl, ⟨gr_below hg⟩⟩
        · obtain ⟨k, rfl⟩ := Int.eq_ofNat_of_zero_le (show 0 ≤ at_ by omega)
          have hk4 : 4 ≤ k := by omega
          have hkS : k ≤ S.size := by omega
          clear HX
          go_enter Try.func4, Try.ntmps4
          go_wp2_with (go_at_call 6; refine (awake_walk _).mono ?_; rintro e w1 ⟨rfl, hg⟩)
          obtain ⟨pT, zT⟩ := pre_cut S k hkS
          obtain ⟨pU, zU⟩ := pre_more S M
          have HP1 := As.mk (fun w => parse_c S w (by omega))
          have HP2 := As.mk (fun w => parse_c (S.extract 0 k) w (by omega))
          have HP3 := As.mk (fun w => parse_c (S ++ M) w (by omega))
          have eN : pNodes (S.extract 0 k) = pNodes S ∧ pNodes (S ++ M) = pNodes S := by rw [big_nodes _ (by omega), big_nodes S (by omega), big_nodes (S ++ M) (by omega), pT.2 0 (by omega), ← pU.2 0 (by omega)]; exact ⟨rfl, rfl⟩
          have eC : pCells (S.extract 0 k) = pCells S ∧ pCells (S ++ M) = pCells S := by rw [big_cells _ (by omega), big_cells S (by omega), big_cells (S ++ M) (by omega), pT.2 1 (by omega), ← pU.2 1 (by omega)]; exact ⟨rfl, rfl⟩
          have eD : pDisk (S.extract 0 k) = pDisk S ∧ pDisk (S ++ M) = pDisk S := by rw [big_disk _ (by omega), big_disk S (by omega), big_disk (S ++ M) (by omega), pT.2 2 (by omega), pT.2 3 (by omega), ← pU.2 2 (by omega), ← pU.2 3 (by omega)]; exact ⟨rfl, rfl⟩
          have q1 := pEvs_pre pT (by omega)
          have q2 := pEvs_pre pU (by omega)
          rw [eN.1, eC.1, eD.1] at HP2
          rw [eN.2, eC.2, eD.2] at HP3
          have HLa := As.mk (pEvs_lens S)
          have HLb := As.mk (pEvs_lens (S.extract 0 k))
          have HLc := As.mk (pEvs_lens (S ++ M))
          have Q := As.mk (And.intro (List.prefix_iff_eq_take.1 q1) (List.prefix_iff_eq_take.1 q2))
          have ql1 := q1.length_le
          have ql2 := q2.length_le
          clear eN eC eD q1 q2 pT pU zT zU
          generalize pNodes S = N at *
          generalize pCells S = C at *
          generalize pDisk S = D at *
          generalize pEvs (S.extract 0 k) = Rb at *
          generalize pEvs (S ++ M) = Rc at *
          generalize pEvs S = Ra at *
          refine (HP1.out _).mono ?_
          rintro e w2 ⟨v, rfl, hown, hg2⟩
          have G := As.mk (gr_then hg (below_gr hg2 none) (.inl rfl))
          have A1 := As.mk (Arr.of_evs hown)
          obtain ⟨Aa, ca, rfl⟩ := A1.out.len
          clear hg hg2 hown HP1
          go_wp2_with fail
          refine (HP2.out _).mono ?_
          rintro e w3 ⟨v, rfl, hown, hg⟩
          have B1 := As.mk (Blk.grown (Blk.new w2 24 #[.int .i64 N, .int .i64 C, .int .i64 D]) (below_gr hg none) (by simp))
          have G' := As.mk (gr_then (gr_alloc G.out _) (below_gr hg none) (.inl rfl))
          have A1' := As.mk ((A1.out.below (World.grownBy_alloc w2 _ none) (EvE.below (World.grownBy_alloc w2 _ none))).below (below_gr hg none) (EvE.below (below_gr hg none)))
          have A2 := As.mk (Arr.of_evs hown)
          obtain ⟨Ab, cb, rfl⟩ := A2.out.len
          clear G A1 hg hown HP2
          generalize w2.heap.size = g1 at *
          go_wp2_with fail
          refine (HP3.out _).mono ?_
          rintro e w4 ⟨v, rfl, hown, hg⟩
          have B1' := As.mk (Blk.grown (B1.out.alloc _) (below_gr hg none) (by simp))
          have B2 := As.mk (Blk.grown (Blk.new w3 24 #[.int .i64 N, .int .i64 C, .int .i64 D]) (below_gr hg none) (by simp))
          have G := As.mk (gr_then (gr_alloc G'.out _) (below_gr hg none) (.inl rfl))
          have A1 := As.mk ((A1'.out.below (World.grownBy_alloc w3 _ none) (EvE.below (World.grownBy_alloc w3 _ none))).below (below_gr hg none) (EvE.below (below_gr hg none)))
          have A2' := As.mk ((A2.out.below (World.grownBy_alloc w3 _ none) (EvE.below (World.grownBy_alloc w3 _ none))).below (below_gr hg none) (EvE.below (below_gr hg none)))
          have A3 := As.mk (Arr.of_evs hown)
          obtain ⟨Ac, cc, rfl⟩ := A3.out.len
          clear G' A1' A2 B1 hg hown HP3
          generalize w3.heap.size = g2 at *
          go_wp2_with fail
          have B1 := As.mk (B1'.out.alloc (.cells #[.int .i64 N, .int .i64 C, .int .i64 D] 24))
          have B2' := As.mk (B2.out.alloc (.cells #[.int .i64 N, .int .i64 C, .int .i64 D] 24))
          have B3 := As.mk (Blk.new w4 24 #[.int .i64 N, .int .i64 C, .int .i64 D])
          have G' := As.mk (gr_alloc G.out (.cells #[.int .i64 N, .int .i64 C, .int .i64 D] 24))
          have A1' := As.mk (A1.out.below (World.grownBy_alloc w4 (.cells #[.int .i64 N, .int .i64 C, .int .i64 D] 24) none) (EvE.below (World.grownBy_alloc w4 _ none)))
          have A2 := As.mk (A2'.out.below (World.grownBy_alloc w4 (.cells #[.int .i64 N, .int .i64 C, .int .i64 D] 24) none) (EvE.below (World.grownBy_alloc w4 _ none)))
          have A3' := As.mk (A3.out.below (World.grownBy_alloc w4 (.cells #[.int .i64 N, .int .i64 C, .int .i64 D] 24) none) (EvE.below (World.grownBy_alloc w4 _ none)))
          clear B1' B2 G A1 A2' A3
          generalize w4.alloc (.cells #[.int .i64 N, .int .i64 C, .int .i64 D] 24) = W at *
          generalize w4.heap.size = g3 at *
          refine (plain26_walk _ Ra _ _ rfl A1'.out HLa.out.1 HLa.out.2).mono ?_
          rintro e w5 ⟨v, rfl, hown, hg⟩
          have C1 := As.mk (B1.out.grown hg (by simp))
          have C2 := As.mk (B2'.out.grown hg (by simp))
          have C3 := As.mk (B3.out.grown hg (by simp))
          have G := As.mk (gr_then G'.out hg (.inl rfl))
          have P1 := As.mk (Arr.of_evs hown)
          have A2' := As.mk (A2.out.below hg (EvE.below hg))
          have A3 := As.mk (A3'.out.below hg (EvE.below hg))
          obtain ⟨Ba, da, rfl⟩ := P1.out.len
          clear B1 B2' B3 G' A1' A2 A3' hg hown HLa
          go_wp2_with fail
          refine (plain26_walk _ Rb _ _ rfl A2'.out HLb.out.1 HLb.out.2).mono ?_
          rintro e w6 ⟨v, rfl, hown, hg⟩
          have B1 := As.mk (C1.out.grown hg (by simp))
          have B2 := As.mk (C2.out.grown hg (by simp))
          have B3 := As.mk (C3.out.grown hg (by simp))
          have G' := As.mk (gr_then G.out hg (.inl rfl))
          have P2 := As.mk (Arr.of_evs hown)
          have P1' := As.mk (P1.out.below hg (EvE.below hg))
          have A3' := As.mk (A3.out.below hg (EvE.below hg))
          obtain ⟨Bb, db, rfl⟩ := P2.out.len
          clear C1 C2 C3 G A2' A3 P1 hg hown HLb
          go_wp2_with fail
          refine (plain26_walk _ Rc _ _ rfl A3'.out HLc.out.1 HLc.out.2).mono ?_
          rintro e w7 ⟨v, rfl, hown, hg⟩
          have C1 := (B1.out.grown hg (by simp))
          have C2 := (B2.out.grown hg (by simp))
          have C3 := (B3.out.grown hg (by simp))
          have G := As.mk (gr_then G'.out hg (.inl rfl))
          have P3 := As.mk (Arr.of_evs hown)
          have P1 := As.mk (P1'.out.below hg (EvE.below hg))
          have P2' := As.mk (P2.out.below hg (EvE.below hg))
          obtain ⟨Bc, dc, rfl⟩ := P3.out.len
          have x0 : w7.cell? ⟨g1, 0, none⟩ = some (.int .i64 N) := C1.cell 0
          have x1 : w7.cell? ⟨g1, 1, none⟩ = some (.int .i64 C) := C1.cell 1
          have x2 : w7.cell? ⟨g1, 2, none⟩ = some (.int .i64 D) := C1.cell 2
          have y0 : w7.cell? ⟨g2, 0, none⟩ = some (.int .i64 N) := C2.cell 0
          have y1 : w7.cell? ⟨g2, 1, none⟩ = some (.int .i64 C) := C2.cell 1
          have y2 : w7.cell? ⟨g2, 2, none⟩ = some (.int .i64 D) := C2.cell 2
          have z0 : w7.cell? ⟨g3, 0, none⟩ = some (.int .i64 N) := C3.cell 0
          have z1 : w7.cell? ⟨g3, 1, none⟩ = some (.int .i64 C) := C3.cell 1
          have z2 : w7.cell? ⟨g3, 2, none⟩ = some (.int .i64 D) := C3.cell 2
          clear B1 B2 B3 C1 C2 C3 G' A3' P1' P2 hg hown HLc
          have la := P1.out.le
          have lc := P3.out.le
          have l1I : (Rb.length : Int) ≤ (Ra.length : Int) := by omega
          have l2I : (Ra.length : Int) ≤ (Rc.length : Int) := by omega
          have ka : (Rb.length : Int) ≤ (da : Int) := by have := P1.out.cap; omega
          have kc : (Ra.length : Int) ≤ (dc : Int) := by have := P3.out.cap; omega
          go_wp2_with fail
          refine (same26_walk _ _ Rb _ (by have := P1.out.take Rb.length ql1; rw [← Q.out.1] at this; exact this) P2'.out).mono ?_
          rintro e w8 ⟨rfl, hd0⟩
          have hd : Drawn w7 w8 := hd0
          clear hd0
          have D1 := As.mk (P1.out.below hd.gr (EvE.below hd.gr))
          have D3 := As.mk (P3.out.below hd.gr (EvE.below hd.gr))
          have G2 := As.mk (gr_then G.out hd.gr (.inl rfl))
          clear hd P1 P2' P3 G x0 x1 x2 y0 y1 y2 z0 z1 z2
          go_wp2_with fail
          refine (same26_walk _ _ Ra _ (by have := D3.out.take Ra.length ql2; rw [← Q.out.2] at this; exact this) D1.out).mono ?_
          rintro e w9 ⟨rfl, hd0⟩
          have hd : Drawn w8 w9 := hd0
          clear hd0
          have G3 := As.mk (gr_then G2.out hd.gr (.inl rfl))
          clear hd D1 D3 G2
          go_wp2
          go_ret
          exact ⟨rfl, ⟨gr_below G3.out⟩⟩
theorem cuts_law (S : ByteArray) (at_ : Int) (M : ByteArray) (w : World) (hS : S.size ≤ 140737488351232) (ha : (Lit.int .i64 at_).wf = true) (hM : M.size ≤ 140737488351232) :
    Calls Try.prog 4 #[.string S, .int .i64 at_, .string M] w fun e w' => e = .returned (.bool true) ∧ Below w.heap.size w w' :=
  (cuts_walk S at_ M w hS hM ha).mono fun _ _ ⟨h1, h2⟩ => ⟨h1, h2.out⟩
end Go.Proofs.Ytmmgmdfhdhnmaaa
