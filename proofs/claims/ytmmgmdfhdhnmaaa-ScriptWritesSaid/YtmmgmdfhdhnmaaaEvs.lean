/- The walk of script's reader: all events, and Parse. -/
import Derived.Test.YtmmgmdfhdhnmaaaEv
import Derived.Deep.LoopGhost
namespace Go.Proofs.Ytmmgmdfhdhnmaaa
open Go.RowKit
set_option linter.unusedVariables false

/-- The cells of events, each with a row of its own (elements of type tq) for its operations. -/
def EvCellsT (tq : TypeId) (w : World) (base : Nat) : List PEv → List Value → Prop
  | [], xs => xs = []
  | e :: es, xs => ∃ u rest, xs = .int .i64 e.k :: .int .i64 e.a :: .int .i64 e.b :: .int .i64 e.n :: u :: rest ∧ w.ownsRow base tq 5 u e.ops.length (opsCells e.ops) ∧ EvCellsT tq w base es rest
section
variable {tq : TypeId}
theorem EvCellsT.snoc {w : World} {base : Nat} {e : PEv} {u : Value} (hu : w.ownsRow base tq 5 u e.ops.length (opsCells e.ops)) : ∀ {es : List PEv} {xs : List Value}, EvCellsT tq w base es xs →
    EvCellsT tq w base (es ++ [e]) (xs ++ [.int .i64 e.k, .int .i64 e.a, .int .i64 e.b, .int .i64 e.n, u])
  | [], _, h => ⟨u, [], by rw [show _ = [] from h]; rfl, hu, rfl⟩
  | _ :: _, _, ⟨u', rest, hx, h1, h2⟩ => ⟨u', rest ++ _, by rw [hx]; rfl, h1, EvCellsT.snoc hu h2⟩
theorem EvCellsT.grown {w w' : World} {base : Nat} {row : Option Nat} (hg : w.grownBy w' row) (hrow : ∀ g, row = some g → ∃ t cs, w.heap[g]? = some (.cells cs t (0, 0)) ∧ t ≠ tq) : ∀ {es : List PEv} {xs : List Value}, EvCellsT tq w base es xs → EvCellsT tq w' base es xs
  | [], _, h => h
  | _ :: _, _, ⟨u, rest, hx, h1, h2⟩ => ⟨u, rest, hx, own_grown h1 hg (by
      cases row with
      | none => cases u.ownBlock <;> simp
      | some g =>
        obtain ⟨t, cs, hb, ht⟩ := hrow g rfl
        exact .inr (Ne.symm (own_ne (show Blk w g t cs from hb) h1 ht))), EvCellsT.grown hg hrow h2⟩
theorem EvCellsT.len {w : World} {base : Nat} : ∀ {es : List PEv} {xs : List Value}, EvCellsT tq w base es xs → xs.length = es.length * 5
  | [], _, h => by rw [show _ = [] from h]; rfl
  | _ :: es, _, ⟨u, rest, hx, _, h2⟩ => by rw [hx]; simp [EvCellsT.len h2]; omega
theorem EvCellsT.mono {w : World} {base base' : Nat} (hb : base ≤ base') : ∀ {es : List PEv} {xs : List Value}, EvCellsT tq w base' es xs → EvCellsT tq w base es xs
  | [], _, h => h
  | _ :: _, _, ⟨u, rest, hx, h1, h2⟩ => ⟨u, rest, hx, own_mono h1 hb, EvCellsT.mono hb h2⟩
/-- A slice of events (elements of type te) of the call's own. -/
def EvsOwnT (te tq : TypeId) (w : World) (base : Nat) (v : Value) (es : List PEv) : Prop := ∃ xs, w.ownsRow base te 5 v es.length xs ∧ EvCellsT tq w base es xs
variable {te : TypeId}
theorem EvsOwnT.mono {w : World} {base base' : Nat} {v : Value} {es : List PEv} (h : EvsOwnT te tq w base' v es) (hb : base ≤ base') : EvsOwnT te tq w base v es :=
  let ⟨xs, h1, h2⟩ := h; ⟨xs, own_mono h1 hb, h2.mono hb⟩
theorem EvsOwnT.grown {w w' : World} {base : Nat} {v : Value} {es : List PEv} {x : Nat} {t : TypeId} {cs : Array Value} (h : EvsOwnT te tq w base v es) (hg : w.grownBy w' (some x)) (hx : Blk w x t cs) (h1 : t ≠ te) (h2 : t ≠ tq) : EvsOwnT te tq w' base v es :=
  let ⟨xs, ho, hc⟩ := h
  ⟨xs, own_grown ho hg (.inr (Ne.symm (own_ne hx ho h1))), hc.grown hg (fun g e => by injection e with e; subst e; exact ⟨t, cs, hx, h2⟩)⟩
theorem EvsOwnT.below {w w' : World} {base : Nat} {v : Value} {es : List PEv} (h : EvsOwnT te tq w base v es) (hg : w.grownBy w' none) : EvsOwnT te tq w' base v es :=
  let ⟨xs, ho, hc⟩ := h
  ⟨xs, own_grown ho hg (by cases v.ownBlock <;> simp), hc.grown hg (by simp)⟩
end
abbrev EvCells := EvCellsT 79
abbrev EvsOwn := EvsOwnT 37 79

/-- The events from a place on, n being there already. -/
def opAt (S : ByteArray) (p : Nat) : POp := ⟨byteAt S p, byteAt S (p + 3), byteAt S (p + 1), byteAt S (p + 2), sgn8 (byteAt S (p + 4))⟩
def opsAt (S : ByteArray) (p : Nat) : Nat → List POp
  | 0 => []
  | n + 1 => opsAt S p n ++ [opAt S (p + 5 * n)]
def evAt (S : ByteArray) (p : Nat) (kind : Nat) : Option (PEv × Nat) :=
  if kind ≠ 1 then
    if p + 4 ≤ S.size then some (⟨kind, byteAt S p, byteAt S (p + 1), (byteAt S (p + 2) * 256 + byteAt S (p + 3) : Nat), []⟩, p + 4) else none
  else if p + 2 ≤ S.size ∧ p + 2 + 5 * (byteAt S (p + 1) % 33) ≤ S.size then some (⟨1, byteAt S p, 0, 0, opsAt S (p + 2) (byteAt S (p + 1) % 33)⟩, p + 2 + 5 * (byteAt S (p + 1) % 33)) else none
def evsFrom (S : ByteArray) : Nat → Nat → Nat → List PEv
  | 0, _, _ => []
  | fuel + 1, p, n =>
    if n < 400 ∧ p < S.size then
      if byteAt S p % 12 = 0 then evsFrom S fuel (p + 1) n
      else match evAt S (p + 1) (byteAt S p % 12) with
        | none => []
        | some (e, p') => e :: evsFrom S fuel p' (n + 1)
    else []

theorem rOp_yes (S : ByteArray) (p : Nat) (h : p + 5 ≤ S.size) : rOp S ⟨p, false⟩ = (opAt S p, ⟨p + 5, false⟩) := by
  have h1 : ∀ q, q < p + 5 → rByte S ⟨q, false⟩ = (byteAt S q, ⟨q + 1, false⟩) := fun q hq => by unfold rByte; rw [if_pos ⟨rfl, by show q < S.size; omega⟩]
  simp only [rOp, h1 p (by omega), h1 (p + 1) (by omega), h1 (p + 1 + 1) (by omega), h1 (p + 1 + 1 + 1) (by omega), h1 (p + 1 + 1 + 1 + 1) (by omega)]
  rfl
theorem rByte_br (S : ByteArray) (t : St) (h : t.br = true) : (rByte S t).2.br = true := by unfold rByte; rw [if_neg (by simp [h])]
theorem rCount_br (S : ByteArray) (t : St) (h : t.br = true) : (rCount S t).2.br = true := by unfold rCount; rw [if_neg (by simp [h])]
theorem rOp_br (S : ByteArray) (t : St) (h : t.br = true) : (rOp S t).2.br = true := by
  simp only [rOp]
  exact rByte_br _ _ (rByte_br _ _ (rByte_br _ _ (rByte_br _ _ (rByte_br _ _ h))))
theorem rByte_no (S : ByteArray) (p : Nat) (h : S.size ≤ p) : (rByte S ⟨p, false⟩).2.br = true := by unfold rByte; rw [if_neg (by simp; omega)]
theorem rOp_no (S : ByteArray) (p : Nat) (h : S.size < p + 5) : (rOp S ⟨p, false⟩).2.br = true := by
  simp only [rOp]
  have yes : ∀ q, q < S.size → rByte S ⟨q, false⟩ = (byteAt S q, ⟨q + 1, false⟩) := fun q hq => by unfold rByte; rw [if_pos ⟨rfl, hq⟩]
  by_cases h0 : p < S.size
  · rw [yes p h0]; dsimp only
    by_cases h1 : p + 1 < S.size
    · rw [yes _ h1]; dsimp only
      by_cases h2 : p + 1 + 1 < S.size
      · rw [yes _ h2]; dsimp only
        by_cases h3 : p + 1 + 1 + 1 < S.size
        · rw [yes _ h3]; dsimp only
          exact rByte_no _ _ (by omega)
        · exact rByte_br _ _ (rByte_no _ _ (by omega))
      · exact rByte_br _ _ (rByte_br _ _ (rByte_no _ _ (by omega)))
    · exact rByte_br _ _ (rByte_br _ _ (rByte_br _ _ (rByte_no _ _ (by omega))))
  · exact rByte_br _ _ (rByte_br _ _ (rByte_br _ _ (rByte_br _ _ (rByte_no _ _ (by omega)))))
theorem rOpsN_yes (S : ByteArray) (p : Nat) : ∀ n, p + 5 * n ≤ S.size → rOpsN S ⟨p, false⟩ n = (opsAt S p n, ⟨p + 5 * n, false⟩)
  | 0, _ => rfl
  | n + 1, h => by
    simp only [rOpsN, rOpsN_yes S p n (by omega), rOp_yes S (p + 5 * n) (by omega)]
    exact Prod.ext rfl (by show St.mk _ _ = _; congr 1)
theorem rOpsN_br (S : ByteArray) (t : St) (h : t.br = true) : ∀ n, (rOpsN S t n).2.br = true
  | 0 => h
  | n + 1 => by simp only [rOpsN]; exact rOp_br _ _ (rOpsN_br S t h n)
theorem rOpsN_no (S : ByteArray) (p : Nat) : ∀ n, p ≤ S.size → S.size < p + 5 * n → (rOpsN S ⟨p, false⟩ n).2.br = true
  | 0, h0, h => by omega
  | n + 1, h0, h => by
    simp only [rOpsN]
    by_cases h1 : p + 5 * n ≤ S.size
    · rw [rOpsN_yes S p n h1]; dsimp only; exact rOp_no _ _ (by omega)
    · exact rOp_br _ _ (rOpsN_no S p n h0 (by omega))
/-- What is read of an event is what stands there, or the reader is broken. -/
theorem rEvent_spec (S : ByteArray) (p : Nat) (kind : Nat) (hp : p ≤ S.size) :
    match evAt S p kind with
    | some (e, p') => rEvent S ⟨p, false⟩ kind = (e, ⟨p', false⟩) ∧ p' ≤ S.size ∧ p ≤ p'
    | none => (rEvent S ⟨p, false⟩ kind).2.br = true := by
  have yes : ∀ q, q < S.size → rByte S ⟨q, false⟩ = (byteAt S q, ⟨q + 1, false⟩) := fun q hq => by unfold rByte; rw [if_pos ⟨rfl, hq⟩]
  unfold evAt
  by_cases hk : kind = 1
  · subst hk
    rw [if_neg (by simp)]
    by_cases h2 : p + 2 ≤ S.size
    · by_cases h5 : p + 2 + 5 * (byteAt S (p + 1) % 33) ≤ S.size
      · rw [if_pos ⟨h2, h5⟩]
        refine ⟨?_, h5, by omega⟩
        simp only [rEvent, yes p (by omega), yes (p + 1) (by omega)]
        rw [if_neg (by simp), show p + 1 + 1 = p + 2 from rfl, rOpsN_yes S (p + 2) _ h5]
        rfl
      · rw [if_neg (fun h => h5 h.2)]
        simp only [rEvent, yes p (by omega), yes (p + 1) (by omega)]
        rw [if_neg (by simp)]
        exact rOpsN_no S (p + 2) _ h2 (by omega)
    · rw [if_neg (fun h => h2 h.1)]
      simp only [rEvent]
      rw [if_neg (by simp)]
      refine rOpsN_br _ _ ?_ _
      by_cases h0 : p < S.size
      · rw [yes p h0]; exact rByte_no _ _ (by omega)
      · exact rByte_br _ _ (rByte_no _ _ (by omega))
  · rw [if_pos hk]
    by_cases h4 : p + 4 ≤ S.size
    · rw [if_pos h4]
      refine ⟨?_, h4, by omega⟩
      simp only [rEvent, yes p (by omega), yes (p + 1) (by omega)]
      rw [if_pos (by omega)]
      unfold rCount
      rw [if_pos ⟨rfl, by show p + 1 + 1 + 2 ≤ S.size; omega⟩]
    · rw [if_neg h4]
      simp only [rEvent]
      rw [if_pos (by omega)]
      by_cases h0 : p < S.size
      · rw [yes p h0]; dsimp only
        by_cases h1 : p + 1 < S.size
        · rw [yes _ h1]; dsimp only
          unfold rCount
          rw [if_neg (by intro h; have : p + 1 + 1 + 2 ≤ S.size := h.2; omega)]
        · exact rCount_br _ _ (rByte_no _ _ (by omega))
      · exact rCount_br _ _ (rByte_br _ _ (rByte_no _ _ (by omega)))

theorem infoEv : (Try.prog.info? 37).map (fun i => (i.zero, i.size, i.bytes)) = some (some (.agg #[.int .i64 0, .int .i64 0, .int .i64 0, .int .i64 0, .slice none 0 0]), 5, 56) := by kernel_rfl
def evsT (S : ByteArray) (fuel : Nat) (t : St) (n : Nat) : List PEv := if t.br then [] else evsFrom S fuel t.p n
theorem evsT_nil (S : ByteArray) (k : Nat) (t : St) (n : Nat) (h : 400 ≤ n ∨ rLeft S t = 0) : evsT S k t n = [] := by
  unfold evsT
  split
  · rfl
  · rename_i hb
    cases k with
    | zero => rfl
    | succ k =>
      rw [evsFrom, if_neg]
      rintro ⟨h1, h2⟩
      rcases h with h | h
      · omega
      · simp [rLeft, hb] at h; omega
/-- What holds at the head of the loop over events. -/
def EvsLoop (w0 : World) (base b : Nat) (S : ByteArray) (R : List PEv) (k : Nat) (o : Value) (acc : List PEv) (t : St) (wr : World) : Prop :=
  Blk wr base 49 #[.pointer (some ⟨b, 0, none⟩)] ∧ RdAt wr b S t ∧ S.size - t.p < k ∧ acc.length ≤ 400 ∧ acc ++ evsT S k t acc.length = R ∧ EvsOwn wr base o acc ∧ w0.grownBy wr (some b)
/-- The post of the read of all events. -/
def EvsPost (w : World) (b base : Nat) (R : List PEv) (e : Ending) (w' : World) : Prop := ∃ v, e = .returned v ∧ EvsOwn w' base v R ∧ w.grownBy w' (some b)

set_option maxRecDepth 100000 in
set_option maxHeartbeats 3200000 in
theorem events_walk (b : Nat) (S : ByteArray) (t : St) (w : World) (base : Nat) (R : List PEv) (hR : evsT S (S.size + 1) t 0 = R) (hbase : w.heap.size = base) (hS : S.size ≤ 140737488355328) (h : RdAt w b S t) :
    Calls Try.prog 16 #[.agg #[.pointer (some ⟨b, 0, none⟩)]] w (EvsPost w b base R) := by
  obtain ⟨i0, hi, hz0, hz1, hz2⟩ := info_parts infoEv
  have hltb := h.1.lt
  rw [hbase] at hltb
  have HR := As.mk h
  have HRR := As.mk hR
  have HB := As.mk hbase
  clear h hR
  go_enter Try.func16, Try.ntmps16
  go_wp2_with fail
  clear hbase
  go_loopg [3] (S.size + 1) (fun k o wr => ∃ acc t, As (EvsLoop w base b S R k o acc t wr))
  case atStart => exact ⟨[], t, ⟨⟨by rw [← HB.out]; exact Blk.new w _ _, HR.out.alloc _, by omega, by simp, HRR.out, ⟨[], World.ownsRow_nil _ _ _ _, rfl⟩, gr_alloc (gr_refl _ _) _⟩⟩⟩
  case round =>
    clear HR HRR
    obtain ⟨acc, t, HL⟩ := hrel
    obtain ⟨A', c', rfl⟩ := own_shape HL.out.2.2.2.2.2.1.choose_spec.1
    have c1 : wr.cell? ⟨base, 0, none⟩ = some (.pointer (some ⟨b, 0, none⟩)) := HL.out.1.cell 0
    have hl : acc.length ≤ 400 := HL.out.2.2.2.1
    by_cases h1 : acc.length < 400
    · have h1I : ((acc.length : Int)) < 400 := by omega
      by_cases h2 : 0 < rLeft S t
      · have h2I : 0 < ((rLeft S t : Int)) := by omega
        obtain ⟨p, br⟩ := t
        have hbr : br = false := by
          cases br
          · rfl
          · simp [rLeft] at h2
        subst hbr
        have hp : p < S.size := by simp [rLeft] at h2; omega
        have HB1 := As.mk (show rByte S ⟨p, false⟩ = (byteAt S p, ⟨p + 1, false⟩) by unfold rByte; rw [if_pos ⟨rfl, hp⟩])
        have hx := byteAt_lt S p
        have HX := As.mk (rEvent_spec S (p + 1) (byteAt S p % 12) (by omega))
        have HF := As.mk (show gk ≠ 0 ∧ evsT S gk ⟨p, false⟩ acc.length = evsFrom S gk p acc.length from ⟨by have := HL.out.2.2.1; omega, rfl⟩)
        go_wp2_with fail
        refine (left_walk b S _ _ hS HL.out.2.1).mono ?_
        rintro e w1 ⟨rfl, rfl⟩
        clear h2
        go_wp2_with fail
        refine (byte_c HB1.out hS HL.out.2.1).mono ?_
        rintro e w2 ⟨rfl, hr, hg⟩
        cases gk with
        | zero => exact absurd rfl HF.out.1
        | succ k1 =>
        obtain ⟨D1, _, D3, _, D4, ⟨xs, D5, D6⟩, D7⟩ := HL.out
        have D8 := HL.out.2.1
        rw [HF.out.2, evsFrom, if_pos ⟨h1, hp⟩] at D4
        clear HF HB1 HL c1
        generalize byteAt S p = x at *
        have c1 : w2.cell? ⟨base, 0, none⟩ = some (.pointer (some ⟨b, 0, none⟩)) := (D1.grown hg (by simp; omega)).cell 0
        have E1 := As.mk (D1.grown hg (by simp; omega))
        have E3 : As (S.size - p < k1 + 1) := ⟨D3⟩
        have E4 := As.mk D4
        have E5 := As.mk (own_grown D5 hg (.inr (Ne.symm (own_ne D8.1 D5 (by decide)))))
        have E6 := As.mk (EvCellsT.grown hg (fun g e => by injection e with e; subst e; exact ⟨_, _, D8.1, by decide⟩) D6)
        have E7 := As.mk (gr_then D7 hg (.inl rfl))
        have E8 := As.mk hr
        clear D1 D3 D4 D5 D6 D7 D8 hr hg
        by_cases hk : x % 12 = 0
        · have hkI : ((x : Int) % 12 == 0) = true := by rw [beq_iff_eq]; omega
          have E4' := E4.out
          rw [if_pos hk] at E4'
          have E4'' := As.mk E4'
          clear E4 E4' hk
          go_wp2
          go_roundg k1
          case measure => omega
          case rel => exact ⟨acc, ⟨p + 1, false⟩, ⟨E1.out, E8.out, by have := E3.out; dsimp only; omega, hl, E4''.out, ⟨xs, E5.out, E6.out⟩, E7.out⟩⟩
        · have hkI : ((x : Int) % 12 == 0) = false := by rw [beq_eq_false_iff_ne]; omega
          have E4' := E4.out
          rw [if_neg hk] at E4'
          have E4'' := As.mk E4'
          clear E4 E4' hk
          have hbw : base ≤ w2.heap.size := by have := E7.out.size; have := HB.out; omega
          have hlt2 := E1.out.lt
          go_wp2_with fail
          cases hev : evAt S (p + 1) (x % 12) with
          | none =>
            have HX' := HX.out
            rw [hev] at HX'
            have HX'' := As.mk HX'
            have E4' := E4''.out
            rw [hev] at E4'
            have E9 := As.mk E4'
            clear HX HX' E4' E4'' hev
            obtain ⟨q, hq⟩ : ∃ q, rEvent S ⟨p + 1, false⟩ ((x : Int) % 12) = q := ⟨_, rfl⟩
            have HQ : As (q.2.br = true) := ⟨by rw [← hq]; have := HX''.out; rwa [show ((x % 12 : Nat) : Int) = (x : Int) % 12 by omega] at this⟩
            obtain ⟨ev, t'⟩ := q
            refine (event_c hq rfl hS E8.out).mono ?_
            rintro e w3 ⟨u, rfl, hr, hown, hg⟩
            have HE : As (rEnd S t' = 2) := ⟨by have := HQ.out; dsimp only at this; simp [rEnd, this]⟩
            have F5 := As.mk (own_grown E5.out hg (.inr (Ne.symm (own_ne E8.out.1 E5.out (by decide)))))
            have F6 := As.mk (EvCellsT.grown hg (fun g e => by injection e with e; subst e; exact ⟨_, _, E8.out.1, by decide⟩) E6.out)
            have F7 := As.mk (gr_then E7.out hg (.inl rfl))
            have F8 := As.mk hr
            have F1 := E1.out.grown hg (by simp; omega)
            have c1' : w3.cell? ⟨base, 0, none⟩ = some (.pointer (some ⟨b, 0, none⟩)) := F1.cell 0
            have hlt3 : base < w3.heap.size := F1.lt
            obtain ⟨A2, c2, rfl⟩ := own_shape hown
            clear c1 E1 E5 E6 E7 E8 hr hg F1 hq HX'' hown
            go_wp2_with fail
            refine (end_walk b S _ _ hS (F8.out.alloc _)).mono ?_
            rintro e w4 ⟨rfl, rfl⟩
            rw [HE.out]
            go_wp2
            go_ret
            exact ⟨_, rfl, by rw [← E9.out, List.append_nil]; exact ⟨xs, F5.out.alloc _, F6.out.grown (World.grownBy_alloc _ _ none) (by simp)⟩, gr_alloc F7.out _⟩
          | some q =>
            obtain ⟨ev, p'⟩ := q
            have HX' := HX.out
            rw [hev] at HX'
            have HX'' := As.mk HX'
            have E4' := E4''.out
            rw [hev] at E4'
            have E9 := As.mk E4'
            clear HX HX' E4' E4'' hev
            have HQ : As (rEvent S ⟨p + 1, false⟩ ((x : Int) % 12) = (ev, ⟨p', false⟩)) := ⟨by have := HX''.out.1; rwa [show ((x % 12 : Nat) : Int) = (x : Int) % 12 by omega] at this⟩
            refine (event_c HQ.out rfl hS E8.out).mono ?_
            rintro e w3 ⟨u, rfl, hr, hown, hg⟩
            have HE : As ((rEnd S ⟨p', false⟩ == 2) = false) := ⟨by simp [rEnd]; split <;> simp⟩
            have F5 := As.mk (own_grown E5.out hg (.inr (Ne.symm (own_ne E8.out.1 E5.out (by decide)))))
            have F6 := As.mk (EvCellsT.grown hg (fun g e => by injection e with e; subst e; exact ⟨_, _, E8.out.1, by decide⟩) E6.out)
            have F7 := As.mk (gr_then E7.out hg (.inl rfl))
            have F8 := As.mk hr
            have F1 := As.mk (E1.out.grown hg (by simp; omega))
            have c1' : w3.cell? ⟨base, 0, none⟩ = some (.pointer (some ⟨b, 0, none⟩)) := F1.out.cell 0
            have hlt3 : base < w3.heap.size := F1.out.lt
            have F9 := As.mk (own_mono hown hbw)
            obtain ⟨A2, c2, rfl⟩ := own_shape hown
            clear c1 E1 E5 E6 E7 E8 hr hg HQ hown
            go_wp2_with fail
            refine (end_walk b S _ _ hS (F8.out.alloc _)).mono ?_
            rintro e w4 ⟨rfl, rfl⟩
            have HE' := HE.out
            generalize rEnd S ⟨p', false⟩ = en at *
            clear HE
            go_wp2_with (at_builtin; refine wpList_append_lies _ (by rfl) _ _ _ (by rfl) base 37 i0 _ 5 56 Try.underlying25 hi hz0 hz1 hz2 rfl (by omega) _ acc.length xs (by rfl) ((F5.out.alloc _).alloc _) ⟨w3.heap.size + 1, 0, none⟩ 1 1 [.int .i64 ev.k, .int .i64 ev.a, .int .i64 ev.b, .int .i64 ev.n, .slice A2 ev.ops.length c2] (by rfl) (by rfl) (World.news_of_block (cs := #[.int .i64 ev.k, .int .i64 ev.a, .int .i64 ev.b, .int .i64 ev.n, .slice A2 ev.ops.length c2]) (t := 37) (fr := (0, 0)) (heap_alloc2_new w3 _ _)) (by simp [Value.oneCell']) (by omega) (by simp only [maxLen]; omega) (by omega) (by simp; omega) (w3.heap.size + 2) (by simp) ?_; intro gg cap w5 hown1 hgrow hat hlt)
            go_roundg k1
            case measure => omega
            case rel => exact ⟨acc ++ [ev], ⟨p', false⟩, ⟨((F1.out.alloc _).alloc _).grown hgrow (own_ne F1.out F5.out (by decide)),
              ((F8.out.alloc _).alloc _).grown hgrow (own_ne F8.out.1 F5.out (by decide)),
              by have := E3.out; have := HX''.out.2; dsimp only; omega, by simp; omega, by
                have h9 : acc ++ ev :: evsFrom S k1 p' (acc.length + 1) = R := E9.out
                simp only [List.length_append, List.length_singleton, List.append_assoc]
                exact h9,
              ⟨xs ++ [.int .i64 ev.k, .int .i64 ev.a, .int .i64 ev.b, .int .i64 ev.n, .slice A2 ev.ops.length c2], by simpa using hown1, EvCellsT.snoc (own_grown ((F9.out.alloc _).alloc _) hgrow (own_types F9.out F5.out (by decide)))
                ((((F6.out.grown (World.grownBy_alloc _ _ none) (by simp)).grown (World.grownBy_alloc _ _ none) (by simp))).grown hgrow (own_row_type ((F5.out.alloc (.cells #[.int .i64 ev.k, .int .i64 ev.a, .int .i64 ev.b, .int .i64 ev.n, .slice A2 ev.ops.length c2] 37)).alloc (.cells #[.int .i64 ev.k, .int .i64 ev.a, .int .i64 ev.b, .int .i64 ev.n, .slice A2 ev.ops.length c2] 37)) (by decide)))⟩,
              gr_then (gr_alloc (gr_alloc F7.out _) _) hgrow (.inr (.inr (fun k hk => by have := F5.out.lt k hk; have := HB.out; omega)))⟩⟩
      · have h2I : ¬ 0 < ((rLeft S t : Int)) := by omega
        have HN := As.mk (evsT_nil S gk t acc.length (.inr (by omega)))
        clear h2
        go_wp2_with fail
        refine (left_walk b S _ _ hS HL.out.2.1).mono ?_
        rintro e w1 ⟨rfl, rfl⟩
        go_wp2
        go_ret
        obtain ⟨D1, _, D3, _, D4, D5, D7⟩ := HL.out
        rw [HN.out, List.append_nil] at D4
        exact ⟨_, rfl, by rw [← D4]; exact D5, D7⟩
    · have h1I : ¬ ((acc.length : Int)) < 400 := by omega
      have HN := As.mk (evsT_nil S gk t acc.length (.inl (by omega)))
      clear h1
      go_wp2
      go_ret
      obtain ⟨D1, _, D3, _, D4, D5, D7⟩ := HL.out
      rw [HN.out, List.append_nil] at D4
      exact ⟨_, rfl, by rw [← D4]; exact D5, D7⟩
end Go.Proofs.Ytmmgmdfhdhnmaaa
