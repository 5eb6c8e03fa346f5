/- The walk of tell's Calls. -/
import Derived.Test.YtihibljjbdjeoaaDoorLn
import Derived.Test.YtihibljjbdjeoaaDoorIt
import Derived.Deep.MidRow
import Derived.Deep.WholeRow
namespace Go.Proofs.YtihibljjbdjeoaaDoor
open Go.RowKit
set_option linter.unusedVariables false

/-- A call: its name, program's slice, step; done, answer (its name, yes, why, registers), when. -/
structure PCall where
  n : Int
  e : Int
  s : Int
  pr : Value
  at_ : Int
  done : Bool
  n2 : Int
  e2 : Int
  s2 : Int
  yes : Bool
  why : Int
  rs : List Int
  when_ : Int
def PCall.ok (x : PCall) : Prop := In64 x.n ∧ In64 x.e ∧ In64 x.s ∧ In64 x.at_ ∧ In64 x.why ∧ In64 x.when_ ∧ x.rs.length = 8 ∧ ∃ A n c, x.pr = .slice A n c
def callCells (x : PCall) : List Value := [.int .i64 x.n, .int .i64 x.e, .int .i64 x.s, x.pr, .int .i64 x.at_, .bool x.done, .int .i64 x.n2, .int .i64 x.e2, .int .i64 x.s2, .bool x.yes, .int .i64 x.why,
  .int .i64 (x.rs.getD 0 0), .int .i64 (x.rs.getD 1 0), .int .i64 (x.rs.getD 2 0), .int .i64 (x.rs.getD 3 0), .int .i64 (x.rs.getD 4 0), .int .i64 (x.rs.getD 5 0), .int .i64 (x.rs.getD 6 0), .int .i64 (x.rs.getD 7 0), .int .i64 x.when_]
def CallE (w : World) (x : PCall) (cs : List Value) : Prop := cs = callCells x
theorem CallE.any {w w' : World} (x : PCall) (cs : List Value) (h : CallE w x cs) : CallE w' x cs := h
def callHead (x : PCall) : List Itm := [.s (nameOf x.n x.e x.s), .s ⟨#[32, 97, 116, 32]⟩, .n x.at_, .s ⟨#[58, 32]⟩]
def tailOpen : List Itm := [.s ⟨#[111, 112, 101, 110]⟩]
def tailYes (x : PCall) : List Itm := [.s ⟨#[99, 111, 109, 109, 105, 116, 116, 101, 100, 32, 97, 116, 32]⟩, .n x.when_]
def tailNo (x : PCall) : List Itm := [.s ⟨#[97, 98, 111, 114, 116, 101, 100, 32]⟩, .n x.why, .s ⟨#[32, 97, 116, 32]⟩, .n x.when_]
def callTail (x : PCall) : List Itm := if x.done then (if x.yes then tailYes x else tailNo x) else tailOpen
def callBytes (x : PCall) : List UInt8 := itmBytes (callHead x) ++ (itmBytes (callTail x) ++ [10])
def callsB (l : List PCall) : List UInt8 := l.flatMap callBytes
def callsS (l : List PCall) : ByteArray := ⟨(callsB l).toArray⟩
theorem callsB_take {l : List PCall} {k : Nat} (h : k < l.length) : callsB (l.take (k + 1)) = callsB (l.take k) ++ callBytes (l[k]'h) := by
  unfold callsB
  rw [List.take_succ_eq_append_getElem h, List.flatMap_append]
  simp
theorem itm_s {b : ByteArray} (h : b.size ≤ 1000) : (Itm.s b).ok := by show b.size ≤ _; omega
theorem callHead_ok {x : PCall} (h : x.ok) : ∀ y ∈ callHead x, y.ok := by
  intro y hy
  simp only [callHead, List.mem_cons, List.not_mem_nil, or_false] at hy
  rcases hy with rfl | rfl | rfl | rfl
  · exact itm_s (by have := nameOf_size _ _ _ h.1 h.2.1 h.2.2.1; omega)
  · exact itm_s (by decide)
  · exact h.2.2.2.1
  · exact itm_s (by decide)
theorem callTail_ok {x : PCall} (h : x.ok) : (∀ y ∈ tailOpen, y.ok) ∧ (∀ y ∈ tailYes x, y.ok) ∧ (∀ y ∈ tailNo x, y.ok) := by
  refine ⟨?_, ?_, ?_⟩ <;> intro y hy
  · simp only [tailOpen, List.mem_cons, List.not_mem_nil, or_false] at hy
    rw [hy]; exact itm_s (by decide)
  · simp only [tailYes, List.mem_cons, List.not_mem_nil, or_false] at hy
    rcases hy with rfl | rfl
    · exact itm_s (by decide)
    · exact h.2.2.2.2.2.1
  · simp only [tailNo, List.mem_cons, List.not_mem_nil, or_false] at hy
    rcases hy with rfl | rfl | rfl | rfl
    · exact itm_s (by decide)
    · exact h.2.2.2.2.1
    · exact itm_s (by decide)
    · exact h.2.2.2.2.2.1
theorem callBytes_len (x : PCall) (h : x.ok) : (callBytes x).length ≤ 200 := by
  have a := nameOf_size _ _ _ h.1 h.2.1 h.2.2.1
  have a' : (nameOf x.n x.e x.s).data.toList.length ≤ 65 := by rw [Array.length_toList]; exact a
  have b := num_len _ h.2.2.2.1
  have c := num_len _ h.2.2.2.2.1
  have d := num_len _ h.2.2.2.2.2.1
  unfold callBytes callTail
  split
  · split
    · simp [itmBytes, callHead, tailYes, Itm.text, num] at *; omega
    · simp [itmBytes, callHead, tailNo, Itm.text, num] at *; omega
  · simp [itmBytes, callHead, tailOpen, Itm.text, num] at *; omega
theorem callsB_len (l : List PCall) (h : ∀ x ∈ l, x.ok) : (callsB l).length ≤ 200 * l.length := by
  induction l with
  | nil => simp [callsB]
  | cons x l ih =>
    have h1 := ih (fun y hy => h y (List.mem_cons_of_mem _ hy))
    have h2 := callBytes_len x (h x (List.mem_cons_self ..))
    unfold callsB at *
    rw [List.flatMap_cons, List.length_append]
    simp only [List.length_cons]
    omega
theorem callBytes_ne (x : PCall) : callBytes x ≠ [] := by unfold callBytes; simp
/-- A whole value into the block that was made last. -/
theorem wpList_store_new {P : Program} {ops : Array Oper} {rest : List Oper} {op : Oper} {a : Act} {Q : Exit → Act → World → Prop} (w : World) (hgd : op.guard = none) (ty : TypeId) (x y : Operand) (ho : op.op = .store ty x y)
    (c c' : Array Value) (hx : a.eval x = .pointer (some ⟨w.heap.size, 0, none⟩)) (hy : a.eval y = .agg c') (hi : (P.info? ty).map (·.size) = some c'.size) (hc : c.size = c'.size) (h1 : c'.all (·.oneCell') = true)
    (h : wpList P ops Q rest (a.put op.dst undef) (w.alloc (.cells c' ty))) : wpList P ops Q (op :: rest) a (w.alloc (.cells c ty)) :=
  wpList_plain hgd fun _ hK => by
    unfold Oper.wp execOp
    simp only [ho, hx, hy, Sem.run_bind, Sem.run_pure, Result.andThen_ok, run_storeAt_new w ty c c' hi hc h1]
    exact hK _ _ h
theorem call_one {x : PCall} (h : x.ok) : ∀ v ∈ callCells x, v.oneCell' = true := by
  obtain ⟨A, n, c, hp⟩ := h.2.2.2.2.2.2.2
  intro v hv
  simp only [callCells, List.mem_cons, List.not_mem_nil, or_false, hp] at hv
  rcases hv with rfl | rfl | rfl | rfl | rfl | rfl | rfl | rfl | rfl | rfl | rfl | rfl | rfl | rfl | rfl | rfl | rfl | rfl | rfl | rfl <;> rfl
theorem szCall (x : PCall) : (Tryd.prog.info? 37).map (·.size) = some (callCells x).length := (show _ = some 20 by kernel_rfl)
theorem szCall' (x : PCall) : (Tryd.prog.info? 37).map (·.size) = some (callCells x).toArray.size := (show _ = some 20 by kernel_rfl)
set_option maxRecDepth 100000 in
set_option maxHeartbeats 6400000 in
theorem calls_c (w : World) (ht : Tab w) (u : Value) (l : List PCall) (hu : Arr CallE 20 w u l) (hok : ∀ x ∈ l, x.ok) (hl : l.length ≤ 1000) :
    Calls Tryd.prog 16 #[u] w fun e' w' => e' = .returned (.string (callsS l)) ∧ w.grownBy w' none := by
  obtain ⟨A, c, rfl⟩ := hu.len
  have HU := As.mk hu
  have HOK := As.mk hok
  have HT := As.mk ht
  clear hu ht hok
  go_enter Tryd.func16, Tryd.ntmps16
  go_wp2_with fail
  have P0 := As.mk (pg_new (w := w) (Nat.le_refl _))
  generalize hb : w.heap.size = b at *
  have HB := As.mk hb
  clear hb
  go_loopw [8] (fun i wr => ∃ k : Nat, k ≤ l.length ∧ i = .int .i64 k ∧ As (∃ vr, PgW wr w.heap.size b vr (callsB (l.take k)) ∧ (k = 0 → vr = .slice none 0 0) ∧ w.grownBy wr none)) (fun i _ => l.length - (intOf i).toNat)
  case atStart => exact ⟨0, Nat.zero_le _, rfl, ⟨_, by rw [HB.out]; simpa [callsB] using P0.out, fun _ => rfl, gr_alloc (gr_refl _ _) _⟩⟩
  case round =>
    obtain ⟨k, hk, rfl, HL⟩ := hrel
    by_cases hlt : k < l.length
    · have hltI : (k : Int) < (l.length : Int) := by omega
      have hk0 : (0 : Int) ≤ (k : Int) := by omega
      obtain ⟨bb, o, cs, rfl, hE, hcs, hcell⟩ := HU.out.at_ k l[k] (List.getElem?_eq_getElem hlt)
      obtain rfl := hE
      obtain ⟨vr, hw, hv0, hgr⟩ := HL.out
      have HR := As.mk (show wr.rangeAt bb (o + k * 20) (callCells (l[k]'hlt)) from fun i u hu => hgr.cell (hcell i u hu) (by simp))
      have HTK := As.mk (callsB_take hlt)
      have HO := As.mk (HOK.out _ (List.getElem_mem hlt))
      have HZ := As.mk (callsB_len (l.take k) (fun x hx => HOK.out x (List.mem_of_mem_take hx)))
      have HW := As.mk (And.intro hw hgr)
      clear hw hgr HL hv0 hcell hcs P0
      generalize l[k]'hlt = x at *
      have H1 := As.mk (all_oneCell_toArray (call_one HO.out))
      have HC20 : (callCells x).toArray.size = 20 := rfl
      go_wp2_with (first
        | (refine wpList_load_mid rfl 37 _ rfl bb (o + k * 20) rfl (callCells x) _ HR.out Tryd.underlying37 rfl (szCall x) ?_)
        | (refine wpList_store_new wr rfl 37 _ _ rfl _ (callCells x).toArray rfl rfl (szCall' x) rfl H1.out ?_))
      have K0 := Blk.new wr 37 (callCells x).toArray
      have K := As.mk K0
      have PG := As.mk (HW.out.1.alloc (.cells (callCells x).toArray 37))
      have GG := As.mk (gr_alloc HW.out.2 (.cells (callCells x).toArray 37))
      have hnb : wr.heap.size ≠ b := by have := HW.out.1.lt; omega
      have hnv : vr.ownBlock ≠ some wr.heap.size := HW.out.1.new_ne
      have HN := As.mk (And.intro hnb hnv)
      have hsz : wr.heap.size < (wr.alloc (.cells (callCells x).toArray 37)).heap.size := by simp
      clear hnb hnv HW K0 HR
      generalize wr.alloc (.cells (callCells x).toArray 37) = W at *
      generalize wr.heap.size = gx at *
      go_region_held3 (fun w' => (w'.cell? ⟨gx, 0, none⟩ = some (.int .i64 x.n) ∧ w'.cell? ⟨gx, 1, none⟩ = some (.int .i64 x.e) ∧ w'.cell? ⟨gx, 2, none⟩ = some (.int .i64 x.s)) ∧ w'.cell? ⟨gx, 4, none⟩ = some (.int .i64 x.at_))
        (first | exact ⟨⟨K.out.cell 0, K.out.cell 1, K.out.cell 2⟩, K.out.cell 4⟩ | exact ⟨⟨(K.out.alloc _).cell 0, (K.out.alloc _).cell 1, (K.out.alloc _).cell 2⟩, (K.out.alloc _).cell 4⟩ | go_keep)
        (first
        | (go_at_call 11; refine (name_c x.n x.e x.s HO.out.1 HO.out.2.1 HO.out.2.2.1 _ (HT.out.gr (gr_drew GG.out))).mono ?_; rintro e0 w1 ⟨rfl, hg⟩
           have nK := As.mk (K.out.drew.grown hg (by simp)); have nP := As.mk (PG.out.gr0 (gr_then (gr_drew (gr_refl W none)) hg (.inl rfl))); have nG := As.mk (gr_then (gr_drew GG.out) hg (.inl rfl)); clear K PG GG; have K := nK; have PG := nP; have GG := nG; clear nK nP nG; clear hg)
        | (go_at_call 34; refine (put_c (g := w1.heap.size) HT.out (gr_alloc GG.out _) (PG.out.alloc _) (callHead x) (Blk.new_at _ _ _ rfl) (callHead_ok HO.out) ?hz).mono ?_; (case hz => have := HZ.out; rw [List.length_take] at this; simp only [callHead, List.length_cons, List.length_nil]; omega); rintro e0 w2 ⟨rfl, v2, p2, g2⟩
           have nK := As.mk ((K.out.alloc _).wr g2 HN.out.1 HN.out.2); have G2 := As.mk (g2.gr (gr_alloc GG.out _) PG.out.low (fun q hq => (PG.out.row.lt q hq).1)); have P2 := As.mk p2; have HN2 := As.mk (And.intro HN.out.1 (g2.old gx (by have := K.out.lt; rw [World.size_alloc]; omega) HN.out.1 HN.out.2).2); clear K PG GG HN; have K := nK; clear nK; clear p2 g2))
      simp only [Exit.then]
      have e5 : w2.cell? ⟨gx, 5, none⟩ = some (.bool x.done) := K.out.cell 5
      have e9 : w2.cell? ⟨gx, 9, none⟩ = some (.bool x.yes) := K.out.cell 9
      have e10 : w2.cell? ⟨gx, 10, none⟩ = some (.int .i64 x.why) := K.out.cell 10
      have e19 : w2.cell? ⟨gx, 19, none⟩ = some (.int .i64 x.when_) := K.out.cell 19
      clear K
      have HB2 := As.mk (show (callsB (l.take k) ++ itmBytes (callHead x)).length ≤ 500000000 by
        have h1 := HZ.out
        rw [List.length_take] at h1
        have h2 := itmBytes_len (callHead x) (callHead_ok HO.out)
        simp only [callHead, List.length_cons, List.length_nil] at h2
        rw [List.length_append]
        simp only [callHead]
        omega)
      cases hd : x.done
      · rw [hd] at e5
        go_wp2_with fail
        refine (line_c (g := w2.heap.size) HT.out (gr_alloc G2.out _) (P2.out.alloc _) tailOpen (Blk.new_at _ _ _ rfl) (callTail_ok HO.out).1 (by have := HB2.out; simp only [tailOpen, List.length_cons, List.length_nil]; omega)).mono ?_
        rintro e0 w3 ⟨rfl, v3, p3, g3⟩
        have P3 := As.mk (And.intro p3 (g3.gr (gr_alloc G2.out _) P2.out.low (fun q hq => (P2.out.row.lt q hq).1)))
        clear p3 g3 P2 G2 e5 e9 e10 e19
        go_wp2_with fail
        go_roundw
        case measure => simp [intOf]; omega
        case rel =>
          refine ⟨k + 1, by omega, by go_num, ⟨v3, ?_, fun h => by omega, P3.out.2⟩⟩
          have h3 := P3.out.1
          rw [HTK.out, callBytes, callTail, hd, if_neg (by simp), ← List.append_assoc]
          exact h3
      · rw [hd] at e5
        cases hy : x.yes
        · rw [hy] at e9
          go_wp2_with fail
          refine (line_c (g := w2.heap.size) HT.out (gr_alloc G2.out _) (P2.out.alloc _) (tailNo x) (Blk.new_at _ _ _ rfl) (callTail_ok HO.out).2.2 (by have := HB2.out; simp only [tailNo, List.length_cons, List.length_nil]; omega)).mono ?_
          rintro e0 w3 ⟨rfl, v3, p3, g3⟩
          have P3 := As.mk (And.intro p3 (g3.gr (gr_alloc G2.out _) P2.out.low (fun q hq => (P2.out.row.lt q hq).1)))
          clear p3 g3 P2 G2 e5 e9 e10 e19
          go_wp2_with fail
          go_roundw
          case measure => simp [intOf]; omega
          case rel =>
            refine ⟨k + 1, by omega, by go_num, ⟨v3, ?_, fun h => by omega, P3.out.2⟩⟩
            have h3 := P3.out.1
            rw [HTK.out, callBytes, callTail, hd, if_pos rfl, hy, if_neg (by simp), ← List.append_assoc]
            exact h3
        · rw [hy] at e9
          go_wp2_with fail
          refine (line_c (g := w2.heap.size) HT.out (gr_alloc G2.out _) (P2.out.alloc _) (tailYes x) (Blk.new_at _ _ _ rfl) (callTail_ok HO.out).2.1 (by have := HB2.out; simp only [tailYes, List.length_cons, List.length_nil]; omega)).mono ?_
          rintro e0 w3 ⟨rfl, v3, p3, g3⟩
          have P3 := As.mk (And.intro p3 (g3.gr (gr_alloc G2.out _) P2.out.low (fun q hq => (P2.out.row.lt q hq).1)))
          clear p3 g3 P2 G2 e5 e9 e10 e19
          go_wp2_with fail
          go_roundw
          case measure => simp [intOf]; omega
          case rel =>
            refine ⟨k + 1, by omega, by go_num, ⟨v3, ?_, fun h => by omega, P3.out.2⟩⟩
            have h3 := P3.out.1
            rw [HTK.out, callBytes, callTail, hd, if_pos rfl, hy, if_pos rfl, ← List.append_assoc]
            exact h3
    · obtain rfl : k = l.length := by omega
      have HX := As.mk HL.out
      clear HL
      obtain ⟨vr, hw, hv0, hgr⟩ := HX.out
      rw [List.take_length] at hw
      by_cases h0 : l = []
      · subst h0
        obtain rfl := hv0 rfl
        have HW := As.mk (And.intro hw hgr)
        clear hw hgr hv0 HX
        go_wp2_with (go_at_call 35; refine (bs0_c headsP HW.out.1).mono ?_; rintro e w2 ⟨rfl, g2⟩)
        go_ret
        exact ⟨rfl, gr_then HW.out.2 g2 (.inl rfl)⟩
      · have HW := As.mk (And.intro hw hgr)
        have hne : callsB l ≠ [] := by
          cases l with
          | nil => exact absurd rfl h0
          | cons x l =>
            unfold callsB
            rw [List.flatMap_cons]
            intro h
            exact callBytes_ne x (List.append_eq_nil_iff.1 h).1
        clear hw hgr hv0 HX h0
        go_wp2_with (go_at_call 35; refine (bs_c headsP HW.out.1 hne).mono ?_; rintro e w2 ⟨rfl, g2⟩)
        go_ret
        exact ⟨rfl, gr_then HW.out.2 g2 (.inr (.inr fun k hk => (HW.out.1.row.lt k hk).1))⟩
end Go.Proofs.YtihibljjbdjeoaaDoor
