/- The walks of tell's Items, and of the document's. -/
import Derived.Test.YtihibljjbdjeoaaDoorNm
namespace Go.Proofs.YtihibljjbdjeoaaDoor
open Go.RowKit
set_option linter.unusedVariables false

structure PIt where
  c : Int
  v : Int
  a : Int
  wr : Bool
  nw : Int
def PIt.ok (x : PIt) : Prop := In64 x.c ∧ In64 x.v ∧ In64 x.a ∧ In64 x.nw
def ItE (w : World) (x : PIt) (cs : List Value) : Prop := cs = [.int .i64 x.c, .int .i64 x.v, .int .i64 x.a, .bool x.wr, .int .i64 x.nw]
theorem ItE.any {w w' : World} (x : PIt) (cs : List Value) (h : ItE w x cs) : ItE w' x cs := h
def itHead (x : PIt) : List Itm := [.s ⟨#[32, 99]⟩, .n x.c, .s ⟨#[64]⟩, .n x.v, .s ⟨#[61]⟩, .n x.a]
def itTail (x : PIt) : List Itm := [.s ⟨#[62]⟩, .n x.nw]
def itBytes (x : PIt) : List UInt8 := itmBytes (itHead x) ++ if x.wr then itmBytes (itTail x) else []
def itemsB (l : List PIt) : List UInt8 := l.flatMap itBytes
def itemsS (l : List PIt) : ByteArray := ⟨(itemsB l).toArray⟩
theorem itemsB_take {l : List PIt} {k : Nat} (h : k < l.length) : itemsB (l.take (k + 1)) = itemsB (l.take k) ++ itBytes (l[k]'h) := by
  unfold itemsB
  rw [List.take_succ_eq_append_getElem h, List.flatMap_append]
  simp
theorem itHead_ok {x : PIt} (h : x.ok) : ∀ y ∈ itHead x, y.ok := by
  intro y hy
  simp only [itHead, List.mem_cons, List.not_mem_nil, or_false] at hy
  rcases hy with rfl | rfl | rfl | rfl | rfl | rfl
  · show (2 : Nat) ≤ _; omega
  · exact h.1
  · show (1 : Nat) ≤ _; omega
  · exact h.2.1
  · show (1 : Nat) ≤ _; omega
  · exact h.2.2.1
theorem itTail_ok {x : PIt} (h : x.ok) : ∀ y ∈ itTail x, y.ok := by
  intro y hy
  simp only [itTail, List.mem_cons, List.not_mem_nil, or_false] at hy
  rcases hy with rfl | rfl
  · show (1 : Nat) ≤ _; omega
  · exact h.2.2.2
theorem num_len (n : Int) (h : In64 n) : (Lib.itoa n).length ≤ 21 := Lib.itoa_length_le n h.1 h.2
theorem itBytes_eq (x : PIt) : itBytes x = [32, 99] ++ Lib.itoa x.c ++ [64] ++ Lib.itoa x.v ++ [61] ++ Lib.itoa x.a ++ if x.wr then 62 :: Lib.itoa x.nw else [] := by
  unfold itBytes
  cases x.wr <;> simp [itmBytes, itHead, itTail, Itm.text, num]
theorem itBytes_len (x : PIt) (h : x.ok) : (itBytes x).length ≤ 100 := by
  have h1 := num_len _ h.1
  have h2 := num_len _ h.2.1
  have h3 := num_len _ h.2.2.1
  have h4 := num_len _ h.2.2.2
  rw [itBytes_eq]
  cases x.wr <;> simp <;> omega
theorem itemsB_len (l : List PIt) (h : ∀ x ∈ l, x.ok) : (itemsB l).length ≤ 100 * l.length := by
  induction l with
  | nil => simp [itemsB]
  | cons x l ih =>
    have h1 := ih (fun y hy => h y (List.mem_cons_of_mem _ hy))
    have h2 := itBytes_len x (h x (List.mem_cons_self ..))
    unfold itemsB at *
    rw [List.flatMap_cons, List.length_append]
    simp only [List.length_cons]
    omega
theorem itBytes_ne (x : PIt) : itBytes x ≠ [] := by rw [itBytes_eq]; simp
set_option maxRecDepth 100000 in
set_option maxHeartbeats 1000000 in
/-- (*strings.Builder).String, where nothing was written. -/
theorem bs0_c {w : World} {B b : Nat} {T : TypeId} {ex : List Value} (H : Heads T ex.length) (h : WrAt w B b T ex (.slice none 0 0) []) :
    Calls Tryd.prog 35 #[.pointer (some ⟨b, 0, none⟩)] w fun e w' => e = .returned (.string ⟨#[]⟩) ∧ w.grownBy w' none := by
  obtain ⟨hlow, hbase, ⟨p, hp, hb⟩, hr⟩ := h
  have c1 : w.cell? ⟨b, 1, none⟩ = some (.slice none 0 0) := hb.cell 1
  have c1d : w.drew.cell? ⟨b, 1, none⟩ = some (.slice none 0 0) := c1
  have hUS : (Builtin.unsafeString_ #[111, 3] 9 #[.pointer none, .int .i64 0]).run Tryd.prog w.drew = .ok (.string .empty) w.drew := Lib.run_unsafeString_none w.drew _ _ _ none
  have hSD : (Builtin.unsafeSliceData_ #[71] 111 #[.slice none 0 0]).run Tryd.prog w.drew = .ok (.pointer none) w.drew := Lib.run_unsafeSliceData_nil _ _ _ _ _
  have G : As (w.grownBy w.drew none) := ⟨gr_drew (gr_refl w _)⟩
  clear hr hb hp
  go_enter Tryd.func35, Tryd.ntmps35
  go_wp2
  go_region
  all_goals (go_wp2; go_ret; exact ⟨rfl, G.out⟩)
set_option maxRecDepth 100000 in
set_option maxHeartbeats 6400000 in
theorem items_c (w : World) (ht : Tab w) (u : Value) (l : List PIt) (hu : Arr ItE 5 w u l) (hok : ∀ x ∈ l, x.ok) (hl : l.length ≤ 1000) :
    Calls Tryd.prog 13 #[u] w fun e' w' => e' = .returned (.string (itemsS l)) ∧ w.grownBy w' none := by
  obtain ⟨A, c, rfl⟩ := hu.len
  have HU := As.mk hu
  have HOK := As.mk hok
  have HT := As.mk ht
  clear hu ht hok
  go_enter Tryd.func13, Tryd.ntmps13
  go_wp2_with fail
  have P0 := As.mk (pg_new (w := w) (Nat.le_refl _))
  generalize hb : w.heap.size = b at *
  have HB := As.mk hb
  clear hb
  go_loopw [8] (fun i wr => ∃ k : Nat, k ≤ l.length ∧ i = .int .i64 k ∧ As (∃ vr, PgW wr w.heap.size b vr (itemsB (l.take k)) ∧ (k = 0 → vr = .slice none 0 0) ∧ w.grownBy wr none)) (fun i _ => l.length - (intOf i).toNat)
  case atStart => exact ⟨0, Nat.zero_le _, rfl, ⟨_, by rw [HB.out]; simpa [itemsB] using P0.out, fun _ => rfl, gr_alloc (gr_refl _ _) _⟩⟩
  case round =>
    obtain ⟨k, hk, rfl, HL⟩ := hrel
    by_cases hlt : k < l.length
    · have hltI : (k : Int) < (l.length : Int) := by omega
      have hk0 : (0 : Int) ≤ (k : Int) := by omega
      obtain ⟨bb, o, cs, rfl, hE, hcs, hcell⟩ := HU.out.at_ k l[k] (List.getElem?_eq_getElem hlt)
      obtain rfl := hE
      obtain ⟨vr, hw, hv0, hgr⟩ := HL.out
      have c0 : wr.cell? ⟨bb, o + k * 5, none⟩ = _ := hgr.cell (hcell 0 _ rfl) (by simp)
      have c1 := hgr.cell (hcell 1 _ rfl) (by simp)
      have c2 := hgr.cell (hcell 2 _ rfl) (by simp)
      have c3 := hgr.cell (hcell 3 _ rfl) (by simp)
      have c4 := hgr.cell (hcell 4 _ rfl) (by simp)
      have HTK := As.mk (itemsB_take hlt)
      have HO := As.mk (HOK.out _ (List.getElem_mem hlt))
      have HZ := As.mk (itemsB_len (l.take k) (fun x hx => HOK.out x (List.mem_of_mem_take hx)))
      have HW := As.mk (And.intro hw hgr)
      clear hw hgr HL hv0 hcell hcs P0
      generalize l[k]'hlt = x at *
      go_wp2_with fail
      have BX0 := (Blk.new wr 69 #[.int .i64 x.c, .int .i64 x.v, .int .i64 x.a, .bool x.wr, .int .i64 x.nw])
      have BX := BX0.alloc (.cells #[.iface 9 (.string ⟨#[32, 99]⟩), .iface 3 (.int .i64 x.c), .iface 9 (.string ⟨#[64]⟩), .iface 3 (.int .i64 x.v), .iface 9 (.string ⟨#[61]⟩), .iface 3 (.int .i64 x.a)] 20)
      have G0 := gr_alloc (gr_alloc HW.out.2 (.cells #[.int .i64 x.c, .int .i64 x.v, .int .i64 x.a, .bool x.wr, .int .i64 x.nw] 69)) (.cells #[.iface 9 (.string ⟨#[32, 99]⟩), .iface 3 (.int .i64 x.c), .iface 9 (.string ⟨#[64]⟩), .iface 3 (.int .i64 x.v), .iface 9 (.string ⟨#[61]⟩), .iface 3 (.int .i64 x.a)] 20)
      have P1 := (HW.out.1.alloc (.cells #[.int .i64 x.c, .int .i64 x.v, .int .i64 x.a, .bool x.wr, .int .i64 x.nw] 69)).alloc (.cells #[.iface 9 (.string ⟨#[32, 99]⟩), .iface 3 (.int .i64 x.c), .iface 9 (.string ⟨#[64]⟩), .iface 3 (.int .i64 x.v), .iface 9 (.string ⟨#[61]⟩), .iface 3 (.int .i64 x.a)] 20)
      refine (put_c (g := wr.heap.size + 1) HT.out G0 P1 (itHead x) (Blk.new_at _ _ _ (by simp)) (itHead_ok HO.out) (by have := HZ.out; rw [List.length_take] at this; simp [itHead]; omega)).mono ?_
      rintro e w1 ⟨rfl, v1, p1, g1⟩
      have hne : wr.heap.size ≠ b := by have := HW.out.1.lt; omega
      have hnv : vr.ownBlock ≠ some wr.heap.size := HW.out.1.new_ne
      have BX1 := BX.wr g1 hne hnv
      have G1 := g1.gr G0 P1.low (fun q hq => (P1.row.lt q hq).1)
      have c3 : w1.cell? ⟨wr.heap.size, 3, none⟩ = some (.bool x.wr) := BX1.cell 3
      have c4 : w1.cell? ⟨wr.heap.size, 4, none⟩ = some (.int .i64 x.nw) := BX1.cell 4
      have M := As.mk (And.intro p1 G1)
      clear BX0 BX G0 P1 p1 g1 BX1 G1 hne hnv c0 c1 c2 HW
      cases hwr : x.wr
      · rw [hwr] at c3
        go_wp2_with fail
        go_roundw
        case measure => simp [intOf]; omega
        case rel =>
          refine ⟨k + 1, by omega, by go_num, ⟨v1, ?_, fun h => by omega, M.out.2⟩⟩
          have := M.out.1
          rw [HTK.out, itBytes, hwr]
          simpa using this
      · rw [hwr] at c3
        go_wp2_with fail
        refine (put_c (g := w1.heap.size) HT.out (gr_alloc M.out.2 _) (M.out.1.alloc _) (itTail x) (Blk.new_at _ _ _ rfl) (itTail_ok HO.out) (by
          have h1 := HZ.out
          rw [List.length_take] at h1
          have h2 := itmBytes_len (itHead x) (itHead_ok HO.out)
          simp only [itHead, List.length_cons, List.length_nil] at h2
          rw [List.length_append]
          simp only [itTail, itHead, List.length_cons, List.length_nil]
          omega)).mono ?_
        rintro e w2 ⟨rfl, v2, p2, g2⟩
        have M2 := As.mk (And.intro p2 (g2.gr (gr_alloc M.out.2 _) M.out.1.low (fun q hq => (M.out.1.row.lt q hq).1)))
        clear p2 g2 c3 c4 M
        go_wp2_with fail
        go_roundw
        case measure => simp [intOf]; omega
        case rel =>
          refine ⟨k + 1, by omega, by go_num, ⟨v2, ?_, fun h => by omega, M2.out.2⟩⟩
          have := M2.out.1
          rw [HTK.out, itBytes, hwr, if_pos rfl, ← List.append_assoc]
          exact this
    · obtain rfl : k = l.length := by omega
      have HX := As.mk HL.out
      clear HL
      obtain ⟨vr, hw, hv0, hgr⟩ := HX.out
      rw [List.take_length] at hw
      by_cases h0 : l = []
      · subst h0
        obtain rfl := hv0 rfl
        have HW := As.mk (And.intro hw hgr)
        clear hw hgr hv0 HX
        go_wp2_with (go_at_call 35; refine (bs0_c headsP HW.out.1).mono ?_; rintro e w2 ⟨rfl, g2⟩)
        go_ret
        exact ⟨rfl, gr_then HW.out.2 g2 (.inl rfl)⟩
      · have HW := As.mk (And.intro hw hgr)
        have hne : itemsB l ≠ [] := by
          cases l with
          | nil => exact absurd rfl h0
          | cons x l =>
            unfold itemsB
            rw [List.flatMap_cons]
            intro h
            exact itBytes_ne x (List.append_eq_nil_iff.1 h).1
        clear hw hgr hv0 HX h0
        go_wp2_with (go_at_call 35; refine (bs_c headsP HW.out.1 hne).mono ?_; rintro e w2 ⟨rfl, g2⟩)
        go_ret
        exact ⟨rfl, gr_then HW.out.2 g2 (.inr (.inr fun k hk => (HW.out.1.row.lt k hk).1))⟩
end Go.Proofs.YtihibljjbdjeoaaDoor
