/- The walks of strconv's Itoa (by the shelf's contract), of tell's page: put, line, and of an empty Builder's String. -/
import Derived.Test.YtihibljjbdjeoaaDoorDg
import Derived.Test.YtihibljjbdjeoaaDoorWs
import Derived.Test.YtihibljjbdjeoaaDoorWrb
import Derived.Test.YtihibljjbdjeoaaDoorAr
import Derived.Test.YtihibljjbdjeoaaDoorShelf
import Derived.Lib.SmallJoins
namespace Go.Proofs.YtihibljjbdjeoaaDoor
open Go.RowKit
set_option linter.unusedVariables false

/-- The library's table of tens is as its text lays it. -/
def Tab (w : World) : Prop := Lib.TabIs Tryd.prog w "internal/strconv.uint64pow10" .u64 Lib.pow10Tab
theorem tabNamed : ∃ g, Tryd.prog.globalNamed "internal/strconv.uint64pow10" = some g := Option.isSome_iff_exists.1 (by kernel_rfl)
theorem Tab.gr {w w' : World} (h : Tab w) (g : w.grownBy w' none) : Tab w' := by
  obtain ⟨k, hk⟩ := tabNamed
  exact Joins.tab_stays hk h (gr_below g) (Nat.le_refl _)
theorem grow_gr (w : World) (k : Nat) (os : Array Obj) : w.grownBy (Sort.grow (w.drewN k) os) none := ⟨rfl, rfl, rfl, by simp [Sort.grow], fun j hj _ => Sort.heap_grow_old (w.drewN k) os hj⟩
theorem itoa_c (n : Int) (h0 : -9223372036854775808 ≤ n) (h1 : n ≤ 9223372036854775807) (w : World) (ht : Tab w) :
    Calls Tryd.prog 60 #[.int .i64 n] w fun e w' => e = .returned (.string (num n)) ∧ w.grownBy w' none :=
  (Tryd.strconv_Itoa n h0 h1 w ht).mono fun _ _ ⟨h1, k, os, h2⟩ => ⟨h1, by rw [h2]; exact grow_gr _ _ _⟩

/-- A word or a number. -/
inductive Itm
  | n (i : Int)
  | s (b : ByteArray)
def Itm.text : Itm → ByteArray
  | .n i => num i
  | .s b => b
def Itm.ok : Itm → Prop
  | .n i => -9223372036854775808 ≤ i ∧ i ≤ 9223372036854775807
  | .s b => b.size ≤ 100000000
def Itm.val : Itm → Value
  | .n i => .iface 3 (.int .i64 i)
  | .s b => .iface 9 (.string b)
def ItmE (w : World) (x : Itm) (cs : List Value) : Prop := cs = [x.val]
def itmBytes (l : List Itm) : List UInt8 := l.flatMap fun x => x.text.data.toList
theorem itmBytes_take {l : List Itm} {k : Nat} (h : k < l.length) : itmBytes (l.take (k + 1)) = itmBytes (l.take k) ++ (l[k]'h).text.data.toList := by
  unfold itmBytes
  rw [List.take_succ_eq_append_getElem h, List.flatMap_append]
  simp
theorem itmBytes_len (l : List Itm) (h : ∀ x ∈ l, x.ok) : (itmBytes l).length ≤ 100000000 * l.length := by
  induction l with
  | nil => simp [itmBytes]
  | cons x l ih =>
    have h1 := ih (fun y hy => h y (List.mem_cons_of_mem _ hy))
    have h2 : x.text.data.toList.length ≤ 100000000 := by
      have hx := h x (List.mem_cons_self ..)
      cases x with
      | n i =>
        have := num_size i hx.1 hx.2
        rw [Array.length_toList]
        have e : (num i).data.size = (num i).size := rfl
        show (num i).data.size ≤ _
        omega
      | s b =>
        rw [Array.length_toList]
        exact hx
    unfold itmBytes at *
    rw [List.flatMap_cons, List.length_append]
    simp only [List.length_cons]
    omega
theorem headsP : Heads 75 0 := ⟨by kernel_rfl, by decide⟩
abbrev PgW (w : World) (B b : Nat) (v : Value) (l : List UInt8) : Prop := WrAt w B b 75 [] v l
theorem pg_new {w : World} {B : Nat} (hB : B ≤ w.heap.size) : PgW (w.alloc (.cells #[.pointer none, .slice none 0 0] 75)) B w.heap.size (.slice none 0 0) [] :=
  ⟨hB, by simp; omega, ⟨_, .inl rfl, Blk.new w _ _⟩, World.ownsRow_nil _ _ _ _⟩
theorem as_int (i : Int) (w : World) : (Instr.typeAssert (.iface 3 (.int .i64 i)) 20 3 true).run Tryd.prog w = .ok (.tuple #[.int .i64 i, .bool true]) w := by kernel_rfl
theorem as_int_no (t : ByteArray) (w : World) : (Instr.typeAssert (.iface 9 (.string t)) 20 3 true).run Tryd.prog w = .ok (.tuple #[.int .i64 0, .bool false]) w := by kernel_rfl
theorem as_str (t : ByteArray) (w : World) : (Instr.typeAssert (.iface 9 (.string t)) 20 9 true).run Tryd.prog w = .ok (.tuple #[.string t, .bool true]) w := by kernel_rfl
set_option maxRecDepth 100000 in
set_option maxHeartbeats 3200000 in
theorem put_c {w0 w : World} {b g : Nat} {v : Value} {l : List UInt8} (ht : Tab w0) (hg : w0.grownBy w none) (h : PgW w w0.heap.size b v l) (xs : List Itm) (hu : Blk w g 20 (xs.map Itm.val).toArray) (hok : ∀ x ∈ xs, x.ok) (hl : l.length + 100000000 * xs.length < 90000000000) :
    Calls Tryd.prog 34 #[.pointer (some ⟨b, 0, none⟩), .slice (some ⟨g, 0, none⟩) xs.length xs.length] w fun e w' => e = .returned (.tuple #[]) ∧ ∃ v', PgW w' w0.heap.size b v' (l ++ itmBytes xs) ∧ WrG w w' b v v' := by
  have HU := As.mk hu
  have hlen : xs.length < 900 := by omega
  have hgb : g ≠ b := by
    obtain ⟨p, _, hb⟩ := h.blk
    exact hu.ne hb (by decide)
  have H := As.mk (And.intro ht (And.intro hg (And.intro h (And.intro hgb (h.ne hu (by decide))))))
  have HOK := As.mk hok
  clear hu ht hg h hok hgb
  go_enter Tryd.func34, Tryd.ntmps34
  go_wp2_with fail
  go_loopw [10] (fun i wr => ∃ k : Nat, k ≤ xs.length ∧ i = .int .i64 k ∧ As (∃ vr, PgW wr w0.heap.size b vr (l ++ itmBytes (xs.take k)) ∧ WrG w wr b v vr)) (fun i _ => xs.length - (intOf i).toNat)
  case atStart => exact ⟨0, Nat.zero_le _, rfl, ⟨v, by simpa [itmBytes] using H.out.2.2.1, WrG.refl _ _ _⟩⟩
  case round =>
    obtain ⟨k, hk, rfl, HL⟩ := hrel
    by_cases hlt : k < xs.length
    · have hltI : (k : Int) < (xs.length : Int) := by omega
      have hk0 : (0 : Int) ≤ (k : Int) := by omega
      obtain ⟨vr, hw, hgr⟩ := HL.out
      have c0 : wr.cell? ⟨g, k, none⟩ = some (xs[k]'hlt).val := by
        have hb := HU.out.wr hgr H.out.2.2.2.1 H.out.2.2.2.2
        rw [hb.cell k]
        simp [hlt]
      have HT := As.mk (itmBytes_take hlt)
      have HO := As.mk (HOK.out _ (List.getElem_mem hlt))
      have HZ := As.mk (itmBytes_len (xs.take k) (fun x hx => HOK.out x (List.mem_of_mem_take hx)))
      have HW := As.mk (And.intro hw hgr)
      have HG := As.mk (hgr.gr H.out.2.1 H.out.2.2.1.low (fun k hk => (H.out.2.2.1.row.lt k hk).1))
      clear hw hgr HL
      generalize xs[k]'hlt = x at *
      cases x with
      | n i =>
        have c1 : wr.cell? ⟨g, k, none⟩ = some (.iface 3 (.int .i64 i)) := c0
        clear c0
        have a1 := as_int i
        go_wp2_with fail
        go_region_held3 (fun w' => True) (first | trivial | go_keep)
          (first
          | (go_at_call 60; refine (itoa_c i HO.out.1 HO.out.2 _ (Tab.gr H.out.1 ?g)).mono ?_; (case g => first | exact HG.out | exact gr_drew HG.out | exact gr_drewN HG.out _); rintro e w1 ⟨rfl, g1⟩)
          | (go_at_call 42; refine (ws_c headsP (HW.out.1.gr0 (gr_then (gr_drew (gr_refl wr none)) g1 (.inl rfl))) (num i) ?h).mono ?_; (case h => have := HO.out; have := num_size i this.1 this.2; have := HZ.out; rw [List.length_take] at this; rw [List.length_append]; omega); rintro e w2 ⟨rfl, v2, p2, g2⟩))
        have P2 := As.mk (And.intro p2 (HW.out.2.comp ((WrG.ofnone (gr_then (gr_drew (gr_refl wr none)) g1 (.inl rfl))).comp g2)))
        clear p2 g2
        simp only [Exit.then, Exit.inBlock]
        go_wp2_with fail
        go_roundw
        case measure => simp [intOf]; omega
        case rel => exact ⟨k + 1, by omega, by go_num, ⟨v2, by have := P2.out.1; rw [List.append_assoc] at this; rw [HT.out]; exact this, P2.out.2⟩⟩
      | s t =>
        have c1 : wr.cell? ⟨g, k, none⟩ = some (.iface 9 (.string t)) := c0
        clear c0
        have a1 := as_int_no t
        have a2 := as_str t
        go_wp2_with fail
        refine (ws_c headsP HW.out.1 t ?_).mono ?_
        · have := HO.out
          have h1 : t.size ≤ 100000000 := this
          have := HZ.out
          rw [List.length_take] at this
          rw [List.length_append]; omega
        rintro e w2 ⟨rfl, v2, p2, g2⟩
        have P2 := As.mk (And.intro p2 (HW.out.2.comp g2))
        clear p2 g2
        go_wp2_with fail
        go_roundw
        case measure => simp [intOf]; omega
        case rel => exact ⟨k + 1, by omega, by go_num, ⟨v2, by have := P2.out.1; rw [List.append_assoc] at this; rw [HT.out]; exact this, P2.out.2⟩⟩
    · obtain rfl : k = xs.length := by omega
      have HX := As.mk HL.out
      clear HL
      go_wp2_with fail
      go_end0
      have := HX.out
      rw [List.take_length] at this
      exact ⟨rfl, this⟩
end Go.Proofs.YtihibljjbdjeoaaDoor
