/- The walks of wire's Writer. -/
import Derived.Test.YtihibljjbdjeoaaDoorWr
import Derived.Lib.UnsafeStr
namespace Go.Proofs.YtihibljjbdjeoaaDoor
open Go.RowKit
set_option linter.unusedVariables false

theorem freeze_gr (w : World) (p : Addr) (n : Nat) : w.grownBy (w.freeze p n) (some p.block) := by
  unfold World.freeze
  split
  · exact gr_refl w _
  · refine ⟨rfl, rfl, rfl, by simp, fun k hk hne => ?_⟩
    have : p.block ≠ k := fun e => hne (by rw [e])
    simp [Array.getElem?_modify, this]
theorem byteVals_length (l : List UInt8) : (byteVals l).length = l.length := by simp [byteVals]
theorem byteVals_app (l m : List UInt8) : byteVals (l ++ m) = byteVals l ++ byteVals m := by simp [byteVals]
theorem cellsU8 : Tryd.prog.cellsOf 5 = 1 := by kernel_rfl
set_option maxRecDepth 100000 in
set_option maxHeartbeats 1000000 in
/-- (*strings.Builder).String, where there are bytes. -/
theorem bs_c {w : World} {B b : Nat} {T : TypeId} {ex : List Value} {v : Value} {l : List UInt8} (H : Heads T ex.length) (h : WrAt w B b T ex v l) (hl : l ≠ []) :
    Calls Tryd.prog 35 #[.pointer (some ⟨b, 0, none⟩)] w fun e w' => e = .returned (.string ⟨l.toArray⟩) ∧ w.grownBy w' v.ownBlock := by
  obtain ⟨hlow, hbase, ⟨p, hp, hb⟩, hr⟩ := h
  have hl0 : l.length ≠ 0 := by simpa using hl
  obtain ⟨g, cap, cur, rfl, hbg, hg, hnc, hcm, hcs, htake⟩ : ∃ g cap cur, v = .slice (some ⟨g, 0, none⟩) l.length cap ∧ B ≤ g ∧ w.heap[g]? = some (.cells cur 5 (0, 0)) ∧ l.length ≤ cap ∧ cap ≤ maxLen ∧ cur.size = cap * 1 ∧ cur.toList.take (l.length * 1) = byteVals l := by
    rcases hr.2 with ⟨_, hz⟩ | ⟨g, cap, cur, hv, r⟩
    · exact absurd hz hl0
    · exact ⟨g, cap, cur, hv, r⟩
  have c1 : w.cell? ⟨b, 1, none⟩ = some (.slice (some ⟨g, 0, none⟩) l.length cap) := hb.cell 1
  have c1d : w.drew.cell? ⟨b, 1, none⟩ = some (.slice (some ⟨g, 0, none⟩) l.length cap) := c1
  have hUS : (Builtin.unsafeString_ #[111, 3] 9 #[.pointer (some ⟨g, 0, none⟩), .int .i64 l.length]).run Tryd.prog w.drew = .ok (.string ⟨l.toArray⟩) (w.drew.freeze ⟨g, 0, none⟩ l.length) := by
    refine Lib.run_unsafeString_row w.drew 111 3 9 5 Tryd.underlying111 cellsU8 g cur.size (by have hg' : w.drew.heap[g]? = some (.cells cur 5 (0, 0)) := hg; simp [World.shape?, hg']) l hl (by omega) (by unfold maxLen at hcm; omega) ?_
    intro j x hx
    have := hr.cells (g := g) rfl j (.int .u8 x.toNat) (by simp [byteVals, hx])
    exact this
  have hSD : (Builtin.unsafeSliceData_ #[71] 111 #[.slice (some ⟨g, 0, none⟩) l.length cap]).run Tryd.prog w.drew = .ok (.pointer (some ⟨g, 0, none⟩)) w.drew :=
    Lib.run_unsafeSliceData_row _ _ _ _ _ _ (by omega)
  have G : As (w.grownBy (w.drew.freeze ⟨g, 0, none⟩ l.length) (some g)) := ⟨gr_then (gr_drew (gr_refl w _)) (freeze_gr w.drew ⟨g, 0, none⟩ l.length) (.inl rfl)⟩
  clear hr hg hb htake hp
  go_enter Tryd.func35, Tryd.ntmps35
  go_wp2
  go_region
  all_goals (go_wp2; go_ret; exact ⟨rfl, G.out⟩)
theorem headsW : Heads 99 1 := ⟨by kernel_rfl, by decide⟩
abbrev WrW (w : World) (B b : Nat) (v : Value) (l : List UInt8) (bad : Bool) : Prop := WrAt w B b 99 [.bool bad] v l
theorem Arr_bytes {w : World} {k : Nat} {cs : List UInt8} (h : Blk w k 5 (byteVals cs).toArray) (i : Nat) (hi : i < cs.length) : w.cell? ⟨k, i, none⟩ = some (.int .u8 (((cs[i]'hi).toNat : Nat) : Int)) := by
  rw [h.cell i]; simp [byteVals, hi]
set_option maxRecDepth 100000 in
set_option maxHeartbeats 1600000 in
/-- (*wire.Writer).Byte over a block of the call's own. -/
theorem by_c {w : World} {B b ab : Nat} {v : Value} {l cs : List UInt8} {bad : Bool} (h : WrW w B b v l bad) (ha : Blk w ab 5 (byteVals cs).toArray) (hab : ab ≠ b) (hav : v.ownBlock ≠ some ab) (hl : l.length + cs.length < 1000000) :
    Calls Tryd.prog 53 #[.pointer (some ⟨b, 0, none⟩), .slice (some ⟨ab, 0, none⟩) cs.length cs.length] w fun e w' => e = .returned (.tuple #[]) ∧ ∃ v', WrW w' B b v' (l ++ cs) bad ∧ WrG w w' b v v' := by
  have H := As.mk h
  have HA := As.mk (And.intro ha (And.intro hab hav))
  clear h ha hab hav
  go_enter Tryd.func53, Tryd.ntmps53
  go_wp2_with fail
  go_loopw [8] (fun i wr => ∃ k : Nat, k ≤ cs.length ∧ i = .int .i64 k ∧ As (∃ vr, WrW wr B b vr (l ++ cs.take k) bad ∧ WrG w wr b v vr)) (fun i _ => cs.length - (intOf i).toNat)
  case atStart => exact ⟨0, Nat.zero_le _, rfl, ⟨v, by simpa using H.out, WrG.refl _ _ _⟩⟩
  case round =>
    obtain ⟨k, hk, rfl, HL⟩ := hrel
    obtain ⟨vr, h1, h2⟩ := HL.out
    clear HL
    by_cases hlt : k < cs.length
    · have hltI : (k : Int) < (cs.length : Int) := by omega
      have hk0 : (0 : Int) ≤ (k : Int) := by omega
      have c0 := Arr_bytes (HA.out.1.wr h2 HA.out.2.1 HA.out.2.2) k hlt
      have H1 := As.mk h1
      have H2 := As.mk h2
      clear h1 h2
      go_wp2_with (go_at_call 71; refine (wb_c headsW H1.out (cs[k]'hlt) (by simp; omega)).mono ?_)
      rintro e w1 ⟨rfl, v', h3, h4⟩
      have H3 := As.mk h3
      have H4 := As.mk (H2.out.comp h4)
      clear h3 h4 c0 H1 H2
      go_wp2_with fail
      go_roundw
      case measure => simp [intOf]; omega
      case rel => exact ⟨k + 1, by omega, by go_num, ⟨v', by have := H3.out; rwa [List.append_assoc, ← List.take_succ_eq_append_getElem hlt] at this, H4.out⟩⟩
    · obtain rfl : k = cs.length := by omega
      have H1 := As.mk h1
      have H2 := As.mk h2
      clear h1 h2
      go_wp2
      go_end0
      exact ⟨rfl, vr, by simpa using H1.out, H2.out⟩
def inCount (n : Int) : Bool := decide (0 ≤ n) && decide (n ≤ 65535)
theorem WrAt.bad {w : World} {B b : Nat} {v : Value} {l : List UInt8} {bad bad' : Bool} (h : WrW w B b v l bad) : WrW (w.setCell ⟨b, 2, none⟩ (.bool bad')) B b v l bad' ∧ WrG w (w.setCell ⟨b, 2, none⟩ (.bool bad')) b v v := by
  obtain ⟨hlow, hbase, ⟨p, hp, hb⟩, hr⟩ := h
  refine ⟨⟨hlow, by simpa [World.setCell] using hbase, ⟨p, hp, by simpa using hb.set 2 (.bool bad')⟩, own_far hr (own_ne hb hr (by decide)) _⟩, WrG.ofgr (gr_set (gr_refl w _) (.inl rfl) _)⟩
set_option maxRecDepth 100000 in
set_option maxHeartbeats 1600000 in
theorem fi_c {w : World} {B b : Nat} {v : Value} {l : List UInt8} {bad : Bool} (h : WrW w B b v l bad) (n : Int) :
    Calls Tryd.prog 70 #[.pointer (some ⟨b, 0, none⟩), .int .i64 n] w fun e w' => e = .returned (.bool (inCount n)) ∧ WrW w' B b v l (bad || !inCount n) ∧ WrG w w' b v v := by
  have H := As.mk h
  have c2 : w.cell? ⟨b, 2, none⟩ = some (.bool bad) := by obtain ⟨_, _, ⟨p, hp, hb⟩, _⟩ := h; exact hb.cell 2
  have f2 : w.frozen? ⟨b, 2, none⟩ = false := by obtain ⟨_, _, ⟨p, hp, hb⟩, _⟩ := h; exact hb.free 2
  clear h
  go_enter Tryd.func70, Tryd.ntmps70
  by_cases h0 : 0 ≤ n
  · by_cases h1 : n ≤ 65535
    · have hin : inCount n = true := by simp [inCount, h0, h1]
      rw [hin]
      cases bad
      · go_wp2
        go_ret
        exact ⟨rfl, H.out.bad⟩
      · go_wp2
        go_ret
        exact ⟨rfl, H.out.bad⟩
    · have hin : inCount n = false := by simp [inCount, h1]
      rw [hin]
      cases bad
      · go_wp2
        go_ret
        exact ⟨rfl, H.out.bad⟩
      · go_wp2
        go_ret
        exact ⟨rfl, H.out.bad⟩
  · have hin : inCount n = false := by simp [inCount, h0]
    rw [hin]
    cases bad
    · go_wp2
      go_ret
      exact ⟨rfl, H.out.bad⟩
    · go_wp2
      go_ret
      exact ⟨rfl, H.out.bad⟩
def byteOf (n : Int) : UInt8 := n.toNat.toUInt8
theorem byteOf_nat (n : Int) (h0 : 0 ≤ n) (h1 : n < 256) : (((byteOf n).toNat : Nat) : Int) = n := by
  unfold byteOf
  simp
  omega
def countBytes (n : Int) : List UInt8 := [byteOf (n / 256), byteOf (n % 256)]
theorem countBytes_vals (n : Int) (h0 : 0 ≤ n) (h1 : n ≤ 65535) : #[Value.int IntKind.u8 (n / 256), Value.int IntKind.u8 (n % 256)] = (byteVals (countBytes n)).toArray := by
  simp only [countBytes, byteVals, List.map_cons, List.map_nil]
  rw [byteOf_nat _ (by omega) (by omega), byteOf_nat _ (by omega) (by omega)]
set_option maxRecDepth 100000 in
set_option maxHeartbeats 1600000 in
theorem co_c {w : World} {B b : Nat} {v : Value} {l : List UInt8} {bad : Bool} (h : WrW w B b v l bad) (n : Int) (h0 : 0 ≤ n) (h1 : n ≤ 65535) (hl : l.length + 2 < 1000000) :
    Calls Tryd.prog 52 #[.pointer (some ⟨b, 0, none⟩), .int .i64 n] w fun e w' => e = .returned (.tuple #[]) ∧ ∃ v', WrW w' B b v' (l ++ countBytes n) bad ∧ WrG w w' b v v' := by
  have H := As.mk h
  have hin : inCount n = true := by simp [inCount, h0, h1]
  clear h
  go_enter Tryd.func52, Tryd.ntmps52
  go_wp2_with (go_at_call 70; refine (fi_c H.out n).mono ?_)
  rintro e w1 ⟨rfl, h1', g1⟩
  rw [hin] at h1' ⊢
  have H1 := As.mk h1'
  have G1 := As.mk g1
  clear h1' g1 H hin
  go_wp2_with fail
  rw [countBytes_vals n h0 h1]
  have HA := As.mk (Blk.new w1 5 (byteVals (countBytes n)).toArray)
  have hbad : (bad || !true) = bad := by simp
  rw [hbad] at H1
  refine (by_c (cs := countBytes n) (H1.out.alloc _) HA.out (Ne.symm (Nat.ne_of_lt H1.out.lt)) H1.out.new_ne (by simp [countBytes]; omega)).mono ?_
  rintro e w2 ⟨rfl, v', h2, g2⟩
  have H2 := As.mk (And.intro h2 ((G1.out.alloc (.cells (byteVals (countBytes n)).toArray 5)).comp g2))
  clear h2 g2 H1 G1 HA hbad
  go_wp2
  go_end0
  exact ⟨rfl, v', H2.out⟩
/-- The text that a Writer was told, when all was right. -/
theorem wstr_c {w : World} {B b : Nat} {v : Value} {l : List UInt8} (h : WrW w B b v l false) (hl : l ≠ []) :
    Calls Tryd.prog 55 #[.pointer (some ⟨b, 0, none⟩)] w fun e w' => e = .returned (.string ⟨l.toArray⟩) ∧ w.grownBy w' v.ownBlock := by
  have H := As.mk h
  have c2 : w.cell? ⟨b, 2, none⟩ = some (.bool false) := by obtain ⟨_, _, ⟨p, hp, hb⟩, _⟩ := h; exact hb.cell 2
  clear h
  go_enter Tryd.func55, Tryd.ntmps55
  go_wp2_with (go_at_call 35; refine (bs_c headsW H.out hl).mono ?_)
  rintro e w1 ⟨rfl, g1⟩
  have G1 := As.mk g1
  clear g1
  go_wp2
  go_ret
  exact ⟨rfl, G1.out⟩
theorem wr_new {w : World} {B : Nat} (hB : B ≤ w.heap.size) : WrW (w.alloc (.cells #[.pointer none, .slice none 0 0, .bool false] 99)) B w.heap.size (.slice none 0 0) [] false :=
  ⟨hB, by simp; omega, ⟨_, .inl rfl, Blk.new w _ _⟩, World.ownsRow_nil _ _ _ _⟩
end Go.Proofs.YtihibljjbdjeoaaDoor
