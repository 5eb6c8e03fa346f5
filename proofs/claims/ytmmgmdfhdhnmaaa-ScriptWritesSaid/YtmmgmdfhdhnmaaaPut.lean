/- The walk of script's put. -/
import Derived.Test.YtmmgmdfhdhnmaaaFitd
namespace Go.Proofs.Ytmmgmdfhdhnmaaa
open Go.RowKit
set_option linter.unusedVariables false

/-- A Writer at work, with a block of another type beside it. -/
structure PutS (w0 wx : World) (b g : Nat) (t : TypeId) (cs : Array Value) (l : List UInt8) : Prop where
  wr : ∃ v, WrW wx w0.heap.size b v l false
  blk : Blk wx g t cs
  ne : g ≠ b
  gr : w0.grownBy wx none
theorem bstep {w0 wx : World} {b g : Nat} {t : TypeId} {cs : Array Value} {l : List UInt8} (h : PutS w0 wx b g t cs l) (ht : t ≠ 5) (bs : List UInt8) (n : Nat) (hn : bs.length = n) (A : Array Value) (hA : A = (byteVals bs).toArray) (m : Nat) (hm : wx.heap.size = m) (hl : l.length + bs.length < 1000000) :
    Calls Try.prog 24 #[.pointer (some ⟨b, 0, none⟩), .slice (some ⟨m, 0, none⟩) n n] (wx.alloc (.cells A 5)) fun e w' => e = .returned (.tuple #[]) ∧ PutS w0 w' b g t cs (l ++ bs) := by
  obtain ⟨⟨v, h1⟩, h2, h3, h4⟩ := h
  subst hn hA hm
  refine (by_c (cs := bs) (h1.alloc _) (Blk.new wx 5 (byteVals bs).toArray) (Ne.symm (Nat.ne_of_lt h1.lt)) h1.new_ne hl).mono ?_
  rintro e w2 ⟨rfl, v', g1, g2⟩
  have hv := fun k (hk : v.ownBlock = some k) => (h1.row.lt k hk).1
  exact ⟨rfl, ⟨v', g1⟩, (h2.alloc _).wr g2 h3 (h1.ne h2 ht), h3, g2.gr (gr_alloc h4 _) h1.low hv⟩
theorem cstep {w0 wx : World} {b g : Nat} {t : TypeId} {cs : Array Value} {l : List UInt8} (h : PutS w0 wx b g t cs l) (ht : t ≠ 5) (n : Int) (h0 : 0 ≤ n) (hn : n ≤ 65535) (hl : l.length + 2 < 1000000) :
    Calls Try.prog 25 #[.pointer (some ⟨b, 0, none⟩), .int .i64 n] wx fun e w' => e = .returned (.tuple #[]) ∧ PutS w0 w' b g t cs (l ++ countBytes n) := by
  obtain ⟨⟨v, h1⟩, h2, h3, h4⟩ := h
  refine (co_c h1 n h0 hn hl).mono ?_
  rintro e w2 ⟨rfl, v', g1, g2⟩
  have hv := fun k (hk : v.ownBlock = some k) => (h1.row.lt k hk).1
  exact ⟨rfl, ⟨v', g1⟩, h2.wr g2 h3 (h1.ne h2 ht), h3, g2.gr h4 h1.low hv⟩
theorem PutS.alloc {w0 wx : World} {b g : Nat} {t : TypeId} {cs : Array Value} {l : List UInt8} (h : PutS w0 wx b g t cs l) (o : Obj) : PutS w0 (wx.alloc o) b g t cs l := by
  obtain ⟨⟨v, h1⟩, h2, h3, h4⟩ := h
  exact ⟨⟨v, h1.alloc o⟩, h2.alloc o, h3, gr_alloc h4 o⟩
def opBytes (x : POp) : List UInt8 := [byteOf x.k, byteOf x.r, byteOf x.o, byteOf x.c, byteOf (x.n % 256)]
def evBytes (x : PEv) : List UInt8 := byteOf x.k :: byteOf x.a :: (if x.k = 1 then byteOf x.ops.length :: x.ops.flatMap opBytes else byteOf x.b :: countBytes x.n)
theorem fits_parts {x : POp} (h : opFits x = true) : (0 ≤ x.k ∧ x.k ≤ 255) ∧ (0 ≤ x.r ∧ x.r ≤ 255) ∧ (0 ≤ x.o ∧ x.o ≤ 255) ∧ (0 ≤ x.c ∧ x.c ≤ 255) ∧ -128 ≤ x.n ∧ x.n ≤ 127 := by
  simp only [opFits, inR, Bool.and_eq_true, decide_eq_true_eq] at h
  omega
theorem right_parts {x : PEv} (h : evRight x = true) : (1 ≤ x.k ∧ x.k ≤ 11) ∧ (0 ≤ x.a ∧ x.a ≤ 255) ∧ (0 ≤ x.b ∧ x.b ≤ 255) ∧ (0 ≤ x.n ∧ x.n ≤ 65535) ∧ (x.k = 1 → x.b = 0 ∧ x.n = 0 ∧ x.ops.length < 33 ∧ ∀ o ∈ x.ops, opFits o = true) ∧ (x.k ≠ 1 → x.ops = []) := by
  unfold evRight inR at h
  simp only [Bool.and_eq_true, decide_eq_true_eq] at h
  obtain ⟨h1, h2, h3, h4, h5⟩ := h
  refine ⟨h1, h2, h3, h4, fun hk => ?_, fun hk => ?_⟩
  · rw [if_pos hk] at h5
    simp only [Bool.and_eq_true, decide_eq_true_eq, beq_iff_eq, Bool.not_eq_true', List.any_eq_false] at h5
    exact ⟨h5.1, h5.2.1, h5.2.2.1, fun o ho => by have := h5.2.2.2 o ho; simpa using this⟩
  · rw [if_neg hk] at h5
    simpa using h5
theorem opBytes_vals (x : POp) (h : opFits x = true) : #[Value.int .u8 x.k, .int .u8 x.r, .int .u8 x.o, .int .u8 x.c, .int .u8 (x.n % 256)] = (byteVals (opBytes x)).toArray := by
  have := fits_parts h
  simp only [opBytes, byteVals, List.map_cons, List.map_nil]
  rw [byteOf_nat _ (by omega) (by omega), byteOf_nat _ (by omega) (by omega), byteOf_nat _ (by omega) (by omega), byteOf_nat _ (by omega) (by omega), byteOf_nat _ (by omega) (by omega)]
theorem byte2_vals (a b : Int) (ha : 0 ≤ a ∧ a ≤ 255) (hb : 0 ≤ b ∧ b ≤ 255) : #[Value.int .u8 a, .int .u8 b] = (byteVals [byteOf a, byteOf b]).toArray := by
  simp only [byteVals, List.map_cons, List.map_nil]
  rw [byteOf_nat _ (by omega) (by omega), byteOf_nat _ (by omega) (by omega)]
theorem byte1_vals (a : Int) (ha : 0 ≤ a ∧ a ≤ 255) : #[Value.int .u8 a] = (byteVals [byteOf a]).toArray := by
  simp only [byteVals, List.map_cons, List.map_nil]
  rw [byteOf_nat _ (by omega) (by omega)]
theorem opsBytes_len (l : List POp) : (l.flatMap opBytes).length = 5 * l.length := by
  induction l with
  | nil => rfl
  | cons x l ih => rw [List.flatMap_cons, List.length_append, ih]; simp [opBytes]; omega
theorem opsBytes_take {l : List POp} {k : Nat} (hk : k < l.length) : (l.take (k + 1)).flatMap opBytes = (l.take k).flatMap opBytes ++ opBytes (l[k]'hk) := by
  rw [List.take_succ_eq_append_getElem hk, List.flatMap_append]
  simp
set_option maxRecDepth 100000 in
set_option maxHeartbeats 3200000 in
theorem put_c {w0 w : World} {b : Nat} {v : Value} {l : List UInt8} (x : PEv) (u : Value) (hx : evRight x = true) (hu : Arr OpE 5 w0 u x.ops) (hg : w0.grownBy w none) (h : WrW w w0.heap.size b v l false) (hl : l.length < 900000) :
    Calls Try.prog 26 #[.pointer (some ⟨b, 0, none⟩), .agg #[.int .i64 x.k, .int .i64 x.a, .int .i64 x.b, .int .i64 x.n, u]] w fun e w' => e = .returned (.tuple #[]) ∧ (∃ v', WrW w' w0.heap.size b v' (l ++ evBytes x) false) ∧ w0.grownBy w' none := by
  obtain ⟨hk, ha, hb, hn, hr1, hr2⟩ := right_parts hx
  have hk255 : x.k ≤ 255 := by omega
  have hk0 : 0 ≤ x.k := by omega
  obtain ⟨A, c, rfl⟩ := hu.len
  have P0 := As.mk (show PutS w0 (w.alloc (.cells #[.int .i64 x.k, .int .i64 x.a, .int .i64 x.b, .int .i64 x.n, .slice A x.ops.length c] 37)) b w.heap.size 37 #[.int .i64 x.k, .int .i64 x.a, .int .i64 x.b, .int .i64 x.n, .slice A x.ops.length c] l from ⟨⟨v, h.alloc _⟩, Blk.new _ _ _, Ne.symm (Nat.ne_of_lt h.lt), gr_alloc hg _⟩)
  have HU := As.mk hu
  clear hu h hx
  have R1 := As.mk hr1
  have R2 := As.mk hr2
  clear hr1 hr2
  go_enter Try.func26, Try.ntmps26
  go_wp2_with fail
  refine (bstep P0.out (by decide) [byteOf x.k, byteOf x.a] 2 rfl _ (byte2_vals _ _ ⟨hk0, hk255⟩ ha) _ (by simp) (by simp; omega)).mono ?_
  rintro e w1 ⟨rfl, p1⟩
  have P1 := As.mk p1
  have c0 : w1.cell? ⟨w.heap.size, 0, none⟩ = some (.int .i64 x.k) := p1.blk.cell 0
  have c2 : w1.cell? ⟨w.heap.size, 2, none⟩ = some (.int .i64 x.b) := p1.blk.cell 2
  have c4 : w1.cell? ⟨w.heap.size, 4, none⟩ = some (.slice A x.ops.length c) := p1.blk.cell 4
  clear p1 P0 hg
  generalize w.heap.size = g at *
  by_cases hk1 : x.k = 1
  · have hlen := (R1.out hk1).2.2.1
    have hfits := As.mk (R1.out hk1).2.2.2
    have hlenI : (x.ops.length : Int) ≤ 255 := by omega
    have hlen0 : (0 : Int) ≤ (x.ops.length : Int) := by omega
    have E := As.mk (show evBytes x = [byteOf x.k, byteOf x.a] ++ [byteOf x.ops.length] ++ x.ops.flatMap opBytes by unfold evBytes; rw [if_pos hk1]; rfl)
    rw [hk1] at c0
    clear hk hk0 hk255
    go_wp2_with fail
    refine (bstep P1.out (by decide) [byteOf x.ops.length] 1 rfl _ (byte1_vals _ ⟨hlen0, hlenI⟩) _ rfl (by simp; omega)).mono ?_
    rintro e w2 ⟨rfl, p2⟩
    have P2 := As.mk p2
    have d4 : w2.cell? ⟨g, 4, none⟩ = some (.slice A x.ops.length c) := p2.blk.cell 4
    clear p2 P1 c0 c2 c4
    go_wp2_with fail
    have Q0 := As.mk P2.out
    generalize hl2 : l ++ [byteOf x.k, byteOf x.a] ++ [byteOf x.ops.length] = l2 at Q0
    have hl2' : l2.length = l.length + 3 := by rw [← hl2]; simp
    have E2 := As.mk (show l ++ evBytes x = l2 ++ x.ops.flatMap opBytes by rw [E.out, ← hl2]; simp)
    clear hl2 E P2 d4
    go_loopw [38] (fun i wr => ∃ k : Nat, k ≤ x.ops.length ∧ i = .int .i64 k ∧ As (PutS w0 wr b g 37 #[.int .i64 x.k, .int .i64 x.a, .int .i64 x.b, .int .i64 x.n, .slice A x.ops.length c] (l2 ++ (x.ops.take k).flatMap opBytes))) (fun i _ => x.ops.length - (intOf i).toNat)
    case atStart => exact ⟨0, Nat.zero_le _, rfl, ⟨by simpa using Q0.out⟩⟩
    case round =>
      obtain ⟨k, hk, rfl, HL⟩ := hrel
      by_cases hlt : k < x.ops.length
      · have hltI : (k : Int) < (x.ops.length : Int) := by omega
        have hk0 : (0 : Int) ≤ (k : Int) := by omega
        obtain ⟨bb, o, cs, rfl, hE, hcs, hcell⟩ := HU.out.at_ k x.ops[k] (List.getElem?_eq_getElem hlt)
        obtain rfl := hE
        have c0 : wr.cell? ⟨bb, o + k * 5, none⟩ = _ := HL.out.gr.cell (hcell 0 _ rfl) (by simp)
        have c1 := HL.out.gr.cell (hcell 1 _ rfl) (by simp)
        have c2 := HL.out.gr.cell (hcell 2 _ rfl) (by simp)
        have c3 := HL.out.gr.cell (hcell 3 _ rfl) (by simp)
        have c4 := HL.out.gr.cell (hcell 4 _ rfl) (by simp)
        have hf := hfits.out _ (List.getElem_mem hlt)
        have hT := As.mk (opsBytes_take hlt)
        have hfl := opsBytes_len (x.ops.take k)
        rw [List.length_take, Nat.min_eq_left hk] at hfl
        generalize x.ops[k]'hlt = y at *
        obtain ⟨q1, q2, q3, q4, q5⟩ := fits_parts hf
        have HF := As.mk hf
        have HFL := As.mk hfl
        clear hcell hcs hf hfl
        go_wp2_with fail
        refine (bstep (HL.out.alloc (.cells #[.int .i64 y.k, .int .i64 y.c, .int .i64 y.r, .int .i64 y.o, .int .i64 y.n] 79)) (by decide) (opBytes y) 5 rfl _ (opBytes_vals y HF.out) _ (by simp) (by have := HFL.out; rw [List.length_append, this]; simp [opBytes]; omega)).mono ?_
        rintro e w3 ⟨rfl, p3⟩
        have P3 := As.mk p3
        clear p3 HL c0 c1 c2 c3 c4
        go_wp2_with fail
        go_roundw
        case measure => simp [intOf]; omega
        case rel => exact ⟨k + 1, by omega, by go_num, ⟨by have := P3.out; rwa [List.append_assoc, ← hT.out] at this⟩⟩
      · obtain rfl : k = x.ops.length := by omega
        have HX := As.mk HL.out
        clear HL
        go_wp2_with fail
        go_end0
        rw [E2.out]
        have := HX.out
        rw [List.take_of_length_le (Nat.le_refl _)] at this
        exact ⟨rfl, this.wr, this.gr⟩
  · have hk1' : (x.k == 1) = false := by simpa using hk1
    have E := As.mk (show evBytes x = [byteOf x.k, byteOf x.a] ++ [byteOf x.b] ++ countBytes x.n by unfold evBytes; rw [if_neg hk1]; rfl)
    go_wp2_with fail
    refine (bstep P1.out (by decide) [byteOf x.b] 1 rfl _ (byte1_vals _ hb) _ rfl (by simp; omega)).mono ?_
    rintro e w2 ⟨rfl, p2⟩
    have P2 := As.mk p2
    have c3 : w2.cell? ⟨g, 3, none⟩ = some (.int .i64 x.n) := p2.blk.cell 3
    clear p2 P1 c0 c2 c4
    go_wp2_with (go_at_call 25; refine (cstep P2.out (by decide) x.n hn.1 hn.2 (by simp; omega)).mono ?_)
    rintro e w3 ⟨rfl, p3⟩
    have P3 := As.mk p3
    clear p3 P2 c3
    go_wp2_with fail
    refine bodyPost_ret (results_none (show Try.f26.results = #[] by kernel_rfl) _ _ _) rfl ?_
    rw [E.out]
    refine ⟨rfl, by simpa only [List.append_assoc] using P3.out.wr, P3.out.gr⟩
end Go.Proofs.Ytmmgmdfhdhnmaaa
