/- The walk of prog's Encode. -/
import Derived.Test.YtihibljjbdjeoaaDoorNu
namespace Go.Proofs.YtihibljjbdjeoaaDoor
open Go.RowKit
set_option linter.unusedVariables false
set_option linter.unusedSimpArgs false

def encR (l : List POp) : ByteArray × Int := if pRight l then (⟨(encL l).toArray⟩, 0) else (⟨#[]⟩, 1)
theorem encOps_take {l : List POp} {k : Nat} (h : k < l.length) : encOps (l.take (k + 1)) = encOps (l.take k) ++ encOp (l[k]'h) := by
  unfold encOps
  rw [List.take_succ_eq_append_getElem h, List.flatMap_append]
  simp
theorem four_vals (a b c d : Int) : #[Value.int .u8 (a % 256), Value.int .u8 (b % 256), Value.int .u8 (c % 256), Value.int .u8 (d % 256)] = (byteVals [byteI a, byteI b, byteI c, byteI d]).toArray := by
  simp only [byteVals, List.map_cons, List.map_nil, byteI_nat]
set_option maxRecDepth 100000 in
set_option maxHeartbeats 6400000 in
theorem encode_c (v : Value) (l : List POp) (w : World) (h : Arr OpE 5 w v l) :
    Calls Tryd.prog 28 #[v] w fun e w' => e = .returned (.tuple #[.string (encR l).1, .int .i64 (encR l).2]) ∧ w.grownBy w' none := by
  obtain ⟨A, c, rfl⟩ := h.len
  have H := As.mk h
  clear h
  have HD := As.mk (show encR l = (if pRight l then (⟨(encL l).toArray⟩, 0) else (⟨#[]⟩, 1)) from rfl)
  generalize encR l = es at *
  go_enter Tryd.func28, Tryd.ntmps28
  go_wp2_with fail
  refine (pRight_c _ l _ H.out _ rfl).mono ?_
  rintro e w1 ⟨rfl, g1⟩
  have G1 := As.mk g1
  have H1 := As.mk (H.out.below g1 (fun _ _ => OpE.any _ _))
  clear g1 H
  have HP := As.mk (fun h : pRight l = true => (pRight_all h).1)
  cases hp : pRight l
  · have HE : As (es = (⟨#[]⟩, 1)) := ⟨by rw [HD.out, hp]; rfl⟩
    clear hp HD
    go_wp2_with fail
    go_ret2
    exact ⟨by rw [HE.out]; rfl, G1.out⟩
  · have HE : As (es = (⟨(encL l).toArray⟩, 0)) := ⟨by rw [HD.out, hp]; rfl⟩
    have hl32 : l.length ≤ 32 := HP.out hp
    clear hp HD HP
    go_wp2_with fail
    have HW := As.mk (wr_new (w := w1) (Nat.le_refl w1.heap.size))
    have G2 := As.mk (gr_alloc G1.out (.cells #[.pointer none, .slice none 0 0, .bool false] 99))
    have G3 := As.mk (gr_alloc (gr_refl w1 none) (.cells #[.pointer none, .slice none 0 0, .bool false] 99))
    generalize hb : w1.heap.size = b at *
    have HB := As.mk hb
    clear hb
    generalize w1.alloc (.cells #[.pointer none, .slice none 0 0, .bool false] 99) = W1 at *
    refine (co_c HW.out (l.length : Int) (by omega) (by omega) (by simp)).mono ?_
    rintro e w2 ⟨rfl, v2, h2, g2⟩
    have HW2 := As.mk h2
    have HG2 := As.mk (g2.gr G3.out (by rw [HB.out]; exact Nat.le_refl _) (by intro k hk; cases hk))
    clear h2 g2 HW G2 G3
    go_wp2_with fail
    go_loopw [15] (fun i wr => ∃ k : Nat, k ≤ l.length ∧ i = .int .i64 k ∧ As ((∃ vr, WrW wr b b vr (countBytes l.length ++ encOps (l.take k)) false) ∧ w1.grownBy wr none)) (fun i _ => l.length - (intOf i).toNat)
    case atStart => exact ⟨0, Nat.zero_le _, rfl, ⟨⟨v2, by simpa [encOps] using HW2.out⟩, HG2.out⟩⟩
    case round =>
      obtain ⟨k, hk, rfl, HL⟩ := hrel
      clear HW2 HG2
      by_cases hlt : k < l.length
      · have hltI : (k : Int) < (l.length : Int) := by omega
        have hk0 : (0 : Int) ≤ (k : Int) := by omega
        obtain ⟨bb, o, cs, rfl, hE, hcs, hcell⟩ := H1.out.at_ k l[k] (List.getElem?_eq_getElem hlt)
        obtain rfl := hE
        have c0 : wr.cell? ⟨bb, o + k * 5, none⟩ = _ := HL.out.2.cell (hcell 0 _ rfl) (by simp)
        have c1 := HL.out.2.cell (hcell 1 _ rfl) (by simp)
        have c2 := HL.out.2.cell (hcell 2 _ rfl) (by simp)
        have c3 := HL.out.2.cell (hcell 3 _ rfl) (by simp)
        have c4 := HL.out.2.cell (hcell 4 _ rfl) (by simp)
        have HT := As.mk (encOps_take hlt)
        clear hcell hcs
        generalize l[k]'hlt = x at *
        obtain ⟨xk, xc, xr, xo, xn⟩ := x
        dsimp only at c0 c1 c2 c3 c4 HT
        obtain ⟨⟨vr, h1⟩, hgr⟩ := HL.out
        have HWr := As.mk h1
        have HGr := As.mk hgr
        clear HL h1 hgr
        go_wp2_with fail
        rw [four_vals]
        have HA := As.mk (Blk.new (wr.alloc (.cells #[.int .i64 xk, .int .i64 xc, .int .i64 xr, .int .i64 xo, .int .i64 xn] 48)) 5 (byteVals [byteI xk, byteI xr, byteI xo, byteI xc]).toArray)
        have HO := As.mk ((Blk.new wr 48 #[.int .i64 xk, .int .i64 xc, .int .i64 xr, .int .i64 xo, .int .i64 xn]).alloc (.cells (byteVals [byteI xk, byteI xr, byteI xo, byteI xc]).toArray 5))
        rw [World.size_alloc] at HA
        have HWa := As.mk ((HWr.out.alloc (.cells #[.int .i64 xk, .int .i64 xc, .int .i64 xr, .int .i64 xo, .int .i64 xn] 48)).alloc (.cells (byteVals [byteI xk, byteI xr, byteI xo, byteI xc]).toArray 5))
        have HGa := As.mk (gr_alloc (gr_alloc HGr.out (.cells #[.int .i64 xk, .int .i64 xc, .int .i64 xr, .int .i64 xo, .int .i64 xn] 48)) (.cells (byteVals [byteI xk, byteI xr, byteI xo, byteI xc]).toArray 5))
        have hlen : (countBytes l.length ++ encOps (l.take k)).length ≤ 500 := by
          rw [List.length_append, encOps_len, List.length_take, Nat.min_eq_left (by omega)]
          simp only [countBytes, List.length_cons, List.length_nil]
          omega
        have HV1 := As.mk (And.intro (Nat.ne_of_gt HWr.out.lt) (And.intro HWr.out.new_ne (fun e : vr.ownBlock = some (wr.heap.size + 1) => by have := (HWr.out.row.lt _ e).2; omega)))
        have hbl := HWr.out.lt
        generalize hgo : wr.heap.size = go at *
        generalize (wr.alloc (.cells #[.int .i64 xk, .int .i64 xc, .int .i64 xr, .int .i64 xo, .int .i64 xn] 48)).alloc (.cells (byteVals [byteI xk, byteI xr, byteI xo, byteI xc]).toArray 5) = Wa at *
        clear hgo HWr HGr c0 c1 c2 c3 c4
        refine (by_c (cs := [byteI xk, byteI xr, byteI xo, byteI xc]) HWa.out HA.out (by omega) (fun e => by have := HV1.out.2.2 e; omega) (by simp only [List.length_cons, List.length_nil]; omega)).mono ?_
        rintro e w3 ⟨rfl, v3, h3, g3⟩
        have HO3 := As.mk (HO.out.wr g3 HV1.out.1 HV1.out.2.1)
        have HW3 := As.mk h3
        have HG3 := As.mk (g3.gr HGa.out (by rw [HB.out]; exact Nat.le_refl _) (fun q hq => by have := (HWa.out.row.lt q hq).1; have := HB.out; omega))
        have d4 : w3.cell? ⟨go, 4, none⟩ = some (.int .i64 xn) := HO3.out.cell 4
        clear h3 g3 HWa HGa HA HO
        go_wp2_with fail
        have HA3 := As.mk (Blk.new w3 3 (intVals [xn]).toArray)
        refine (nums_c (ns := [xn]) (HW3.out.alloc _) HA3.out (Ne.symm (Nat.ne_of_lt HW3.out.lt)) HW3.out.new_ne (by simp only [List.length_append, List.length_cons, List.length_nil] at *; omega) (by simp)).mono ?_
        rintro e w4 ⟨rfl, v4, h4, g4⟩
        have HX := As.mk (And.intro h4 (g4.gr (gr_alloc HG3.out (.cells (intVals [xn]).toArray 3)) (by rw [HB.out]; exact Nat.le_refl _) (fun q hq => by have := (HW3.out.row.lt q hq).1; have := HB.out; omega)))
        clear h4 g4 HA3 HW3 HG3 HO3 d4
        go_wp2_with fail
        go_roundw
        case measure => simp [intOf]; omega
        case rel => exact ⟨k + 1, by omega, by go_num, ⟨⟨v4, by rw [HT.out]; have := HX.out.1; simpa [encOp, encInts, List.append_assoc] using this⟩, HX.out.2⟩⟩
      · obtain rfl : k = l.length := by omega
        obtain ⟨⟨vr, h1⟩, hgr⟩ := HL.out
        rw [List.take_of_length_le (Nat.le_refl _)] at h1
        have HWr := As.mk (show WrW wr b b vr (encL l) false from h1)
        have HGr := As.mk hgr
        have HNE := As.mk (show encL l ≠ [] by intro h; have := encL_len l; rw [h, List.length_nil] at this; omega)
        clear HL h1 hgr
        generalize encL l = el at *
        go_wp2_with fail
        refine (wstr_c HWr.out HNE.out).mono ?_
        rintro e w3 ⟨rfl, g3⟩
        have G3 := As.mk (gr_then G1.out (gr_then HGr.out g3 (.inr (.inr (fun q hq => by have := (HWr.out.row.lt q hq).1; have := HB.out; omega)))) (.inl rfl))
        clear g3
        go_wp2_with fail
        go_ret2
        exact ⟨by rw [HE.out]; rfl, G3.out⟩
end Go.Proofs.YtihibljjbdjeoaaDoor
