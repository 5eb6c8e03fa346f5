/- The walk of prog's Cells, by the library's sort and compact. -/
import Derived.Test.YtihibljjbdjeoaaDoorCp
import Derived.Test.YtihibljjbdjeoaaDoorLs
import Derived.Test.YtihibljjbdjeoaaDoorPpa
import Derived.Sort.OwnSortedInts
import Derived.Lib.OwnBridge
namespace Go.Proofs.YtihibljjbdjeoaaDoor
open Go.RowKit Go.Sort
set_option linter.unusedVariables false

def IntE (w : World) (x : Int) (cs : List Value) : Prop := cs = [.int .i64 x]
theorem IntE.any {w w' : World} (x : Int) (cs : List Value) (h : IntE w x cs) : IntE w' x cs := h
def iv (l : List Int) : List Value := l.map (Value.int .i64)
theorem Arr.of_ints {w : World} {base : Nat} {e : TypeId} {v : Value} {l : List Int} (h : w.ownsRow base e 1 v l.length (iv l)) : Arr IntE 1 w v l := by
  rcases h.2 with ⟨rfl, h0⟩ | ⟨g, cap, cur, rfl, hb, hh, h1, h2, h3, h4⟩
  · obtain rfl : l = [] := List.eq_nil_of_length_eq_zero h0
    exact ⟨none, 0, rfl, by simp, fun h => by simp at h⟩
  · refine ⟨some ⟨g, 0, none⟩, cap, rfl, ⟨by simp only [maxLen] at h2; omega, h1⟩, fun _ => ⟨_, rfl, rfl, fun j x hx => ⟨_, rfl, rfl, fun i u hu => ?_⟩⟩⟩
    have hi : i = 0 := by
      have := (List.getElem?_eq_some_iff.1 hu).1
      simp at this
      exact this
    subst hi
    have hc := h.cells (g := g) rfl j u (by
      simp at hu
      subst hu
      simp [iv, hx])
    rw [← hc]
    congr 1
    unfold Addr.add
    split
    · rename_i h0; simp [h0]
    · simp
theorem putRow_gr {w : World} {g n : Nat} (d : Array Int) : w.grownBy (putRow (Value.int .i64) (Sort.ahead w n) g 0 d) (some g) := by
  refine ⟨rfl, rfl, rfl, by simp [putRow, mapBlock, Sort.ahead], fun k hk hne => ?_⟩
  have : g ≠ k := fun e => hne (by rw [e])
  simp [putRow, mapBlock, Sort.ahead, Array.getElem?_modify, this]
theorem sort_c {w : World} {base : Nat} {v : Value} {zs : List Int} (h : w.ownsRow base 3 1 v zs.length (iv zs)) (hl : zs.length ≤ 1000000) :
    Calls Tryd.prog 56 #[v] w fun e w' => e = .returned (.tuple #[]) ∧ w'.ownsRow base 3 1 v (sortI zs).length (iv (sortI zs)) ∧ w.grownBy w' v.ownBlock := by
  have hl2 : (sortI zs).length = zs.length := List.length_mergeSort zs
  rcases h.2 with ⟨rfl, h0⟩ | ⟨g, cap, cur, rfl, hb, hh, h1, h2, h3, h4⟩
  · obtain rfl : zs = [] := List.eq_nil_of_length_eq_zero h0
    refine (Tryd.slices_Sort_int_none none 0 w).mono ?_
    rintro e w' ⟨rfl, rfl⟩
    exact ⟨rfl, by simpa [sortI] using h, gr_refl _ _⟩
  · refine (Tryd.slices_Sort_int g 0 cap zs w (holds_of_blockI hh (by have := h4; rw [Nat.mul_one] at this; exact this)) (Array.getElem?_eq_some_iff.1 hh).1 (by omega)).mono ?_
    rintro e w' ⟨rfl, n, os, rfl⟩
    refine ⟨rfl, ?_, grownBy_sortedI _⟩
    rw [hl2]
    exact ownsRow_sortedI (n := n) (os := os) hl2 hb hh h1 h2 h3
theorem compact_c {w : World} {base : Nat} {v : Value} {zs : List Int} (h : w.ownsRow base 3 1 v zs.length (iv zs)) (hl : zs.length ≤ 1000000) :
    Calls Tryd.prog 57 #[v] w fun e w' => (∃ v', e = .returned v' ∧ w'.ownsRow base 3 1 v' (Lib.compact zs).length (iv (Lib.compact zs))) ∧ w.grownBy w' v.ownBlock := by
  have hle := Lib.compact_length_le zs
  rcases h.2 with ⟨rfl, h0⟩ | ⟨g, cap, cur, rfl, hb, hh, h1, h2, h3, h4⟩
  · obtain rfl : zs = [] := List.eq_nil_of_length_eq_zero h0
    refine (Tryd.slices_Compact_int_empty none 0 w).mono ?_
    rintro e w' ⟨rfl, rfl⟩
    exact ⟨⟨_, rfl, h⟩, gr_refl _ _⟩
  · refine (Tryd.slices_Compact_int g 0 cap zs w (holds_of_blockI hh (by have := h4; rw [Nat.mul_one] at this; exact this)) (by omega) h1).mono ?_
    rintro e w' ⟨rfl, q, rfl⟩
    refine ⟨⟨_, rfl, ?_⟩, putRow_gr _⟩
    have hc := Lib.ownsRow_putRow (q := q) (k := (Lib.compact zs).length) (ys := Lib.compact zs ++ List.replicate (zs.length - (Lib.compact zs).length) 0) h (by simp; omega) (by omega)
    rw [List.take_left] at hc
    exact hc
theorem infoInt : (Tryd.prog.info? 3).map (fun i => (i.zero, i.size, i.bytes)) = some (some (.int .i64 0), 1, 8) := by kernel_rfl
theorem iv_snoc (l : List Int) (x : Int) : iv (l ++ [x]) = iv l ++ [.int .i64 x] := by simp [iv]
def cellsR (l : List POp) : List Int := if pRight l then cellsC l else []
set_option maxRecDepth 100000 in
set_option maxHeartbeats 6400000 in
theorem cells_c (v : Value) (l : List POp) (w : World) (h : Arr OpE 5 w v l) :
    Calls Tryd.prog 29 #[v] w fun e w' => (∃ v', e = .returned v' ∧ Arr IntE 1 w' v' (cellsR l)) ∧ w.grownBy w' none := by
  obtain ⟨A, c, rfl⟩ := h.len
  obtain ⟨i0, hi, hz0, hz1, hz2⟩ := info_parts infoInt
  have HI := As.mk (And.intro hi (And.intro hz0 (And.intro hz1 hz2)))
  clear hi hz0 hz1 hz2
  have H := As.mk h
  clear h
  have HD := As.mk (show cellsR l = (if pRight l then cellsC l else []) from rfl)
  generalize cellsR l = cr at *
  go_enter Tryd.func29, Tryd.ntmps29
  go_wp2_with fail
  refine (pRight_c _ l _ H.out _ rfl).mono ?_
  rintro e w1 ⟨rfl, g1⟩
  have G1 := As.mk g1
  have H1 := As.mk (H.out.below g1 (fun _ _ => OpE.any _ _))
  clear g1 H
  have HP := As.mk (fun h : pRight l = true => (pRight_all h).1)
  cases hp : pRight l
  · have HE : As (cr = []) := ⟨by rw [HD.out, hp]; rfl⟩
    clear hp HD
    go_wp2_with fail
    go_ret
    exact ⟨⟨_, rfl, by rw [HE.out]; exact ⟨none, 0, rfl, by simp, fun h => by simp at h⟩⟩, G1.out⟩
  · have HE : As (cr = cellsC l) := ⟨by rw [HD.out, hp]; rfl⟩
    have hl32 : l.length ≤ 32 := HP.out hp
    clear hp HD HP
    obtain ⟨base, hbase⟩ : ∃ b, b = w1.heap.size := ⟨_, rfl⟩
    have HB := As.mk hbase
    clear hbase
    go_wp2_with fail
    go_loopw [3, 11] (fun o i wr => ∃ k n : Nat, k ≤ l.length ∧ n ≤ k ∧ i = .int .i64 k ∧ (∃ A' c', o = .slice A' n c') ∧ As (n = (cellsL (l.take k)).length ∧ wr.ownsRow base 3 1 o n (iv (cellsL (l.take k))) ∧ w1.grownBy wr none)) (fun _ i _ => l.length - (intOf i).toNat)
    case atStart => exact ⟨0, 0, Nat.zero_le _, Nat.le_refl _, rfl, ⟨none, 0, rfl⟩, ⟨rfl, World.ownsRow_nil _ _ _ _, gr_refl _ _⟩⟩
    case round =>
      obtain ⟨k, n, hk, hnk, rfl, ⟨A', c', rfl⟩, HL⟩ := hrel
      by_cases hlt : k < l.length
      · have hltI : (k : Int) < (l.length : Int) := by omega
        have hk0 : (0 : Int) ≤ (k : Int) := by omega
        obtain ⟨bb, o, cs, rfl, hE, hcs, hcell⟩ := H1.out.at_ k l[k] (List.getElem?_eq_getElem hlt)
        obtain rfl := hE
        have c0 : wr.cell? ⟨bb, o + k * 5, none⟩ = _ := HL.out.2.2.cell (hcell 0 _ rfl) (by simp)
        have c1 := HL.out.2.2.cell (hcell 1 _ rfl) (by simp)
        have c2 := HL.out.2.2.cell (hcell 2 _ rfl) (by simp)
        have c3 := HL.out.2.2.cell (hcell 3 _ rfl) (by simp)
        have c4 := HL.out.2.2.cell (hcell 4 _ rfl) (by simp)
        have HT := As.mk (show cellsL (l.take (k + 1)) = cellsL (l.take k) ++ (if cellK (l[k]'hlt).k then [(l[k]'hlt).c] else []) by rw [List.take_succ_eq_append_getElem hlt, cellsL_snoc])
        clear hcell hcs
        generalize l[k]'hlt = x at *
        obtain ⟨xk, xc, xr, xo, xn⟩ := x
        dsimp only at c0 c1 c2 c3 c4 HT
        cases hck : cellK xk
        · have HN : As (cellsL (l.take (k + 1)) = cellsL (l.take k)) := ⟨by rw [HT.out, hck]; simp⟩
          have k1 : (xk == 1) = false := by rw [beq_eq_false_iff_ne]; rintro rfl; simp [cellK] at hck
          have k2 : (xk == 2) = false := by rw [beq_eq_false_iff_ne]; rintro rfl; simp [cellK] at hck
          have k9 : (xk == 9) = false := by rw [beq_eq_false_iff_ne]; rintro rfl; simp [cellK] at hck
          clear hck HT
          go_wp2_with fail
          go_roundw
          case measure => simp [intOf]; omega
          case rel => exact ⟨k + 1, n, by omega, by omega, by go_num, ⟨_, _, rfl⟩, ⟨by rw [HN.out]; exact HL.out.1, by rw [HN.out]; exact own_alloc1 HL.out.2.1 _, gr_alloc HL.out.2.2 _⟩⟩
        · have HN : As (cellsL (l.take (k + 1)) = cellsL (l.take k) ++ [xc]) := ⟨by rw [HT.out, hck]; simp⟩
          have hkk : xk = 1 ∨ xk = 2 ∨ xk = 9 := by simpa [cellK] using hck
          clear hck HT
          rcases hkk with rfl | rfl | rfl
          all_goals
            go_wp2_with (at_builtin; refine wpList_append_lies _ (by rfl) _ _ _ (by rfl) base 3 i0 _ 1 8 Tryd.underlying62 HI.out.1 HI.out.2.1 HI.out.2.2.1 HI.out.2.2.2 rfl (by omega) _ n _ (by rfl) (own_alloc2 HL.out.2.1 _ _) ⟨wr.heap.size + 1, 0, none⟩ 1 1 [.int .i64 xc] (by rfl) (by rfl) (World.news_of_block (cs := #[.int .i64 xc]) (t := 3) (fr := (0, 0)) (heap_alloc2_new wr _ _)) (by simp [Value.oneCell']) (by omega) (by simp only [maxLen]; omega) (by omega) (by have := HL.out.2.2.size; have := HB.out; simp; omega) (wr.heap.size + 2) (by simp) ?_; intro gg cap w5 hown1 hgrow hat hlt2)
            have HX := As.mk (And.intro hown1 (gr_then (gr_alloc (gr_alloc HL.out.2.2 _) _) hgrow (.inr (.inr (fun q hq => by have := HL.out.2.1.lt q hq; have := HB.out; omega)))))
            clear hown1 hgrow hat hlt2
            go_wp2_with fail
            go_roundw
            case measure => simp [intOf]; omega
            case rel => exact ⟨k + 1, n + 1, by omega, by omega, by go_num, ⟨_, _, rfl⟩, ⟨by rw [HN.out, List.length_append, ← HL.out.1]; rfl, by rw [HN.out, iv_snoc]; exact HX.out.1, HX.out.2⟩⟩
      · obtain rfl : k = l.length := by omega
        have hL := HL.out
        rw [List.take_of_length_le (Nat.le_refl _)] at hL
        obtain ⟨hn, ho, hg⟩ := hL
        rw [show cellsC l = Lib.compact (sortI (cellsL l)) from rfl] at HE
        generalize cellsL l = zs at *
        subst hn
        have HO := As.mk ho
        have HG := As.mk (gr_then G1.out hg (.inl rfl))
        have hz : zs.length ≤ 32 := by omega
        clear HL ho hg
        go_wp2_with fail
        refine (sort_c HO.out (by omega)).mono ?_
        rintro e w3 ⟨rfl, ho3, g3⟩
        have HO3 := As.mk ho3
        have HG3 := As.mk (gr_then HG.out g3 (.inr (.inr (fun q hq => by have := (HO.out.lt q hq).1; have := HB.out; have := G1.out.size; omega))))
        have hsl : (sortI zs).length = zs.length := List.length_mergeSort zs
        clear ho3 g3 HG HO
        rw [hsl] at HO3
        have HSL := As.mk hsl
        clear hsl
        go_wp2_with fail
        refine (compact_c (zs := sortI zs) (by rw [HSL.out]; exact HO3.out) (by rw [HSL.out]; omega)).mono ?_
        rintro e w4 ⟨⟨v4, rfl, ho4⟩, g4⟩
        have HO4 := As.mk (Arr.of_ints ho4)
        have HG4 := As.mk (gr_then HG3.out g4 (.inr (.inr (fun q hq => by have := (HO3.out.lt q hq).1; have := HB.out; have := G1.out.size; omega))))
        clear ho4 g4
        go_wp2_with fail
        go_ret
        exact ⟨⟨_, rfl, by rw [HE.out]; exact HO4.out⟩, HG4.out⟩
end Go.Proofs.YtihibljjbdjeoaaDoor
