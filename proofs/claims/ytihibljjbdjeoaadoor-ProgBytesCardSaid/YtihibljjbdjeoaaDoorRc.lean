/- The walks of the document's Cells and SameNodes. -/
import Derived.Test.YtihibljjbdjeoaaDoorCe
import Derived.Test.YtihibljjbdjeoaaDoorRo
namespace Go.Proofs.YtihibljjbdjeoaaDoor
open Go.RowKit
set_option linter.unusedVariables false

theorem rHas_cell (k : Int) : rHas k 1 = cellK k := by
  unfold rHas cellK
  rw [if_pos rfl, Bool.eq_iff_iff]
  simp
theorem hasCell_take {l : List POp} {k : Nat} (h : k < l.length) (c : Nat) : hasCell (l.take (k + 1)) c = (hasCell (l.take k) c || (cellK (l[k]'h).k && (l[k]'h).c == (c : Int))) := by
  unfold hasCell
  rw [List.take_succ_eq_append_getElem h, List.any_append]
  simp
set_option maxRecDepth 100000 in
set_option maxHeartbeats 6400000 in
theorem rcells_c (v : Value) (l : List POp) (w : World) (h : Arr OpE 5 w v l) (hl : l.length ≤ 1000000) :
    Calls Tryd.prog 33 #[v] w fun e w' => (∃ v', e = .returned v' ∧ Arr IntE 1 w' v' (cellsD l 16)) ∧ w.grownBy w' none := by
  obtain ⟨A, c, rfl⟩ := h.len
  obtain ⟨i0, hi, hz0, hz1, hz2⟩ := info_parts infoInt
  have HI := As.mk (And.intro hi (And.intro hz0 (And.intro hz1 hz2)))
  clear hi hz0 hz1 hz2
  have H := As.mk h
  clear h
  obtain ⟨base, hbase⟩ : ∃ b, b = w.heap.size := ⟨_, rfl⟩
  have HB := As.mk hbase
  go_enter Tryd.func33, Tryd.ntmps33
  go_wp2_with fail
  have O0 : (w.alloc (.cells #[] 3)).ownsRow base 3 1 (.slice (some ⟨base, 0, none⟩) 0 0) 0 [] :=
    ⟨rfl, .inr ⟨base, 0, #[], rfl, Nat.le_refl _, by rw [hbase]; exact heap_alloc_new w _, Nat.le_refl _, by simp only [maxLen]; omega, rfl, rfl⟩⟩
  have P0 := As.mk (And.intro O0 (gr_alloc (gr_refl w none) (.cells #[] 3)))
  clear O0
  rw [← hbase]
  clear hbase
  generalize w.alloc (.cells #[] 3) = W0 at *
  go_loopw [3, 4] (fun o i wr => ∃ k n : Nat, k ≤ 16 ∧ n ≤ k ∧ i = .int .i64 k ∧ (∃ A' c', o = .slice A' n c') ∧ As (n = (cellsD l k).length ∧ wr.ownsRow base 3 1 o n (iv (cellsD l k)) ∧ w.grownBy wr none)) (fun _ i _ => 16 - (intOf i).toNat)
  case atStart => exact ⟨0, 0, Nat.zero_le _, Nat.le_refl _, rfl, ⟨_, _, rfl⟩, ⟨rfl, P0.out.1, P0.out.2⟩⟩
  case round =>
    obtain ⟨k, n, hk, hnk, rfl, ⟨A', c', rfl⟩, HL⟩ := hrel
    clear P0
    by_cases hlt : k < 16
    · have hltI : (k : Int) < 16 := by omega
      have hk0 : (0 : Int) ≤ (k : Int) := by omega
      have HS := As.mk (cellsD_succ l k)
      go_wp2_with fail
      obtain ⟨wo, rfl⟩ : ∃ wo : World, wo = wr := ⟨_, rfl⟩
      go_loopw [5, 6] (fun b i wr => ∃ j : Nat, j ≤ l.length ∧ i = .int .i64 j ∧ b = .bool (hasCell (l.take j) k) ∧ As (wr = wo)) (fun _ i _ => l.length - (intOf i).toNat)
      case atStart => exact ⟨0, Nat.zero_le _, rfl, rfl, ⟨rfl⟩⟩
      case round =>
        obtain ⟨j, hj, rfl, rfl, ⟨hw⟩⟩ := hrel
        subst hw
        by_cases hjl : j < l.length
        · have hjI : (j : Int) < (l.length : Int) := by omega
          have hj0 : (0 : Int) ≤ (j : Int) := by omega
          obtain ⟨bb, o, cs, rfl, hE, hcs, hcell⟩ := H.out.at_ j l[j] (List.getElem?_eq_getElem hjl)
          obtain rfl := hE
          have c0 : wr.cell? ⟨bb, o + j * 5, none⟩ = _ := HL.out.2.2.cell (hcell 0 _ rfl) (by simp)
          have c1 := HL.out.2.2.cell (hcell 1 _ rfl) (by simp)
          have HT := As.mk (hasCell_take hjl k)
          clear hcell hcs
          generalize l[j]'hjl = x at *
          obtain ⟨xk, xc, xr, xo, xn⟩ := x
          dsimp only at c0 c1 HT
          cases hb : hasCell (l.take j) k
          · rw [hb] at HT
            clear hb
            cases hck : cellK xk
            · have HV : As (hasCell (l.take (j + 1)) k = false) := ⟨by rw [HT.out, hck]; rfl⟩
              go_wp2_with fail
              refine (has_c xk 1 _ false (by rw [rHas_cell, hck])).mono ?_
              rintro e w3 ⟨rfl, rfl⟩
              clear hck HT
              go_wp2_with fail
              refine ⟨⟨j + 1, by omega, by go_num, by rw [HV.out], ⟨trivial⟩⟩, by simp [intOf]; omega⟩
            · by_cases hxc : xc = (k : Int)
              · have HV : As (hasCell (l.take (j + 1)) k = true) := ⟨by rw [HT.out, hck, hxc]; simp⟩
                have hxb : (xc == (k : Int)) = true := by rw [beq_iff_eq]; exact hxc
                clear hxc
                go_wp2_with fail
                refine (has_c xk 1 _ true (by rw [rHas_cell, hck])).mono ?_
                rintro e w3 ⟨rfl, rfl⟩
                clear hck HT
                go_wp2_with fail
                refine ⟨⟨j + 1, by omega, by go_num, by rw [HV.out], ⟨trivial⟩⟩, by simp [intOf]; omega⟩
              · have hxb : (xc == (k : Int)) = false := by rw [beq_eq_false_iff_ne]; exact hxc
                have HV : As (hasCell (l.take (j + 1)) k = false) := ⟨by rw [HT.out, hck, hxb]; rfl⟩
                clear hxc
                go_wp2_with fail
                refine (has_c xk 1 _ true (by rw [rHas_cell, hck])).mono ?_
                rintro e w3 ⟨rfl, rfl⟩
                clear hck HT
                go_wp2_with fail
                refine ⟨⟨j + 1, by omega, by go_num, by rw [HV.out], ⟨trivial⟩⟩, by simp [intOf]; omega⟩
          · have HV : As (hasCell (l.take (j + 1)) k = true) := ⟨by rw [HT.out, hb]; rfl⟩
            clear hb HT
            go_wp2_with fail
            refine ⟨⟨j + 1, by omega, by go_num, by rw [HV.out], ⟨trivial⟩⟩, by simp [intOf]; omega⟩
        · obtain rfl : j = l.length := by omega
          rw [List.take_of_length_le (Nat.le_refl _)]
          cases hb : hasCell l k
          · have HN : As (cellsD l (k + 1) = cellsD l k) := ⟨by rw [HS.out, hb]; simp⟩
            clear hb HS
            go_wp2_with fail
            go_roundw
            case measure => simp [intOf]; omega
            case rel => exact ⟨k + 1, n, by omega, by omega, by go_num, ⟨_, _, rfl⟩, ⟨by rw [HN.out]; exact HL.out.1, by rw [HN.out]; exact HL.out.2.1, HL.out.2.2⟩⟩
          · have HN : As (cellsD l (k + 1) = cellsD l k ++ [(k : Int)]) := ⟨by rw [HS.out, hb]; simp⟩
            clear hb HS
            go_wp2_with (at_builtin; refine wpList_append_lies _ (by rfl) _ _ _ (by rfl) base 3 i0 _ 1 8 Tryd.underlying62 HI.out.1 HI.out.2.1 HI.out.2.2.1 HI.out.2.2.2 rfl (by omega) _ n _ (by rfl) (own_alloc1 HL.out.2.1 _) ⟨wr.heap.size, 0, none⟩ 1 1 [.int .i64 (k : Int)] (by rfl) (by rfl) (World.news_of_block (cs := #[.int .i64 (k : Int)]) (t := 3) (fr := (0, 0)) (heap_alloc_new wr _)) (by simp [Value.oneCell']) (by omega) (by simp only [maxLen]; omega) (by omega) (by have := HL.out.2.2.size; have := HB.out; simp; omega) (wr.heap.size + 1) (by simp) ?_; intro gg cap w5 hown1 hgrow hat hlt2)
            have HX := As.mk (And.intro hown1 (gr_then (gr_alloc HL.out.2.2 _) hgrow (.inr (.inr (fun q hq => by have := HL.out.2.1.lt q hq; have := HB.out; omega)))))
            clear hown1 hgrow hat hlt2
            go_wp2_with fail
            go_roundw
            case measure => simp [intOf]; omega
            case rel => exact ⟨k + 1, n + 1, by omega, by omega, by go_num, ⟨_, _, rfl⟩, ⟨by rw [HN.out, List.length_append, ← HL.out.1]; rfl, by rw [HN.out, iv_snoc]; exact HX.out.1, HX.out.2⟩⟩
    · obtain rfl : k = 16 := by omega
      obtain ⟨hn, ho, hg⟩ := HL.out
      subst hn
      have HO := As.mk (Arr.of_ints ho)
      have HG := As.mk hg
      clear HL ho hg
      go_wp2_with fail
      go_ret
      exact ⟨⟨_, rfl, HO.out⟩, HG.out⟩
set_option maxRecDepth 100000 in
set_option maxHeartbeats 1600000 in
theorem sameNodes_c (v v' : Value) (l : List Int) (w : World) (h : Arr IntE 1 w v l) (h' : Arr IntE 1 w v' l) :
    Calls Tryd.prog 32 #[v, v'] w fun e w' => e = .returned (.bool true) ∧ ∃ n, w' = w.drewN n := by
  obtain ⟨A, c, rfl⟩ := h.len
  obtain ⟨A', c', rfl⟩ := h'.len
  have hl := h.le
  have H := As.mk h
  have H' := As.mk h'
  clear h h'
  go_enter Tryd.func32, Tryd.ntmps32
  go_wp2_with fail
  go_loopw [5] (fun i wr => ∃ k : Nat, k ≤ l.length ∧ i = .int .i64 k ∧ ∃ n, wr = w.drewN n) (fun i _ => l.length - (intOf i).toNat)
  case atStart => exact ⟨0, Nat.zero_le _, rfl, 0, rfl⟩
  case round =>
    obtain ⟨k, hk, rfl, nd, rfl⟩ := hrel
    by_cases hlt : k < l.length
    · have hltI : (k : Int) < (l.length : Int) := by omega
      have hk0 : (0 : Int) ≤ (k : Int) := by omega
      obtain ⟨b, o, cs, rfl, rfl, hcs, hcell⟩ := H.out.at_ k l[k] (List.getElem?_eq_getElem hlt)
      obtain ⟨b', o', cs', rfl, rfl, hcs', hcell'⟩ := H'.out.at_ k l[k] (List.getElem?_eq_getElem hlt)
      have c0 : w.cell? ⟨b, o + k * 1, none⟩ = _ := hcell 0 _ rfl
      have c0' : w.cell? ⟨b', o' + k * 1, none⟩ = _ := hcell' 0 _ rfl
      rw [Nat.mul_one] at c0 c0'
      clear hcell hcell' hcs hcs'
      generalize l[k]'hlt = x at *
      go_wp2_with fail
      go_quiet (fail)
      go_wp2_with fail
      go_roundw
      case measure => simp [intOf]; omega
      case rel => exact ⟨k + 1, by omega, by go_num, _, rfl⟩
    · obtain rfl : k = l.length := by omega
      go_wp2_with fail
      go_ret
      exact ⟨rfl, _, rfl⟩
end Go.Proofs.YtihibljjbdjeoaaDoor
