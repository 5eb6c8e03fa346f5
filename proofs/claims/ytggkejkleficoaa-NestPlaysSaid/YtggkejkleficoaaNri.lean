/- The walk of the document's nest's Items. -/
import Derived.Test.YtggkejkleficoaaNrb
namespace Go.Proofs.Ytggkejkleficoaa
open Go.RowKit Go.Maps
set_option linter.unusedVariables false

def itR (Ls : List (List PPr)) (x : PIt) : PIt := match wrR Ls x.c with | some v => ⟨x.c, x.v, x.a, true, v⟩ | none => x
set_option maxRecDepth 100000 in
set_option maxHeartbeats 6400000 in
theorem items_r {w : World} {B rb : Nat} {G : Nat → Prop} {Rs : List PIt} {Ls : List (List PPr)} (h : RefAt w B rb G Rs Ls) (hl : Rs.length ≤ 100000) (hl2 : Ls.length ≤ 1000000) (hL : ∀ L ∈ Ls, L.length ≤ 1000000) :
    Calls Try.prog 24 #[NP rb] w fun e w' => (∃ v, e = .returned v ∧ w'.ownsRow w.heap.size 67 5 v (Rs.map (itR Ls)).length (itCells (Rs.map (itR Ls)))) ∧ w.grownBy w' none := by
  obtain ⟨i0, hi, hz0, hz1, hz2⟩ := info_parts infoItem
  have HI := As.mk (And.intro hi (And.intro hz0 (And.intro hz1 hz2)))
  clear hi hz0 hz1 hz2
  have HH := As.mk (And.intro h (And.intro hl2 hL))
  obtain ⟨v0, v1, vs, hW, hG, hlo⟩ := h
  obtain ⟨A, cap, rfl⟩ := own_shape hW.reads
  have HW := As.mk hW
  clear hW hG hlo hl2 hL
  obtain ⟨base, hbase⟩ : ∃ b, b = w.heap.size := ⟨_, rfl⟩
  have HB := As.mk hbase
  have O0 : (w.alloc (.cells #[] 67)).ownsRow base 67 5 (.slice (some ⟨base, 0, none⟩) 0 0) 0 [] :=
    ⟨rfl, .inr ⟨base, 0, #[], rfl, Nat.le_refl _, by rw [hbase]; exact heap_alloc_new w _, Nat.le_refl _, by simp only [maxLen]; omega, rfl, rfl⟩⟩
  have HO := As.mk (And.intro O0 (gr_alloc (gr_refl w none) (.cells #[] 67)))
  clear O0
  unfold NP
  go_enter Try.func24, Try.ntmps24
  go_wp2_with fail
  rw [← hbase]
  clear hbase
  generalize w.alloc (.cells #[] 67) = W0 at *
  go_loopw [3, 4] (fun o i wr => ∃ k : Nat, k ≤ Rs.length ∧ i = .int .i64 k ∧ (∃ A' c', o = .slice A' k c') ∧ As (wr.ownsRow base 67 5 o k (itCells ((Rs.map (itR Ls)).take k)) ∧ w.grownBy wr none)) (fun _ i _ => Rs.length - (Go.RowKit.intOf i).toNat)
  case atStart => exact ⟨0, Nat.zero_le _, rfl, ⟨_, _, rfl⟩, ⟨by simpa [itCells] using HO.out.1, HO.out.2⟩⟩
  case round =>
    obtain ⟨k, hk, rfl, ⟨A', c', rfl⟩, HL⟩ := hrel
    have b0 : wr.cell? ⟨rb, 0, none⟩ = some (.slice A Rs.length cap) := HL.out.2.cell (HW.out.blk.cell 0) (by simp)
    have hrb : rb < wr.heap.size := by have := HW.out.blk.lt; have := HL.out.2.size; omega
    by_cases hlt : k < Rs.length
    · have hltI : (k : Int) < (Rs.length : Int) := by omega
      have hk0 : (0 : Int) ≤ (k : Int) := by omega
      obtain ⟨g, cap', hv⟩ := own_some HW.out.reads (by omega)
      injection hv with hv1 _ hv3
      subst hv1 hv3
      have hx := List.getElem?_eq_getElem hlt
      have hc := itCells_at Rs k Rs[k] hx
      have e0 : wr.cell? ⟨g, k * 5, none⟩ = some (.int .i64 Rs[k].c) := HL.out.2.cell (own_cellAt HW.out.reads (k * 5) _ (hc 0 _ rfl)) (by simp)
      have e1 : wr.cell? ⟨g, k * 5 + 1, none⟩ = _ := HL.out.2.cell (own_cellAt HW.out.reads (k * 5 + 1) _ (hc 1 _ rfl)) (by simp)
      have e2 : wr.cell? ⟨g, k * 5 + 2, none⟩ = _ := HL.out.2.cell (own_cellAt HW.out.reads (k * 5 + 2) _ (hc 2 _ rfl)) (by simp)
      have e3 : wr.cell? ⟨g, k * 5 + 3, none⟩ = _ := HL.out.2.cell (own_cellAt HW.out.reads (k * 5 + 3) _ (hc 3 _ rfl)) (by simp)
      have e4 : wr.cell? ⟨g, k * 5 + 4, none⟩ = _ := HL.out.2.cell (own_cellAt HW.out.reads (k * 5 + 4) _ (hc 4 _ rfl)) (by simp)
      have HTK := As.mk (show (Rs.map (itR Ls)).take (k + 1) = (Rs.map (itR Ls)).take k ++ [itR Ls Rs[k]] from by
        rw [List.take_succ_eq_append_getElem (by simpa using hlt)]; simp)
      clear hc hx
      generalize Rs[k] = x at *
      go_wp2_with fail
      refine (written_r ((HH.out.1.gr HL.out.2).gr (gr_alloc (gr_refl wr none) _)) HH.out.2.1 HH.out.2.2 x.c).mono ?_
      rintro e w5 ⟨rfl, rfl⟩
      unfold wrV
      have HBW := As.mk (show base ≤ wr.heap.size by have := HL.out.2.size; have := HB.out; omega)
      cases hw : wrR Ls x.c with
      | none =>
        have HY := As.mk (show itR Ls x = x by unfold itR; rw [hw])
        clear hw
        simp only [Option.getD_none, Option.isSome_none]
        go_wp2_with (at_builtin; refine wpList_append_lies _ (by rfl) _ _ _ (by rfl) base 67 i0 _ 5 40 Try.underlying43 HI.out.1 HI.out.2.1 HI.out.2.2.1 HI.out.2.2.2 rfl (by omega) _ k _ (by rfl) (own_alloc' (own_alloc' HL.out.1 _) _) ⟨wr.heap.size + 1, 0, none⟩ 1 1 [.int .i64 x.c, .int .i64 x.v, .int .i64 x.a, .bool x.wr, .int .i64 x.nw] (by rfl) (by rfl) (World.news_of_block (cs := #[.int .i64 x.c, .int .i64 x.v, .int .i64 x.a, .bool x.wr, .int .i64 x.nw]) (t := 67) (fr := (0, 0)) (by have := heap_alloc_new (wr.alloc (.cells #[.int .i64 x.c, .int .i64 x.v, .int .i64 x.a, .bool x.wr, .int .i64 x.nw] 67)) (.cells #[.int .i64 x.c, .int .i64 x.v, .int .i64 x.a, .bool x.wr, .int .i64 x.nw] 67); simpa using this)) (by simp [Value.oneCell']) (by omega) (by simp only [maxLen]; omega) (by omega) (by have := HBW.out; simp; omega) (wr.heap.size + 1 + 1) (by simp) ?_; intro gg cap2 w8 hown1 hgrow hat hlt2)
        have H8 := As.mk (And.intro hown1 (gr_then (gr_alloc (gr_alloc HL.out.2 _) _) hgrow (.inr (.inr (fun q hq => by have := (HL.out.1.lt q hq).1; have := HB.out; omega)))))
        clear hown1 hgrow hat hlt2
        go_wp2_with fail
        go_roundw
        case measure => simp [Go.RowKit.intOf]; omega
        case rel => exact ⟨k + 1, by omega, by simp, ⟨_, _, rfl⟩, ⟨by rw [HTK.out, HY.out, itCells_snoc]; exact H8.out.1, H8.out.2⟩⟩
      | some u =>
        have HY := As.mk (show itR Ls x = ⟨x.c, x.v, x.a, true, u⟩ by unfold itR; rw [hw])
        clear hw
        simp only [Option.getD_some, Option.isSome_some]
        go_wp2_with (at_builtin; refine wpList_append_lies _ (by rfl) _ _ _ (by rfl) base 67 i0 _ 5 40 Try.underlying43 HI.out.1 HI.out.2.1 HI.out.2.2.1 HI.out.2.2.2 rfl (by omega) _ k _ (by rfl) (own_alloc' (own_alloc' HL.out.1 _) _) ⟨wr.heap.size + 1, 0, none⟩ 1 1 [.int .i64 x.c, .int .i64 x.v, .int .i64 x.a, .bool true, .int .i64 u] (by rfl) (by rfl) (World.news_of_block (cs := #[.int .i64 x.c, .int .i64 x.v, .int .i64 x.a, .bool true, .int .i64 u]) (t := 67) (fr := (0, 0)) (by have := heap_alloc_new (wr.alloc (.cells #[.int .i64 x.c, .int .i64 x.v, .int .i64 x.a, .bool true, .int .i64 u] 67)) (.cells #[.int .i64 x.c, .int .i64 x.v, .int .i64 x.a, .bool true, .int .i64 u] 67); simpa using this)) (by simp [Value.oneCell']) (by omega) (by simp only [maxLen]; omega) (by omega) (by have := HBW.out; simp; omega) (wr.heap.size + 1 + 1) (by simp) ?_; intro gg cap2 w8 hown1 hgrow hat hlt2)
        have H8 := As.mk (And.intro hown1 (gr_then (gr_alloc (gr_alloc HL.out.2 _) _) hgrow (.inr (.inr (fun q hq => by have := (HL.out.1.lt q hq).1; have := HB.out; omega)))))
        clear hown1 hgrow hat hlt2
        go_wp2_with fail
        go_roundw
        case measure => simp [Go.RowKit.intOf]; omega
        case rel => exact ⟨k + 1, by omega, by simp, ⟨_, _, rfl⟩, ⟨by rw [HTK.out, HY.out, itCells_snoc]; exact H8.out.1, H8.out.2⟩⟩
    · obtain rfl : k = Rs.length := by omega
      have HO2 := HL.out.1
      rw [List.take_of_length_le (by simp)] at HO2
      have HE := As.mk (And.intro HO2 HL.out.2)
      clear HO2 HL
      go_wp2_with fail
      go_ret
      refine ⟨⟨_, rfl, ?_⟩, HE.out.2⟩
      rw [List.length_map, ← HB.out]
      exact HE.out.1
end Go.Proofs.Ytggkejkleficoaa
