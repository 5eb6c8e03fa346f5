/- The walks of the document's nest: New, Value, Begin. -/
import Derived.Test.YtggkejkleficoaaNra
namespace Go.Proofs.Ytggkejkleficoaa
open Go.RowKit Go.Maps
set_option linter.unusedVariables false

def ValR (Rs : List PIt) (Ls : List (List PPr)) (c : Int) (r : Option Int) : Prop := (r = none ∧ ∀ x ∈ Rs, x.c ≠ c) ∨ ∃ x ∈ Rs, x.c = c ∧ r = some ((wrR Ls c).getD x.a)
set_option maxRecDepth 100000 in
set_option maxHeartbeats 3200000 in
theorem value_r {w : World} {B rb : Nat} {G : Nat → Prop} {Rs : List PIt} {Ls : List (List PPr)} (h : RefAt w B rb G Rs Ls) (hl : Rs.length ≤ 1000000) (hl2 : Ls.length ≤ 1000000) (hL : ∀ L ∈ Ls, L.length ≤ 1000000) (c : Int) :
    Calls Try.prog 25 #[NP rb, .int .i64 c] w fun e w' => (∃ r : Option Int, e = .returned (.tuple #[.int .i64 (r.getD 0), .bool r.isSome]) ∧ ValR Rs Ls c r) ∧ w' = w := by
  have HH := As.mk (And.intro h (And.intro hl (And.intro hl2 hL)))
  clear h hl hl2 hL
  unfold NP
  go_enter Try.func25, Try.ntmps25
  go_wp2_with fail
  refine (at_r HH.out.1 HH.out.2.1 c).mono ?_
  rintro e w1 ⟨⟨r, rfl, hA⟩, rfl⟩
  rcases hA with ⟨i, x, rfl, hi, hx⟩ | ⟨rfl, hno⟩
  · have hi0 : ¬ (i : Int) < 0 := by omega
    have hil := (List.getElem?_eq_some_iff.1 hi).1
    have hilI : (i : Int) < (Rs.length : Int) := by omega
    have hi1 : (0 : Int) ≤ (i : Int) := by omega
    have HX := As.mk (And.intro (List.mem_of_getElem? hi) hx)
    go_wp2_with fail
    refine (written_r HH.out.1 HH.out.2.2.1 HH.out.2.2.2 c).mono ?_
    rintro e w2 ⟨rfl, rfl⟩
    have HV : As (∀ r, r = some ((wrR Ls c).getD x.a) → ValR Rs Ls c r) := ⟨fun r hr => .inr ⟨x, HX.out.1, HX.out.2, hr⟩⟩
    unfold wrV
    cases hw : wrR Ls c with
    | none =>
      obtain ⟨v0, v1, vs, hW, -, -⟩ := HH.out.1
      have c0 := hW.blk.cell 0
      obtain ⟨g, cap, rfl⟩ := own_some hW.reads (by omega)
      have d2 : w2.cell? ⟨g, i * 5 + 2, none⟩ = some (.int .i64 x.a) := own_cellAt hW.reads (i * 5 + 2) _ (itCells_at Rs i x hi 2 _ rfl)
      clear hW hi hx
      rw [hw] at HV
      simp only [Option.getD_none, Option.isSome_none]
      go_wp2_with fail
      go_ret2
      exact ⟨⟨some x.a, rfl, HV.out _ rfl⟩, rfl⟩
    | some u =>
      rw [hw] at HV
      clear hi hx
      simp only [Option.getD_some, Option.isSome_some]
      go_wp2_with fail
      go_ret2
      exact ⟨⟨some u, rfl, HV.out _ rfl⟩, rfl⟩
  · have HX := As.mk hno
    clear hno
    go_wp2_with fail
    go_ret2
    exact ⟨⟨none, rfl, .inl ⟨rfl, HX.out⟩⟩, rfl⟩
set_option maxRecDepth 100000 in
set_option maxHeartbeats 3200000 in
theorem new_r (w : World) : Calls Try.prog 17 #[] w fun e w' => (∃ rb G, e = .returned (NP rb) ∧ RefAt w' w.heap.size rb G [] [[]]) ∧ w.grownBy w' none := by
  go_enter Try.func17, Try.ntmps17
  go_wp2_with fail
  have B3 := Blk.new ((w.alloc (.cells #[] 69)).alloc (.cells #[.slice (some ⟨w.heap.size, 0, none⟩) 0 0] 65)) 46 #[.slice none 0 0, .slice (some ⟨w.heap.size + 1, 0, none⟩) 1 1]
  have B1 := Blk.new w 69 #[]
  have B2 := Blk.new (w.alloc (.cells #[] 69)) 65 #[.slice (some ⟨w.heap.size, 0, none⟩) 0 0]
  simp only [World.size_alloc] at B2 B3
  have G3 := gr_alloc (gr_alloc (gr_alloc (gr_refl w none) (.cells #[] 69)) (.cells #[.slice (some ⟨w.heap.size, 0, none⟩) 0 0] 65)) (.cells #[.slice none 0 0, .slice (some ⟨w.heap.size + 1, 0, none⟩) 1 1] 46)
  have B1' := (B1.alloc (.cells #[.slice (some ⟨w.heap.size, 0, none⟩) 0 0] 65)).alloc (.cells #[.slice none 0 0, .slice (some ⟨w.heap.size + 1, 0, none⟩) 1 1] 46)
  have B2' := B2.alloc (.cells #[.slice none 0 0, .slice (some ⟨w.heap.size + 1, 0, none⟩) 1 1] 46)
  have HX := As.mk (And.intro B3 (And.intro B1' (And.intro B2' G3)))
  clear B1 B2 B3 G3 B1' B2'
  go_ret
  refine ⟨⟨w.heap.size + 1 + 1, fun k => w.heap.size ≤ k ∧ k < w.heap.size + 3, rfl, .slice none 0 0, .slice (some ⟨w.heap.size + 1, 0, none⟩) 1 1, [.slice (some ⟨w.heap.size, 0, none⟩) 0 0], ⟨HX.out.1, ⟨rfl, .inl ⟨rfl, rfl⟩⟩, ⟨rfl, .inr ⟨_, _, _, rfl, by omega, HX.out.2.2.1, by simp, by simp only [maxLen]; omega, rfl, rfl⟩⟩, rfl, fun i v L h1 h2 => ?_, by omega⟩, ?_, ?_⟩, HX.out.2.2.2⟩
  · match i, h1, h2 with
    | 0, h1, h2 =>
      simp at h1 h2
      subst h1 h2
      exact ⟨rfl, .inr ⟨_, _, _, rfl, by omega, HX.out.2.1, by simp, by simp only [maxLen]; omega, rfl, rfl⟩⟩
  · rintro k (rfl | hk | hk | ⟨v, hv, hk⟩)
    · exact ⟨by omega, by omega⟩
    · cases hk
    · injection hk with hk; have hk : w.heap.size + 1 = k := hk; exact ⟨by omega, by omega⟩
    · simp at hv; subst hv; injection hk with hk; have hk : w.heap.size = k := hk; exact ⟨by omega, by omega⟩
  · intro k hk
    refine ⟨hk.1, ?_⟩
    simp
    omega
theorem infoPairs : (Try.prog.info? 65).map (fun i => (i.zero, i.size, i.bytes)) = some (some (.slice none 0 0), 1, 24) := by kernel_rfl
theorem infoPair : (Try.prog.info? 69).map (fun i => (i.zero, i.size, i.bytes)) = some (some (.agg #[.int .i64 0, .int .i64 0]), 2, 16) := by kernel_rfl
set_option maxRecDepth 100000 in
set_option maxHeartbeats 6400000 in
theorem begin_r {w : World} {B rb : Nat} {G : Nat → Prop} {Rs : List PIt} {Ls : List (List PPr)} (h : RefAt w B rb G Rs Ls) (hB : B ≤ w.heap.size) (hl : Ls.length ≤ 5) :
    Calls Try.prog 20 #[NP rb] w fun e w' => e = .returned (.int .i64 (if 4 < Ls.length then 6 else 0)) ∧ ∃ G', RefAt w' B rb G' Rs (if 4 < Ls.length then Ls else Ls ++ [[]]) ∧ NG w w' G G' := by
  obtain ⟨i0, hi, hz0, hz1, hz2⟩ := info_parts infoPairs
  have HI := As.mk (And.intro hi (And.intro hz0 (And.intro hz1 hz2)))
  clear hi hz0 hz1 hz2
  have HH := As.mk (And.intro h hB)
  obtain ⟨v0, v1, vs, hW, hG, hlo⟩ := h
  have c1 := hW.blk.cell 1
  have hlen := hW.len
  obtain ⟨A, cap, rfl⟩ := own_shape hW.outer
  rw [hlen] at c1
  have HW := As.mk (And.intro hW hG)
  clear hW hG hlo hB
  unfold NP
  by_cases h4 : 4 < Ls.length
  · have h4I : (5 : Int) ≤ (Ls.length : Int) := by omega
    rw [if_pos h4, if_pos h4]
    go_enter Try.func20, Try.ntmps20
    go_wp2_with fail
    go_ret
    exact ⟨rfl, G, HH.out.1, NG.ofgr (gr_refl _ none) (by simp)⟩
  · have h4I : ¬ (5 : Int) ≤ (Ls.length : Int) := by omega
    rw [if_neg h4, if_neg h4]
    clear h4
    have O0 : (w.alloc (.cells #[] 65)).ownsRow w.heap.size 65 1 (.slice (some ⟨w.heap.size, 0, none⟩) 0 0) 0 [] :=
      ⟨rfl, .inr ⟨w.heap.size, 0, #[], rfl, Nat.le_refl _, heap_alloc_new w _, Nat.le_refl _, by simp only [maxLen]; omega, rfl, rfl⟩⟩
    have HO := As.mk (And.intro O0 (gr_alloc (gr_refl w none) (.cells #[] 65)))
    have HS := As.mk (show SrcV (w.alloc (.cells #[] 65)) 1 (.slice A Ls.length cap) Ls.length vs from by
      have := own_src (own_gr0 HW.out.1.outer (gr_alloc (gr_refl w none) (.cells #[] 65))) (fun u hu => by
        obtain ⟨i, hi, e⟩ := List.mem_iff_getElem.1 hu
        have hil : i < Ls.length := by rw [← HW.out.1.len]; exact hi
        exact own_one (HW.out.1.inner i u Ls[i] (by rw [List.getElem?_eq_getElem hi, e]) (List.getElem?_eq_getElem hil)))
      rw [hlen] at this
      exact this)
    have hrb := HW.out.1.blk.lt
    clear O0
    go_enter Try.func20, Try.ntmps20
    go_wp2_with (first
      | (at_builtin; refine wpList_append_any (by rfl) _ _ _ (by rfl) w.heap.size 65 i0 _ 1 24 Try.underlying44 HI.out.1 HI.out.2.1 HI.out.2.2.1 HI.out.2.2.2 rfl (by omega) _ 0 [] (by rfl) HO.out.1 _ Ls.length vs (by rfl) HS.out ⟨_, _, rfl⟩ (by simp only [maxLen]; omega) (by omega) (by simp) ?_; intro va w2 hva hga hoa hsm; rw [Nat.zero_add, List.nil_append] at hva; rw [Nat.zero_add] at hsm; obtain ⟨g2, cap2, rfl⟩ := hsm; have HA := As.mk (And.intro hva (gr_then HO.out.2 hga (.inr (.inr (fun q hq => Nat.le_of_eq (Option.some.inj hq)))))); clear hva hga hoa)
      | (at_builtin; refine wpList_append_any (by rfl) _ _ _ (by rfl) w.heap.size 65 i0 _ 1 24 Try.underlying44 HI.out.1 HI.out.2.1 HI.out.2.2.1 HI.out.2.2.2 rfl (by omega) _ Ls.length vs (by rfl) (own_alloc' (own_alloc' HA.out.1 _) _) _ 1 [.slice (some ⟨w2.heap.size, 0, none⟩) 0 0] (by rfl) (.inr ⟨⟨w2.heap.size + 1, 0, none⟩, 1, rfl, rfl, World.news_of_block (cs := #[.slice (some ⟨w2.heap.size, 0, none⟩) 0 0]) (t := 65) (fr := (0, 0)) (by have := heap_alloc_new (w2.alloc (.cells #[] 69)) (.cells #[.slice (some ⟨w2.heap.size, 0, none⟩) 0 0] 65); simpa using this), by simp [Value.oneCell']⟩) ⟨_, _, rfl⟩ (by simp only [maxLen]; omega) (by omega) (by have := HA.out.2.size; simp; omega) ?_; intro vb w5 hvb hgb _ _; obtain ⟨A3, cap3, rfl⟩ := own_shape hvb; have HBB := As.mk (And.intro hvb (And.intro (gr_then (gr_alloc (gr_alloc HA.out.2 _) _) hgb (.inr (.inr (fun q hq => (HA.out.1.lt q hq).1)))) (((Blk.new w2 69 #[]).alloc (.cells #[.slice (some ⟨w2.heap.size, 0, none⟩) 0 0] 65)).grown hgb (fun q => by have := (HA.out.1.lt _ q.symm).2; omega)))); clear hvb hgb; have q1 := (HW.out.1.blk.grown HBB.out.2.1 (by simp)).cell 1; have q2 := (HW.out.1.blk.grown HBB.out.2.1 (by simp)).free 1))
    have hsz := As.mk (show w.heap.size ≤ w2.heap.size from HA.out.2.size)
    have HP := As.mk (RefW.put1 (Ls' := Ls ++ [[]]) (vs' := vs ++ [.slice (some ⟨w2.heap.size, 0, none⟩) 0 0]) HH.out.1 HW.out.1 HW.out.2 HH.out.2 HBB.out.2.1 (by rw [List.length_append, HW.out.1.len]; exact HBB.out.1) (by simp [HW.out.1.len]) (fun i v L h1 h2 => by
      by_cases hi : i < vs.length
      · rw [List.getElem?_append_left hi] at h1
        rw [List.getElem?_append_left (by rw [← HW.out.1.len]; exact hi)] at h2
        exact own_gr0 (HW.out.1.inner i v L h1 h2) HBB.out.2.1
      · have hil := (List.getElem?_eq_some_iff.1 h1).1
        simp at hil
        obtain rfl : i = vs.length := by omega
        rw [List.getElem?_append_right (by omega)] at h1
        rw [List.getElem?_append_right (by rw [HW.out.1.len]; omega)] at h2
        rw [HW.out.1.len] at h2
        simp at h1 h2
        subst h1 h2
        exact ⟨rfl, .inr ⟨_, _, _, rfl, Nat.le_trans HH.out.2 hsz.out, HBB.out.2.2, by simp, by simp only [maxLen]; omega, rfl, rfl⟩⟩)
      (fun v hv => by
        rcases List.mem_append.1 hv with q | q
        · exact .inl q
        · simp at q
          subst q
          refine .inr fun k hk => ?_
          injection hk with hk
          have hk : w2.heap.size = k := hk
          have := hsz.out
          omega))
    clear HA HBB q1 q2
    go_wp2_with fail
    go_ret
    obtain ⟨G', hR, hN, -⟩ := HP.out
    exact ⟨rfl, G', hR, hN⟩
end Go.Proofs.Ytggkejkleficoaa
