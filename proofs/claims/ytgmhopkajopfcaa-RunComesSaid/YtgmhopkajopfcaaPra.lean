/- The walk of prog's right, where an operation has a field that its kind doesn't have. -/
import Derived.Test.YtgmhopkajopfcaaPr
namespace Go.Proofs.Ytgmhopkajopfcaa
open Go.RowKit
set_option linter.unusedVariables false

set_option maxRecDepth 100000 in
set_option maxHeartbeats 6400000 in
theorem right_ne (x p : POp) (w : World) (h1 : inR x.k 1 12 = true) (hpp : plainOp x = p) (hk : x.k = p.k) (hne : ¬ (x.c = p.c ∧ x.r = p.r ∧ x.o = p.o ∧ x.n = p.n)) : Calls Try.prog 36 #[.agg #[.int .i64 x.k, .int .i64 x.c, .int .i64 x.r, .int .i64 x.o, .int .i64 x.n]] w fun e w' => e = .returned (.bool false) ∧ w.grownBy w' none := by
  obtain ⟨k, c, r, o, n⟩ := x
  have K := As.mk (Blk.new w 57 #[.int .i64 k, .int .i64 c, .int .i64 r, .int .i64 o, .int .i64 n])
  have G := As.mk (gr_alloc (gr_refl w none) (.cells #[.int .i64 k, .int .i64 c, .int .i64 r, .int .i64 o, .int .i64 n] 57))
  dsimp only at *
  go_enter Try.func36, Try.ntmps36
  obtain ⟨pk, pc, pr, po, pn⟩ := p
  dsimp only at *
  subst hk
  have hp := As.mk hpp
  clear hpp
  by_cases e0 : c = pc
  · subst e0
    by_cases e1 : r = pr
    · subst e1
      by_cases e2 : o = po
      · subst e2
        have hb : (n == pn) = false := by
          rw [beq_eq_false_iff_ne]
          rintro rfl
          exact hne ⟨rfl, rfl, rfl, rfl⟩
        clear hne
        generalize hg0 : w.heap.size = g at *
        go_wp2_with fail
        generalize w.alloc (.cells #[.int .i64 k, .int .i64 c, .int .i64 r, .int .i64 o, .int .i64 n] 57) = W at *
        have c0 : W.cell? ⟨g, 0, none⟩ = some (.int .i64 k) := K.out.cell 0
        have c1 : W.cell? ⟨g, 1, none⟩ = some (.int .i64 c) := K.out.cell 1
        have c2 : W.cell? ⟨g, 2, none⟩ = some (.int .i64 r) := K.out.cell 2
        have c3 : W.cell? ⟨g, 3, none⟩ = some (.int .i64 o) := K.out.cell 3
        have c4 : W.cell? ⟨g, 4, none⟩ = some (.int .i64 n) := K.out.cell 4
        first
        | (go_region_law (first
          | (go_simp; go_at_call 52; refine (pin_c _ _ _ _ _ (by assumption)).mono ?_; rintro e0 w1 ⟨rfl, rfl⟩)
          | (go_simp; go_at_call 53; refine (plain_c' ⟨k, c, r, o, n⟩ _ hp.out _).mono ?_; rintro e0 w1 ⟨rfl, hg⟩
             have nK := As.mk (Blk.grown (t := 57) (cs := #[.int .i64 k, .int .i64 c, .int .i64 r, .int .i64 o, .int .i64 n]) (b := g) (by first | exact K.out | exact K.out.drew) hg (by simp)); have nG := As.mk (gr_then (row := none) (by first | exact G.out | exact gr_drew G.out) hg (.inl rfl)); clear K G; have K := nK; have G := nG; clear nK nG; clear hg
             have d0 : w1.cell? ⟨g, 0, none⟩ = some (.int .i64 k) := K.out.cell 0; have d1 : w1.cell? ⟨g, 1, none⟩ = some (.int .i64 c) := K.out.cell 1; have d2 : w1.cell? ⟨g, 2, none⟩ = some (.int .i64 r) := K.out.cell 2; have d3 : w1.cell? ⟨g, 3, none⟩ = some (.int .i64 o) := K.out.cell 3; have d4 : w1.cell? ⟨g, 4, none⟩ = some (.int .i64 n) := K.out.cell 4)))
        | fail
        all_goals (try simp only [Exit.then])
        all_goals go_wp2_with fail
        all_goals go_ret
        all_goals exact ⟨rfl, (by first | exact G.out | exact gr_drew G.out)⟩
      · have hb : (o == po) = false := by rw [beq_eq_false_iff_ne]; exact e2
        clear hne
        generalize hg0 : w.heap.size = g at *
        go_wp2_with fail
        generalize w.alloc (.cells #[.int .i64 k, .int .i64 c, .int .i64 r, .int .i64 o, .int .i64 n] 57) = W at *
        have c0 : W.cell? ⟨g, 0, none⟩ = some (.int .i64 k) := K.out.cell 0
        have c1 : W.cell? ⟨g, 1, none⟩ = some (.int .i64 c) := K.out.cell 1
        have c2 : W.cell? ⟨g, 2, none⟩ = some (.int .i64 r) := K.out.cell 2
        have c3 : W.cell? ⟨g, 3, none⟩ = some (.int .i64 o) := K.out.cell 3
        have c4 : W.cell? ⟨g, 4, none⟩ = some (.int .i64 n) := K.out.cell 4
        first
        | (go_region_law (first
          | (go_simp; go_at_call 52; refine (pin_c _ _ _ _ _ (by assumption)).mono ?_; rintro e0 w1 ⟨rfl, rfl⟩)
          | (go_simp; go_at_call 53; refine (plain_c' ⟨k, c, r, o, n⟩ _ hp.out _).mono ?_; rintro e0 w1 ⟨rfl, hg⟩
             have nK := As.mk (Blk.grown (t := 57) (cs := #[.int .i64 k, .int .i64 c, .int .i64 r, .int .i64 o, .int .i64 n]) (b := g) (by first | exact K.out | exact K.out.drew) hg (by simp)); have nG := As.mk (gr_then (row := none) (by first | exact G.out | exact gr_drew G.out) hg (.inl rfl)); clear K G; have K := nK; have G := nG; clear nK nG; clear hg
             have d0 : w1.cell? ⟨g, 0, none⟩ = some (.int .i64 k) := K.out.cell 0; have d1 : w1.cell? ⟨g, 1, none⟩ = some (.int .i64 c) := K.out.cell 1; have d2 : w1.cell? ⟨g, 2, none⟩ = some (.int .i64 r) := K.out.cell 2; have d3 : w1.cell? ⟨g, 3, none⟩ = some (.int .i64 o) := K.out.cell 3; have d4 : w1.cell? ⟨g, 4, none⟩ = some (.int .i64 n) := K.out.cell 4)))
        | fail
        all_goals (try simp only [Exit.then])
        all_goals go_wp2_with fail
        all_goals go_ret
        all_goals exact ⟨rfl, (by first | exact G.out | exact gr_drew G.out)⟩
    · have hb : (r == pr) = false := by rw [beq_eq_false_iff_ne]; exact e1
      clear hne
      generalize hg0 : w.heap.size = g at *
      go_wp2_with fail
      generalize w.alloc (.cells #[.int .i64 k, .int .i64 c, .int .i64 r, .int .i64 o, .int .i64 n] 57) = W at *
      have c0 : W.cell? ⟨g, 0, none⟩ = some (.int .i64 k) := K.out.cell 0
      have c1 : W.cell? ⟨g, 1, none⟩ = some (.int .i64 c) := K.out.cell 1
      have c2 : W.cell? ⟨g, 2, none⟩ = some (.int .i64 r) := K.out.cell 2
      have c3 : W.cell? ⟨g, 3, none⟩ = some (.int .i64 o) := K.out.cell 3
      have c4 : W.cell? ⟨g, 4, none⟩ = some (.int .i64 n) := K.out.cell 4
      first
      | (go_region_law (first
        | (go_simp; go_at_call 52; refine (pin_c _ _ _ _ _ (by assumption)).mono ?_; rintro e0 w1 ⟨rfl, rfl⟩)
        | (go_simp; go_at_call 53; refine (plain_c' ⟨k, c, r, o, n⟩ _ hp.out _).mono ?_; rintro e0 w1 ⟨rfl, hg⟩
           have nK := As.mk (Blk.grown (t := 57) (cs := #[.int .i64 k, .int .i64 c, .int .i64 r, .int .i64 o, .int .i64 n]) (b := g) (by first | exact K.out | exact K.out.drew) hg (by simp)); have nG := As.mk (gr_then (row := none) (by first | exact G.out | exact gr_drew G.out) hg (.inl rfl)); clear K G; have K := nK; have G := nG; clear nK nG; clear hg
           have d0 : w1.cell? ⟨g, 0, none⟩ = some (.int .i64 k) := K.out.cell 0; have d1 : w1.cell? ⟨g, 1, none⟩ = some (.int .i64 c) := K.out.cell 1; have d2 : w1.cell? ⟨g, 2, none⟩ = some (.int .i64 r) := K.out.cell 2; have d3 : w1.cell? ⟨g, 3, none⟩ = some (.int .i64 o) := K.out.cell 3; have d4 : w1.cell? ⟨g, 4, none⟩ = some (.int .i64 n) := K.out.cell 4)))
      | fail
      all_goals (try simp only [Exit.then])
      all_goals go_wp2_with fail
      all_goals go_ret
      all_goals exact ⟨rfl, (by first | exact G.out | exact gr_drew G.out)⟩
  · have hb : (c == pc) = false := by rw [beq_eq_false_iff_ne]; exact e0
    clear hne
    generalize hg0 : w.heap.size = g at *
    go_wp2_with fail
    generalize w.alloc (.cells #[.int .i64 k, .int .i64 c, .int .i64 r, .int .i64 o, .int .i64 n] 57) = W at *
    have c0 : W.cell? ⟨g, 0, none⟩ = some (.int .i64 k) := K.out.cell 0
    have c1 : W.cell? ⟨g, 1, none⟩ = some (.int .i64 c) := K.out.cell 1
    have c2 : W.cell? ⟨g, 2, none⟩ = some (.int .i64 r) := K.out.cell 2
    have c3 : W.cell? ⟨g, 3, none⟩ = some (.int .i64 o) := K.out.cell 3
    have c4 : W.cell? ⟨g, 4, none⟩ = some (.int .i64 n) := K.out.cell 4
    first
    | (go_region_law (first
      | (go_simp; go_at_call 52; refine (pin_c _ _ _ _ _ (by assumption)).mono ?_; rintro e0 w1 ⟨rfl, rfl⟩)
      | (go_simp; go_at_call 53; refine (plain_c' ⟨k, c, r, o, n⟩ _ hp.out _).mono ?_; rintro e0 w1 ⟨rfl, hg⟩
         have nK := As.mk (Blk.grown (t := 57) (cs := #[.int .i64 k, .int .i64 c, .int .i64 r, .int .i64 o, .int .i64 n]) (b := g) (by first | exact K.out | exact K.out.drew) hg (by simp)); have nG := As.mk (gr_then (row := none) (by first | exact G.out | exact gr_drew G.out) hg (.inl rfl)); clear K G; have K := nK; have G := nG; clear nK nG; clear hg
         have d0 : w1.cell? ⟨g, 0, none⟩ = some (.int .i64 k) := K.out.cell 0; have d1 : w1.cell? ⟨g, 1, none⟩ = some (.int .i64 c) := K.out.cell 1; have d2 : w1.cell? ⟨g, 2, none⟩ = some (.int .i64 r) := K.out.cell 2; have d3 : w1.cell? ⟨g, 3, none⟩ = some (.int .i64 o) := K.out.cell 3; have d4 : w1.cell? ⟨g, 4, none⟩ = some (.int .i64 n) := K.out.cell 4)))
    | fail
    all_goals (try simp only [Exit.then])
    all_goals go_wp2_with fail
    all_goals go_ret
    all_goals exact ⟨rfl, (by first | exact G.out | exact gr_drew G.out)⟩
end Go.Proofs.Ytgmhopkajopfcaa
