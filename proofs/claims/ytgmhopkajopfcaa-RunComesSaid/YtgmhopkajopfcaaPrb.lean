/- The walk of prog's right, where an operation has no field but its kind's. -/
import Derived.Test.YtgmhopkajopfcaaPr
namespace Go.Proofs.Ytgmhopkajopfcaa
open Go.RowKit
set_option linter.unusedVariables false

set_option maxRecDepth 100000 in
set_option maxHeartbeats 6400000 in
theorem right_eq (x : POp) (w : World) (h1 : inR x.k 1 12 = true) (hpp : plainOp x = x) : Calls Try.prog 36 #[.agg #[.int .i64 x.k, .int .i64 x.c, .int .i64 x.r, .int .i64 x.o, .int .i64 x.n]] w fun e w' => e = .returned (.bool (inR x.c 0 15 && (inR x.r 0 7 && inR x.o 0 7))) ∧ w.grownBy w' none := by
  obtain ⟨k, c, r, o, n⟩ := x
  have K := As.mk (Blk.new w 57 #[.int .i64 k, .int .i64 c, .int .i64 r, .int .i64 o, .int .i64 n])
  have G := As.mk (gr_alloc (gr_refl w none) (.cells #[.int .i64 k, .int .i64 c, .int .i64 r, .int .i64 o, .int .i64 n] 57))
  dsimp only at *
  go_enter Try.func36, Try.ntmps36
  have hp := As.mk hpp
  clear hpp
  cases h2 : inR c 0 15
  · generalize hg0 : w.heap.size = g at *
    go_wp2_with fail
    generalize w.alloc (.cells #[.int .i64 k, .int .i64 c, .int .i64 r, .int .i64 o, .int .i64 n] 57) = W at *
    have c0 : W.cell? ⟨g, 0, none⟩ = some (.int .i64 k) := K.out.cell 0
    have c1 : W.cell? ⟨g, 1, none⟩ = some (.int .i64 c) := K.out.cell 1
    have c2 : W.cell? ⟨g, 2, none⟩ = some (.int .i64 r) := K.out.cell 2
    have c3 : W.cell? ⟨g, 3, none⟩ = some (.int .i64 o) := K.out.cell 3
    have c4 : W.cell? ⟨g, 4, none⟩ = some (.int .i64 n) := K.out.cell 4
    first
    | (go_region_law (first
      | (go_simp; go_at_call 52; refine (pin_c _ _ _ _ _ (by assumption)).mono ?_; rintro e0 w1 ⟨rfl, rfl⟩)
      | (go_simp; go_at_call 53; refine (plain_c' ⟨k, c, r, o, n⟩ _ hp.out _).mono ?_; rintro e0 w1 ⟨rfl, hg⟩
         have nK := As.mk (Blk.grown (t := 57) (cs := #[.int .i64 k, .int .i64 c, .int .i64 r, .int .i64 o, .int .i64 n]) (b := g) (by first | exact K.out | exact K.out.drew) hg (by simp)); have nG := As.mk (gr_then (row := none) (by first | exact G.out | exact gr_drew G.out) hg (.inl rfl)); clear K G; have K := nK; have G := nG; clear nK nG; clear hg
         have d0 : w1.cell? ⟨g, 0, none⟩ = some (.int .i64 k) := K.out.cell 0; have d1 : w1.cell? ⟨g, 1, none⟩ = some (.int .i64 c) := K.out.cell 1; have d2 : w1.cell? ⟨g, 2, none⟩ = some (.int .i64 r) := K.out.cell 2; have d3 : w1.cell? ⟨g, 3, none⟩ = some (.int .i64 o) := K.out.cell 3; have d4 : w1.cell? ⟨g, 4, none⟩ = some (.int .i64 n) := K.out.cell 4)))
    | fail
    all_goals (try simp only [Exit.then])
    all_goals go_wp2_with fail
    all_goals go_ret
    all_goals exact ⟨rfl, (by first | exact G.out | exact gr_drew G.out)⟩
  cases h3 : inR r 0 7
  · generalize hg0 : w.heap.size = g at *
    go_wp2_with fail
    generalize w.alloc (.cells #[.int .i64 k, .int .i64 c, .int .i64 r, .int .i64 o, .int .i64 n] 57) = W at *
    have c0 : W.cell? ⟨g, 0, none⟩ = some (.int .i64 k) := K.out.cell 0
    have c1 : W.cell? ⟨g, 1, none⟩ = some (.int .i64 c) := K.out.cell 1
    have c2 : W.cell? ⟨g, 2, none⟩ = some (.int .i64 r) := K.out.cell 2
    have c3 : W.cell? ⟨g, 3, none⟩ = some (.int .i64 o) := K.out.cell 3
    have c4 : W.cell? ⟨g, 4, none⟩ = some (.int .i64 n) := K.out.cell 4
    first
    | (go_region_law (first
      | (go_simp; go_at_call 52; refine (pin_c _ _ _ _ _ (by assumption)).mono ?_; rintro e0 w1 ⟨rfl, rfl⟩)
      | (go_simp; go_at_call 53; refine (plain_c' ⟨k, c, r, o, n⟩ _ hp.out _).mono ?_; rintro e0 w1 ⟨rfl, hg⟩
         have nK := As.mk (Blk.grown (t := 57) (cs := #[.int .i64 k, .int .i64 c, .int .i64 r, .int .i64 o, .int .i64 n]) (b := g) (by first | exact K.out | exact K.out.drew) hg (by simp)); have nG := As.mk (gr_then (row := none) (by first | exact G.out | exact gr_drew G.out) hg (.inl rfl)); clear K G; have K := nK; have G := nG; clear nK nG; clear hg
         have d0 : w1.cell? ⟨g, 0, none⟩ = some (.int .i64 k) := K.out.cell 0; have d1 : w1.cell? ⟨g, 1, none⟩ = some (.int .i64 c) := K.out.cell 1; have d2 : w1.cell? ⟨g, 2, none⟩ = some (.int .i64 r) := K.out.cell 2; have d3 : w1.cell? ⟨g, 3, none⟩ = some (.int .i64 o) := K.out.cell 3; have d4 : w1.cell? ⟨g, 4, none⟩ = some (.int .i64 n) := K.out.cell 4)))
    | fail
    all_goals (try simp only [Exit.then])
    all_goals go_wp2_with fail
    all_goals go_ret
    all_goals exact ⟨rfl, (by first | exact G.out | exact gr_drew G.out)⟩
  cases h4 : inR o 0 7
  · generalize hg0 : w.heap.size = g at *
    go_wp2_with fail
    generalize w.alloc (.cells #[.int .i64 k, .int .i64 c, .int .i64 r, .int .i64 o, .int .i64 n] 57) = W at *
    have c0 : W.cell? ⟨g, 0, none⟩ = some (.int .i64 k) := K.out.cell 0
    have c1 : W.cell? ⟨g, 1, none⟩ = some (.int .i64 c) := K.out.cell 1
    have c2 : W.cell? ⟨g, 2, none⟩ = some (.int .i64 r) := K.out.cell 2
    have c3 : W.cell? ⟨g, 3, none⟩ = some (.int .i64 o) := K.out.cell 3
    have c4 : W.cell? ⟨g, 4, none⟩ = some (.int .i64 n) := K.out.cell 4
    first
    | (go_region_law (first
      | (go_simp; go_at_call 52; refine (pin_c _ _ _ _ _ (by assumption)).mono ?_; rintro e0 w1 ⟨rfl, rfl⟩)
      | (go_simp; go_at_call 53; refine (plain_c' ⟨k, c, r, o, n⟩ _ hp.out _).mono ?_; rintro e0 w1 ⟨rfl, hg⟩
         have nK := As.mk (Blk.grown (t := 57) (cs := #[.int .i64 k, .int .i64 c, .int .i64 r, .int .i64 o, .int .i64 n]) (b := g) (by first | exact K.out | exact K.out.drew) hg (by simp)); have nG := As.mk (gr_then (row := none) (by first | exact G.out | exact gr_drew G.out) hg (.inl rfl)); clear K G; have K := nK; have G := nG; clear nK nG; clear hg
         have d0 : w1.cell? ⟨g, 0, none⟩ = some (.int .i64 k) := K.out.cell 0; have d1 : w1.cell? ⟨g, 1, none⟩ = some (.int .i64 c) := K.out.cell 1; have d2 : w1.cell? ⟨g, 2, none⟩ = some (.int .i64 r) := K.out.cell 2; have d3 : w1.cell? ⟨g, 3, none⟩ = some (.int .i64 o) := K.out.cell 3; have d4 : w1.cell? ⟨g, 4, none⟩ = some (.int .i64 n) := K.out.cell 4)))
    | fail
    all_goals (try simp only [Exit.then])
    all_goals go_wp2_with fail
    all_goals go_ret
    all_goals exact ⟨rfl, (by first | exact G.out | exact gr_drew G.out)⟩
  · generalize hg0 : w.heap.size = g at *
    go_wp2_with fail
    go_region_held3 (fun w' => w'.cell? ⟨g, 0, none⟩ = some (.int .i64 k) ∧ w'.cell? ⟨g, 1, none⟩ = some (.int .i64 c) ∧ w'.cell? ⟨g, 2, none⟩ = some (.int .i64 r) ∧ w'.cell? ⟨g, 3, none⟩ = some (.int .i64 o) ∧ w'.cell? ⟨g, 4, none⟩ = some (.int .i64 n))
      (first | exact ⟨K.out.cell 0, K.out.cell 1, K.out.cell 2, K.out.cell 3, K.out.cell 4⟩ | go_keep)
      (first
      | (go_at_call 52; refine (pin_c _ _ _ _ _ (by assumption)).mono ?_; rintro e0 w1 ⟨rfl, rfl⟩)
      | (go_at_call 53; refine (plain_c' ⟨k, c, r, o, n⟩ _ hp.out _).mono ?_; rintro e0 w1 ⟨rfl, hg⟩
         have nK := As.mk (Blk.grown (t := 57) (cs := #[.int .i64 k, .int .i64 c, .int .i64 r, .int .i64 o, .int .i64 n]) (b := g) (by first | exact K.out | exact K.out.drew) hg (by simp)); have nG := As.mk (gr_then (row := none) (by first | exact G.out | exact gr_drew G.out) hg (.inl rfl)); clear K G; have K := nK; have G := nG; clear nK nG; clear hg))
    simp only [Exit.then]
    go_wp2_with fail
    go_ret
    exact ⟨rfl, (by first | exact G.out | exact gr_drew G.out)⟩
set_option maxRecDepth 100000 in
set_option maxHeartbeats 6400000 in
theorem right_lo (x : POp) (w : World) (h1 : inR x.k 1 12 = false) : Calls Try.prog 36 #[.agg #[.int .i64 x.k, .int .i64 x.c, .int .i64 x.r, .int .i64 x.o, .int .i64 x.n]] w fun e w' => e = .returned (.bool false) ∧ w.grownBy w' none := by
  obtain ⟨k, c, r, o, n⟩ := x
  have K := As.mk (Blk.new w 57 #[.int .i64 k, .int .i64 c, .int .i64 r, .int .i64 o, .int .i64 n])
  have G := As.mk (gr_alloc (gr_refl w none) (.cells #[.int .i64 k, .int .i64 c, .int .i64 r, .int .i64 o, .int .i64 n] 57))
  dsimp only at *
  go_enter Try.func36, Try.ntmps36
  generalize hg0 : w.heap.size = g at *
  go_wp2_with fail
  generalize w.alloc (.cells #[.int .i64 k, .int .i64 c, .int .i64 r, .int .i64 o, .int .i64 n] 57) = W at *
  have c0 : W.cell? ⟨g, 0, none⟩ = some (.int .i64 k) := K.out.cell 0
  go_quiet ((go_at_call 52; exact Calls.quiet_of_same (pin_c _ _ _ _ _ (by assumption))))
  go_wp2_with fail
  go_ret
  exact ⟨rfl, gr_drewN G.out _⟩
end Go.Proofs.Ytgmhopkajopfcaa
