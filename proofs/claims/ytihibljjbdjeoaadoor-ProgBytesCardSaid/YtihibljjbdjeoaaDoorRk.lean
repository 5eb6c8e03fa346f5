/- The walk of the document's Read. -/
import Derived.Test.YtihibljjbdjeoaaDoorRq
import Derived.Test.YtihibljjbdjeoaaDoorRr
import Derived.Test.YtihibljjbdjeoaaDoorRp
namespace Go.Proofs.YtihibljjbdjeoaaDoor
open Go.RowKit
set_option linter.unusedVariables false
set_option linter.unusedSimpArgs false

theorem byteAt_get {S : ByteArray} {p : Nat} (h : p < S.size) : (S[p]'h).toNat = byteAt S p := by unfold byteAt; rw [dif_pos h]
theorem rdL_take {S : ByteArray} {k : Nat} (h : k < cnt S) : (rdL S).take (k + 1) = (rdL S).take k ++ [opAt S (2 + 12 * k)] := by
  have hl : k < (rdL S).length := by unfold rdL; simpa using h
  rw [List.take_succ_eq_append_getElem hl]
  simp [rdL]
set_option maxRecDepth 100000 in
set_option maxHeartbeats 6400000 in
theorem read_c (S : ByteArray) (w : World) (hS : S.size ≤ 140737488355328) :
    Calls Tryd.prog 27 #[.string S] w fun e w' => (∃ v, e = .returned (.tuple #[v, .bool (rdR S).2]) ∧ Arr OpE 5 w' v (rdR S).1) ∧ w.grownBy w' none := by
  obtain ⟨i0, hi, hz0, hz1, hz2⟩ := info_parts infoPOp
  have HI := As.mk (And.intro hi (And.intro hz0 (And.intro hz1 hz2)))
  clear hi hz0 hz1 hz2
  have HD := As.mk (show rdR S = (if S.size < 2 then ([], false) else if S.size ≠ 2 + 12 * cnt S ∨ 32 < cnt S then ([], false) else (rdL S, pRight (rdL S))) from rfl)
  generalize rdR S = dr at *
  go_enter Tryd.func27, Tryd.ntmps27
  by_cases h2 : S.size < 2
  · have h2I : (S.size : Int) < 2 := by omega
    have HE : As (dr = ([], false)) := ⟨by rw [HD.out, if_pos h2]⟩
    go_wp2_with fail
    go_ret2
    exact ⟨⟨_, by rw [HE.out]; rfl, by rw [HE.out]; exact ⟨none, 0, rfl, by simp, fun h => by simp at h⟩⟩, gr_refl _ _⟩
  · have h2I : ¬ (S.size : Int) < 2 := by omega
    have HE : As (dr = (if S.size ≠ 2 + 12 * cnt S ∨ 32 < cnt S then ([], false) else (rdL S, pRight (rdL S)))) := ⟨by rw [HD.out, if_neg h2]⟩
    clear HD
    have b0 := byteAt_get (S := S) (p := 0) (by omega)
    have b1 := byteAt_get (S := S) (p := 1) (by omega)
    have hs0 : (0 : Int) < (S.size : Int) := by omega
    have hs1 : (1 : Int) < (S.size : Int) := by omega
    have l0 := byteAt_lt S 0
    have l1 := byteAt_lt S 1
    go_upto_region 3 with fail
    go_quiet (fail)
    have hcn : (byteAt S 0 : Int) * 256 + (byteAt S 1 : Int) = ((cnt S : Nat) : Int) := by unfold cnt; omega
    have hc9 : cnt S < 65536 := by unfold cnt; omega
    rw [hcn]
    have RL : As (∀ p, p + 12 ≤ S.size → True) := ⟨fun _ _ => trivial⟩
    clear b0 b1 l0 l1 hcn RL
    have HN9 := As.mk (show (rdL S).length = cnt S by unfold rdL; simp)
    generalize hn : cnt S = n at *
    have HN := As.mk hn
    clear hn
    have n0 : (0 : Int) ≤ (n : Int) := by omega
    have n9 : (n : Int) < 65536 := by omega
    by_cases hs : S.size = 2 + 12 * n
    · have hsb : ((S.size : Int) != 2 + 12 * (n : Int)) = false := by rw [bne_eq_false_iff_eq]; omega
      by_cases h32 : 32 < n
      · have h32I : (32 : Int) < (n : Int) := by omega
        have HF : As (dr = ([], false)) := ⟨by rw [HE.out, if_pos (Or.inr h32)]⟩
        go_wp2_with fail
        go_ret2
        exact ⟨⟨_, by rw [HF.out]; rfl, by rw [HF.out]; exact ⟨none, 0, rfl, by simp, fun h => by simp at h⟩⟩, gr_drewN (gr_refl _ _) _⟩
      · have h32I : ¬ (32 : Int) < (n : Int) := by omega
        go_wp2_with fail
        have O0 : ((w.drewN nq).alloc (.cells #[] 51)).ownsRow w.heap.size 51 5 (.slice (some ⟨w.heap.size, 0, none⟩) 0 0) 0 [] :=
          ⟨rfl, .inr ⟨w.heap.size, 0, #[], rfl, Nat.le_refl _, heap_alloc_new (w.drewN nq) _, Nat.le_refl _, by simp only [maxLen]; omega, rfl, rfl⟩⟩
        have G0 := gr_alloc (gr_drewN (gr_refl w none) nq) (.cells #[] 51)
        have S0 : w.heap.size ≤ ((w.drewN nq).alloc (.cells #[] 51)).heap.size := G0.size
        have P0 := As.mk (And.intro O0 (And.intro G0 S0))
        clear O0 G0 S0
        generalize (w.drewN nq).alloc (.cells #[] 51) = W0 at *
        generalize hbase : w.heap.size = base at *
        have HB := As.mk hbase
        clear hbase
        go_loopw [5, 6] (fun o i wr => ∃ k : Nat, k ≤ n ∧ i = .int .i64 k ∧ As (wr.ownsRow base 51 5 o k (opsCells ((rdL S).take k)) ∧ w.grownBy wr none ∧ base ≤ wr.heap.size)) (fun _ i _ => n - (intOf i).toNat)
        case atStart => exact ⟨0, Nat.zero_le _, rfl, P0⟩
        case round =>
          obtain ⟨k, hk, rfl, HL⟩ := hrel
          obtain ⟨A', c', rfl⟩ := own_shape HL.out.1
          by_cases hlt : k < n
          · have hltI : (k : Int) < (n : Int) := by omega
            have hk0 : (0 : Int) ≤ (k : Int) := by omega
            have hk9 : (k : Int) ≤ 32 := by omega
            have hz : 2 + 12 * (k : Int) + 12 ≤ (S.size : Int) := by omega
            have hz' : 2 + 12 * k + 12 ≤ S.size := by omega
            go_upto_region 11 with fail
            rw [show (2 : Int) + 12 * (k : Int) = ((2 + 12 * k : Nat) : Int) by omega]
            have HT := As.mk (rdL_take (S := S) (k := k) (by rw [HN.out]; exact hlt))
            generalize hpk : 2 + 12 * k = p at *
            have q0 : (0 : Int) ≤ (p : Int) := by omega
            have q1 : (p : Int) + 12 ≤ (S.size : Int) := by omega
            have q2 : (p : Int) ≤ 10000 := by omega
            have HNM := As.mk (show IntKind.i64.wrap (numL ((S.extract (p + 4) (2 + 12 * n)).extract 0 8).data.toList) = num8 S (p + 4) by unfold num8; rw [← hs, extract_cut S (p + 4) 8 (by omega)])
            go_wp2_with fail
            refine (get3_c (S.extract (p + 4) (2 + 12 * n)) (by simp; omega) (by simp; omega) _).mono ?_
            rintro e w2 ⟨rfl, g2⟩
            rw [HNM.out]
            have HOX := As.mk (show opAt S p = ⟨byteAt S p, byteAt S (p + 3), byteAt S (p + 1), byteAt S (p + 2), num8 S (p + 4)⟩ from rfl)
            generalize num8 S (p + 4) = nv at *
            go_upto_region 12 with fail
            have HO2 := As.mk (own_alloc1 (own_grown HL.out.1 g2 (by rcases hv : (Value.slice A' k c').ownBlock with _ | x; exact .inl rfl; exact .inr (by simp))) (.cells #[.int .i64 3, .int .i64 nv, .string ⟨#[]⟩] 95))
            have HG2 := As.mk (gr_alloc (gr_then HL.out.2.1 g2 (.inl rfl)) (.cells #[.int .i64 3, .int .i64 nv, .string ⟨#[]⟩] 95))
            have HB2 := As.mk (Blk.new w2 95 #[.int .i64 3, .int .i64 nv, .string ⟨#[]⟩])
            have HZ2 := As.mk (show base ≤ (w2.alloc (.cells #[.int .i64 3, .int .i64 nv, .string ⟨#[]⟩] 95)).heap.size by have := HL.out.2.2; have := g2.size; simp; omega)
            generalize w2.alloc (.cells #[.int .i64 3, .int .i64 nv, .string ⟨#[]⟩] 95) = W2 at *
            generalize w2.heap.size = tb at *
            have e0 := byteAt_get (S := S) (p := p) (by omega)
            have e1 := byteAt_get (S := S) (p := p + 1) (by omega)
            have e2 := byteAt_get (S := S) (p := p + 2) (by omega)
            have e3 := byteAt_get (S := S) (p := p + 3) (by omega)
            have l0 := byteAt_lt S p
            generalize byteAt S p = y0 at *
            have i0_ : (y0 : Int) < 256 := by omega
            have j0_ : (0 : Int) ≤ (y0 : Int) := by omega
            have W0_ : IntKind.i64.wrap (y0 : Int) = y0 := by simp [IntKind.wrap, IntKind.bits, IntKind.signed]; omega
            have l1 := byteAt_lt S (p + 1)
            generalize byteAt S (p + 1) = y1 at *
            have i1_ : (y1 : Int) < 256 := by omega
            have j1_ : (0 : Int) ≤ (y1 : Int) := by omega
            have W1_ : IntKind.i64.wrap (y1 : Int) = y1 := by simp [IntKind.wrap, IntKind.bits, IntKind.signed]; omega
            have l2 := byteAt_lt S (p + 2)
            generalize byteAt S (p + 2) = y2 at *
            have i2_ : (y2 : Int) < 256 := by omega
            have j2_ : (0 : Int) ≤ (y2 : Int) := by omega
            have W2_ : IntKind.i64.wrap (y2 : Int) = y2 := by simp [IntKind.wrap, IntKind.bits, IntKind.signed]; omega
            have l3 := byteAt_lt S (p + 3)
            generalize byteAt S (p + 3) = y3 at *
            have i3_ : (y3 : Int) < 256 := by omega
            have j3_ : (0 : Int) ≤ (y3 : Int) := by omega
            have W3_ : IntKind.i64.wrap (y3 : Int) = y3 := by simp [IntKind.wrap, IntKind.bits, IntKind.signed]; omega
            have u0 : (p : Int) < (S.size : Int) := by omega
            have u1 : (p : Int) + 1 < (S.size : Int) := by omega
            have u2 : (p : Int) + 2 < (S.size : Int) := by omega
            have u3 : (p : Int) + 3 < (S.size : Int) := by omega
            have u0' : (p : Int) < 2 + 12 * (n : Int) := by omega
            have u1' : (p : Int) + 1 < 2 + 12 * (n : Int) := by omega
            have u2' : (p : Int) + 2 < 2 + 12 * (n : Int) := by omega
            have u3' : (p : Int) + 3 < 2 + 12 * (n : Int) := by omega
            have v1_ : (0 : Int) ≤ (p : Int) + 1 := by omega
            have v2_ : (0 : Int) ≤ (p : Int) + 2 := by omega
            have v3_ : (0 : Int) ≤ (p : Int) + 3 := by omega
            have w1_ : IntKind.i64.wrap ((p : Int) + 1) = (p : Int) + 1 := by simp [IntKind.wrap, IntKind.bits, IntKind.signed]; omega
            have w2_ : IntKind.i64.wrap ((p : Int) + 2) = (p : Int) + 2 := by simp [IntKind.wrap, IntKind.bits, IntKind.signed]; omega
            have w3_ : IntKind.i64.wrap ((p : Int) + 3) = (p : Int) + 3 := by simp [IntKind.wrap, IntKind.bits, IntKind.signed]; omega
            have z1_ : ((p : Int) + 1).toNat = p + 1 := by omega
            have z2_ : ((p : Int) + 2).toNat = p + 2 := by omega
            have z3_ : ((p : Int) + 3).toNat = p + 3 := by omega
            refine wp_region_noPanic ?_
            have HO3 := As.mk (show W2.drew.ownsRow base 51 5 (.slice A' k c') k (opsCells (List.take k (rdL S))) from HO2.out)
            have HG3 := As.mk (gr_drew HG2.out)
            have HZ3 := As.mk (show base ≤ W2.drew.heap.size from HZ2.out)
            have HB3 := As.mk (show Blk W2.drew tb 95 #[.int .i64 3, .int .i64 nv, .string ⟨#[]⟩] from HB2.out)
            clear HO2 HG2 HZ2 HB2
            refine wp_region_held_drew (S := fun w' => w'.cell? ⟨tb, 1, none⟩ = some (.int .i64 nv)) (by kernel_rfl) (HB3.out.cell 1) (fun _ => ?_)
            generalize W2.drew = W3 at *
            refine wpAnyH_take (i := 0) (v := ?v0) rfl (by kernel_rfl) (by kernel_rfl) (by kernel_rfl) (fun _ _ _ h => h) (Or.inl ⟨by rfl, ?y0⟩) (HB3.out.cell 1) ?r0
            case y0 => (intro w0_ _; go_simp; try with_reducible rfl)
            try simp only [Act.put, List.setIfInBounds_toArray, List.set_cons_zero, List.set_cons_succ]
            refine wpAnyH_take (i := 1) (v := ?v1) rfl (by kernel_rfl) (by kernel_rfl) (by kernel_rfl) (fun _ _ _ h => h) (Or.inl ⟨by rfl, ?y1⟩) (HB3.out.cell 1) ?r1
            case y1 => (intro w0_ _; go_simp; try with_reducible rfl)
            try simp only [Act.put, List.setIfInBounds_toArray, List.set_cons_zero, List.set_cons_succ]
            refine wpAnyH_take (i := 2) (v := ?v2) rfl (by kernel_rfl) (by kernel_rfl) (by kernel_rfl) (fun _ _ _ h => h) (Or.inl ⟨by rfl, ?y2⟩) (HB3.out.cell 1) ?r2
            case y2 => (intro w0_ _; go_simp; try with_reducible rfl)
            try simp only [Act.put, List.setIfInBounds_toArray, List.set_cons_zero, List.set_cons_succ]
            refine wpAnyH_take (i := 3) (v := ?v3) rfl (by kernel_rfl) (by kernel_rfl) (by kernel_rfl) (fun _ _ _ h => h) (Or.inl ⟨by rfl, ?y3⟩) (HB3.out.cell 1) ?r3
            case y3 => (intro w0_ _; go_simp; try with_reducible rfl)
            try simp only [Act.put, List.setIfInBounds_toArray, List.set_cons_zero, List.set_cons_succ]
            refine wpAnyH_take (i := 4) (v := ?v4) rfl (by kernel_rfl) (by kernel_rfl) (by kernel_rfl) (fun _ _ _ h => h) (Or.inl ⟨by rfl, ?y4⟩) (HB3.out.cell 1) ?r4
            case y4 => (intro w0_ _; go_simp; try with_reducible rfl)
            try simp only [Act.put, List.setIfInBounds_toArray, List.set_cons_zero, List.set_cons_succ]
            refine wpAnyH_take (i := 5) (v := ?v5) rfl (by kernel_rfl) (by kernel_rfl) (by kernel_rfl) (fun _ _ _ h => h) (Or.inl ⟨by rfl, ?y5⟩) (HB3.out.cell 1) ?r5
            case y5 => (intro w0_ _; go_simp; try with_reducible rfl)
            try simp only [Act.put, List.setIfInBounds_toArray, List.set_cons_zero, List.set_cons_succ]
            refine wpAnyH_take (i := 6) (v := ?v6) rfl (by kernel_rfl) (by kernel_rfl) (by kernel_rfl) (fun _ _ _ h => h) (Or.inl ⟨by rfl, ?y6⟩) (HB3.out.cell 1) ?r6
            case y6 => (intro w0_ _; go_simp; try with_reducible rfl)
            try simp only [Act.put, List.setIfInBounds_toArray, List.set_cons_zero, List.set_cons_succ]
            refine wpAnyH_take (i := 7) (v := ?v7) rfl (by kernel_rfl) (by kernel_rfl) (by kernel_rfl) (fun _ _ _ h => h) (Or.inl ⟨by rfl, ?y7⟩) (HB3.out.cell 1) ?r7
            case y7 => (intro w0_ _; go_simp; try with_reducible rfl)
            try simp only [Act.put, List.setIfInBounds_toArray, List.set_cons_zero, List.set_cons_succ]
            refine wpAnyH_take (i := 8) (v := ?v8) rfl (by kernel_rfl) (by kernel_rfl) (by kernel_rfl) (fun _ _ _ h => h) (Or.inl ⟨by rfl, ?y8⟩) (HB3.out.cell 1) ?r8
            case y8 => (intro w0_ _; go_simp; try with_reducible rfl)
            try simp only [Act.put, List.setIfInBounds_toArray, List.set_cons_zero, List.set_cons_succ]
            refine wpAnyH_take (i := 9) (v := ?v9) rfl (by kernel_rfl) (by kernel_rfl) (by kernel_rfl) (fun _ _ _ h => h) (Or.inl ⟨by rfl, ?y9⟩) (HB3.out.cell 1) ?r9
            case y9 => (intro w0_ _; go_simp; try with_reducible rfl)
            try simp only [Act.put, List.setIfInBounds_toArray, List.set_cons_zero, List.set_cons_succ]
            refine wpAnyH_take (i := 10) (v := ?v10) rfl (by kernel_rfl) (by kernel_rfl) (by kernel_rfl) (fun _ _ _ h => h) (Or.inl ⟨by rfl, ?y10⟩) (HB3.out.cell 1) ?r10
            case y10 => (intro w0_ _; go_simp; try with_reducible rfl)
            try simp only [Act.put, List.setIfInBounds_toArray, List.set_cons_zero, List.set_cons_succ]
            refine wpAnyH_take (i := 11) (v := ?v11) rfl (by kernel_rfl) (by kernel_rfl) (by kernel_rfl) (fun _ _ _ h => h) (Or.inl ⟨by rfl, ?y11⟩) (HB3.out.cell 1) ?r11
            case y11 => (intro w0_ _; go_simp; try with_reducible rfl)
            try simp only [Act.put, List.setIfInBounds_toArray, List.set_cons_zero, List.set_cons_succ]
            refine wpAnyH_take (i := 12) (v := ?v12) rfl (by kernel_rfl) (by kernel_rfl) (by kernel_rfl) (fun _ _ _ h => h) (Or.inl ⟨by rfl, ?y12⟩) (HB3.out.cell 1) ?r12
            case y12 => (intro w0_ _; go_simp; try with_reducible rfl)
            try simp only [Act.put, List.setIfInBounds_toArray, List.set_cons_zero, List.set_cons_succ]
            refine wpAnyH_take (i := 13) (v := ?v13) rfl (by kernel_rfl) (by kernel_rfl) (by kernel_rfl) (fun _ _ _ h => h) (Or.inl ⟨by rfl, ?y13⟩) (HB3.out.cell 1) ?r13
            case y13 => (intro w0_ _; go_simp; try with_reducible rfl)
            try simp only [Act.put, List.setIfInBounds_toArray, List.set_cons_zero, List.set_cons_succ]
            refine wpAnyH_take (i := 14) (v := ?v14) rfl (by kernel_rfl) (by kernel_rfl) (by kernel_rfl) (fun _ _ _ h => h) (Or.inl ⟨by rfl, ?y14⟩) (HB3.out.cell 1) ?r14
            case y14 => (intro w0_ _; go_simp; try with_reducible rfl)
            try simp only [Act.put, List.setIfInBounds_toArray, List.set_cons_zero, List.set_cons_succ]
            refine wpAnyH_take (i := 15) (v := ?v15) rfl (by kernel_rfl) (by kernel_rfl) (by kernel_rfl) (fun _ _ _ h => h) (Or.inl ⟨by rfl, ?y15⟩) (HB3.out.cell 1) ?r15
            case y15 => (intro w0_ _; go_simp; try with_reducible rfl)
            try simp only [Act.put, List.setIfInBounds_toArray, List.set_cons_zero, List.set_cons_succ]
            refine wpAnyH_take (i := 16) (v := ?v16) rfl (by kernel_rfl) (by kernel_rfl) (by kernel_rfl) (fun _ _ _ h => h) (Or.inl ⟨by rfl, ?y16⟩) (HB3.out.cell 1) ?r16
            case y16 => (intro w0_ _; go_simp; try with_reducible rfl)
            try simp only [Act.put, List.setIfInBounds_toArray, List.set_cons_zero, List.set_cons_succ]
            refine wpAnyH_take (i := 17) (v := ?v17) rfl (by kernel_rfl) (by kernel_rfl) (by kernel_rfl) (fun _ _ _ h => h) (Or.inl ⟨by rfl, ?y17⟩) (HB3.out.cell 1) ?r17
            case y17 => (intro w0_ _; go_simp; try with_reducible rfl)
            try simp only [Act.put, List.setIfInBounds_toArray, List.set_cons_zero, List.set_cons_succ]
            refine wpAnyH_take (i := 18) (v := ?v18) rfl (by kernel_rfl) (by kernel_rfl) (by kernel_rfl) (fun _ _ _ h => h) (Or.inl ⟨by rfl, ?y18⟩) (HB3.out.cell 1) ?r18
            case y18 => (intro w0_ _; go_simp; try with_reducible rfl)
            try simp only [Act.put, List.setIfInBounds_toArray, List.set_cons_zero, List.set_cons_succ]
            refine wpAnyH_take (i := 19) (v := ?v19) rfl (by kernel_rfl) (by kernel_rfl) (by kernel_rfl) (fun _ _ _ h => h) (Or.inl ⟨by rfl, ?y19⟩) (HB3.out.cell 1) ?r19
            case y19 => (intro w0_ _; go_simp; try with_reducible rfl)
            try simp only [Act.put, List.setIfInBounds_toArray, List.set_cons_zero, List.set_cons_succ]
            refine wpAnyH_take (i := 20) (v := ?v20) rfl (by kernel_rfl) (by kernel_rfl) (by kernel_rfl) (fun _ _ _ h => h) (Or.inl ⟨by rfl, ?y20⟩) (HB3.out.cell 1) ?r20
            case y20 => (intro w0_ _; go_simp; try with_reducible rfl)
            try simp only [Act.put, List.setIfInBounds_toArray, List.set_cons_zero, List.set_cons_succ]
            refine wpAnyH_take (i := 21) (v := ?v21) rfl (by kernel_rfl) (by kernel_rfl) (by kernel_rfl) (fun _ _ _ h => h) (Or.inl ⟨by rfl, ?y21⟩) (HB3.out.cell 1) ?r21
            case y21 => (intro w0_ hs_; go_simp; try with_reducible rfl)
            try simp only [Act.put, List.setIfInBounds_toArray, List.set_cons_zero, List.set_cons_succ]
            refine wpAnyH_take (i := 22) (v := ?v22) rfl (by kernel_rfl) (by kernel_rfl) (by kernel_rfl) (fun _ _ _ h => h) (Or.inl ⟨by rfl, ?y22⟩) (HB3.out.cell 1) ?r22
            case y22 => (intro w0_ _; go_simp; try with_reducible rfl)
            try simp only [Act.put, List.setIfInBounds_toArray, List.set_cons_zero, List.set_cons_succ]
            refine wpAnyH_ready (rs := [23]) (by kernel_rfl) (by simp) (AllReadyH.cons (i := 23) rfl (fun K hK => ?_) AllReadyH.nil)
            go_simp
            refine hK.out _ _ ((HB3.out.alloc _).cell 1) (fun _ => ?_)
            clear hK K
            try simp only [Act.put, List.setIfInBounds_toArray, List.set_cons_zero, List.set_cons_succ]
            refine wpAnyH_ready (rs := [24]) (by kernel_rfl) (by simp) (AllReadyH.cons (i := 24) rfl (fun K hK => ?_) AllReadyH.nil)
            refine step_append_lies _ (by rfl) _ _ _ (by rfl) base 51 i0 _ 5 40 Tryd.underlying44 HI.out.1 HI.out.2.1 HI.out.2.2.1 HI.out.2.2.2 rfl (by omega) _ k _ (by rfl) (own_alloc1 HO3.out _) ⟨W3.heap.size, 0, none⟩ 1 1 [.int .i64 (y0 : Int), .int .i64 (y3 : Int), .int .i64 (y1 : Int), .int .i64 (y2 : Int), .int .i64 nv] (by rfl) (by rfl) (World.news_of_block (cs := #[.int .i64 (y0 : Int), .int .i64 (y3 : Int), .int .i64 (y1 : Int), .int .i64 (y2 : Int), .int .i64 nv]) (t := 51) (fr := (0, 0)) (heap_alloc_new W3 _)) (by simp [Value.oneCell']) (by omega) (by simp only [maxLen]; omega) (by omega) (by have := HZ3.out; simp; omega) (W3.heap.size + 1) (by simp) ?_
            intro gg cap w5 hown1 hgrow hat hlt2
            have HX := As.mk (And.intro hown1 (And.intro (gr_then (gr_alloc HG3.out _) hgrow (.inr (.inr (fun q hq => by have := HO3.out.lt q hq; have := HB.out; omega)))) (show base ≤ w5.heap.size by have := HZ3.out; have := hgrow.size; simp at this; omega)))
            have HB5 := As.mk ((HB3.out.alloc _).grown hgrow (own_ne HB3.out HO3.out (by decide)))
            clear hown1 hgrow hat hlt2
            refine hK.out _ _ (HB5.out.cell 1) (fun _ => ?_)
            clear hK K
            try simp only [Act.put, List.setIfInBounds_toArray, List.set_cons_zero, List.set_cons_succ]
            refine wpAnyH_ready (rs := [25]) (by kernel_rfl) (by simp) (AllReadyH.cons (i := 25) rfl (fun K hK => ?_) AllReadyH.nil)
            go_simp
            refine hK.out _ _ (HB5.out.cell 1) (fun _ => ?_)
            clear hK K
            try simp only [Act.put, List.setIfInBounds_toArray, List.set_cons_zero, List.set_cons_succ]
            refine wpAnyH_done (by kernel_rfl) ?_ _
            refine NoPanic.normal ?_
            clear e0 e1 e2 e3
            go_wp2_with fail
            go_roundw
            case measure => simp [intOf]; omega
            case rel => exact ⟨k + 1, by omega, by go_num, ⟨by rw [HT.out, HOX.out, opsCells_snoc]; exact HX.out.1, HX.out.2⟩⟩
          · obtain rfl : k = n := by omega
            have HL1 := HL.out.1
            rw [← HN9.out, List.take_of_length_le (Nat.le_refl _)] at HL1
            have HA := As.mk (Arr.of_ops HL1)
            clear HL1
            have HG := As.mk HL.out.2.1
            have HF : As (dr = (rdL S, pRight (rdL S))) := ⟨by rw [HE.out, if_neg (by omega)]⟩
            have hk9 : (rdL S).length = k := HN9.out
            rw [hk9] at HA
            generalize rdL S = l at *
            go_wp2_with fail
            refine (rRight_c _ l _ HA.out _ (rRight_pRight l)).mono ?_
            rintro e w4 ⟨rfl, g4⟩
            have G4 := As.mk (gr_then HG.out g4 (.inl rfl))
            have HA4 := As.mk (HA.out.below g4 (fun _ _ => OpE.any _ _))
            clear g4
            go_wp2_with fail
            go_ret2
            exact ⟨⟨_, by rw [HF.out]; rfl, by rw [HF.out]; exact HA4.out⟩, G4.out⟩
    · have hsb : ((S.size : Int) != 2 + 12 * (n : Int)) = true := by rw [bne_iff_ne]; omega
      have HF : As (dr = ([], false)) := ⟨by rw [HE.out, if_pos (Or.inl hs)]⟩
      go_wp2_with fail
      go_ret2
      exact ⟨⟨_, by rw [HF.out]; rfl, by rw [HF.out]; exact ⟨none, 0, rfl, by simp, fun h => by simp at h⟩⟩, gr_drewN (gr_refl _ _) _⟩
end Go.Proofs.YtihibljjbdjeoaaDoor
