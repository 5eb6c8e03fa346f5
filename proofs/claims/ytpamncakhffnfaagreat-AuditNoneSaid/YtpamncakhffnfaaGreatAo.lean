/- The walk of the registers' may. -/
import Derived.Test.YtpamncakhffnfaaGreatAn
namespace Go.Proofs.YtpamncakhffnfaaGreat
open Go.RowKit Go.Maps
set_option linter.unusedVariables false
set_option linter.unusedSimpArgs false

structure PCo where
  tid : PTid
  items : List PIt
  at_ : Int
def CoE (w : World) (x : PCo) (cs : List Value) : Prop := ∃ vi, cs = [.int .i64 x.tid.n, .int .i64 x.tid.e, .int .i64 x.tid.s, vi, .int .i64 x.at_] ∧ Arr ItE 5 w vi x.items
theorem CoE.grown {w w' : World} (hg : w.grownBy w' none) (x : PCo) (cs : List Value) (h : CoE w x cs) : CoE w' x cs := by
  obtain ⟨vi, h1, h2⟩ := h
  exact ⟨vi, h1, h2.below hg (fun _ _ h => h)⟩
def mayC (rs : List (Int × Int)) (f : PTid → Option Bool) (c : PCo) : Int :=
  if (!tidOk c.tid || (decide (0 < c.items.length) && !itemsOk c.items)) = true then 1
  else if c.items.any (outB rs) = true then 1
  else if (f c.tid).getD false = true then 9
  else if c.items.any (othB rs) = true then 13 else 0
theorem tidOk_W {t : PTid} (h : tidOk t = true) : tidW t := by
  unfold tidOk inR at h
  simp only [Bool.and_eq_true, decide_eq_true_eq] at h
  exact ⟨⟨by omega, by omega⟩, ⟨by omega, by omega⟩, ⟨by omega, by omega⟩⟩
theorem itemsOk_c {l : List PIt} (h : itemsOk l = true) : ∀ x ∈ l, 0 ≤ x.c ∧ x.c ≤ 15 ∧ 0 ≤ x.v ∧ x.v < 1099511627776 := by
  intro x hx
  unfold itemsOk goodTo at h
  rw [Bool.and_eq_true] at h
  obtain ⟨i, hi, rfl⟩ := List.mem_iff_getElem.1 hx
  have := List.all_eq_true.1 h.1 i (List.mem_range.2 hi)
  unfold goodAt at this
  rw [List.getElem?_eq_getElem hi] at this
  simp only [Bool.and_eq_true] at this
  have h1 := this.1
  unfold itemOk inR at h1
  simp only [Bool.and_eq_true, decide_eq_true_eq] at h1
  omega
theorem seen_run {w : World} {mb n : Nat} {f : PTid → Option Bool} (h : MapK elSeenT w mb n f) {a b c : Int} (ht : tidW ⟨a, b, c⟩) (r : Bool) (hr : (f ⟨a, b, c⟩).getD false = r) :
    (Instr.lookup 45 (.map (some mb)) (.agg #[.int .i64 a, .int .i64 b, .int .i64 c]) false).run Tryz.prog w = .ok (.bool r) w := by
  have := MapK.run1 h (c := ⟨a, b, c⟩) ht rfl
  subst hr
  cases hf : f ⟨a, b, c⟩ with
  | none => rw [hf] at this; exact this
  | some q => rw [hf] at this; exact this
set_option maxRecDepth 100000 in
set_option maxHeartbeats 6400000 in
theorem may_c (w : World) {B rb lb mb n : Nat} {rs : List (Int × Int)} {f : PTid → Option Bool} (hR : RegW w B rb lb mb n rs f) (c : PCo) (vi : Value) (hI : Arr ItE 5 w vi c.items) (r : Int) (hr : mayC rs f c = r) :
    Calls Tryz.prog 22 #[.pointer (some ⟨rb, 0, none⟩), .agg #[.int .i64 c.tid.n, .int .i64 c.tid.e, .int .i64 c.tid.s, vi, .int .i64 c.at_]] w fun e w' => e = .returned (.int .i64 r) ∧ w.grownBy w' none := by
  subst hr
  obtain ⟨⟨tn, te, ts⟩, l, ca⟩ := c
  dsimp only at *
  have HG := As.mk (gr_alloc (gr_refl w none) (.cells #[.int .i64 tn, .int .i64 te, .int .i64 ts, vi, .int .i64 ca] 41))
  have HB := As.mk (Blk.new w 41 #[.int .i64 tn, .int .i64 te, .int .i64 ts, vi, .int .i64 ca])
  have HR := As.mk (hR.grown HG.out)
  obtain ⟨A, cp, rfl⟩ := hI.len
  have hl := hI.le
  have HI := As.mk (hI.below HG.out (fun _ _ h => h))
  clear hR hI
  go_enter Tryz.func22, Tryz.ntmps22
  go_wp2_with fail
  have HZ := As.mk (show w.heap.size + 1 = (w.alloc (.cells #[.int .i64 tn, .int .i64 te, .int .i64 ts, .slice A l.length cp, .int .i64 ca] 41)).heap.size by simp)
  generalize w.alloc (.cells #[.int .i64 tn, .int .i64 te, .int .i64 ts, .slice A l.length cp, .int .i64 ca] 41) = W at *
  generalize w.heap.size = g at *
  refine (rightTid_c W ⟨tn, te, ts⟩ _ rfl).mono ?_
  rintro e1 w1 ⟨rfl, g1⟩
  have HG1 := As.mk (HG.out.trans g1)
  have HB1 := As.mk (HB.out.grown g1 (by simp))
  have HR1 := As.mk (HR.out.grown g1)
  have HI1 := As.mk (HI.out.below g1 (fun _ _ h => h))
  have c3 := HB1.out.cell 3
  clear g1 HG HB HR HI
  cases ht : tidOk ⟨tn, te, ts⟩
  · have HT := As.mk (show mayC rs f ⟨⟨tn, te, ts⟩, l, ca⟩ = 1 by unfold mayC; rw [if_pos (by dsimp only; rw [ht]; rfl)])
    clear ht
    go_wp2_with fail
    go_ret
    exact ⟨by rw [HT.out]; rfl, HG1.out⟩
  · have HN : As (mayC rs f ⟨⟨tn, te, ts⟩, l, ca⟩ = if (decide (0 < l.length) && !itemsOk l) = true then 1 else if l.any (outB rs) = true then 1 else if (f ⟨tn, te, ts⟩).getD false = true then 9 else if l.any (othB rs) = true then 13 else 0) := ⟨by unfold mayC; dsimp only; rw [ht]; rfl⟩
    have HW := As.mk (tidOk_W ht)
    clear ht
    by_cases hl0 : 0 < l.length
    · have hl1 : (0 : Int) < (l.length : Int) := by omega
      go_wp2_with fail
      refine (rightItems_c _ _ l HI1.out _ rfl).mono ?_
      rintro e2 w2 ⟨rfl, g2⟩
      replace HG1 := As.mk (HG1.out.trans g2)
      replace HB1 := As.mk (HB1.out.grown g2 (by simp))
      replace HR1 := As.mk (HR1.out.grown g2)
      replace HI1 := As.mk (HI1.out.below g2 (fun _ _ h => h))
      replace c3 := HB1.out.cell 3
      clear g2
      cases hi : itemsOk l
      · have HE : As (mayC rs f ⟨⟨tn, te, ts⟩, l, ca⟩ = 1) := ⟨by rw [HN.out, if_pos (by rw [hi]; simpa using hl0)]⟩
        clear hi
        go_wp2_with fail
        go_ret
        exact ⟨by rw [HE.out]; rfl, HG1.out⟩
      · have HC := As.mk (itemsOk_c hi)
        replace HN : As (mayC rs f ⟨⟨tn, te, ts⟩, l, ca⟩ = if l.any (outB rs) = true then 1 else if (f ⟨tn, te, ts⟩).getD false = true then 9 else if l.any (othB rs) = true then 13 else 0) := ⟨by rw [HN.out, if_neg (by rw [hi]; simp)]⟩
        clear hi
        go_wp2_with fail
        refine (con_out _ _ l HI1.out HR1.out (fun _ _ => trivial) _ rfl).mono ?_
        rintro e3 w3 ⟨rfl, g3⟩
        replace HG1 := As.mk (HG1.out.trans g3)
        replace HB1 := As.mk (HB1.out.grown g3 (by simp))
        replace HR1 := As.mk (HR1.out.grown g3)
        replace HI1 := As.mk (HI1.out.below g3 (fun _ _ h => h))
        clear g3
        cases ho : l.any (outB rs)
        · have HO : As (∀ x ∈ l, 0 ≤ x.c ∧ x.c < rs.length) := ⟨fun x hx => ⟨(HC.out x hx).1, by
            have h1 := List.any_eq_false.1 ho x hx
            simpa [outB] using h1⟩⟩
          replace HN : As (mayC rs f ⟨⟨tn, te, ts⟩, l, ca⟩ = if (f ⟨tn, te, ts⟩).getD false = true then 9 else if l.any (othB rs) = true then 13 else 0) := ⟨by rw [HN.out, if_neg (by rw [ho]; simp)]⟩
          clear ho
          cases hq : (f ⟨tn, te, ts⟩).getD false
          · replace HN : As (mayC rs f ⟨⟨tn, te, ts⟩, l, ca⟩ = if l.any (othB rs) = true then 13 else 0) := ⟨by rw [HN.out, if_neg (by rw [hq]; simp)]⟩
            have HQ := As.mk hq
            clear hq
            go_wp2_with fail
            have HD1 := As.mk (gr_drew HG1.out)
            replace HG1 := HG1
            refine wp_region_noPanic ?_
            refine wp_region_held_drew (S := fun w' => w'.cell? ⟨rb, 1, none⟩ = some (.map (some mb)) ∧ w'.cell? ⟨g, 0, none⟩ = some (.int .i64 tn) ∧ w'.cell? ⟨g, 1, none⟩ = some (.int .i64 te) ∧ w'.cell? ⟨g, 2, none⟩ = some (.int .i64 ts) ∧ MapK elSeenT w' mb n f) (by kernel_rfl) (⟨HR1.out.blk.cell 1, HB1.out.cell 0, HB1.out.cell 1, HB1.out.cell 2, HR1.out.map⟩) (fun hS => ?_)
            refine wpAnyH_take (i := 0) (v := ?vxa1) rfl (by kernel_rfl) (by kernel_rfl) (by kernel_rfl) (fun _ _ _ h => h) (Or.inl ⟨by rfl, ?yxa1⟩) hS ?rxa1
            case yxa1 => (intro w0 _; go_simp; try with_reducible rfl)
            try simp only [List.getElem_toArray, List.getElem_cons_zero, List.getElem_cons_succ, Act.put, List.setIfInBounds_toArray, List.set_cons_zero, List.set_cons_succ]
            refine wpAnyH_take (i := 1) (v := ?vxa2) rfl (by kernel_rfl) (by kernel_rfl) (by kernel_rfl) (fun _ _ _ h => h) (Or.inl ⟨by rfl, ?yxa2⟩) hS ?rxa2
            case yxa2 => (intro w0 _; go_simp; try with_reducible rfl)
            try simp only [List.getElem_toArray, List.getElem_cons_zero, List.getElem_cons_succ, Act.put, List.setIfInBounds_toArray, List.set_cons_zero, List.set_cons_succ]
            refine wpAnyH_take (i := 2) (v := ?vxa3) rfl (by kernel_rfl) (by kernel_rfl) (by kernel_rfl) (fun _ _ _ h => h) (Or.inl ⟨by rfl, ?yxa3⟩) hS ?rxa3
            case yxa3 => (intro w0 _; go_simp; try with_reducible rfl)
            try simp only [List.getElem_toArray, List.getElem_cons_zero, List.getElem_cons_succ, Act.put, List.setIfInBounds_toArray, List.set_cons_zero, List.set_cons_succ]
            refine wpAnyH_take (i := 3) (v := ?vxa4) rfl (by kernel_rfl) (by kernel_rfl) (by kernel_rfl) (fun _ _ _ h => h) (Or.inl ⟨by rfl, ?yxa4⟩) hS ?rxa4
            case yxa4 => (intro w0 hS0; (try simp only [] at hS0); obtain ⟨hS0_0, hS0_1, hS0_2, hS0_3, hS0_4⟩ := hS0; go_simp; try with_reducible rfl)
            try simp only [List.getElem_toArray, List.getElem_cons_zero, List.getElem_cons_succ, Act.put, List.setIfInBounds_toArray, List.set_cons_zero, List.set_cons_succ]
            refine wpAnyH_take (i := 4) (v := ?vxa5) rfl (by kernel_rfl) (by kernel_rfl) (by kernel_rfl) (fun _ _ _ h => h) (Or.inl ⟨by rfl, ?yxa5⟩) hS ?rxa5
            case yxa5 => (intro w0 _; go_simp; try with_reducible rfl)
            try simp only [List.getElem_toArray, List.getElem_cons_zero, List.getElem_cons_succ, Act.put, List.setIfInBounds_toArray, List.set_cons_zero, List.set_cons_succ]
            refine wpAnyH_take (i := 5) (v := ?vxa6) rfl (by kernel_rfl) (by kernel_rfl) (by kernel_rfl) (fun _ _ _ h => h) (Or.inl ⟨by rfl, ?yxa6⟩) hS ?rxa6
            case yxa6 => (intro w0 hS0; (try simp only [] at hS0); obtain ⟨hS0_0, hS0_1, hS0_2, hS0_3, hS0_4⟩ := hS0; go_simp; try with_reducible rfl)
            try simp only [List.getElem_toArray, List.getElem_cons_zero, List.getElem_cons_succ, Act.put, List.setIfInBounds_toArray, List.set_cons_zero, List.set_cons_succ]
            refine wpAnyH_take (i := 6) (v := ?vxa7) rfl (by kernel_rfl) (by kernel_rfl) (by kernel_rfl) (fun _ _ _ h => h) (Or.inl ⟨by rfl, ?yxa7⟩) hS ?rxa7
            case yxa7 => (intro w0 hS0; (try simp only [] at hS0); obtain ⟨hS0_0, hS0_1, hS0_2, hS0_3, hS0_4⟩ := hS0; have hrun := seen_run hS0_4 HW.out _ HQ.out; go_simp; try with_reducible rfl)
            try simp only [List.getElem_toArray, List.getElem_cons_zero, List.getElem_cons_succ, Act.put, List.setIfInBounds_toArray, List.set_cons_zero, List.set_cons_succ]
            refine wpAnyH_take (i := 7) (v := ?vxa8) rfl (by kernel_rfl) (by kernel_rfl) (by kernel_rfl) (fun _ _ _ h => h) (Or.inl ⟨by rfl, ?yxa8⟩) hS ?rxa8
            case yxa8 => (intro w0 _; go_simp; try with_reducible rfl)
            try simp only [List.getElem_toArray, List.getElem_cons_zero, List.getElem_cons_succ, Act.put, List.setIfInBounds_toArray, List.set_cons_zero, List.set_cons_succ]
            refine wpAnyH_done (by kernel_rfl) ?_ _
            refine NoPanic.normal ?_
            try simp only [Exit.then]
            have c4 : w3.drew.cell? ⟨g, 3, none⟩ = some (.slice A l.length cp) := HB1.out.cell 3
            go_wp2_with fail
            refine (con_oth _ _ l (HI1.out.below (gr_drew (gr_refl w3 none)) (fun _ _ h => h)) (HR1.out.grown (gr_drew (gr_refl w3 none))) HO.out _ rfl).mono ?_
            rintro e4 w4 ⟨rfl, g4⟩
            have HGX := As.mk (HD1.out.trans g4)
            clear g4
            cases hz : l.any (othB rs)
            · have HE : As (mayC rs f ⟨⟨tn, te, ts⟩, l, ca⟩ = 0) := ⟨by rw [HN.out, if_neg (by rw [hz]; simp)]⟩
              clear hz
              go_wp2_with fail
              go_ret
              exact ⟨by rw [HE.out]; rfl, HGX.out⟩
            · have HE : As (mayC rs f ⟨⟨tn, te, ts⟩, l, ca⟩ = 13) := ⟨by rw [HN.out, if_pos hz]⟩
              clear hz
              go_wp2_with fail
              go_ret
              exact ⟨by rw [HE.out]; rfl, HGX.out⟩
          · have HE : As (mayC rs f ⟨⟨tn, te, ts⟩, l, ca⟩ = 9) := ⟨by rw [HN.out, if_pos hq]⟩
            have HQ := As.mk hq
            clear hq
            go_wp2_with fail
            refine wp_region_noPanic ?_
            refine wp_region_held_drew (S := fun w' => w'.cell? ⟨rb, 1, none⟩ = some (.map (some mb)) ∧ w'.cell? ⟨g, 0, none⟩ = some (.int .i64 tn) ∧ w'.cell? ⟨g, 1, none⟩ = some (.int .i64 te) ∧ w'.cell? ⟨g, 2, none⟩ = some (.int .i64 ts) ∧ MapK elSeenT w' mb n f) (by kernel_rfl) (⟨HR1.out.blk.cell 1, HB1.out.cell 0, HB1.out.cell 1, HB1.out.cell 2, HR1.out.map⟩) (fun hS => ?_)
            refine wpAnyH_take (i := 0) (v := ?vxb1) rfl (by kernel_rfl) (by kernel_rfl) (by kernel_rfl) (fun _ _ _ h => h) (Or.inl ⟨by rfl, ?yxb1⟩) hS ?rxb1
            case yxb1 => (intro w0 _; go_simp; try with_reducible rfl)
            try simp only [List.getElem_toArray, List.getElem_cons_zero, List.getElem_cons_succ, Act.put, List.setIfInBounds_toArray, List.set_cons_zero, List.set_cons_succ]
            refine wpAnyH_take (i := 1) (v := ?vxb2) rfl (by kernel_rfl) (by kernel_rfl) (by kernel_rfl) (fun _ _ _ h => h) (Or.inl ⟨by rfl, ?yxb2⟩) hS ?rxb2
            case yxb2 => (intro w0 _; go_simp; try with_reducible rfl)
            try simp only [List.getElem_toArray, List.getElem_cons_zero, List.getElem_cons_succ, Act.put, List.setIfInBounds_toArray, List.set_cons_zero, List.set_cons_succ]
            refine wpAnyH_take (i := 2) (v := ?vxb3) rfl (by kernel_rfl) (by kernel_rfl) (by kernel_rfl) (fun _ _ _ h => h) (Or.inl ⟨by rfl, ?yxb3⟩) hS ?rxb3
            case yxb3 => (intro w0 _; go_simp; try with_reducible rfl)
            try simp only [List.getElem_toArray, List.getElem_cons_zero, List.getElem_cons_succ, Act.put, List.setIfInBounds_toArray, List.set_cons_zero, List.set_cons_succ]
            refine wpAnyH_take (i := 3) (v := ?vxb4) rfl (by kernel_rfl) (by kernel_rfl) (by kernel_rfl) (fun _ _ _ h => h) (Or.inl ⟨by rfl, ?yxb4⟩) hS ?rxb4
            case yxb4 => (intro w0 hS0; (try simp only [] at hS0); obtain ⟨hS0_0, hS0_1, hS0_2, hS0_3, hS0_4⟩ := hS0; go_simp; try with_reducible rfl)
            try simp only [List.getElem_toArray, List.getElem_cons_zero, List.getElem_cons_succ, Act.put, List.setIfInBounds_toArray, List.set_cons_zero, List.set_cons_succ]
            refine wpAnyH_take (i := 4) (v := ?vxb5) rfl (by kernel_rfl) (by kernel_rfl) (by kernel_rfl) (fun _ _ _ h => h) (Or.inl ⟨by rfl, ?yxb5⟩) hS ?rxb5
            case yxb5 => (intro w0 _; go_simp; try with_reducible rfl)
            try simp only [List.getElem_toArray, List.getElem_cons_zero, List.getElem_cons_succ, Act.put, List.setIfInBounds_toArray, List.set_cons_zero, List.set_cons_succ]
            refine wpAnyH_take (i := 5) (v := ?vxb6) rfl (by kernel_rfl) (by kernel_rfl) (by kernel_rfl) (fun _ _ _ h => h) (Or.inl ⟨by rfl, ?yxb6⟩) hS ?rxb6
            case yxb6 => (intro w0 hS0; (try simp only [] at hS0); obtain ⟨hS0_0, hS0_1, hS0_2, hS0_3, hS0_4⟩ := hS0; go_simp; try with_reducible rfl)
            try simp only [List.getElem_toArray, List.getElem_cons_zero, List.getElem_cons_succ, Act.put, List.setIfInBounds_toArray, List.set_cons_zero, List.set_cons_succ]
            refine wpAnyH_take (i := 6) (v := ?vxb7) rfl (by kernel_rfl) (by kernel_rfl) (by kernel_rfl) (fun _ _ _ h => h) (Or.inl ⟨by rfl, ?yxb7⟩) hS ?rxb7
            case yxb7 => (intro w0 hS0; (try simp only [] at hS0); obtain ⟨hS0_0, hS0_1, hS0_2, hS0_3, hS0_4⟩ := hS0; have hrun := seen_run hS0_4 HW.out _ HQ.out; go_simp; try with_reducible rfl)
            try simp only [List.getElem_toArray, List.getElem_cons_zero, List.getElem_cons_succ, Act.put, List.setIfInBounds_toArray, List.set_cons_zero, List.set_cons_succ]
            refine wpAnyH_take (i := 7) (v := ?vxb8) rfl (by kernel_rfl) (by kernel_rfl) (by kernel_rfl) (fun _ _ _ h => h) (Or.inl ⟨by rfl, ?yxb8⟩) hS ?rxb8
            case yxb8 => (intro w0 _; go_simp; try with_reducible rfl)
            try simp only [List.getElem_toArray, List.getElem_cons_zero, List.getElem_cons_succ, Act.put, List.setIfInBounds_toArray, List.set_cons_zero, List.set_cons_succ]
            refine wpAnyH_done (by kernel_rfl) ?_ _
            refine NoPanic.normal ?_
            try simp only [Exit.then]
            go_wp2_with fail
            go_ret
            exact ⟨by rw [HE.out]; rfl, gr_drew HG1.out⟩
        · have HE : As (mayC rs f ⟨⟨tn, te, ts⟩, l, ca⟩ = 1) := ⟨by rw [HN.out, if_pos ho]⟩
          clear ho
          go_wp2_with fail
          go_ret
          exact ⟨by rw [HE.out]; rfl, HG1.out⟩
    · have hnil : l = [] := List.eq_nil_of_length_eq_zero (by omega)
      have HC : As (∀ x ∈ l, 0 ≤ x.c ∧ x.c ≤ 15 ∧ 0 ≤ x.v ∧ x.v < 1099511627776) := ⟨fun x hx => by rw [hnil] at hx; cases hx⟩
      replace HN : As (mayC rs f ⟨⟨tn, te, ts⟩, l, ca⟩ = if l.any (outB rs) = true then 1 else if (f ⟨tn, te, ts⟩).getD false = true then 9 else if l.any (othB rs) = true then 13 else 0) := ⟨by rw [HN.out, if_neg (by simp [hl0])]⟩
      clear hnil
      go_wp2_with fail
      refine (con_out _ _ l HI1.out HR1.out (fun _ _ => trivial) _ rfl).mono ?_
      rintro e3 w3 ⟨rfl, g3⟩
      replace HG1 := As.mk (HG1.out.trans g3)
      replace HB1 := As.mk (HB1.out.grown g3 (by simp))
      replace HR1 := As.mk (HR1.out.grown g3)
      replace HI1 := As.mk (HI1.out.below g3 (fun _ _ h => h))
      clear g3
      cases ho : l.any (outB rs)
      · have HO : As (∀ x ∈ l, 0 ≤ x.c ∧ x.c < rs.length) := ⟨fun x hx => ⟨(HC.out x hx).1, by
          have h1 := List.any_eq_false.1 ho x hx
          simpa [outB] using h1⟩⟩
        replace HN : As (mayC rs f ⟨⟨tn, te, ts⟩, l, ca⟩ = if (f ⟨tn, te, ts⟩).getD false = true then 9 else if l.any (othB rs) = true then 13 else 0) := ⟨by rw [HN.out, if_neg (by rw [ho]; simp)]⟩
        clear ho
        cases hq : (f ⟨tn, te, ts⟩).getD false
        · replace HN : As (mayC rs f ⟨⟨tn, te, ts⟩, l, ca⟩ = if l.any (othB rs) = true then 13 else 0) := ⟨by rw [HN.out, if_neg (by rw [hq]; simp)]⟩
          have HQ := As.mk hq
          clear hq
          go_wp2_with fail
          have HD1 := As.mk (gr_drew HG1.out)
          replace HG1 := HG1
          refine wp_region_noPanic ?_
          refine wp_region_held_drew (S := fun w' => w'.cell? ⟨rb, 1, none⟩ = some (.map (some mb)) ∧ w'.cell? ⟨g, 0, none⟩ = some (.int .i64 tn) ∧ w'.cell? ⟨g, 1, none⟩ = some (.int .i64 te) ∧ w'.cell? ⟨g, 2, none⟩ = some (.int .i64 ts) ∧ MapK elSeenT w' mb n f) (by kernel_rfl) (⟨HR1.out.blk.cell 1, HB1.out.cell 0, HB1.out.cell 1, HB1.out.cell 2, HR1.out.map⟩) (fun hS => ?_)
          refine wpAnyH_take (i := 0) (v := ?vya1) rfl (by kernel_rfl) (by kernel_rfl) (by kernel_rfl) (fun _ _ _ h => h) (Or.inl ⟨by rfl, ?yya1⟩) hS ?rya1
          case yya1 => (intro w0 _; go_simp; try with_reducible rfl)
          try simp only [List.getElem_toArray, List.getElem_cons_zero, List.getElem_cons_succ, Act.put, List.setIfInBounds_toArray, List.set_cons_zero, List.set_cons_succ]
          refine wpAnyH_take (i := 1) (v := ?vya2) rfl (by kernel_rfl) (by kernel_rfl) (by kernel_rfl) (fun _ _ _ h => h) (Or.inl ⟨by rfl, ?yya2⟩) hS ?rya2
          case yya2 => (intro w0 _; go_simp; try with_reducible rfl)
          try simp only [List.getElem_toArray, List.getElem_cons_zero, List.getElem_cons_succ, Act.put, List.setIfInBounds_toArray, List.set_cons_zero, List.set_cons_succ]
          refine wpAnyH_take (i := 2) (v := ?vya3) rfl (by kernel_rfl) (by kernel_rfl) (by kernel_rfl) (fun _ _ _ h => h) (Or.inl ⟨by rfl, ?yya3⟩) hS ?rya3
          case yya3 => (intro w0 _; go_simp; try with_reducible rfl)
          try simp only [List.getElem_toArray, List.getElem_cons_zero, List.getElem_cons_succ, Act.put, List.setIfInBounds_toArray, List.set_cons_zero, List.set_cons_succ]
          refine wpAnyH_take (i := 3) (v := ?vya4) rfl (by kernel_rfl) (by kernel_rfl) (by kernel_rfl) (fun _ _ _ h => h) (Or.inl ⟨by rfl, ?yya4⟩) hS ?rya4
          case yya4 => (intro w0 hS0; (try simp only [] at hS0); obtain ⟨hS0_0, hS0_1, hS0_2, hS0_3, hS0_4⟩ := hS0; go_simp; try with_reducible rfl)
          try simp only [List.getElem_toArray, List.getElem_cons_zero, List.getElem_cons_succ, Act.put, List.setIfInBounds_toArray, List.set_cons_zero, List.set_cons_succ]
          refine wpAnyH_take (i := 4) (v := ?vya5) rfl (by kernel_rfl) (by kernel_rfl) (by kernel_rfl) (fun _ _ _ h => h) (Or.inl ⟨by rfl, ?yya5⟩) hS ?rya5
          case yya5 => (intro w0 _; go_simp; try with_reducible rfl)
          try simp only [List.getElem_toArray, List.getElem_cons_zero, List.getElem_cons_succ, Act.put, List.setIfInBounds_toArray, List.set_cons_zero, List.set_cons_succ]
          refine wpAnyH_take (i := 5) (v := ?vya6) rfl (by kernel_rfl) (by kernel_rfl) (by kernel_rfl) (fun _ _ _ h => h) (Or.inl ⟨by rfl, ?yya6⟩) hS ?rya6
          case yya6 => (intro w0 hS0; (try simp only [] at hS0); obtain ⟨hS0_0, hS0_1, hS0_2, hS0_3, hS0_4⟩ := hS0; go_simp; try with_reducible rfl)
          try simp only [List.getElem_toArray, List.getElem_cons_zero, List.getElem_cons_succ, Act.put, List.setIfInBounds_toArray, List.set_cons_zero, List.set_cons_succ]
          refine wpAnyH_take (i := 6) (v := ?vya7) rfl (by kernel_rfl) (by kernel_rfl) (by kernel_rfl) (fun _ _ _ h => h) (Or.inl ⟨by rfl, ?yya7⟩) hS ?rya7
          case yya7 => (intro w0 hS0; (try simp only [] at hS0); obtain ⟨hS0_0, hS0_1, hS0_2, hS0_3, hS0_4⟩ := hS0; have hrun := seen_run hS0_4 HW.out _ HQ.out; go_simp; try with_reducible rfl)
          try simp only [List.getElem_toArray, List.getElem_cons_zero, List.getElem_cons_succ, Act.put, List.setIfInBounds_toArray, List.set_cons_zero, List.set_cons_succ]
          refine wpAnyH_take (i := 7) (v := ?vya8) rfl (by kernel_rfl) (by kernel_rfl) (by kernel_rfl) (fun _ _ _ h => h) (Or.inl ⟨by rfl, ?yya8⟩) hS ?rya8
          case yya8 => (intro w0 _; go_simp; try with_reducible rfl)
          try simp only [List.getElem_toArray, List.getElem_cons_zero, List.getElem_cons_succ, Act.put, List.setIfInBounds_toArray, List.set_cons_zero, List.set_cons_succ]
          refine wpAnyH_done (by kernel_rfl) ?_ _
          refine NoPanic.normal ?_
          try simp only [Exit.then]
          have c4 : w3.drew.cell? ⟨g, 3, none⟩ = some (.slice A l.length cp) := HB1.out.cell 3
          go_wp2_with fail
          refine (con_oth _ _ l (HI1.out.below (gr_drew (gr_refl w3 none)) (fun _ _ h => h)) (HR1.out.grown (gr_drew (gr_refl w3 none))) HO.out _ rfl).mono ?_
          rintro e4 w4 ⟨rfl, g4⟩
          have HGX := As.mk (HD1.out.trans g4)
          clear g4
          cases hz : l.any (othB rs)
          · have HE : As (mayC rs f ⟨⟨tn, te, ts⟩, l, ca⟩ = 0) := ⟨by rw [HN.out, if_neg (by rw [hz]; simp)]⟩
            clear hz
            go_wp2_with fail
            go_ret
            exact ⟨by rw [HE.out]; rfl, HGX.out⟩
          · have HE : As (mayC rs f ⟨⟨tn, te, ts⟩, l, ca⟩ = 13) := ⟨by rw [HN.out, if_pos hz]⟩
            clear hz
            go_wp2_with fail
            go_ret
            exact ⟨by rw [HE.out]; rfl, HGX.out⟩
        · have HE : As (mayC rs f ⟨⟨tn, te, ts⟩, l, ca⟩ = 9) := ⟨by rw [HN.out, if_pos hq]⟩
          have HQ := As.mk hq
          clear hq
          go_wp2_with fail
          refine wp_region_noPanic ?_
          refine wp_region_held_drew (S := fun w' => w'.cell? ⟨rb, 1, none⟩ = some (.map (some mb)) ∧ w'.cell? ⟨g, 0, none⟩ = some (.int .i64 tn) ∧ w'.cell? ⟨g, 1, none⟩ = some (.int .i64 te) ∧ w'.cell? ⟨g, 2, none⟩ = some (.int .i64 ts) ∧ MapK elSeenT w' mb n f) (by kernel_rfl) (⟨HR1.out.blk.cell 1, HB1.out.cell 0, HB1.out.cell 1, HB1.out.cell 2, HR1.out.map⟩) (fun hS => ?_)
          refine wpAnyH_take (i := 0) (v := ?vyb1) rfl (by kernel_rfl) (by kernel_rfl) (by kernel_rfl) (fun _ _ _ h => h) (Or.inl ⟨by rfl, ?yyb1⟩) hS ?ryb1
          case yyb1 => (intro w0 _; go_simp; try with_reducible rfl)
          try simp only [List.getElem_toArray, List.getElem_cons_zero, List.getElem_cons_succ, Act.put, List.setIfInBounds_toArray, List.set_cons_zero, List.set_cons_succ]
          refine wpAnyH_take (i := 1) (v := ?vyb2) rfl (by kernel_rfl) (by kernel_rfl) (by kernel_rfl) (fun _ _ _ h => h) (Or.inl ⟨by rfl, ?yyb2⟩) hS ?ryb2
          case yyb2 => (intro w0 _; go_simp; try with_reducible rfl)
          try simp only [List.getElem_toArray, List.getElem_cons_zero, List.getElem_cons_succ, Act.put, List.setIfInBounds_toArray, List.set_cons_zero, List.set_cons_succ]
          refine wpAnyH_take (i := 2) (v := ?vyb3) rfl (by kernel_rfl) (by kernel_rfl) (by kernel_rfl) (fun _ _ _ h => h) (Or.inl ⟨by rfl, ?yyb3⟩) hS ?ryb3
          case yyb3 => (intro w0 _; go_simp; try with_reducible rfl)
          try simp only [List.getElem_toArray, List.getElem_cons_zero, List.getElem_cons_succ, Act.put, List.setIfInBounds_toArray, List.set_cons_zero, List.set_cons_succ]
          refine wpAnyH_take (i := 3) (v := ?vyb4) rfl (by kernel_rfl) (by kernel_rfl) (by kernel_rfl) (fun _ _ _ h => h) (Or.inl ⟨by rfl, ?yyb4⟩) hS ?ryb4
          case yyb4 => (intro w0 hS0; (try simp only [] at hS0); obtain ⟨hS0_0, hS0_1, hS0_2, hS0_3, hS0_4⟩ := hS0; go_simp; try with_reducible rfl)
          try simp only [List.getElem_toArray, List.getElem_cons_zero, List.getElem_cons_succ, Act.put, List.setIfInBounds_toArray, List.set_cons_zero, List.set_cons_succ]
          refine wpAnyH_take (i := 4) (v := ?vyb5) rfl (by kernel_rfl) (by kernel_rfl) (by kernel_rfl) (fun _ _ _ h => h) (Or.inl ⟨by rfl, ?yyb5⟩) hS ?ryb5
          case yyb5 => (intro w0 _; go_simp; try with_reducible rfl)
          try simp only [List.getElem_toArray, List.getElem_cons_zero, List.getElem_cons_succ, Act.put, List.setIfInBounds_toArray, List.set_cons_zero, List.set_cons_succ]
          refine wpAnyH_take (i := 5) (v := ?vyb6) rfl (by kernel_rfl) (by kernel_rfl) (by kernel_rfl) (fun _ _ _ h => h) (Or.inl ⟨by rfl, ?yyb6⟩) hS ?ryb6
          case yyb6 => (intro w0 hS0; (try simp only [] at hS0); obtain ⟨hS0_0, hS0_1, hS0_2, hS0_3, hS0_4⟩ := hS0; go_simp; try with_reducible rfl)
          try simp only [List.getElem_toArray, List.getElem_cons_zero, List.getElem_cons_succ, Act.put, List.setIfInBounds_toArray, List.set_cons_zero, List.set_cons_succ]
          refine wpAnyH_take (i := 6) (v := ?vyb7) rfl (by kernel_rfl) (by kernel_rfl) (by kernel_rfl) (fun _ _ _ h => h) (Or.inl ⟨by rfl, ?yyb7⟩) hS ?ryb7
          case yyb7 => (intro w0 hS0; (try simp only [] at hS0); obtain ⟨hS0_0, hS0_1, hS0_2, hS0_3, hS0_4⟩ := hS0; have hrun := seen_run hS0_4 HW.out _ HQ.out; go_simp; try with_reducible rfl)
          try simp only [List.getElem_toArray, List.getElem_cons_zero, List.getElem_cons_succ, Act.put, List.setIfInBounds_toArray, List.set_cons_zero, List.set_cons_succ]
          refine wpAnyH_take (i := 7) (v := ?vyb8) rfl (by kernel_rfl) (by kernel_rfl) (by kernel_rfl) (fun _ _ _ h => h) (Or.inl ⟨by rfl, ?yyb8⟩) hS ?ryb8
          case yyb8 => (intro w0 _; go_simp; try with_reducible rfl)
          try simp only [List.getElem_toArray, List.getElem_cons_zero, List.getElem_cons_succ, Act.put, List.setIfInBounds_toArray, List.set_cons_zero, List.set_cons_succ]
          refine wpAnyH_done (by kernel_rfl) ?_ _
          refine NoPanic.normal ?_
          try simp only [Exit.then]
          go_wp2_with fail
          go_ret
          exact ⟨by rw [HE.out]; rfl, gr_drew HG1.out⟩
      · have HE : As (mayC rs f ⟨⟨tn, te, ts⟩, l, ca⟩ = 1) := ⟨by rw [HN.out, if_pos ho]⟩
        clear ho
        go_wp2_with fail
        go_ret
        exact ⟨by rw [HE.out]; rfl, HG1.out⟩
end Go.Proofs.YtpamncakhffnfaaGreat
