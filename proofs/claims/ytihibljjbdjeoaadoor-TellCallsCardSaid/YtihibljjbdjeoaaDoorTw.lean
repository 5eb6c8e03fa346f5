/- The walk of the law TellWords. -/
import Derived.Test.YtihibljjbdjeoaaDoorRi
namespace Go.Proofs.YtihibljjbdjeoaaDoor
open Go.RowKit
set_option linter.unusedVariables false

theorem ba_inj {a b : ByteArray} (h : a.toList = b.toList) : a = b := by
  rw [ByteArray.toList_eq, ByteArray.toList_eq] at h
  exact ByteArray.ext (Array.toList_inj.1 h)
theorem itoa_small (u : Nat) (h : u < 10) : Lib.itoa (u : Int) = [UInt8.ofNat (48 + u)] := by
  unfold Lib.itoa
  rw [if_neg (by omega)]
  simp only [Int.toNat_natCast]
  rw [Lib.decDigits_one h]
theorem ex_items : itemsS [⟨3, 1, 5, true, 6⟩] = ⟨#[32, 99, 51, 64, 49, 61, 53, 62, 54]⟩ := by
  have h3 := itoa_small 3 (by decide)
  have h1 := itoa_small 1 (by decide)
  have h5 := itoa_small 5 (by decide)
  have h6 := itoa_small 6 (by decide)
  apply ByteArray.ext
  unfold itemsS itemsB
  simp only [List.flatMap_cons, List.flatMap_nil, itBytes_eq]
  rw [show (3 : Int) = ((3 : Nat) : Int) from rfl, show (1 : Int) = ((1 : Nat) : Int) from rfl, show (5 : Int) = ((5 : Nat) : Int) from rfl, show (6 : Int) = ((6 : Nat) : Int) from rfl, h3, h1, h5, h6]
  rfl
theorem ex_name : nameOf 1 2 3 = ⟨#[49, 46, 50, 46, 51]⟩ := by
  have h3 := itoa_small 3 (by decide)
  have h1 := itoa_small 1 (by decide)
  have h2 := itoa_small 2 (by decide)
  have e := nameOf_list 1 2 3
  rw [show (3 : Int) = ((3 : Nat) : Int) from rfl, show (1 : Int) = ((1 : Nat) : Int) from rfl, show (2 : Int) = ((2 : Nat) : Int) from rfl, h3, h1, h2] at e
  apply ByteArray.ext
  have e' := congrArg List.toArray e
  simp only [Array.toArray_toList] at e'
  exact e'
theorem itOne {w : World} {g : Nat} {t : TypeId} {x : PIt} (h : Blk w g t #[.int .i64 x.c, .int .i64 x.v, .int .i64 x.a, .bool x.wr, .int .i64 x.nw]) : Arr ItE 5 w (.slice (some ⟨g, 0, none⟩) 1 1) [x] :=
  Arr.block (xs := [x]) h (by simp) (by simp) (fun j y hy => by
    match j with
    | 0 =>
      simp at hy
      subst hy
      refine ⟨_, rfl, rfl, fun i v hv => ?_⟩
      rw [Nat.zero_mul, Nat.zero_add]
      simpa using hv
    | j + 1 => simp at hy)
set_option maxRecDepth 100000 in
set_option maxHeartbeats 3200000 in
theorem awake28 (w : World) (ht : Tab w) : Calls Tryd.prog 10 #[] w fun e w' => e = .returned (.bool true) ∧ w.grownBy w' none := by
  have HT := As.mk ht
  have HI := As.mk (items_c (w.alloc (.cells #[.int .i64 3, .int .i64 1, .int .i64 5, .bool true, .int .i64 6] 69)) (ht.gr (gr_alloc (gr_refl w none) _)) _ [⟨3, 1, 5, true, 6⟩] (itOne (Blk.new w 69 _)) (by
    intro x hx
    rw [List.mem_singleton.1 hx]
    exact ⟨⟨by decide, by decide⟩, ⟨by decide, by decide⟩, ⟨by decide, by decide⟩, ⟨by decide, by decide⟩⟩) (by decide))
  rw [ex_items] at HI
  clear ht
  go_enter Tryd.func10, Tryd.ntmps10
  go_wp2_with (go_at_call 13; refine HI.out.mono ?_; rintro e w1 ⟨rfl, g1⟩)
  have HG := As.mk (gr_then (gr_alloc (gr_refl w none) _) g1 (.inl rfl))
  have HN := As.mk (name_c 1 2 3 ⟨by decide, by decide⟩ ⟨by decide, by decide⟩ ⟨by decide, by decide⟩ w1 (HT.out.gr HG.out))
  rw [ex_name] at HN
  clear g1
  refine HN.out.mono ?_
  rintro e w2 ⟨rfl, g2⟩
  have HG2 := As.mk (gr_then HG.out g2 (.inl rfl))
  clear g2
  go_wp2_with fail
  go_ret
  exact ⟨rfl, HG2.out⟩
set_option maxRecDepth 100000 in
set_option maxHeartbeats 6400000 in
theorem tw_walk (n e s n' e' s' : Int) (h1 : In64 n) (h2 : In64 e) (h3 : In64 s) (h1' : In64 n') (h2' : In64 e') (h3' : In64 s') (u : Value) (l : List PIt) (w : World) (ht : Tab w) (hu : Arr ItE 5 w u l) (hok : ∀ x ∈ l, x.ok) :
    Calls Tryd.prog 3 #[.agg #[.int .i64 n, .int .i64 e, .int .i64 s], .agg #[.int .i64 n', .int .i64 e', .int .i64 s'], u] w fun e w' => e = .returned (.bool true) ∧ w.grownBy w' none := by
  obtain ⟨A, c, rfl⟩ := hu.len
  have hle := hu.le
  have B1 := As.mk (And.intro h1 (And.intro h2 h3))
  have B2 := As.mk (And.intro h1' (And.intro h2' h3'))
  have HT := As.mk ht
  have HU := As.mk hu
  have HOK := As.mk hok
  have K1 := As.mk ((Blk.new w 23 #[.int .i64 n, .int .i64 e, .int .i64 s]).alloc (.cells #[.int .i64 n', .int .i64 e', .int .i64 s'] 23))
  have K2 := As.mk (Blk.new2 w (.cells #[.int .i64 n, .int .i64 e, .int .i64 s] 23) 23 #[.int .i64 n', .int .i64 e', .int .i64 s'])
  have G := As.mk (gr_alloc (gr_alloc (gr_refl w none) (.cells #[.int .i64 n, .int .i64 e, .int .i64 s] 23)) (.cells #[.int .i64 n', .int .i64 e', .int .i64 s'] 23))
  clear h1 h2 h3 h1' h2' h3' hu hok ht
  go_enter Tryd.func3, Tryd.ntmps3
  go_upto_region 3 with (go_at_call 10; refine (awake28 _ (HT.out.gr G.out)).mono ?_; rintro e w1 ⟨rfl, hg⟩)
  have nK1 := As.mk (K1.out.grown hg (by simp))
  have nK2 := As.mk (K2.out.grown hg (by simp))
  have nG := As.mk (gr_then G.out hg (.inl rfl))
  clear K1 K2 G hg
  generalize w.heap.size = g at *
  by_cases h40 : 40 < l.length
  · have h40I : (40 : Int) < (l.length : Int) := by omega
    go_wp2_with fail
    go_ret
    exact ⟨rfl, nG.out⟩
  · have h40I : ¬ (40 : Int) < (l.length : Int) := by omega
    have hbb : ∀ b : ByteArray, (b.toList == b.toList) = true := fun b => by simp
    by_cases hsame : n = n' ∧ e = e' ∧ s = s'
    · obtain ⟨rfl, rfl, rfl⟩ := hsame
      have GW := As.mk (gr_refl w1 none)
      go_wp2_with fail
      go_region_held3 (fun w' => (w'.cell? ⟨g, 0, none⟩ = some (.int .i64 n) ∧ w'.cell? ⟨g, 1, none⟩ = some (.int .i64 e) ∧ w'.cell? ⟨g, 2, none⟩ = some (.int .i64 s)) ∧ (w'.cell? ⟨g + 1, 0, none⟩ = some (.int .i64 n) ∧ w'.cell? ⟨g + 1, 1, none⟩ = some (.int .i64 e) ∧ w'.cell? ⟨g + 1, 2, none⟩ = some (.int .i64 s)))
        (first | exact ⟨⟨(nK1.out.grown GW.out (by simp)).cell 0, (nK1.out.grown GW.out (by simp)).cell 1, (nK1.out.grown GW.out (by simp)).cell 2⟩, ⟨(nK2.out.grown GW.out (by simp)).cell 0, (nK2.out.grown GW.out (by simp)).cell 1, (nK2.out.grown GW.out (by simp)).cell 2⟩⟩ | go_keep)
        (first
        | (go_at_call 11; refine (name_c _ _ _ ?qa ?qb ?qc _ ?qt).mono ?_; (case qt => exact HT.out.gr (gr_then nG.out (by first | exact GW.out | exact gr_drew GW.out) (.inl rfl))); (case qa => first | exact B1.out.1 | exact B2.out.1); (case qb => first | exact B1.out.2.1 | exact B2.out.2.1); (case qc => first | exact B1.out.2.2 | exact B2.out.2.2); rintro e0 w2 ⟨rfl, hg⟩
           have nGW := As.mk (gr_then (row := none) (by first | exact GW.out | exact gr_drew GW.out) hg (.inl rfl)); clear GW; have GW := nGW; clear nGW; clear hg)
        | (go_at_call 12; refine (refName_c _ _ _ ?qa ?qb ?qc _).mono ?_; (case qa => first | exact B1.out.1 | exact B2.out.1); (case qb => first | exact B1.out.2.1 | exact B2.out.2.1); (case qc => first | exact B1.out.2.2 | exact B2.out.2.2); rintro e0 w2 ⟨rfl, hg⟩
           have nGW := As.mk (gr_then (row := none) (by first | exact GW.out | exact gr_drew GW.out) hg (.inl rfl)); clear GW; have GW := nGW; clear nGW; clear hg)
        | (go_at_call 13; refine (items_c _ ?qt _ l ?qu HOK.out (by omega)).mono ?_; (case qt => exact HT.out.gr (gr_then nG.out (by first | exact GW.out | exact gr_drew GW.out) (.inl rfl))); (case qu => exact HU.out.below (gr_then nG.out (by first | exact GW.out | exact gr_drew GW.out) (.inl rfl)) (fun _ _ => ItE.any _ _)); rintro e0 w2 ⟨rfl, hg⟩
           have nGW := As.mk (gr_then (row := none) (by first | exact GW.out | exact gr_drew GW.out) hg (.inl rfl)); clear GW; have GW := nGW; clear nGW; clear hg)
        | (go_at_call 14; refine (refItems_c _ _ l ?qu HOK.out (by omega)).mono ?_; (case qu => exact HU.out.below (gr_then nG.out (by first | exact GW.out | exact gr_drew GW.out) (.inl rfl)) (fun _ _ => ItE.any _ _)); rintro e0 w2 ⟨rfl, hg⟩
           have nGW := As.mk (gr_then (row := none) (by first | exact GW.out | exact gr_drew GW.out) hg (.inl rfl)); clear GW; have GW := nGW; clear nGW; clear hg))
      simp only [Exit.then]
      go_wp2_with fail
      go_ret
      exact ⟨rfl, gr_then nG.out GW.out (.inl rfl)⟩
    · have hb : ((nameOf n e s).toList == (nameOf n' e' s').toList) = false := by
        rw [beq_eq_false_iff_ne]
        intro h
        exact hsame (nameOf_inj (ba_inj h))
      by_cases hn : n = n'
      · subst hn
        by_cases he : e = e'
        · subst he
          have hs : ¬ s = s' := fun h => hsame ⟨rfl, rfl, h⟩
          have hsb : (s == s') = false := by simpa using hs
          have GW := As.mk (gr_refl w1 none)
          go_wp2_with fail
          go_region_held3 (fun w' => (w'.cell? ⟨g, 0, none⟩ = some (.int .i64 n) ∧ w'.cell? ⟨g, 1, none⟩ = some (.int .i64 e) ∧ w'.cell? ⟨g, 2, none⟩ = some (.int .i64 s)) ∧ (w'.cell? ⟨g + 1, 0, none⟩ = some (.int .i64 n) ∧ w'.cell? ⟨g + 1, 1, none⟩ = some (.int .i64 e) ∧ w'.cell? ⟨g + 1, 2, none⟩ = some (.int .i64 s')))
            (first | exact ⟨⟨(nK1.out.grown GW.out (by simp)).cell 0, (nK1.out.grown GW.out (by simp)).cell 1, (nK1.out.grown GW.out (by simp)).cell 2⟩, ⟨(nK2.out.grown GW.out (by simp)).cell 0, (nK2.out.grown GW.out (by simp)).cell 1, (nK2.out.grown GW.out (by simp)).cell 2⟩⟩ | go_keep)
            (first
            | (go_at_call 11; refine (name_c _ _ _ ?qa ?qb ?qc _ ?qt).mono ?_; (case qt => exact HT.out.gr (gr_then nG.out (by first | exact GW.out | exact gr_drew GW.out) (.inl rfl))); (case qa => first | exact B1.out.1 | exact B2.out.1); (case qb => first | exact B1.out.2.1 | exact B2.out.2.1); (case qc => first | exact B1.out.2.2 | exact B2.out.2.2); rintro e0 w2 ⟨rfl, hg⟩
               have nGW := As.mk (gr_then (row := none) (by first | exact GW.out | exact gr_drew GW.out) hg (.inl rfl)); clear GW; have GW := nGW; clear nGW; clear hg)
            | (go_at_call 12; refine (refName_c _ _ _ ?qa ?qb ?qc _).mono ?_; (case qa => first | exact B1.out.1 | exact B2.out.1); (case qb => first | exact B1.out.2.1 | exact B2.out.2.1); (case qc => first | exact B1.out.2.2 | exact B2.out.2.2); rintro e0 w2 ⟨rfl, hg⟩
               have nGW := As.mk (gr_then (row := none) (by first | exact GW.out | exact gr_drew GW.out) hg (.inl rfl)); clear GW; have GW := nGW; clear nGW; clear hg)
            | (go_at_call 13; refine (items_c _ ?qt _ l ?qu HOK.out (by omega)).mono ?_; (case qt => exact HT.out.gr (gr_then nG.out (by first | exact GW.out | exact gr_drew GW.out) (.inl rfl))); (case qu => exact HU.out.below (gr_then nG.out (by first | exact GW.out | exact gr_drew GW.out) (.inl rfl)) (fun _ _ => ItE.any _ _)); rintro e0 w2 ⟨rfl, hg⟩
               have nGW := As.mk (gr_then (row := none) (by first | exact GW.out | exact gr_drew GW.out) hg (.inl rfl)); clear GW; have GW := nGW; clear nGW; clear hg)
            | (go_at_call 14; refine (refItems_c _ _ l ?qu HOK.out (by omega)).mono ?_; (case qu => exact HU.out.below (gr_then nG.out (by first | exact GW.out | exact gr_drew GW.out) (.inl rfl)) (fun _ _ => ItE.any _ _)); rintro e0 w2 ⟨rfl, hg⟩
               have nGW := As.mk (gr_then (row := none) (by first | exact GW.out | exact gr_drew GW.out) hg (.inl rfl)); clear GW; have GW := nGW; clear nGW; clear hg))
          simp only [Exit.then]
          go_wp2_with fail
          go_ret
          exact ⟨rfl, gr_then nG.out GW.out (.inl rfl)⟩
        · have heb : (e == e') = false := by simpa using he
          have GW := As.mk (gr_refl w1 none)
          go_wp2_with fail
          go_region_held3 (fun w' => (w'.cell? ⟨g, 0, none⟩ = some (.int .i64 n) ∧ w'.cell? ⟨g, 1, none⟩ = some (.int .i64 e) ∧ w'.cell? ⟨g, 2, none⟩ = some (.int .i64 s)) ∧ (w'.cell? ⟨g + 1, 0, none⟩ = some (.int .i64 n) ∧ w'.cell? ⟨g + 1, 1, none⟩ = some (.int .i64 e') ∧ w'.cell? ⟨g + 1, 2, none⟩ = some (.int .i64 s')))
            (first | exact ⟨⟨(nK1.out.grown GW.out (by simp)).cell 0, (nK1.out.grown GW.out (by simp)).cell 1, (nK1.out.grown GW.out (by simp)).cell 2⟩, ⟨(nK2.out.grown GW.out (by simp)).cell 0, (nK2.out.grown GW.out (by simp)).cell 1, (nK2.out.grown GW.out (by simp)).cell 2⟩⟩ | go_keep)
            (first
            | (go_at_call 11; refine (name_c _ _ _ ?qa ?qb ?qc _ ?qt).mono ?_; (case qt => exact HT.out.gr (gr_then nG.out (by first | exact GW.out | exact gr_drew GW.out) (.inl rfl))); (case qa => first | exact B1.out.1 | exact B2.out.1); (case qb => first | exact B1.out.2.1 | exact B2.out.2.1); (case qc => first | exact B1.out.2.2 | exact B2.out.2.2); rintro e0 w2 ⟨rfl, hg⟩
               have nGW := As.mk (gr_then (row := none) (by first | exact GW.out | exact gr_drew GW.out) hg (.inl rfl)); clear GW; have GW := nGW; clear nGW; clear hg)
            | (go_at_call 12; refine (refName_c _ _ _ ?qa ?qb ?qc _).mono ?_; (case qa => first | exact B1.out.1 | exact B2.out.1); (case qb => first | exact B1.out.2.1 | exact B2.out.2.1); (case qc => first | exact B1.out.2.2 | exact B2.out.2.2); rintro e0 w2 ⟨rfl, hg⟩
               have nGW := As.mk (gr_then (row := none) (by first | exact GW.out | exact gr_drew GW.out) hg (.inl rfl)); clear GW; have GW := nGW; clear nGW; clear hg)
            | (go_at_call 13; refine (items_c _ ?qt _ l ?qu HOK.out (by omega)).mono ?_; (case qt => exact HT.out.gr (gr_then nG.out (by first | exact GW.out | exact gr_drew GW.out) (.inl rfl))); (case qu => exact HU.out.below (gr_then nG.out (by first | exact GW.out | exact gr_drew GW.out) (.inl rfl)) (fun _ _ => ItE.any _ _)); rintro e0 w2 ⟨rfl, hg⟩
               have nGW := As.mk (gr_then (row := none) (by first | exact GW.out | exact gr_drew GW.out) hg (.inl rfl)); clear GW; have GW := nGW; clear nGW; clear hg)
            | (go_at_call 14; refine (refItems_c _ _ l ?qu HOK.out (by omega)).mono ?_; (case qu => exact HU.out.below (gr_then nG.out (by first | exact GW.out | exact gr_drew GW.out) (.inl rfl)) (fun _ _ => ItE.any _ _)); rintro e0 w2 ⟨rfl, hg⟩
               have nGW := As.mk (gr_then (row := none) (by first | exact GW.out | exact gr_drew GW.out) hg (.inl rfl)); clear GW; have GW := nGW; clear nGW; clear hg))
          simp only [Exit.then]
          go_wp2_with fail
          go_ret
          exact ⟨rfl, gr_then nG.out GW.out (.inl rfl)⟩
      · have hnb : (n == n') = false := by simpa using hn
        have GW := As.mk (gr_refl w1 none)
        go_wp2_with fail
        go_region_held3 (fun w' => (w'.cell? ⟨g, 0, none⟩ = some (.int .i64 n) ∧ w'.cell? ⟨g, 1, none⟩ = some (.int .i64 e) ∧ w'.cell? ⟨g, 2, none⟩ = some (.int .i64 s)) ∧ (w'.cell? ⟨g + 1, 0, none⟩ = some (.int .i64 n') ∧ w'.cell? ⟨g + 1, 1, none⟩ = some (.int .i64 e') ∧ w'.cell? ⟨g + 1, 2, none⟩ = some (.int .i64 s')))
          (first | exact ⟨⟨(nK1.out.grown GW.out (by simp)).cell 0, (nK1.out.grown GW.out (by simp)).cell 1, (nK1.out.grown GW.out (by simp)).cell 2⟩, ⟨(nK2.out.grown GW.out (by simp)).cell 0, (nK2.out.grown GW.out (by simp)).cell 1, (nK2.out.grown GW.out (by simp)).cell 2⟩⟩ | go_keep)
          (first
          | (go_at_call 11; refine (name_c _ _ _ ?qa ?qb ?qc _ ?qt).mono ?_; (case qt => exact HT.out.gr (gr_then nG.out (by first | exact GW.out | exact gr_drew GW.out) (.inl rfl))); (case qa => first | exact B1.out.1 | exact B2.out.1); (case qb => first | exact B1.out.2.1 | exact B2.out.2.1); (case qc => first | exact B1.out.2.2 | exact B2.out.2.2); rintro e0 w2 ⟨rfl, hg⟩
             have nGW := As.mk (gr_then (row := none) (by first | exact GW.out | exact gr_drew GW.out) hg (.inl rfl)); clear GW; have GW := nGW; clear nGW; clear hg)
          | (go_at_call 12; refine (refName_c _ _ _ ?qa ?qb ?qc _).mono ?_; (case qa => first | exact B1.out.1 | exact B2.out.1); (case qb => first | exact B1.out.2.1 | exact B2.out.2.1); (case qc => first | exact B1.out.2.2 | exact B2.out.2.2); rintro e0 w2 ⟨rfl, hg⟩
             have nGW := As.mk (gr_then (row := none) (by first | exact GW.out | exact gr_drew GW.out) hg (.inl rfl)); clear GW; have GW := nGW; clear nGW; clear hg)
          | (go_at_call 13; refine (items_c _ ?qt _ l ?qu HOK.out (by omega)).mono ?_; (case qt => exact HT.out.gr (gr_then nG.out (by first | exact GW.out | exact gr_drew GW.out) (.inl rfl))); (case qu => exact HU.out.below (gr_then nG.out (by first | exact GW.out | exact gr_drew GW.out) (.inl rfl)) (fun _ _ => ItE.any _ _)); rintro e0 w2 ⟨rfl, hg⟩
             have nGW := As.mk (gr_then (row := none) (by first | exact GW.out | exact gr_drew GW.out) hg (.inl rfl)); clear GW; have GW := nGW; clear nGW; clear hg)
          | (go_at_call 14; refine (refItems_c _ _ l ?qu HOK.out (by omega)).mono ?_; (case qu => exact HU.out.below (gr_then nG.out (by first | exact GW.out | exact gr_drew GW.out) (.inl rfl)) (fun _ _ => ItE.any _ _)); rintro e0 w2 ⟨rfl, hg⟩
             have nGW := As.mk (gr_then (row := none) (by first | exact GW.out | exact gr_drew GW.out) hg (.inl rfl)); clear GW; have GW := nGW; clear nGW; clear hg))
        simp only [Exit.then]
        go_wp2_with fail
        go_ret
        exact ⟨rfl, gr_then nG.out GW.out (.inl rfl)⟩
end Go.Proofs.YtihibljjbdjeoaaDoor
