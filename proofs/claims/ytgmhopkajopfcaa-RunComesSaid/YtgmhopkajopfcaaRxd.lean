/- The document's Run and Items; a run's Again. The walk of RunComes. -/
import Derived.Test.YtgmhopkajopfcaaRxc
import Derived.Test.YtgmhopkajopfcaaRxb
import Derived.Test.YtgmhopkajopfcaaRp
namespace Go.Proofs.Ytgmhopkajopfcaa
section
open Go.RowKit Go.Maps
set_option linter.unusedVariables false
set_option linter.unusedSimpArgs false
set_option maxRecDepth 100000

set_option maxHeartbeats 3200000 in
theorem run22_c {v : Value} {l : List POp} (hr : pRight l = true) (w : World) (hl : Arr OpE 5 w v l) (c : Pg) (hc : c.flat = l) (ho : c.ok 0) (W : RWd) :
    Calls Try.prog 18 #[v, .agg (wC W)] w fun e w' => e = .returned (.tuple #[.int .i64 (runP c W).1, .agg (wC (runP c W).2)]) ∧ w.grownBy w' none := by
  obtain ⟨A0, c0, rfl⟩ := hl.len
  have HL := As.mk hl
  have HR := As.mk hr
  have HC := As.mk (And.intro hc ho)
  have hlen : l.length ≤ 32 := (pRight_all hr).1
  clear hl hr hc ho
  have hrp : runP c W = if (partP c W).1 = 0 then (5, (partP c W).2) else partP c W := rfl
  generalize runP c W = res at *
  have HRES := As.mk hrp
  clear hrp
  go_enter Try.func18, Try.ntmps18
  have HX := As.mk (show PW w ((w.alloc (.cells (wC W) 47)).alloc (.cells Try.zeroCells47 47)) w.heap.size (w.heap.size + 1) W from ⟨(Blk.new w _ _).alloc _, ⟨_, Blk.new2 w _ 47 Try.zeroCells47, by kernel_rfl⟩, gr_alloc (gr_alloc (gr_refl w none) _) _, by omega, by omega, by omega⟩)
  go_upto_region 1 with fail
  generalize (w.alloc (.cells (wC W) 47)).alloc (.cells Try.zeroCells47 47) = W0 at *
  generalize hb5 : w.heap.size + 1 = b5 at HX ⊢
  clear hb5
  generalize hb3 : w.heap.size = b3 at HX ⊢
  clear hb3
  go_wp2_with (first | (refine wpList_load_row rfl 47 _ rfl b3 rfl 47 (wC W) _ _ HX.out.at_ Try.underlying47 rfl (sizeWC _) ?_))
  refine (part_c HR.out _ c 0 [] 0 W W0 rfl (by rw [HC.out.1]; simp) HC.out.2 (Nat.zero_le _) (HL.out.below HX.out.gr (fun _ _ h => h)) _ _ rfl (by rw [HC.out.1]; simp)).mono ?_
  rintro e w3 ⟨rfl, hg3⟩
  replace HX := As.mk (HX.out.grown hg3)
  clear hg3
  obtain ⟨ph, X, hpa⟩ : ∃ ph X, partP c W = (ph, X) := ⟨_, _, rfl⟩
  rw [hpa] at HRES ⊢
  dsimp only at HRES ⊢
  go_upto_region 2 with (first | (refine wpList_store_new' w3 rfl 47 _ _ rfl Try.zeroCells47 (wC X) rfl rfl (sizeWC _) ((show Try.zeroCells47.size = 88 by kernel_rfl).trans (wC_size _).symm) (wC_one _) ?_))
  have HB7 := As.mk (Blk.new w3 47 (wC X))
  have HN7 := As.mk (show w3.heap.size ≠ b5 from fun e => by obtain ⟨_, hz, _⟩ := HX.out.z; have := hz.lt; omega)
  replace HX := As.mk (HX.out.grown (gr_alloc (gr_refl w3 none) (.cells (wC X) 47)))
  generalize w3.alloc (.cells (wC X) 47) = w4 at *
  generalize w3.heap.size = b7 at *
  by_cases h0 : ph = 0
  · subst h0
    have HRQ := As.mk (HRES.out.trans (if_pos rfl))
    go_upto_region 4 with fail
    refine wp_region_noPanic ?_
    refine wp_region_held_drew (S := fun w' => PW w w' b3 b5 W ∧ WAt w' b7 X) (by kernel_rfl) (⟨HX.out.drew, Blk.drew HB7.out⟩) (fun hS => ?_)
    refine wpAnyH_take (i := 0) (v := ?va1) rfl (by kernel_rfl) (by kernel_rfl) (by kernel_rfl) (fun _ _ _ h => h) (Or.inl ⟨by rfl, ?ya1⟩) hS ?ra1
    case ya1 => (intro w0 _; go_simp; try with_reducible rfl)
    try simp only [yA, yB, yC, Act.put, yD, yE, yF]
    refine wpAnyH_take (i := 2) (v := ?va2) rfl (by kernel_rfl) (by kernel_rfl) (by kernel_rfl) (fun _ _ _ h => h) (Or.inl ⟨by rfl, ?ya2⟩) hS ?ra2
    case ya2 => (intro w0 _; go_simp; try with_reducible rfl)
    try simp only [yA, yB, yC, Act.put, yD, yE, yF]
    refine wpAnyH_ready (rs := [1]) (by kernel_rfl) (by simp) (AllReadyH.cons (i := 1) rfl (fun K hK => ?_) AllReadyH.nil)
    refine wp_load_row 47 _ rfl b7 rfl 47 (wC X) _ _ hS.2 Try.underlying47 rfl (sizeWC _) ?_
    refine hK.out _ _ (hS) (fun hS => ?_)
    clear hK K
    try simp only [yA, yB, yC, Act.put, yD, yE, yF]
    refine wpAnyH_ready (rs := [3]) (by kernel_rfl) (by simp) (AllReadyH.cons (i := 3) rfl (fun K hK => ?_) AllReadyH.nil)
    obtain ⟨old, hz1, hz2⟩ := PW.z hS.1
    refine wp_store_row 47 _ _ rfl b5 (wC X) rfl rfl 47 old hz1 (sizeWC _) (hz2.trans (wC_size _).symm) (wC_one _) ?_
    refine shut_gen hK (F := fun w' => As (Blk w' b5 47 (wC X) ∧ w.grownBy w' none)) (⟨hS.1.rowZ _, Blk.setRow_far hS.2 HN7.out _⟩) (⟨PW.ret hS.1 _⟩) (fun w9 hS HF => ?_)
    clear hK K
    try simp only [yA, yB, yC, Act.put, yD, yE, yF]
    refine wpAnyH_done (by kernel_rfl) ?_ _
    refine NoPanic.normal ?_
    try simp only [Exit.then]
    go_wp2_with fail
    refine bodyPost_ret (results_tmp_row (show Try.f18.results = #[.tmp 4, .cell 5 47] by kernel_rfl) _ _ b5 _ (wC X) (0, 0) _ rfl HF.out.1 Try.underlying47 rfl (sizeWC _)) rfl ⟨?_, HF.out.2⟩
    rw [HRQ.out]
    rfl
  · have hb : (ph == 0) = false := by simpa using h0
    have HRQ := As.mk (HRES.out.trans (if_neg h0))
    go_upto_region 4 with fail
    refine wp_region_noPanic ?_
    refine wp_region_held_drew (S := fun w' => PW w w' b3 b5 W ∧ WAt w' b7 X) (by kernel_rfl) (⟨HX.out.drew, Blk.drew HB7.out⟩) (fun hS => ?_)
    refine wpAnyH_take (i := 0) (v := ?vb1) rfl (by kernel_rfl) (by kernel_rfl) (by kernel_rfl) (fun _ _ _ h => h) (Or.inl ⟨by rfl, ?yb1⟩) hS ?rb1
    case yb1 => (intro w0 _; go_simp; try with_reducible rfl)
    try simp only [yA, yB, yC, Act.put, yD, yE, yF]
    refine wpAnyH_take (i := 2) (v := ?vb2) rfl (by kernel_rfl) (by kernel_rfl) (by kernel_rfl) (fun _ _ _ h => h) (Or.inl ⟨by rfl, ?yb2⟩) hS ?rb2
    case yb2 => (intro w0 _; go_simp; try with_reducible rfl)
    try simp only [yA, yB, yC, Act.put, yD, yE, yF]
    refine wpAnyH_ready (rs := [1]) (by kernel_rfl) (by simp) (AllReadyH.cons (i := 1) rfl (fun K hK => ?_) AllReadyH.nil)
    refine wp_load_row 47 _ rfl b7 rfl 47 (wC X) _ _ hS.2 Try.underlying47 rfl (sizeWC _) ?_
    refine hK.out _ _ (hS) (fun hS => ?_)
    clear hK K
    try simp only [yA, yB, yC, Act.put, yD, yE, yF]
    refine wpAnyH_ready (rs := [3]) (by kernel_rfl) (by simp) (AllReadyH.cons (i := 3) rfl (fun K hK => ?_) AllReadyH.nil)
    obtain ⟨old, hz1, hz2⟩ := PW.z hS.1
    refine wp_store_row 47 _ _ rfl b5 (wC X) rfl rfl 47 old hz1 (sizeWC _) (hz2.trans (wC_size _).symm) (wC_one _) ?_
    refine shut_gen hK (F := fun w' => As (Blk w' b5 47 (wC X) ∧ w.grownBy w' none)) (⟨hS.1.rowZ _, Blk.setRow_far hS.2 HN7.out _⟩) (⟨PW.ret hS.1 _⟩) (fun w9 hS HF => ?_)
    clear hK K
    try simp only [yA, yB, yC, Act.put, yD, yE, yF]
    refine wpAnyH_done (by kernel_rfl) ?_ _
    refine NoPanic.normal ?_
    try simp only [Exit.then]
    go_wp2_with fail
    refine bodyPost_ret (results_tmp_row (show Try.f18.results = #[.tmp 4, .cell 5 47] by kernel_rfl) _ _ b5 _ (wC X) (0, 0) _ rfl HF.out.1 Try.underlying47 rfl (sizeWC _)) rfl ⟨?_, HF.out.2⟩
    rw [HRQ.out]
    rfl

def itemsK (W : RWd) (k : Nat) : List PIt := ((List.range k).filter W.rd).map (itemP W)
theorem itemsK_no {W : RWd} {k : Nat} (h : W.rd k = false) : itemsK W (k + 1) = itemsK W k := by
  unfold itemsK
  rw [List.range_succ, List.filter_append]
  simp [h]
theorem itemsK_yes {W : RWd} {k : Nat} (h : W.rd k = true) : itemsK W k ++ [itemP W k] = itemsK W (k + 1) := by
  unfold itemsK
  rw [List.range_succ, List.filter_append]
  simp [h]
theorem itemsK_le (W : RWd) (k : Nat) : (itemsK W k).length ≤ k := by
  unfold itemsK
  rw [List.length_map]
  have := List.length_filter_le W.rd (List.range k)
  rwa [List.length_range] at this
theorem itCells_one (l : List PIt) (x : PIt) : itCells (l ++ [x]) = itCells l ++ [.int .i64 x.c, .int .i64 x.v, .int .i64 x.a, .bool x.wr, .int .i64 x.nw] := by
  rw [itCells_snoc]
set_option maxHeartbeats 6400000 in
theorem items22_c (w : World) (W : RWd) :
    Calls Try.prog 20 #[.agg (wC W)] w fun e w' => (∃ v, e = .returned v ∧ w'.ownsRow w.heap.size 40 5 v (itemsP W).length (itCells (itemsP W))) ∧ w.grownBy w' none := by
  obtain ⟨i0, hi, hz0, hz1, hz2⟩ := info_parts infoItem
  have HI := As.mk (And.intro hi (And.intro hz0 (And.intro hz1 hz2)))
  clear hi hz0 hz1 hz2
  have HB1 := As.mk ((Blk.new w 47 (wC W)).alloc (.cells #[] 40))
  have HG0 := As.mk (gr_alloc (gr_alloc (gr_refl w none) (.cells (wC W) 47)) (.cells #[] 40))
  have HO0 := As.mk (show ((w.alloc (.cells (wC W) 47)).alloc (.cells #[] 40)).ownsRow w.heap.size 40 5 (.slice (some ⟨w.heap.size + 1, 0, none⟩) 0 0) 0 [] from ⟨rfl, .inr ⟨w.heap.size + 1, 0, #[], rfl, by omega, Blk.new2 w _ 40 #[], Nat.le_refl _, by simp only [maxLen]; omega, rfl, rfl⟩⟩)
  go_enter Try.func20, Try.ntmps20
  go_wp2_with fail
  generalize (w.alloc (.cells (wC W) 47)).alloc (.cells #[] 40) = W0 at *
  obtain ⟨base, hbase⟩ : ∃ b, b = w.heap.size := ⟨_, rfl⟩
  have HB := As.mk hbase
  rw [← hbase] at HO0 HB1 ⊢
  clear hbase
  go_loopw [3, 4] (fun o i wr => ∃ k : Nat, k ≤ 16 ∧ i = .int .i64 k ∧ (∃ A' c', o = .slice A' (itemsK W k).length c') ∧ As (wr.ownsRow base 40 5 o (itemsK W k).length (itCells (itemsK W k)) ∧ w.grownBy wr none ∧ WAt wr base W)) (fun _ i _ => 16 - (intOf i).toNat)
  case atStart => exact ⟨0, by omega, rfl, ⟨_, _, rfl⟩, ⟨HO0.out, HG0.out, HB1.out⟩⟩
  case round =>
    clear HO0 HG0 HB1
    obtain ⟨k, hk, rfl, ⟨A', c', rfl⟩, HR⟩ := hrel
    obtain ⟨ho, hg, hb⟩ := HR.out
    clear HR
    by_cases hlt : k < 16
    · have hltI : (k : Int) < 16 := by omega
      have hk0 : (0 : Int) ≤ (k : Int) := by omega
      have HK := As.mk hlt
      have HO := As.mk ho
      have HG := As.mk hg
      have HW := As.mk hb
      clear ho hg hb
      have q := WAt.rd HW.out hlt
      cases hrd : W.rd k with
      | false =>
        rw [hrd] at q
        have HS := As.mk (itemsK_no hrd)
        clear hrd
        go_wp2_with fail
        refine ⟨⟨k + 1, by omega, by go_num, ⟨_, _, by rw [HS.out]⟩, ⟨by rw [HS.out]; exact HO.out, HG.out, HW.out⟩⟩, by simp [intOf]; omega⟩
      | true =>
        rw [hrd] at q
        have HRDK := As.mk hrd
        have HK6 := As.mk (show (itemsK W k).length ≤ 1000000 by have := itemsK_le W k; omega)
        clear hrd
        go_upto_region 6 with fail
        clear q
        have HNO := As.mk (show ∀ q, (Value.slice A' (itemsK W k).length c').ownBlock = some q → q ≠ wr.heap.size from fun q hq e => by have := (HO.out.lt q hq).2; omega)
        have HB0 := As.mk (show base ≤ wr.heap.size from Nat.le_of_lt HW.out.lt)
        have HNT := As.mk (show base ≠ wr.heap.size from fun e => by have := HW.out.lt; omega)
        refine wp_region_noPanic ?_
        refine wp_region_held_drew (S := fun w' => WAt w' base W) (by kernel_rfl) (Blk.drew HW.out) (fun hS => ?_)
        refine wpAnyH_take (i := 0) (v := ?va1) rfl (by kernel_rfl) (by kernel_rfl) (by kernel_rfl) (fun _ _ _ h => h) (Or.inl ⟨by rfl, ?ya1⟩) hS ?ra1
        case ya1 => (intro w0 _; go_simp; try with_reducible rfl)
        try simp only [yA, yB, yC, Act.put, yD, yE, yF]
        refine wpAnyH_take (i := 1) (v := ?va2) rfl (by kernel_rfl) (by kernel_rfl) (by kernel_rfl) (fun _ _ _ h => h) (Or.inl ⟨by rfl, ?ya2⟩) hS ?ra2
        case ya2 => (intro w0 _; go_simp; try with_reducible rfl)
        try simp only [yA, yB, yC, Act.put, yD, yE, yF]
        refine wpAnyH_take (i := 2) (v := ?va3) rfl (by kernel_rfl) (by kernel_rfl) (by kernel_rfl) (fun _ _ _ h => h) (Or.inl ⟨by rfl, ?ya3⟩) hS ?ra3
        case ya3 => (intro w0 _; go_simp; try with_reducible rfl)
        try simp only [yA, yB, yC, Act.put, yD, yE, yF]
        refine wpAnyH_take (i := 3) (v := ?va4) rfl (by kernel_rfl) (by kernel_rfl) (by kernel_rfl) (fun _ _ _ h => h) (Or.inl ⟨by rfl, ?ya4⟩) hS ?ra4
        case ya4 => (intro w0 _; go_simp; try with_reducible rfl)
        try simp only [yA, yB, yC, Act.put, yD, yE, yF]
        refine wpAnyH_take (i := 4) (v := ?va5) rfl (by kernel_rfl) (by kernel_rfl) (by kernel_rfl) (fun _ _ _ h => h) (Or.inl ⟨by rfl, ?ya5⟩) hS ?ra5
        case ya5 => (intro w0 hS0; (try simp only [] at hS0); have q : w0.cell? ⟨base, k, none⟩ = some (.int .i64 (W.ve k)) := WAt.ve hS0 HK.out; go_simp; try with_reducible rfl)
        try simp only [yA, yB, yC, Act.put, yD, yE, yF]
        refine wpAnyH_take (i := 5) (v := ?va6) rfl (by kernel_rfl) (by kernel_rfl) (by kernel_rfl) (fun _ _ _ h => h) (Or.inl ⟨by rfl, ?ya6⟩) hS ?ra6
        case ya6 => (intro w0 _; go_simp; try with_reducible rfl)
        try simp only [yA, yB, yC, Act.put, yD, yE, yF]
        refine wpAnyH_take (i := 6) (v := ?va7) rfl (by kernel_rfl) (by kernel_rfl) (by kernel_rfl) (fun _ _ _ h => h) (Or.inl ⟨by rfl, ?ya7⟩) hS ?ra7
        case ya7 => (intro w0 _; go_simp; try with_reducible rfl)
        try simp only [yA, yB, yC, Act.put, yD, yE, yF]
        refine wpAnyH_take (i := 7) (v := ?va8) rfl (by kernel_rfl) (by kernel_rfl) (by kernel_rfl) (fun _ _ _ h => h) (Or.inl ⟨by rfl, ?ya8⟩) hS ?ra8
        case ya8 => (intro w0 _; go_simp; try with_reducible rfl)
        try simp only [yA, yB, yC, Act.put, yD, yE, yF]
        refine wpAnyH_take (i := 8) (v := ?va9) rfl (by kernel_rfl) (by kernel_rfl) (by kernel_rfl) (fun _ _ _ h => h) (Or.inl ⟨by rfl, ?ya9⟩) hS ?ra9
        case ya9 => (intro w0 hS0; (try simp only [] at hS0); have q : w0.cell? ⟨base, 16 + k, none⟩ = some (.int .i64 (W.va k)) := WAt.va hS0 HK.out; go_simp; try with_reducible rfl)
        try simp only [yA, yB, yC, Act.put, yD, yE, yF]
        refine wpAnyH_take (i := 9) (v := ?va10) rfl (by kernel_rfl) (by kernel_rfl) (by kernel_rfl) (fun _ _ _ h => h) (Or.inl ⟨by rfl, ?ya10⟩) hS ?ra10
        case ya10 => (intro w0 _; go_simp; try with_reducible rfl)
        try simp only [yA, yB, yC, Act.put, yD, yE, yF]
        refine wpAnyH_ready (rs := [10]) (by kernel_rfl) (by simp) (AllReadyH.cons (i := 10) rfl (fun K hK => ?_) AllReadyH.nil)
        go_simp
        refine hK.out _ _ (Blk.alloc hS _) (fun hS => ?_)
        clear hK K
        try simp only [yA, yB, yC, Act.put, yD, yE, yF]
        refine wpAnyH_ready (rs := [11]) (by kernel_rfl) (by simp) (AllReadyH.cons (i := 11) rfl (fun K hK => ?_) AllReadyH.nil)
        go_simp
        refine hK.out _ _ (Blk.drew (Blk.alloc HW.out _)) (fun hS => ?_)
        clear hK K
        try simp only [yA, yB, yC, Act.put, yD, yE, yF]
        refine wpAnyH_done (by kernel_rfl) ?_ _
        refine NoPanic.normal ?_
        try simp only [Exit.then]
        have HT := As.mk (Blk.drew (Blk.new wr 40 #[.int .i64 (k : Int), .int .i64 (W.ve k), .int .i64 (W.va k), .bool false, .int .i64 0]))
        replace HG := As.mk (gr_drew (gr_alloc HG.out (.cells #[.int .i64 (k : Int), .int .i64 (W.ve k), .int .i64 (W.va k), .bool false, .int .i64 0] 40)))
        replace HW := As.mk (show WAt _ base W from Blk.drew (Blk.alloc HW.out (.cells #[.int .i64 (k : Int), .int .i64 (W.ve k), .int .i64 (W.va k), .bool false, .int .i64 0] 40)))
        replace HO := As.mk (own_drew (own_gr0 HO.out (gr_alloc (gr_refl wr none) (.cells #[.int .i64 (k : Int), .int .i64 (W.ve k), .int .i64 (W.va k), .bool false, .int .i64 0] 40))))
        clear hS
        generalize (wr.alloc (.cells #[.int .i64 (k : Int), .int .i64 (W.ve k), .int .i64 (W.va k), .bool false, .int .i64 0] 40)).drew = W2 at *
        generalize wr.heap.size = tb at *
        have q := WAt.wr HW.out hlt
        cases hwr : W.wr k with
        | false =>
          rw [hwr] at q
          have HWV := As.mk (show itemP W k = ⟨(k : Int), W.ve k, W.va k, false, 0⟩ from by unfold itemP; rw [hwr]; rfl)
          clear hwr
          obtain ⟨t0, t1, t2, t3, t4⟩ := (HT.out).c5
          go_wp2_with (at_builtin; refine wpList_app1 (by rfl) _ _ _ (by rfl) base 40 i0 _ 5 40 Try.underlying37 HI.out.1 HI.out.2.1 HI.out.2.2.1 HI.out.2.2.2 rfl (by omega) (by omega) _ (itemsK W k).length (itCells (itemsK W k)) (by rfl) (own_gr0 HO.out (gr_alloc (gr_refl W2 none) _)) W2.heap.size (by rfl) _ (Blk.new W2 40 #[.int .i64 (k : Int), .int .i64 (W.ve k), .int .i64 (W.va k), .bool false, .int .i64 0]) rfl (by simp [Value.oneCell']) HK6.out (by have := HW.out.lt; simp; omega) ?_; intro v' w' ho hg' hv'; have HN := As.mk (And.intro ho (And.intro hg' hv')); clear ho hg' hv')
          obtain ⟨A'', c'', rfl⟩ := own_shape HN.out.1
          go_wp2_with fail
          have HLK := As.mk (show (itemsK W (k + 1)).length = (itemsK W k).length + 1 by rw [← itemsK_yes HRDK.out]; simp)
          refine ⟨⟨k + 1, by omega, by go_num, ⟨_, _, by rw [HLK.out]⟩, ⟨?_, ?_, ?_⟩⟩, by simp [intOf]; omega⟩
          · have h1 := HN.out.1
            rw [HLK.out, ← itemsK_yes HRDK.out, HWV.out, itCells_one]
            exact h1
          · exact gr_then (gr_then HG.out (gr_alloc (gr_refl W2 none) _) (.inl rfl)) HN.out.2.1 (.inr (.inr (fun q hq => by have := (HO.out.lt q hq).1; have := HB.out; omega)))
          · exact Blk.grown (HW.out.alloc _) HN.out.2.1 (own_ne HW.out HO.out (by decide))
        | true =>
          rw [hwr] at q
          have HWV := As.mk (show itemP W k = ⟨(k : Int), W.ve k, W.va k, true, W.nw k⟩ from by unfold itemP; rw [hwr]; rfl)
          clear hwr
          go_upto_region 8 with fail
          clear q
          refine wp_region_noPanic ?_
          refine wp_region_held_drew (S := fun w' => WAt w' base W) (by kernel_rfl) (Blk.drew HW.out) (fun hS => ?_)
          refine wpAnyH_take (i := 0) (v := ?vb1) rfl (by kernel_rfl) (by kernel_rfl) (by kernel_rfl) (fun _ _ _ h => h) (Or.inl ⟨by rfl, ?yb1⟩) hS ?rb1
          case yb1 => (intro w0 _; go_simp; try with_reducible rfl)
          try simp only [yA, yB, yC, Act.put, yD, yE, yF]
          refine wpAnyH_take (i := 1) (v := ?vb2) rfl (by kernel_rfl) (by kernel_rfl) (by kernel_rfl) (fun _ _ _ h => h) (Or.inl ⟨by rfl, ?yb2⟩) hS ?rb2
          case yb2 => (intro w0 _; go_simp; try with_reducible rfl)
          try simp only [yA, yB, yC, Act.put, yD, yE, yF]
          refine wpAnyH_take (i := 2) (v := ?vb3) rfl (by kernel_rfl) (by kernel_rfl) (by kernel_rfl) (fun _ _ _ h => h) (Or.inl ⟨by rfl, ?yb3⟩) hS ?rb3
          case yb3 => (intro w0 _; go_simp; try with_reducible rfl)
          try simp only [yA, yB, yC, Act.put, yD, yE, yF]
          refine wpAnyH_take (i := 3) (v := ?vb4) rfl (by kernel_rfl) (by kernel_rfl) (by kernel_rfl) (fun _ _ _ h => h) (Or.inl ⟨by rfl, ?yb4⟩) hS ?rb4
          case yb4 => (intro w0 hS0; (try simp only [] at hS0); have q : w0.cell? ⟨base, 72 + k, none⟩ = some (.int .i64 (W.nw k)) := WAt.nw hS0 HK.out; go_simp; try with_reducible rfl)
          try simp only [yA, yB, yC, Act.put, yD, yE, yF]
          refine wpAnyH_take (i := 4) (v := ?vb5) rfl (by kernel_rfl) (by kernel_rfl) (by kernel_rfl) (fun _ _ _ h => h) (Or.inl ⟨by rfl, ?yb5⟩) hS ?rb5
          case yb5 => (intro w0 _; go_simp; try with_reducible rfl)
          try simp only [yA, yB, yC, Act.put, yD, yE, yF]
          refine wpAnyH_ready (rs := [5]) (by kernel_rfl) (by simp) (AllReadyH.cons (i := 5) rfl (fun K hK => ?_) AllReadyH.nil)
          obtain ⟨t0, t1, t2, t3, t4⟩ := HT.out.drew.c5
          have f := HT.out.drew.free 3
          go_simp
          refine shut_gen hK (F := fun w' => As (Blk w' tb 40 #[.int .i64 (k : Int), .int .i64 (W.ve k), .int .i64 (W.va k), .bool true, .int .i64 0] ∧ W2.grownBy w' (some tb))) (by first | exact Blk.far hS (a := ⟨tb, 3, none⟩) HNT.out _ | exact (Blk.far HW.out (a := ⟨tb, 3, none⟩) HNT.out _).drew) (⟨by first | exact ⟨(HT.out.set 3 (.bool true)).drew, gr_drew (gr_set (gr_refl W2 (some tb)) (a := ⟨tb, 3, none⟩) (.inl rfl) _)⟩ | exact ⟨HT.out.drew.set 3 (.bool true), gr_set (gr_drew (gr_refl W2 (some tb))) (a := ⟨tb, 3, none⟩) (.inl rfl) _⟩⟩) (fun w5 hS HF => ?_)
          clear hK K
          try simp only [yA, yB, yC, Act.put, yD, yE, yF]
          refine wpAnyH_take (i := 6) (v := ?vb7) rfl (by kernel_rfl) (by kernel_rfl) (by kernel_rfl) (fun _ _ _ h => h) (Or.inl ⟨by rfl, ?yb7⟩) hS ?rb7
          case yb7 => (intro w0 _; go_simp; try with_reducible rfl)
          try simp only [yA, yB, yC, Act.put, yD, yE, yF]
          refine wpAnyH_ready (rs := [7]) (by kernel_rfl) (by simp) (AllReadyH.cons (i := 7) rfl (fun K hK => ?_) AllReadyH.nil)
          have t4 := HF.out.1.cell 4
          have f := HF.out.1.free 4
          go_simp
          refine shut_gen hK (F := fun w' => As (Blk w' tb 40 #[.int .i64 (k : Int), .int .i64 (W.ve k), .int .i64 (W.va k), .bool true, .int .i64 (W.nw k)] ∧ W2.grownBy w' (some tb))) (Blk.far hS (a := ⟨tb, 4, none⟩) HNT.out _) (⟨HF.out.1.set 4 (.int .i64 (W.nw k)), gr_set HF.out.2 (a := ⟨tb, 4, none⟩) (.inl rfl) _⟩) (fun w6 hS HF6 => ?_)
          clear hK K
          try simp only [yA, yB, yC, Act.put, yD, yE, yF]
          refine wpAnyH_done (by kernel_rfl) ?_ _
          refine NoPanic.normal ?_
          try simp only [Exit.then]
          have HG2 := As.mk HF6.out.2
          replace HT := As.mk HF6.out.1
          replace HG := As.mk (gr_then HG.out HG2.out (.inr (.inr (fun q hq => by injection hq with hq; subst hq; have := HB.out; have := HB0.out; omega))))
          replace HO := As.mk (own_grown HO.out HG2.out (by rcases hv : (Value.slice A' (itemsK W k).length c').ownBlock with _ | x; exact .inl rfl; exact .inr (fun e => HNO.out x hv (by injection e))))
          replace HW := As.mk hS
          clear hS HF6 HF HG2
          obtain ⟨t0, t1, t2, t3, t4⟩ := (HT.out).c5
          go_wp2_with (at_builtin; refine wpList_app1 (by rfl) _ _ _ (by rfl) base 40 i0 _ 5 40 Try.underlying37 HI.out.1 HI.out.2.1 HI.out.2.2.1 HI.out.2.2.2 rfl (by omega) (by omega) _ (itemsK W k).length (itCells (itemsK W k)) (by rfl) (own_gr0 HO.out (gr_alloc (gr_refl w6 none) _)) w6.heap.size (by rfl) _ (Blk.new w6 40 #[.int .i64 (k : Int), .int .i64 (W.ve k), .int .i64 (W.va k), .bool true, .int .i64 (W.nw k)]) rfl (by simp [Value.oneCell']) HK6.out (by have := HW.out.lt; simp; omega) ?_; intro v' w' ho hg' hv'; have HN := As.mk (And.intro ho (And.intro hg' hv')); clear ho hg' hv')
          obtain ⟨A'', c'', rfl⟩ := own_shape HN.out.1
          go_wp2_with fail
          have HLK := As.mk (show (itemsK W (k + 1)).length = (itemsK W k).length + 1 by rw [← itemsK_yes HRDK.out]; simp)
          refine ⟨⟨k + 1, by omega, by go_num, ⟨_, _, by rw [HLK.out]⟩, ⟨?_, ?_, ?_⟩⟩, by simp [intOf]; omega⟩
          · have h1 := HN.out.1
            rw [HLK.out, ← itemsK_yes HRDK.out, HWV.out, itCells_one]
            exact h1
          · exact gr_then (gr_then HG.out (gr_alloc (gr_refl w6 none) _) (.inl rfl)) HN.out.2.1 (.inr (.inr (fun q hq => by have := (HO.out.lt q hq).1; have := HB.out; omega)))
          · exact Blk.grown (HW.out.alloc _) HN.out.2.1 (own_ne HW.out HO.out (by decide))
    · obtain rfl : k = 16 := by omega
      have ho := As.mk ho
      have hg := As.mk hg
      go_wp2_with fail
      go_ret
      refine ⟨⟨_, rfl, ?_⟩, hg.out⟩
      rw [← HB.out]
      exact ho.out
section
variable {w0 w : World} {B nb rb : Nat} {F : Nat → Prop} {lv_ cv : Value} {l : List POp} {s : RS} {K : Nat}
/-- A run that begins again. -/
theorem RunW.again (h : RunW w0 w B nb rb F lv_ cv l s K) {w2 : World} (hg : w.grownBy w2 none) {nb2 : Nat} {F2 : Nat → Prop} {base : Nat} (hb : w.heap.size ≤ base) (hn : NestAt w2 base nb2 F2 rdZ lvZ) :
    RunW w0 (w2.setRow rb (runC (NP nb2) lv_ 0 (fun _ => 0) (.slice none 0 0) (fun _ => false))) B nb2 rb F2 lv_ (.slice none 0 0) l startR 0 ∧ NG w (w2.setRow rb (runC (NP nb2) lv_ 0 (fun _ => 0) (.slice none 0 0) (fun _ => false))) (fpR F rb lv_ cv) (fpR F2 rb lv_ (.slice none 0 0)) := by
  have hfp := hn.fp
  have hrb := h.blk.lt
  have hl := fun q hq => h.lrow.lt q hq
  have hlo := h.lo
  have hs : w.grownBy (w2.setRow rb (runC (NP nb2) lv_ 0 (fun _ => 0) (.slice none 0 0) (fun _ => false))) (some rb) := gr_setRow (below_gr (gr_below hg) (some rb)) (.inl rfl) _
  have hnr : ¬ F2 rb := fun q => by have := (hfp rb q).1; omega
  refine ⟨⟨(hn.base (by omega)).gr (gr_setRow (gr_refl w2 (some rb)) (.inl rfl) _) (fun k e => by injection e with e; subst e; exact hnr), start_inv, start_val, Blk.setRow (h.blk.grown hg (by simp)) _, own_grown h.lrow hs (.inr (Ne.symm (own_ne h.blk h.lrow (by decide)))), World.ownsRow_nil _ _ _ _, ⟨hnr, fun k hk q => by have := (hfp k q).1; have := (hl k hk).2; omega, fun k hk => by cases hk⟩, ⟨hlo.1, hlo.2.1, Nat.le_trans hlo.2.2 hs.size⟩, gr_setRow (h.gr.trans hg) (.inr (by omega)) _, fun k _ => (show K64 0 from ⟨by omega, by omega⟩), fun q hq => by cases hq⟩, ?_⟩
  refine ⟨hs.os, hs.tape, hs.output, hs.size, fun k hk hf => ⟨hs.block k hk (fun e => hf (.inr (.inl (by injection e)))), ?_⟩⟩
  rintro (q | q | q | q)
  · have := (hfp k q).1; omega
  · exact hf (.inr (.inl q))
  · exact hf (.inr (.inr (.inl q)))
  · cases q
end
set_option maxHeartbeats 6400000 in
theorem again_c {w0 w : World} {rb : Nat} {G : Nat → Prop} {l : List POp} {s : RS} {M : Nat} (h : RunAt w0 w rb G l s M) : Calls Try.prog 21 #[.pointer (some ⟨rb, 0, none⟩)] w (VPost w0 w rb G l 0 (.tuple #[]) startR) := by
  obtain ⟨B, nb, F, lv_, cv, rfl, h⟩ := h
  obtain ⟨A1, c1, rfl⟩ := own_shape h.lrow
  have HR := As.mk h
  clear h
  go_enter Try.func21, Try.ntmps21
  go_upto_region 1 with fail
  refine wp_region_noPanic ?_
  refine wp_region_held_drew (S := fun w' => w'.cell? ⟨rb, 1, none⟩ = some (.slice A1 l.length c1)) (by kernel_rfl) (HR.out.blk.drew.cell 1) (fun hS => ?_)
  refine wpAnyH_take (i := 0) (v := ?va1) rfl (by kernel_rfl) (by kernel_rfl) (by kernel_rfl) (fun _ _ _ h => h) (Or.inl ⟨by rfl, ?ya1⟩) hS ?ra1
  case ya1 => (intro w0 _; go_simp; try with_reducible rfl)
  try simp only [yA, yB, yC, Act.put, yD, yE, yF]
  refine wpAnyH_take (i := 2) (v := ?va2) rfl (by kernel_rfl) (by kernel_rfl) (by kernel_rfl) (fun _ _ _ h => h) (Or.inl ⟨by rfl, ?ya2⟩) hS ?ra2
  case ya2 => (intro w0 _; go_simp; try with_reducible rfl)
  try simp only [yA, yB, yC, Act.put, yD, yE, yF]
  refine wpAnyH_take (i := 3) (v := ?va3) rfl (by kernel_rfl) (by kernel_rfl) (by kernel_rfl) (fun _ _ _ h => h) (Or.inl ⟨by rfl, ?ya3⟩) hS ?ra3
  case ya3 => (intro w0 _; go_simp; try with_reducible rfl)
  try simp only [yA, yB, yC, Act.put, yD, yE, yF]
  refine wpAnyH_take (i := 4) (v := ?va4) rfl (by kernel_rfl) (by kernel_rfl) (by kernel_rfl) (fun _ _ _ h => h) (Or.inl ⟨by rfl, ?ya4⟩) hS ?ra4
  case ya4 => (intro w0 _; go_simp; try with_reducible rfl)
  try simp only [yA, yB, yC, Act.put, yD, yE, yF]
  refine wpAnyH_take (i := 5) (v := ?va5) rfl (by kernel_rfl) (by kernel_rfl) (by kernel_rfl) (fun _ _ _ h => h) (Or.inl ⟨by rfl, ?ya5⟩) hS ?ra5
  case ya5 => (intro w0 hS0; (try simp only [] at hS0); have q : w0.cell? ⟨rb, 1, none⟩ = some (.slice A1 l.length c1) := hS0; go_simp; try with_reducible rfl)
  try simp only [yA, yB, yC, Act.put, yD, yE, yF]
  refine wpAnyH_ready (rs := [1]) (by kernel_rfl) (by simp) (AllReadyH.cons (i := 1) rfl (fun K hK => ?_) AllReadyH.nil)
  go_simp
  refine (new_c _).mono ?_
  rintro e w2 ⟨⟨nb2, F2, rfl, hn⟩, hg⟩
  go_simp
  refine shut_gen hK (F := fun w' => As (NestAt w' w.drew.heap.size nb2 F2 rdZ lvZ ∧ w.drew.grownBy w' none)) ((HR.out.blk.drew.grown hg (by simp)).cell 1) (⟨hn, hg⟩) (fun w3 hS HF => ?_)
  clear hK K
  clear hn hg
  try simp only [yA, yB, yC, Act.put, yD, yE, yF]
  refine wpAnyH_take (i := 6) (v := ?va7) rfl (by kernel_rfl) (by kernel_rfl) (by kernel_rfl) (fun _ _ _ h => h) (Or.inl ⟨by rfl, ?ya7⟩) hS ?ra7
  case ya7 => (intro w0 _; go_simp; try with_reducible rfl)
  try simp only [yA, yB, yC, Act.put, yD, yE, yF]
  refine wpAnyH_take (i := 7) (v := ?va8) rfl (by kernel_rfl) (by kernel_rfl) (by kernel_rfl) (fun _ _ _ h => h) (Or.inl ⟨by rfl, ?ya8⟩) hS ?ra8
  case ya8 => (intro w0 _; go_simp; try with_reducible rfl)
  try simp only [yA, yB, yC, Act.put, yD, yE, yF]
  refine wpAnyH_ready (rs := [8]) (by kernel_rfl) (by simp) (AllReadyH.cons (i := 8) rfl (fun K hK => ?_) AllReadyH.nil)
  refine wp_store_row 65 _ _ rfl rb (runC (NP nb2) (.slice A1 l.length c1) 0 (fun _ => 0) (.slice none 0 0) (fun _ => false)) rfl rfl 65 _ (HR.out.blk.drew.grown HF.out.2 (by simp)) (by kernel_rfl) (by rw [runC_size, runC_size]) (by simp [runC, Value.oneCell']) ?_
  refine shut_gen hK (F := fun w' => As (RunW w0 w' B nb2 rb F2 (.slice A1 l.length c1) (.slice none 0 0) l startR 0 ∧ NG w w' (fpR F rb (.slice A1 l.length c1) cv) (fpR F2 rb (.slice A1 l.length c1) (.slice none 0 0)))) ((Blk.setRow (HR.out.blk.drew.grown HF.out.2 (by simp)) _).cell 1) (⟨(HR.out.grown (gr_drew (gr_refl w none))).again HF.out.2 (Nat.le_refl _) HF.out.1 |>.1, (ng_drew w).trans ((HR.out.grown (gr_drew (gr_refl w none))).again HF.out.2 (Nat.le_refl _) HF.out.1).2⟩) (fun w4 hS HF4 => ?_)
  clear hK K
  try simp only [yA, yB, yC, Act.put, yD, yE, yF]
  refine wpAnyH_done (by kernel_rfl) ?_ _
  refine NoPanic.normal ?_
  try simp only [Exit.then]
  go_wp2_with fail
  go_end0
  exact ⟨rfl, _, ⟨_, _, _, _, _, rfl, HF4.out.1⟩, HF4.out.2⟩
end
section
open Go.RowKit Go.Maps
set_option linter.unusedVariables false
set_option linter.unusedSimpArgs false
set_option maxRecDepth 100000

theorem wpl_load_row_g {P : Program} {ops : Array Oper} {rest : List Oper} {o : Oper} {a : Act} {w : World} {Q : Exit → Act → World → Prop} (hw : Region.wanted o (yielded ops a.tmps) = true) (ty : TypeId) (x : Operand) (ho : o.op = .load ty x)
    (g : Nat) (hx : a.eval x = .pointer (some ⟨g, 0, none⟩)) (t : TypeId) (cs : Array Value) (fr : Nat × Nat) (d : TypeDesc) (hg : w.heap[g]? = some (.cells cs t fr))
    (hu : P.underlying ty = some d) (hd : (match d with | .struct _ | .array _ _ => true | _ => false) = true) (hi : (P.info? ty).map (·.size) = some cs.size)
    (h : wpList P ops Q rest (a.put o.dst (.agg cs)) w) : wpList P ops Q (o :: rest) a w := by
  unfold wpList
  rw [if_pos hw]
  exact .inl (wp_load_row ty x ho g hx t cs fr d hg hu hd hi h)
theorem eqA8_same (f : Nat → Int) (w : World) : (Op.equalIn 10000 35 (.agg (a8C f)) (.agg (a8C f))).run Try.prog w = .ok true w := by
  have := eqA8 (f 0) (f 1) (f 2) (f 3) (f 4) (f 5) (f 6) (f 7) (f 0) (f 1) (f 2) (f 3) (f 4) (f 5) (f 6) (f 7) w
  simpa [a8C] using this
theorem exec_load_row {P : Program} {o : Oper} {a : Act} {w : World} (ty : TypeId) (x : Operand) (ho : o.op = .load ty x)
    (g : Nat) (hx : a.eval x = .pointer (some ⟨g, 0, none⟩)) (t : TypeId) (cs : Array Value) (fr : Nat × Nat) (d : TypeDesc) (hg : w.heap[g]? = some (.cells cs t fr))
    (hu : P.underlying ty = some d) (hd : (match d with | .struct _ | .array _ _ => true | _ => false) = true) (hi : (P.info? ty).map (·.size) = some cs.size) : (execOp a.eval o).run P w = .ok (.value (.agg cs)) w := by
  unfold execOp
  simp only [ho, hx, Instr.loadAt, Instr.sureAddr, Sem.run_bind, Sem.run_pure, Result.andThen_ok, run_loadVar_row w g t ty cs fr d hg hu hd hi]
theorem exec_load_mid {P : Program} {op : Oper} {a : Act} {w : World} (ty : TypeId) (x : Operand) (ho : op.op = .load ty x)
    (b o : Nat) (hx : a.eval x = .pointer (some ⟨b, o, none⟩)) (cs : List Value) (d : TypeDesc) (hc : w.rangeAt b o cs)
    (hu : P.underlying ty = some d) (hd : d.isRow = true) (hi : (P.info? ty).map (·.size) = some cs.length) : (execOp a.eval op).run P w = .ok (.value (.agg cs.toArray)) w := by
  unfold execOp
  simp only [ho, hx, Instr.loadAt, Instr.sureAddr, Sem.run_bind, Sem.run_pure, Result.andThen_ok, run_loadVar_mid w b o ty cs d hc hu hd hi]
def rgL (f : Nat → Int) : List Value := [.int .i64 (f 0), .int .i64 (f 1), .int .i64 (f 2), .int .i64 (f 3), .int .i64 (f 4), .int .i64 (f 5), .int .i64 (f 6), .int .i64 (f 7)]
theorem WAt.rgs {w : World} {b : Nat} {W : RWd} (h : WAt w b W) : w.rangeAt b 32 (rgL W.rg) := by
  intro j v hv
  match j, hv with
  | 0, hv => injection hv with hv; subst hv; exact WAt.rg h (k := 0) (by omega)
  | 1, hv => injection hv with hv; subst hv; exact WAt.rg h (k := 1) (by omega)
  | 2, hv => injection hv with hv; subst hv; exact WAt.rg h (k := 2) (by omega)
  | 3, hv => injection hv with hv; subst hv; exact WAt.rg h (k := 3) (by omega)
  | 4, hv => injection hv with hv; subst hv; exact WAt.rg h (k := 4) (by omega)
  | 5, hv => injection hv with hv; subst hv; exact WAt.rg h (k := 5) (by omega)
  | 6, hv => injection hv with hv; subst hv; exact WAt.rg h (k := 6) (by omega)
  | 7, hv => injection hv with hv; subst hv; exact WAt.rg h (k := 7) (by omega)
  | j + 8, hv => cases hv
theorem sizeRg (f : Nat → Int) : (Try.prog.info? 35).map (·.size) = some (rgL f).length := (show _ = some 8 by kernel_rfl)
theorem rg_agg (f : Nat → Int) : (rgL f).toArray = a8C f := rfl
theorem wpList_build_W {ops : Array Oper} {rest : List Oper} {o : Oper} {a : Act} {w : World} {Q : Exit → Act → World → Prop} (hg : o.guard = none) (x y : Operand) (ho : o.op = .build 47 #[(0, x), (1, y)]) (ve va : Nat → Int)
    (hx : a.eval x = .agg (a16C ve)) (hy : a.eval y = .agg (a16C va)) (hb : Try.prog.built 47 [(0, .agg (a16C ve)), (1, .agg (a16C va))] = some (wC (world0 ve va)))
    (h : wpList Try.prog ops Q rest (a.put o.dst (.agg (wC (world0 ve va)))) w) : wpList Try.prog ops Q (o :: rest) a w := by
  have e : Try.prog.built 47 ((#[(0, x), (1, y)].map fun (i, x) => (i, a.eval x)).toList) = some (wC (world0 ve va)) := by
    simp only [List.map_toArray, List.map_cons, List.map_nil, hx, hy]
    exact hb
  refine wpList_build hg 47 _ ho (by rw [e]; rfl) ?_
  rw [e]
  exact h
set_option maxHeartbeats 12800000 in
theorem rcomes_walk (w : World) (v0 : Value) (l : List POp) (ve va : Nat → Int) (hl : Arr OpE 5 w v0 l) (wl : ∀ x ∈ l, K64 x.n) (wa : ∀ k, k < 16 → K64 (va k)) :
    Calls Try.prog 4 #[v0, .agg (a16C ve), .agg (a16C va)] w fun e w' => e = .returned (.bool true) ∧ w.grownBy w' none := by
  obtain ⟨A0, c0, rfl⟩ := hl.len
  have HL := As.mk hl
  have HWL := As.mk wl
  have HWA := As.mk wa
  have hl1 := hl.le
  have HB4 := As.mk ((Blk.new w 23 (a16C ve)).alloc (.cells (a16C va) 23))
  have HB5 := As.mk (Blk.new2 w (.cells (a16C ve) 23) 23 (a16C va))
  have HG0 := As.mk (gr_alloc (gr_alloc (gr_refl w none) (.cells (a16C ve) 23)) (.cells (a16C va) 23))
  have HL0 := As.mk (hl.below HG0.out (fun _ _ h => h))
  clear hl wl wa HL
  go_enter Try.func4, Try.ntmps4
  go_wp2_with fail
  generalize (w.alloc (.cells (a16C ve) 23)).alloc (.cells (a16C va) 23) = W at *
  generalize w.heap.size + 1 = b5 at *
  generalize w.heap.size = b4 at *
  refine (awake22 W).mono ?_
  rintro e w1 ⟨rfl, hg⟩
  have HG1 := As.mk hg
  clear hg
  by_cases h80 : (80 : Int) < (l.length : Int)
  · go_wp2_with fail
    go_ret
    exact ⟨rfl, gr_then HG0.out HG1.out (.inl rfl)⟩
  have hd80 : decide ((80 : Int) < (l.length : Int)) = false := decide_eq_false h80
  have HB41 := As.mk (HB4.out.grown HG1.out (by simp))
  go_wp2_with (refine wpl_load_row_g (by rfl) 23 _ rfl b4 rfl 23 (a16C ve) _ _ HB41.out Try.underlying23 rfl (by kernel_rfl) ?_)
  refine (versioned_c w1 ve).mono ?_
  rintro e w2 ⟨⟨bv, rfl, hbv⟩, hg⟩
  have HG2 := As.mk (gr_then HG1.out hg (.inl rfl))
  have HBV := As.mk hbv
  clear hg hbv HB41 HG1
  cases bv with
  | false =>
    go_wp2_with fail
    go_ret
    exact ⟨rfl, gr_then HG0.out HG2.out (.inl rfl)⟩
  | true =>
    have HV := As.mk (HBV.out rfl)
    clear HBV
    go_wp2_with fail
    cases hp : pRight l with
    | false =>
      refine (rnew_no (HL0.out.below HG2.out (fun _ _ h => h)) hp).mono ?_
      rintro e w3 ⟨rfl, hg⟩
      have HG3 := As.mk (gr_then HG2.out hg (.inl rfl))
      have HP := As.mk hp
      clear hg hp HG2
      go_wp2_with fail
      refine (plain20_walk _ l w3 w3.heap.size rfl (HL0.out.below HG3.out (fun _ _ h => h)) (by omega)).mono ?_
      rintro e w4 ⟨v9, rfl, ho, hg⟩
      obtain ⟨A9, c9, rfl⟩ := own_shape ho
      have HO := As.mk ho
      have HG4 := As.mk (gr_then HG3.out hg (.inl rfl))
      clear ho hg HG3
      go_wp2_with fail
      refine (rRight_c _ l w4 (Arr.of_ops HO.out) false (by rw [rRight_pRight]; exact HP.out)).mono ?_
      rintro e w5 ⟨rfl, hg5⟩
      replace HG4 := As.mk (gr_then HG4.out hg5 (.inl rfl))
      clear hg5
      go_wp2_with fail
      go_ret
      exact ⟨rfl, gr_then HG0.out HG4.out (.inl rfl)⟩
    | true =>
      refine (rnew_c HG2.out (HL0.out.below HG2.out (fun _ _ h => h)) hp).mono ?_
      rintro e w3 ⟨rb, G, rfl, hra, _, _⟩
      have HP := As.mk hp
      have HRA := As.mk hra
      have HG3 := As.mk hra.gr
      clear hra hp HG2
      obtain ⟨c, hc, ho0⟩ := parse0 HP.out
      have HC := As.mk (And.intro hc ho0)
      clear hc ho0
      go_wp2_with fail
      refine (plain20_walk _ l w3 w3.heap.size rfl (HL0.out.below HG3.out (fun _ _ h => h)) (by omega)).mono ?_
      rintro e w4 ⟨v9, rfl, ho, hg⟩
      obtain ⟨A9, c9, rfl⟩ := own_shape ho
      have HO := As.mk ho
      have HRA2 := As.mk (HRA.out.grown hg)
      clear ho hg HG3 HRA
      go_wp2_with fail
      refine (rRight_c _ l w4 (Arr.of_ops HO.out) true (by rw [rRight_pRight]; exact HP.out)).mono ?_
      rintro e w5 ⟨rfl, hg5⟩
      replace HO := As.mk (own_gr0 HO.out hg5)
      replace HRA2 := As.mk (HRA2.out.grown hg5)
      clear hg5
      have HB41 := As.mk (HB4.out.grown HRA2.out.gr (by simp))
      have HB51 := As.mk (HB5.out.grown HRA2.out.gr (by simp))
      go_wp2_with (first | (refine wpList_load_row rfl 23 _ rfl b4 rfl 23 (a16C ve) _ _ HB41.out Try.underlying23 rfl (by kernel_rfl) ?_) | (refine wpList_load_row rfl 23 _ rfl b5 rfl 23 (a16C va) _ _ HB51.out Try.underlying23 rfl (by kernel_rfl) ?_) | (refine wpList_build_W rfl _ _ rfl ve va rfl rfl (by kernel_rfl) ?_))
      clear HB41 HB51
      refine (run22_c HP.out _ (Arr.of_ops HO.out) c HC.out.1 HC.out.2 (world0 ve va)).mono ?_
      rintro e w6 ⟨rfl, hg6⟩
      have HCM := As.mk (fun {n : Nat} {s : RS} (h : Drives l ve va startR n s) (h3 : 3 ≤ (goR l 40 s).1) => comes HP.out HV.out HC.out.1 HC.out.2 h h3)
      have HRA3 := As.mk (HRA2.out.grown hg6)
      clear hg6 HRA2 HO HC
      generalize runP c (world0 ve va) = res at *
      obtain ⟨how, X⟩ := res
      dsimp only at HCM ⊢
      go_upto_region 12 with (first | (refine wpList_store_new' w6 rfl 47 _ _ rfl Try.zeroCells47 (wC X) rfl rfl (sizeWC _) ((show Try.zeroCells47.size = 88 by kernel_rfl).trans (wC_size _).symm) (wC_one _) ?_))
      have HX11 := As.mk (Blk.new w6 47 (wC X))
      have HNG := As.mk (show ¬ G w6.heap.size from fun q => by have := (HRA3.out.fp _ q).2; omega)
      have HRA4 := As.mk (HRA3.out.grown (gr_alloc (gr_refl w6 none) (.cells (wC X) 47)))
      clear HRA3
      generalize w6.alloc (.cells (wC X) 47) = w7 at *
      generalize w6.heap.size = b11 at *
      go_wp2_with fail
      go_loopw [12] (fun i wr => ∃ n : Nat, n ≤ 2 ∧ i = .int .i64 n ∧ As (∃ G1, RunAt W wr rb G1 l startR 0 ∧ WAt wr b11 X ∧ ¬ G1 b11)) (fun i _ => 2 - (intOf i).toNat)
      case atStart => exact ⟨0, by omega, rfl, ⟨G, HRA4.out, HX11.out, HNG.out⟩⟩
      case round =>
        clear HRA4 HX11 HNG
        obtain ⟨n, hn, rfl, HR⟩ := hrel
        obtain ⟨G1, hra, hx, hng⟩ := HR.out
        clear HR
        by_cases hlt : n < 2
        · have hltI : (n : Int) < 2 := by omega
          have hn0 : (0 : Int) ≤ (n : Int) := by omega
          have HRA := As.mk hra
          have HX11' := As.mk hx
          have HNG1 := As.mk hng
          have HB41 := As.mk (HB4.out.grown hra.gr (by simp))
          have HB51 := As.mk (HB5.out.grown hra.gr (by simp))
          clear hra hx hng
          go_wp2_with (first | (refine wpList_load_row rfl 23 _ rfl b4 rfl 23 (a16C ve) _ _ HB41.out Try.underlying23 rfl (by kernel_rfl) ?_) | (refine wpList_load_row rfl 23 _ rfl b5 rfl 23 (a16C va) _ _ HB51.out Try.underlying23 rfl (by kernel_rfl) ?_))
          clear HB41 HB51
          refine (drive_c HRA.out HP.out HWL.out (start_riv HP.out) (fun _ => rfl) (fun _ => rfl) ve va HV.out HWA.out (by omega)).mono ?_
          rintro e w8 ⟨nd, s, G2, hre, h3, rfl, hra, hng⟩
          have HX11 := As.mk (show WAt w8 b11 X from (hng.old b11 (Blk.lt HX11'.out) HNG1.out).1.trans HX11'.out)
          have HNG11 := As.mk (show ¬ G2 b11 from (hng.old b11 (Blk.lt HX11'.out) HNG1.out).2)
          obtain ⟨hhow, hrel⟩ := HCM.out hre h3
          have hriv := (hre.drv HP.out HV.out (start_drv' HP.out ve va)).riv
          have HGA := As.mk (goR_again HP.out 40 s hriv (by have := (pRight_all HP.out).1; omega))
          have HRI2 := As.mk (goR_riv HP.out hriv)
          have HZ := As.mk ((goR_ans l 40 s).2.2 (by omega))
          have HRG := As.mk (show (goR l 40 s).2.2.rg = X.rg from hrel.rg)
          have HIT := As.mk (show itsN (goR l 40 s).2.2.rd (goR l 40 s).2.2.lv = itemsP X from hrel.items)
          have HRA3 := As.mk (hra.mono (show 0 + 4000 ≤ 4000 by omega))
          rw [hhow]
          have HHOW := As.mk hhow
          clear hra hng HRA HX11' HNG1 hre h3 hhow hrel hriv
          rw [show goR l 40 s = (how, (goR l 40 s).2.1, (goR l 40 s).2.2) from by rw [← HHOW.out]] at HGA
          rw [HZ.out] at HGA
          generalize (goR l 40 s).2.2 = s2 at *
          clear HZ HHOW
          have hne : (how != how) = false := by simp
          by_cases h5 : how = 5
          · subst h5
            go_upto_region 16 with fail
            refine wp_region_noPanic ?_
            refine wp_region_held_drew (S := fun w' => WAt w' b11 X) (by kernel_rfl) (Blk.drew HX11.out) (fun hS => ?_)
            refine wpAnyH_take (i := 0) (v := ?va1) rfl (by kernel_rfl) (by kernel_rfl) (by kernel_rfl) (fun _ _ _ h => h) (Or.inl ⟨by rfl, ?ya1⟩) hS ?ra1
            case ya1 => (intro w0 _; go_simp; try with_reducible rfl)
            try simp only [yA, yB, yC, Act.put, yD, yE, yF]
            refine wpAnyH_take (i := 1) (v := ?va2) rfl (by kernel_rfl) (by kernel_rfl) (by kernel_rfl) (fun _ _ _ h => h) (Or.inl ⟨by rfl, ?ya2⟩) hS ?ra2
            case ya2 => (intro w0 _; go_simp; try with_reducible rfl)
            try simp only [yA, yB, yC, Act.put, yD, yE, yF]
            refine wpAnyH_take (i := 2) (v := ?va3) rfl (by kernel_rfl) (by kernel_rfl) (by kernel_rfl) (fun _ _ _ h => h) (Or.inl ⟨by rfl, ?ya3⟩) hS ?ra3
            case ya3 => (intro w0 _; go_simp; try with_reducible rfl)
            try simp only [yA, yB, yC, Act.put, yD, yE, yF]
            refine wpAnyH_take (i := 3) (v := ?va4) rfl (by kernel_rfl) (by kernel_rfl) (by kernel_rfl) (fun _ _ _ h => h) (Or.inl ⟨by rfl, ?ya4⟩) hS ?ra4
            case ya4 => (intro w0 _; go_simp; try with_reducible rfl)
            try simp only [yA, yB, yC, Act.put, yD, yE, yF]
            refine wpAnyH_take (i := 4) (v := ?va5) rfl (by kernel_rfl) (by kernel_rfl) (by kernel_rfl) (fun _ _ _ h => h) (Or.inl ⟨by rfl, ?ya5⟩) hS ?ra5
            case ya5 => (intro w0 _; go_simp; try with_reducible rfl)
            try simp only [yA, yB, yC, Act.put, yD, yE, yF]
            refine wpAnyH_take (i := 6) (v := ?va6) rfl (by kernel_rfl) (by kernel_rfl) (by kernel_rfl) (fun _ _ _ h => h) (Or.inl ⟨by rfl, ?ya6⟩) hS ?ra6
            case ya6 => (intro w0 _; go_simp; try with_reducible rfl)
            try simp only [yA, yB, yC, Act.put, yD, yE, yF]
            refine wpAnyH_take (i := 7) (v := ?va7) rfl (by kernel_rfl) (by kernel_rfl) (by kernel_rfl) (fun _ _ _ h => h) (Or.inl ⟨by rfl, ?ya7⟩) hS ?ra7
            case ya7 => (intro w0 hS0; (try simp only [] at hS0); refine exec_load_mid 35 (.tmp 74) ?_ b11 32 ?_ _ _ (WAt.rgs hS0) Try.underlying35 rfl (sizeRg _) <;> rfl)
            try simp only [yA, yB, yC, Act.put, yD, yE, yF]
            refine wpAnyH_ready (rs := [5]) (by kernel_rfl) (by simp) (AllReadyH.cons (i := 5) rfl (fun K hK => ?_) AllReadyH.nil)
            go_simp
            refine (regs_c (HRA3.out.grown (gr_drew (gr_refl _ none)))).mono ?_
            rintro e w7 ⟨rfl, hg7⟩
            rw [HRG.out]
            go_simp
            refine shut_gen hK (F := fun w' => As (RunAt W w' rb G2 l s2 4000)) (Blk.grown (Blk.drew HX11.out) hg7 (by simp)) (⟨(HRA3.out.grown (gr_drew (gr_refl _ none))).grown hg7⟩) (fun w8 hS HRA4 => ?_)
            clear hK K
            clear hg7
            try simp only [yA, yB, yC, Act.put, yD, yE, yF]
            refine wpAnyH_take (i := 8) (v := ?va9) rfl (by kernel_rfl) (by kernel_rfl) (by kernel_rfl) (fun _ _ _ h => h) (Or.inl ⟨by rfl, ?ya9⟩) hS ?ra9
            case ya9 => (intro w0 hS0; (try simp only [] at hS0); have q : (Op.equalIn 10000 35 (.agg (a8C X.rg)) (.agg (rgL X.rg).toArray)).run Try.prog w0 = .ok true w0 := eqA8_same X.rg w0; go_simp; try with_reducible rfl)
            try simp only [yA, yB, yC, Act.put, yD, yE, yF]
            refine wpAnyH_take (i := 9) (v := ?va10) rfl (by kernel_rfl) (by kernel_rfl) (by kernel_rfl) (fun _ _ _ h => h) (Or.inl ⟨by rfl, ?ya10⟩) hS ?ra10
            case ya10 => (intro w0 _; go_simp; try with_reducible rfl)
            try simp only [yA, yB, yC, Act.put, yD, yE, yF]
            refine wpAnyH_take (i := 10) (v := ?va11) rfl (by kernel_rfl) (by kernel_rfl) (by kernel_rfl) (fun _ _ _ h => h) (Or.inl ⟨by rfl, ?ya11⟩) hS ?ra11
            case ya11 => (intro w0 _; go_simp; try with_reducible rfl)
            try simp only [yA, yB, yC, Act.put, yD, yE, yF]
            refine wpAnyH_take (i := 11) (v := ?va12) rfl (by kernel_rfl) (by kernel_rfl) (by kernel_rfl) (fun _ _ _ h => h) (Or.inl ⟨by rfl, ?ya12⟩) hS ?ra12
            case ya12 => (intro w0 _; go_simp; try with_reducible rfl)
            try simp only [yA, yB, yC, Act.put, yD, yE, yF]
            refine wpAnyH_take (i := 12) (v := ?va13) rfl (by kernel_rfl) (by kernel_rfl) (by kernel_rfl) (fun _ _ _ h => h) (Or.inl ⟨by rfl, ?ya13⟩) hS ?ra13
            case ya13 => (intro w0 _; go_simp; try with_reducible rfl)
            try simp only [yA, yB, yC, Act.put, yD, yE, yF]
            refine wpAnyH_take (i := 13) (v := ?va14) rfl (by kernel_rfl) (by kernel_rfl) (by kernel_rfl) (fun _ _ _ h => h) (Or.inl ⟨by rfl, ?ya14⟩) hS ?ra14
            case ya14 => (intro w0 _; go_simp; try with_reducible rfl)
            try simp only [yA, yB, yC, Act.put, yD, yE, yF]
            refine wpAnyH_take (i := 14) (v := ?va15) rfl (by kernel_rfl) (by kernel_rfl) (by kernel_rfl) (fun _ _ _ h => h) (Or.inl ⟨by rfl, ?ya15⟩) hS ?ra15
            case ya15 => (intro w0 _; go_simp; try with_reducible rfl)
            try simp only [yA, yB, yC, Act.put, yD, yE, yF]
            refine wpAnyH_take (i := 16) (v := ?va16) rfl (by kernel_rfl) (by kernel_rfl) (by kernel_rfl) (fun _ _ _ h => h) (Or.inl ⟨by rfl, ?ya16⟩) hS ?ra16
            case ya16 => (intro w0 hS0; (try simp only [] at hS0); refine exec_load_row 47 (.tmp 11) ?_ b11 ?_ 47 (wC X) _ _ hS0 Try.underlying47 rfl (sizeWC _) <;> rfl)
            try simp only [yA, yB, yC, Act.put, yD, yE, yF]
            refine wpAnyH_ready (rs := [15]) (by kernel_rfl) (by simp) (AllReadyH.cons (i := 15) rfl (fun K hK => ?_) AllReadyH.nil)
            go_simp
            refine (ritems_c HRA4.out).mono ?_
            rintro e w9 ⟨⟨vi, rfl, hoi⟩, hg9⟩
            rw [HIT.out] at hoi
            go_simp
            refine shut_gen hK (F := fun w' => As (RunAt W w' rb G2 l s2 4000 ∧ ∃ Bi, w'.ownsRow Bi 40 5 vi (itemsP X).length (itCells (itemsP X)))) (Blk.grown hS hg9 (by simp)) (⟨HRA4.out.grown hg9, _, hoi⟩) (fun w10 hS HRA5 => ?_)
            clear hK K
            clear hg9
            try simp only [yA, yB, yC, Act.put, yD, yE, yF]
            refine wpAnyH_ready (rs := [17]) (by kernel_rfl) (by simp) (AllReadyH.cons (i := 17) rfl (fun K hK => ?_) AllReadyH.nil)
            go_simp
            refine (items22_c _ X).mono ?_
            rintro e w11 ⟨⟨vj, rfl, hoj⟩, hg11⟩
            go_simp
            refine shut_gen hK (F := fun w' => As (RunAt W w' rb G2 l s2 4000 ∧ (∃ Bi, w'.ownsRow Bi 40 5 vi (itemsP X).length (itCells (itemsP X))) ∧ ∃ Bj, w'.ownsRow Bj 40 5 vj (itemsP X).length (itCells (itemsP X)))) (Blk.grown hS hg11 (by simp)) (⟨HRA5.out.1.grown hg11, (let ⟨Bi, h⟩ := HRA5.out.2; ⟨Bi, own_gr0 h hg11⟩), _, hoj⟩) (fun w12 hS HRA6 => ?_)
            clear hK K
            clear hg11
            try simp only [yA, yB, yC, Act.put, yD, yE, yF]
            refine wpAnyH_ready (rs := [18]) (by kernel_rfl) (by simp) (AllReadyH.cons (i := 18) rfl (fun K hK => ?_) AllReadyH.nil)
            go_simp
            obtain ⟨Bi, hi1⟩ := HRA6.out.2.1
            obtain ⟨Bj, hj1⟩ := HRA6.out.2.2
            refine (sameItems_c _ _ _ _ (Arr.of_its hi1) (Arr.of_its hj1)).mono ?_
            rintro e w13 ⟨rfl, nd, rfl⟩
            go_simp
            refine shut_gen hK (F := fun w' => As (RunAt W w' rb G2 l s2 4000)) (Blk.drewN hS nd) (⟨HRA6.out.1.grown (gr_drewN (gr_refl _ none) nd)⟩) (fun w14 hS HRA7 => ?_)
            clear hK K
            clear hi1 hj1
            try simp only [yA, yB, yC, Act.put, yD, yE, yF]
            refine wpAnyH_take (i := 19) (v := ?va20) rfl (by kernel_rfl) (by kernel_rfl) (by kernel_rfl) (fun _ _ _ h => h) (Or.inl ⟨by rfl, ?ya20⟩) hS ?ra20
            case ya20 => (intro w0 _; go_simp; try with_reducible rfl)
            try simp only [yA, yB, yC, Act.put, yD, yE, yF]
            refine wpAnyH_take (i := 20) (v := ?va21) rfl (by kernel_rfl) (by kernel_rfl) (by kernel_rfl) (fun _ _ _ h => h) (Or.inl ⟨by rfl, ?ya21⟩) hS ?ra21
            case ya21 => (intro w0 _; go_simp; try with_reducible rfl)
            try simp only [yA, yB, yC, Act.put, yD, yE, yF]
            refine wpAnyH_take (i := 21) (v := ?va22) rfl (by kernel_rfl) (by kernel_rfl) (by kernel_rfl) (fun _ _ _ h => h) (Or.inl ⟨by rfl, ?ya22⟩) hS ?ra22
            case ya22 => (intro w0 _; go_simp; try with_reducible rfl)
            try simp only [yA, yB, yC, Act.put, yD, yE, yF]
            refine wpAnyH_done (by kernel_rfl) ?_ _
            refine NoPanic.normal ?_
            try simp only [Exit.then]
            have HRA8 := As.mk (HRA7.out.mono (show 4000 ≤ 4000 from Nat.le_refl _))
            have HX12 := As.mk hS
            clear hS HRA3 HX11
            go_wp2_with fail
            refine (gon_c HRA8.out HP.out HWL.out HRI2.out (by omega)).mono ?_
            rintro e w15 ⟨rfl, G3, hra, hng, _⟩
            rw [HGA.out]
            have HX13 := As.mk (show WAt w15 b11 X ∧ ¬ G3 b11 from let q := hng.old b11 (Blk.lt HX12.out) HNG11.out; ⟨q.1.trans HX12.out, q.2⟩)
            have HRA9 := As.mk hra
            clear hra hng HRA8 HX12
            go_wp2_with fail
            refine (again_c HRA9.out).mono ?_
            rintro e w16 ⟨rfl, G4, hra, hng⟩
            have HX14 := As.mk (show WAt w16 b11 X ∧ ¬ G4 b11 from let q := hng.old b11 (Blk.lt HX13.out.1) HX13.out.2; ⟨q.1.trans HX13.out.1, q.2⟩)
            have HRA10 := As.mk hra
            clear hra hng HRA9 HX13
            go_wp2_with fail
            refine (regs_c HRA10.out).mono ?_
            rintro e w17 ⟨rfl, hg17⟩
            have HRA11 := As.mk (HRA10.out.grown hg17)
            have HX15 := As.mk (show WAt w17 b11 X from Blk.grown HX14.out.1 hg17 (by simp))
            have hq0 := eqA8_same (fun _ => 0)
            unfold a8C at hq0
            rw [show a8C startR.rg = #[.int .i64 0, .int .i64 0, .int .i64 0, .int .i64 0, .int .i64 0, .int .i64 0, .int .i64 0, .int .i64 0] from rfl]
            clear hg17 HRA10
            go_wp2_with fail
            refine (ritems_c HRA11.out).mono ?_
            rintro e w18 ⟨⟨vz, rfl, hoz⟩, hg18⟩
            obtain ⟨Az, cz, rfl⟩ := own_shape hoz
            rw [show (itsN startR.rd startR.lv).length = 0 from rfl]
            have HRA12 := As.mk (HRA11.out.grown hg18)
            have HX16 := As.mk (show WAt w18 b11 X from Blk.grown HX15.out hg18 (by simp))
            clear hg18 hoz HRA11 hq0
            go_wp2_with fail
            go_roundw
            case measure => simp [intOf]; omega
            case rel => exact ⟨n + 1, by omega, by go_num, ⟨_, HRA12.out, HX16.out, HX14.out.2⟩⟩
          · have h5b : (how == 5) = false := by simpa using h5
            go_upto_region 16 with fail
            refine wp_region_noPanic ?_
            refine wp_region_held_drew (S := fun w' => WAt w' b11 X) (by kernel_rfl) (Blk.drew HX11.out) (fun hS => ?_)
            refine wpAnyH_take (i := 0) (v := ?vb1) rfl (by kernel_rfl) (by kernel_rfl) (by kernel_rfl) (fun _ _ _ h => h) (Or.inl ⟨by rfl, ?yb1⟩) hS ?rb1
            case yb1 => (intro w0 _; go_simp; try with_reducible rfl)
            try simp only [yA, yB, yC, Act.put, yD, yE, yF]
            refine wpAnyH_take (i := 1) (v := ?vb2) rfl (by kernel_rfl) (by kernel_rfl) (by kernel_rfl) (fun _ _ _ h => h) (Or.inl ⟨by rfl, ?yb2⟩) hS ?rb2
            case yb2 => (intro w0 _; go_simp; try with_reducible rfl)
            try simp only [yA, yB, yC, Act.put, yD, yE, yF]
            refine wpAnyH_take (i := 2) (v := ?vb3) rfl (by kernel_rfl) (by kernel_rfl) (by kernel_rfl) (fun _ _ _ h => h) (Or.inl ⟨by rfl, ?yb3⟩) hS ?rb3
            case yb3 => (intro w0 _; go_simp; try with_reducible rfl)
            try simp only [yA, yB, yC, Act.put, yD, yE, yF]
            refine wpAnyH_take (i := 3) (v := ?vb4) rfl (by kernel_rfl) (by kernel_rfl) (by kernel_rfl) (fun _ _ _ h => h) (Or.inl ⟨by rfl, ?yb4⟩) hS ?rb4
            case yb4 => (intro w0 _; go_simp; try with_reducible rfl)
            try simp only [yA, yB, yC, Act.put, yD, yE, yF]
            refine wpAnyH_take (i := 4) (v := ?vb5) rfl (by kernel_rfl) (by kernel_rfl) (by kernel_rfl) (fun _ _ _ h => h) (Or.inl ⟨by rfl, ?yb5⟩) hS ?rb5
            case yb5 => (intro w0 _; go_simp; try with_reducible rfl)
            try simp only [yA, yB, yC, Act.put, yD, yE, yF]
            refine wpAnyH_take (i := 6) (v := ?vb6) rfl (by kernel_rfl) (by kernel_rfl) (by kernel_rfl) (fun _ _ _ h => h) (Or.inl ⟨by rfl, ?yb6⟩) hS ?rb6
            case yb6 => (intro w0 _; go_simp; try with_reducible rfl)
            try simp only [yA, yB, yC, Act.put, yD, yE, yF]
            refine wpAnyH_take (i := 7) (v := ?vb7) rfl (by kernel_rfl) (by kernel_rfl) (by kernel_rfl) (fun _ _ _ h => h) (Or.inl ⟨by rfl, ?yb7⟩) hS ?rb7
            case yb7 => (intro w0 hS0; (try simp only [] at hS0); refine exec_load_mid 35 (.tmp 74) ?_ b11 32 ?_ _ _ (WAt.rgs hS0) Try.underlying35 rfl (sizeRg _) <;> rfl)
            try simp only [yA, yB, yC, Act.put, yD, yE, yF]
            refine wpAnyH_ready (rs := [5]) (by kernel_rfl) (by simp) (AllReadyH.cons (i := 5) rfl (fun K hK => ?_) AllReadyH.nil)
            go_simp
            refine (regs_c (HRA3.out.grown (gr_drew (gr_refl _ none)))).mono ?_
            rintro e w7 ⟨rfl, hg7⟩
            rw [HRG.out]
            go_simp
            refine shut_gen hK (F := fun w' => As (RunAt W w' rb G2 l s2 4000)) (Blk.grown (Blk.drew HX11.out) hg7 (by simp)) (⟨(HRA3.out.grown (gr_drew (gr_refl _ none))).grown hg7⟩) (fun w8 hS HRA4 => ?_)
            clear hK K
            clear hg7
            try simp only [yA, yB, yC, Act.put, yD, yE, yF]
            refine wpAnyH_take (i := 8) (v := ?vb9) rfl (by kernel_rfl) (by kernel_rfl) (by kernel_rfl) (fun _ _ _ h => h) (Or.inl ⟨by rfl, ?yb9⟩) hS ?rb9
            case yb9 => (intro w0 hS0; (try simp only [] at hS0); have q : (Op.equalIn 10000 35 (.agg (a8C X.rg)) (.agg (rgL X.rg).toArray)).run Try.prog w0 = .ok true w0 := eqA8_same X.rg w0; go_simp; try with_reducible rfl)
            try simp only [yA, yB, yC, Act.put, yD, yE, yF]
            refine wpAnyH_take (i := 9) (v := ?vb10) rfl (by kernel_rfl) (by kernel_rfl) (by kernel_rfl) (fun _ _ _ h => h) (Or.inl ⟨by rfl, ?yb10⟩) hS ?rb10
            case yb10 => (intro w0 _; go_simp; try with_reducible rfl)
            try simp only [yA, yB, yC, Act.put, yD, yE, yF]
            refine wpAnyH_take (i := 10) (v := ?vb11) rfl (by kernel_rfl) (by kernel_rfl) (by kernel_rfl) (fun _ _ _ h => h) (Or.inl ⟨by rfl, ?yb11⟩) hS ?rb11
            case yb11 => (intro w0 _; go_simp; try with_reducible rfl)
            try simp only [yA, yB, yC, Act.put, yD, yE, yF]
            refine wpAnyH_take (i := 11) (v := ?vb12) rfl (by kernel_rfl) (by kernel_rfl) (by kernel_rfl) (fun _ _ _ h => h) (Or.inl ⟨by rfl, ?yb12⟩) hS ?rb12
            case yb12 => (intro w0 _; go_simp; try with_reducible rfl)
            try simp only [yA, yB, yC, Act.put, yD, yE, yF]
            refine wpAnyH_take (i := 12) (v := ?vb13) rfl (by kernel_rfl) (by kernel_rfl) (by kernel_rfl) (fun _ _ _ h => h) (Or.inl ⟨by rfl, ?yb13⟩) hS ?rb13
            case yb13 => (intro w0 _; go_simp; try with_reducible rfl)
            try simp only [yA, yB, yC, Act.put, yD, yE, yF]
            refine wpAnyH_take (i := 13) (v := ?vb14) rfl (by kernel_rfl) (by kernel_rfl) (by kernel_rfl) (fun _ _ _ h => h) (Or.inl ⟨by rfl, ?yb14⟩) hS ?rb14
            case yb14 => (intro w0 _; go_simp; try with_reducible rfl)
            try simp only [yA, yB, yC, Act.put, yD, yE, yF]
            refine wpAnyH_take (i := 14) (v := undef) rfl (by kernel_rfl) (by kernel_rfl) (by kernel_rfl) (fun _ _ _ h => h) (Or.inr ⟨by kernel_rfl, rfl⟩) hS ?_
            try simp only [yA, yB, yC, Act.put, yD, yE, yF]
            refine wpAnyH_take (i := 15) (v := undef) rfl (by kernel_rfl) (by kernel_rfl) (by kernel_rfl) (fun _ _ _ h => h) (Or.inr ⟨by kernel_rfl, rfl⟩) hS ?_
            try simp only [yA, yB, yC, Act.put, yD, yE, yF]
            refine wpAnyH_take (i := 16) (v := undef) rfl (by kernel_rfl) (by kernel_rfl) (by kernel_rfl) (fun _ _ _ h => h) (Or.inr ⟨by kernel_rfl, rfl⟩) hS ?_
            try simp only [yA, yB, yC, Act.put, yD, yE, yF]
            refine wpAnyH_take (i := 17) (v := undef) rfl (by kernel_rfl) (by kernel_rfl) (by kernel_rfl) (fun _ _ _ h => h) (Or.inr ⟨by kernel_rfl, rfl⟩) hS ?_
            try simp only [yA, yB, yC, Act.put, yD, yE, yF]
            refine wpAnyH_take (i := 18) (v := undef) rfl (by kernel_rfl) (by kernel_rfl) (by kernel_rfl) (fun _ _ _ h => h) (Or.inr ⟨by kernel_rfl, rfl⟩) hS ?_
            try simp only [yA, yB, yC, Act.put, yD, yE, yF]
            refine wpAnyH_take (i := 19) (v := undef) rfl (by kernel_rfl) (by kernel_rfl) (by kernel_rfl) (fun _ _ _ h => h) (Or.inr ⟨by kernel_rfl, rfl⟩) hS ?_
            try simp only [yA, yB, yC, Act.put, yD, yE, yF]
            refine wpAnyH_take (i := 20) (v := ?vb21) rfl (by kernel_rfl) (by kernel_rfl) (by kernel_rfl) (fun _ _ _ h => h) (Or.inl ⟨by rfl, ?yb21⟩) hS ?rb21
            case yb21 => (intro w0 _; go_simp; try with_reducible rfl)
            try simp only [yA, yB, yC, Act.put, yD, yE, yF]
            refine wpAnyH_take (i := 21) (v := ?vb22) rfl (by kernel_rfl) (by kernel_rfl) (by kernel_rfl) (fun _ _ _ h => h) (Or.inl ⟨by rfl, ?yb22⟩) hS ?rb22
            case yb22 => (intro w0 _; go_simp; try with_reducible rfl)
            try simp only [yA, yB, yC, Act.put, yD, yE, yF]
            refine wpAnyH_done (by kernel_rfl) ?_ _
            refine NoPanic.normal ?_
            try simp only [Exit.then]
            have HRA8 := As.mk (HRA4.out.mono (show 4000 ≤ 4000 from Nat.le_refl _))
            have HX12 := As.mk hS
            clear hS HRA3 HX11
            go_wp2_with fail
            refine (gon_c HRA8.out HP.out HWL.out HRI2.out (by omega)).mono ?_
            rintro e w15 ⟨rfl, G3, hra, hng, _⟩
            rw [HGA.out]
            have HX13 := As.mk (show WAt w15 b11 X ∧ ¬ G3 b11 from let q := hng.old b11 (Blk.lt HX12.out) HNG11.out; ⟨q.1.trans HX12.out, q.2⟩)
            have HRA9 := As.mk hra
            clear hra hng HRA8 HX12
            go_wp2_with fail
            refine (again_c HRA9.out).mono ?_
            rintro e w16 ⟨rfl, G4, hra, hng⟩
            have HX14 := As.mk (show WAt w16 b11 X ∧ ¬ G4 b11 from let q := hng.old b11 (Blk.lt HX13.out.1) HX13.out.2; ⟨q.1.trans HX13.out.1, q.2⟩)
            have HRA10 := As.mk hra
            clear hra hng HRA9 HX13
            go_wp2_with fail
            refine (regs_c HRA10.out).mono ?_
            rintro e w17 ⟨rfl, hg17⟩
            have HRA11 := As.mk (HRA10.out.grown hg17)
            have HX15 := As.mk (show WAt w17 b11 X from Blk.grown HX14.out.1 hg17 (by simp))
            have hq0 := eqA8_same (fun _ => 0)
            unfold a8C at hq0
            rw [show a8C startR.rg = #[.int .i64 0, .int .i64 0, .int .i64 0, .int .i64 0, .int .i64 0, .int .i64 0, .int .i64 0, .int .i64 0] from rfl]
            clear hg17 HRA10
            go_wp2_with fail
            refine (ritems_c HRA11.out).mono ?_
            rintro e w18 ⟨⟨vz, rfl, hoz⟩, hg18⟩
            obtain ⟨Az, cz, rfl⟩ := own_shape hoz
            rw [show (itsN startR.rd startR.lv).length = 0 from rfl]
            have HRA12 := As.mk (HRA11.out.grown hg18)
            have HX16 := As.mk (show WAt w18 b11 X from Blk.grown HX15.out hg18 (by simp))
            clear hg18 hoz HRA11 hq0
            go_wp2_with fail
            go_roundw
            case measure => simp [intOf]; omega
            case rel => exact ⟨n + 1, by omega, by go_num, ⟨_, HRA12.out, HX16.out, HX14.out.2⟩⟩
        · obtain rfl : n = 2 := by omega
          have HRA := As.mk hra
          go_wp2_with fail
          go_ret
          exact ⟨rfl, gr_then HG0.out HRA.out.gr (.inl rfl)⟩
end
end Go.Proofs.Ytgmhopkajopfcaa
