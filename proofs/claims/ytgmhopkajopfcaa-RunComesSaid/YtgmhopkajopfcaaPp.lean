/- The walk of prog's pairs. -/
import Derived.Test.YtgmhopkajopfcaaPpa
import Derived.Maps.Own
import Derived.Maps.OwnSet
import Derived.StillTailTactics
namespace Go.Proofs.Ytgmhopkajopfcaa
open Go.RowKit Go.Maps
set_option linter.unusedVariables false

def pairElem (v : Value) : Option (DataW Unit × List MemPlace) :=
  match v with
  | .agg #[.int .i64 a, .int .i64 b] => some (.agg [.lit (.int .i64 a), .lit (.int .i64 b)], [])
  | _ => none
theorem keyInt : Keyed Try.prog 3 := int_keyed Try.underlying3
def pairD (a b : Int) : DataW Unit := .agg [.lit (.int .i64 a), .lit (.int .i64 b)]
def mDat (m : List (Int × Int × Int)) : DataW Unit := m.foldl (fun D p => D.put (.int .i64 p.1) (pairD p.2.1 p.2.2)) (.map [])
theorem mDat_snoc (m : List (Int × Int × Int)) (a b c : Int) : mDat (m ++ [(a, b, c)]) = (mDat m).put (.int .i64 a) (pairD b c) := by simp [mDat, List.foldl_append]
theorem infoNest : (Try.prog.info? 105).map (fun i => (i.zero, i.size, i.bytes)) = some (some (.agg #[.int .i64 0, .int .i64 0]), 2, 16) := by kernel_rfl
/-- Block b holds the pairs that were shut. -/
def PairM (w : World) (b n : Nat) (m : List (Int × Int × Int)) : Prop := w.ownsMap Try.prog 3 pairElem b n (mDat m)
def PairsPost (w : World) (l : List POp) (e : Ending) (w' : World) : Prop :=
  ((pRun l = none ∧ e = .returned (.tuple #[.map none, .bool false])) ∨ ∃ s b, pRun l = some s ∧ e = .returned (.tuple #[.map (some b), .bool s.st.isEmpty]) ∧ PairM w' b l.length s.m) ∧ w.grownBy w' none
theorem own_alloc2 {w : World} {base : Nat} {e : TypeId} {size n : Nat} {v : Value} {xs : List Value} (h : w.ownsRow base e size v n xs) (o o' : Obj) : ((w.alloc o).alloc o').ownsRow base e size v n xs :=
  own_grown h (gr_alloc (gr_alloc (gr_refl w none) o) o') (by rcases hv : v.ownBlock with _ | x; exact .inl rfl; exact .inr (by simp))
theorem map_ne_own {w : World} {P : Program} {k : TypeId} {R : Value → Option (DataW Unit × List MemPlace)} {b n : Nat} {D : DataW Unit} (h : w.ownsMap P k R b n D) {base : Nat} {e : TypeId} {size q : Nat} {v : Value} {xs : List Value} (hr : w.ownsRow base e size v q xs) : some b ≠ v.ownBlock := by
  obtain ⟨es, cl, hb, _⟩ := h
  rcases hr.2 with ⟨rfl, _⟩ | ⟨g, cap, cur, rfl, _, hg, _⟩
  · simp [Value.ownBlock]
  · simp only [Value.ownBlock, ne_eq, Option.some.injEq]
    rintro rfl
    rw [hb] at hg
    cases hg
theorem own_alloc1 {w : World} {base : Nat} {e : TypeId} {size n : Nat} {v : Value} {xs : List Value} (h : w.ownsRow base e size v n xs) (o : Obj) : (w.alloc o).ownsRow base e size v n xs :=
  own_grown h (gr_alloc (gr_refl w none) o) (by rcases hv : v.ownBlock with _ | x; exact .inl rfl; exact .inr (by simp))
theorem own_mono' {w : World} {P : Program} {k : TypeId} {R : Value → Option (DataW Unit × List MemPlace)} {b n : Nat} {D : DataW Unit} (h : w.ownsMap P k R b n D) : w.ownsMap P k R b (n + 1) D := h.mono (Nat.le_succ n)
/-- What is true at a round's head. -/
structure PMid (w wr : World) (b k : Nat) (v : Value) (s : PSt) : Prop where
  row : wr.ownsRow w.heap.size 105 2 v s.st.length (stCells s.st)
  map : PairM wr b k s.m
  four : s.st.length ≤ 4
  gr : w.grownBy wr none
  lo : w.heap.size ≤ b
  wf : ∀ p ∈ s.st, 0 ≤ p.1 ∧ p.1 ≤ 9223372036854775807 ∧ -1 ≤ p.2 ∧ p.2 ≤ 9223372036854775807
set_option maxRecDepth 100000 in
set_option maxHeartbeats 6400000 in
theorem pairs_c (v : Value) (l : List POp) (w : World) (h : Arr OpE 5 w v l) (hl : l.length ≤ 1000000) :
    Calls Try.prog 37 #[v] w (PairsPost w l) := by
  obtain ⟨A, c, rfl⟩ := h.len
  have hle := h.le
  have H := As.mk h
  obtain ⟨i0, hi, hz0, hz1, hz2⟩ := info_parts infoNest
  have HI := As.mk (And.intro hi (And.intro hz0 (And.intro hz1 hz2)))
  have hmm := @run_makeMap Try.prog
  clear h hi hz0 hz1 hz2
  go_enter Try.func37, Try.ntmps37
  go_wp2_with fail
  clear hmm
  have M0 := As.mk (World.ownsMap_made w Try.prog 3 pairElem)
  have G0 := As.mk (gr_alloc (gr_refl w none) (.map #[] 0))
  generalize hb : w.heap.size = b at *
  have HB := As.mk hb
  clear hb
  go_loopw [5, 12] (fun v i wr => ∃ k : Nat, k ≤ l.length ∧ i = .int .i64 k ∧ ∃ s, As (pRun (l.take k) = some s ∧ PMid w wr b k v s)) (fun _ i _ => l.length - (intOf i).toNat)
  case atStart => exact ⟨0, Nat.zero_le _, rfl, ⟨[], []⟩, ⟨rfl, World.ownsRow_nil _ _ _ _, M0.out, by simp, G0.out, by rw [HB.out]; exact Nat.le_refl _, by simp⟩⟩
  case round =>
    obtain ⟨k, hk, rfl, s, HL⟩ := hrel
    clear M0 G0
    by_cases hlt : k < l.length
    · have hltI : (k : Int) < (l.length : Int) := by omega
      have hk0 : (0 : Int) ≤ (k : Int) := by omega
      obtain ⟨bb, o, cs, rfl, hE, hcs, hcell⟩ := H.out.at_ k l[k] (List.getElem?_eq_getElem hlt)
      obtain rfl := hE
      have hgr := HL.out.2.gr
      have c0 : wr.cell? ⟨bb, o + k * 5, none⟩ = _ := hgr.cell (hcell 0 _ rfl) (by simp)
      have c1 := hgr.cell (hcell 1 _ rfl) (by simp)
      have c2 := hgr.cell (hcell 2 _ rfl) (by simp)
      have c3 := hgr.cell (hcell 3 _ rfl) (by simp)
      have c4 := hgr.cell (hcell 4 _ rfl) (by simp)
      have HT := As.mk (pRun_take hlt)
      clear hgr hcell hcs
      generalize l[k]'hlt = x at *
      rw [HL.out.1] at HT
      have HN := As.mk (fun h : pRun (l.take (k + 1)) = none => pRun_none h)
      obtain ⟨st, m⟩ := s
      obtain ⟨A5, c5, rfl⟩ := own_shape HL.out.2.row
      have h4 : st.length ≤ 4 := HL.out.2.four
      dsimp only at *
      obtain ⟨xk, xc, xr, xo, xn⟩ := x
      dsimp only at c0 c1 c2 c3 c4 HT
      have kB : ∀ j : Int, xk ≠ j → (xk == j) = false := fun j h => by rw [beq_eq_false_iff_ne]; exact h
      by_cases k10 : xk = 10
      · subst k10
        by_cases h5 : st.length + 1 ≤ 4
        · have h5I : ¬ (4 : Int) < ((st.length + 1 : Nat) : Int) := by omega
          go_wp2_with (at_builtin; refine wpList_append_lies _ (by rfl) _ _ _ (by rfl) w.heap.size 105 i0 _ 2 16 Try.underlying103 HI.out.1 HI.out.2.1 HI.out.2.2.1 HI.out.2.2.2 rfl (by omega) _ st.length _ (by rfl) (own_alloc2 HL.out.2.row _ _) ⟨wr.heap.size + 1, 0, none⟩ 1 1 [.int .i64 (k : Int), .int .i64 (-1)] (by rfl) (by rfl) (World.news_of_block (cs := #[.int .i64 (k : Int), .int .i64 (-1)]) (t := 105) (fr := (0, 0)) (heap_alloc2_new wr _ _)) (by simp [Value.oneCell']) (by omega) (by simp only [maxLen]; omega) (by omega) (by have := HL.out.2.gr.size; simp; omega) (wr.heap.size + 2) (by simp) ?_; intro gg cap w5 hown1 hgrow hat hlt2)
          have MM := (own_mono' (((HL.out.2.map.alloc (.cells #[.int .i64 10, .int .i64 xc, .int .i64 xr, .int .i64 xo, .int .i64 xn] 57)).alloc (.cells #[.int .i64 (k : Int), .int .i64 (-1)] 105)).kept hgrow (map_ne_own HL.out.2.map HL.out.2.row)))
          refine ⟨⟨k + 1, by omega, by go_num, ⟨st ++ [((k : Int), -1)], m⟩, ⟨?_, ⟨?_, MM, ?_, ?_, HL.out.2.lo, ?_⟩⟩⟩, by simp [intOf]; omega⟩
          · rw [HT.out]
            simp [pStep, h5]
          · rw [show (st ++ [((k : Int), (-1 : Int))]).length = st.length + 1 by simp, stCells_snoc]
            exact hown1
          · simpa using h5
          · exact gr_then (gr_alloc (gr_alloc HL.out.2.gr _) _) hgrow (.inr (.inr fun q hq => (HL.out.2.row.lt q hq).1))
          · intro p hp
            rcases List.mem_append.1 hp with hp | hp
            · exact HL.out.2.wf p hp
            · rw [List.mem_singleton.1 hp]
              dsimp only
              omega
        · have h5I : (4 : Int) < ((st.length + 1 : Nat) : Int) := by omega
          go_wp2_with (at_builtin; refine wpList_append_lies _ (by rfl) _ _ _ (by rfl) w.heap.size 105 i0 _ 2 16 Try.underlying103 HI.out.1 HI.out.2.1 HI.out.2.2.1 HI.out.2.2.2 rfl (by omega) _ st.length _ (by rfl) (own_alloc2 HL.out.2.row _ _) ⟨wr.heap.size + 1, 0, none⟩ 1 1 [.int .i64 (k : Int), .int .i64 (-1)] (by rfl) (by rfl) (World.news_of_block (cs := #[.int .i64 (k : Int), .int .i64 (-1)]) (t := 105) (fr := (0, 0)) (heap_alloc2_new wr _ _)) (by simp [Value.oneCell']) (by omega) (by simp only [maxLen]; omega) (by omega) (by have := HL.out.2.gr.size; simp; omega) (wr.heap.size + 2) (by simp) ?_; intro gg cap w5 hown1 hgrow hat hlt2)
          go_ret2
          exact ⟨.inl ⟨HN.out (by rw [HT.out]; simp [pStep, h5]), rfl⟩, gr_then (gr_alloc (gr_alloc HL.out.2.gr _) _) hgrow (.inr (.inr fun q hq => (HL.out.2.row.lt q hq).1))⟩
      · have kb10 := kB 10 k10
        have kk := fun j => kB j
        rcases List.eq_nil_or_concat st with rfl | ⟨ini, p, hst⟩
        · by_cases k11 : xk = 11
          · subst k11
            go_wp2_with fail
            go_ret2
            exact ⟨.inl ⟨HN.out (by rw [HT.out]; rfl), rfl⟩, gr_alloc HL.out.2.gr _⟩
          · have kb11 := kB 11 k11
            by_cases k12 : xk = 12
            · subst k12
              go_wp2_with fail
              go_ret2
              exact ⟨.inl ⟨HN.out (by rw [HT.out]; rfl), rfl⟩, gr_alloc HL.out.2.gr _⟩
            · have kb12 := kB 12 k12
              go_wp2_with fail
              go_roundw
              case measure => simp [intOf]; omega
              case rel =>
                refine ⟨k + 1, by omega, by go_num, ⟨[], m⟩, ⟨?_, ⟨own_alloc1 HL.out.2.row _, own_mono' (HL.out.2.map.alloc _), HL.out.2.four, gr_alloc HL.out.2.gr _, HL.out.2.lo, HL.out.2.wf⟩⟩⟩
                rw [HT.out]
                simp [pStep, k10, k11, k12]
        · rw [List.concat_eq_append] at hst
          have hj : st.length = ini.length + 1 := by rw [hst]; simp
          have hjI : ¬ (4 : Int) < ((ini.length + 1 : Nat) : Int) := by omega
          obtain ⟨g, cp, hgs⟩ := own_some HL.out.2.row (by show 0 < st.length; omega)
          injection hgs with hgs1 hgs2 hgs3
          subst hgs1 hgs3
          obtain ⟨pa, po⟩ := p
          have RB := own_alloc1 HL.out.2.row (.cells #[.int .i64 xk, .int .i64 xc, .int .i64 xr, .int .i64 xo, .int .i64 xn] 57)
          have q0 : (wr.alloc (.cells #[.int .i64 xk, .int .i64 xc, .int .i64 xr, .int .i64 xo, .int .i64 xn] 57)).cell? ⟨g, ini.length * 2, none⟩ = some (.int .i64 pa) := own_cellAt RB (ini.length * 2) _ (by
            dsimp only
            rw [hst, stCells_snoc, List.getElem?_append_right (by rw [stCells_len]; exact Nat.le_refl _), stCells_len]
            simp)
          have q1 : (wr.alloc (.cells #[.int .i64 xk, .int .i64 xc, .int .i64 xr, .int .i64 xo, .int .i64 xn] 57)).cell? ⟨g, ini.length * 2 + 1, none⟩ = some (.int .i64 po) := own_cellAt RB (ini.length * 2 + 1) _ (by
            dsimp only
            rw [hst, stCells_snoc, List.getElem?_append_right (by rw [stCells_len]; omega), stCells_len]
            simp)
          have q1f : (wr.alloc (.cells #[.int .i64 xk, .int .i64 xc, .int .i64 xr, .int .i64 xo, .int .i64 xn] 57)).frozen? ⟨g, ini.length * 2 + 1, none⟩ = false := own_freeAt RB _
          have HRB := As.mk RB
          clear RB
          have pw := HL.out.2.wf (pa, po) (by dsimp only; rw [hst]; simp)
          dsimp only at pw
          have hlast : st.getLast? = some (pa, po) := by rw [hst]; simp
          have hdrop : st.dropLast = ini := by rw [hst]; simp
          have HS := As.mk (And.intro hst (And.intro hlast hdrop))
          clear hst hlast hdrop
          rw [hj]
          by_cases k11 : xk = 11
          · subst k11
            by_cases hpo : 0 ≤ po
            · go_wp2_with fail
              go_ret2
              exact ⟨.inl ⟨HN.out (by rw [HT.out]; simp [pStep, HS.out.2.1, hpo]), rfl⟩, gr_alloc HL.out.2.gr _⟩
            · go_wp2_with fail
              have hrow := own_set HRB.out (ini.length * 2 + 1) (by show _ < st.length * 2; omega) (.int .i64 (k : Int))
              dsimp only at hrow
              rw [HS.out.1, stCells_snoc, List.set_append_right _ _ (by rw [stCells_len]; omega), stCells_len, show ini.length * 2 + 1 - ini.length * 2 = 1 by omega] at hrow
              simp only [List.set_cons_succ, List.set_cons_zero] at hrow
              rw [List.length_append, List.length_singleton, show [Value.int .i64 pa, Value.int .i64 (k : Int)] = [.int .i64 (pa, (k : Int)).1, .int .i64 (pa, (k : Int)).2] from rfl, ← stCells_snoc] at hrow
              have hbg : b ≠ g := fun e => map_ne_own HL.out.2.map HL.out.2.row (by rw [e]; rfl)
              have hlo : w.heap.size ≤ g := (HL.out.2.row.lt g rfl).1
              refine ⟨⟨k + 1, by omega, by go_num, ⟨ini ++ [(pa, (k : Int))], m⟩, ⟨?_, ⟨?_, own_mono' ((HL.out.2.map.alloc _).setCell hbg _), ?_, gr_set (gr_alloc HL.out.2.gr _) (.inr hlo) _, HL.out.2.lo, ?_⟩⟩⟩, by simp [intOf]; omega⟩
              · rw [HT.out]
                simp [pStep, HS.out.2.1, HS.out.2.2, hpo]
              · rw [List.length_append, List.length_singleton]
                exact hrow
              · rw [List.length_append, List.length_singleton]
                omega
              · intro q hq
                rcases List.mem_append.1 hq with hq | hq
                · exact HL.out.2.wf q (by dsimp only; rw [HS.out.1]; exact List.mem_append_left _ hq)
                · rw [List.mem_singleton.1 hq]
                  dsimp only
                  omega
          · have kb11 := kB 11 k11
            by_cases k12 : xk = 12
            · subst k12
              by_cases hpo : po < 0
              · go_wp2_with fail
                go_ret2
                exact ⟨.inl ⟨HN.out (by rw [HT.out]; simp [pStep, HS.out.2.1, hpo]), rfl⟩, gr_alloc HL.out.2.gr _⟩
              · go_wp2_with fail
                have RR := As.mk (And.intro HRB.out (And.intro (HL.out.2.map.alloc (.cells #[.int .i64 12, .int .i64 xc, .int .i64 xr, .int .i64 xo, .int .i64 xn] 57)) (gr_alloc HL.out.2.gr (.cells #[.int .i64 12, .int .i64 xc, .int .i64 xr, .int .i64 xo, .int .i64 xn] 57))))
                have HRB' := RR
                clear HRB RR
                generalize wr.alloc (.cells #[.int .i64 12, .int .i64 xc, .int .i64 xr, .int .i64 xo, .int .i64 xn] 57) = W at *
                refine wp_region_still_tail 13 (by kernel_rfl) (by kernel_rfl) ?_
                simp only [List.take_succ_cons, List.take_zero, List.drop_succ_cons, List.drop_zero]
                change wpStill _ _ W.drew _ _ _
                have RR := As.mk (show W.drew.ownsRow w.heap.size 105 2 (.slice (some ⟨g, 0, none⟩) st.length c5) st.length (stCells st) ∧ PairM W.drew b k m ∧ w.grownBy W.drew none from ⟨HRB'.out.1, HRB'.out.2.1, gr_drew HRB'.out.2.2⟩)
                have r0 : W.drew.cell? ⟨g, ini.length * 2, none⟩ = some (.int .i64 pa) := q0
                have r1 : W.drew.cell? ⟨g, ini.length * 2 + 1, none⟩ = some (.int .i64 po) := q1
                clear q0 q1 q1f HRB'
                change wpStill _ _ W.drew (fun a' => wpList _ _ _ _ a' W.drew) _ _
                generalize W.drew = W2 at *
                repeat still_step
                refine wpStill_nil ?_
                have hcap : ini.length + 1 ≤ c5 := by
                  rcases RR.out.1.2 with ⟨hv, _⟩ | ⟨g', cap', cur, hv, _, _, hn, _⟩
                  · cases hv
                  · injection hv with _ _ hv3
                    omega
                have hcapI : (ini.length : Int) ≤ (c5 : Int) := by omega
                have hj4 : ¬ (4 : Int) < (ini.length : Int) := by omega
                have hkw : (Lit.int .i64 pa).wf = true := by simp [Lit.wf, IntKind.min, IntKind.max, IntKind.signed, IntKind.bits]; omega
                have HKW := As.mk (keyOf_int_mk (P := Try.prog) Try.underlying3 hkw)
                clear hkw
                go_wp2_with (at_mapUpdate; refine wpList_mapUpdate_own _ rfl _ _ _ 76 rfl 3 106 keyInt Try.underlying76 pairElem b k (mDat m) rfl RR.out.2.1 (by unfold maxLen; omega) _ _ (.int .i64 pa) rfl rfl HKW.out (pairD po (k : Int)) [] rfl ?_; intro w6 hown6 hgrow6)
                have hbg : some g ≠ some b := fun e => map_ne_own HL.out.2.map HL.out.2.row (by rw [← e]; rfl)
                have hr6 := own_grown RR.out.1 hgrow6 (.inr hbg)
                have hr7 := own_cut hr6 ini.length (by omega)
                rw [HS.out.1, stCells_snoc, List.take_left' (stCells_len ini)] at hr7
                refine ⟨⟨k + 1, by omega, by go_num, ⟨ini, m ++ [(pa, po, (k : Int))]⟩, ⟨?_, ⟨hr7, ?_, by dsimp only; omega, gr_then RR.out.2.2 hgrow6 (.inr (.inr fun q hq => by injection hq with hq; rw [← hq]; exact HL.out.2.lo)), HL.out.2.lo, ?_⟩⟩⟩, by simp [intOf]; omega⟩
                · rw [HT.out]
                  simp [pStep, HS.out.2.1, HS.out.2.2, hpo]
                · show w6.ownsMap _ _ _ _ _ _
                  rw [mDat_snoc]
                  exact hown6
                · intro q hq
                  exact HL.out.2.wf q (by dsimp only; rw [HS.out.1]; exact List.mem_append_left _ hq)
            · have kb12 := kB 12 k12
              go_wp2_with fail
              go_roundw
              case measure => simp [intOf]; omega
              case rel =>
                refine ⟨k + 1, by omega, by go_num, ⟨st, m⟩, ⟨?_, ⟨?_, own_mono' (HL.out.2.map.alloc _), HL.out.2.four, gr_alloc HL.out.2.gr _, HL.out.2.lo, HL.out.2.wf⟩⟩⟩
                · rw [HT.out]
                  simp [pStep, k10, k11, k12]
                · have := own_alloc1 HL.out.2.row (.cells #[.int .i64 xk, .int .i64 xc, .int .i64 xr, .int .i64 xo, .int .i64 xn] 57)
                  dsimp only at this ⊢
                  rw [hj] at this ⊢
                  exact this
    · obtain rfl : k = l.length := by omega
      have HX := As.mk HL.out
      clear HL
      obtain ⟨st, m⟩ := s
      obtain ⟨A5, c5, rfl⟩ := own_shape HX.out.2.row
      dsimp only at *
      by_cases h0 : st.length = 0
      · have h0' : (((st.length : Nat) : Int) == 0) = true := by rw [beq_iff_eq]; omega
        go_wp2_with fail
        go_ret2
        have hr := HX.out.1
        rw [List.take_length] at hr
        exact ⟨.inr ⟨_, b, hr, by rw [show st.isEmpty = true by rw [List.isEmpty_iff]; exact List.eq_nil_of_length_eq_zero h0]; rfl, HX.out.2.map⟩, HX.out.2.gr⟩
      · have h0' : (((st.length : Nat) : Int) == 0) = false := by rw [beq_eq_false_iff_ne]; omega
        go_wp2_with fail
        go_ret2
        have hr := HX.out.1
        rw [List.take_length] at hr
        exact ⟨.inr ⟨_, b, hr, by rw [show st.isEmpty = false by cases st with | nil => exact absurd rfl h0 | cons => rfl]; rfl, HX.out.2.map⟩, HX.out.2.gr⟩
end Go.Proofs.Ytgmhopkajopfcaa
