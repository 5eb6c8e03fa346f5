/- The walk of AuditReads. -/
import Derived.Test.YtpamncakhffnfaaAv
namespace Go.Proofs.Ytpamncakhffnfaa
open Go.RowKit Go.Maps
set_option linter.unusedVariables false
set_option linter.unusedSimpArgs false

def comCells (p : PCo × Value) : List Value := [.int .i64 p.1.tid.n, .int .i64 p.1.tid.e, .int .i64 p.1.tid.s, p.2, .int .i64 p.1.at_]
def comsCells (ms : List (PCo × Value)) : List Value := ms.flatMap comCells
theorem comsCells_snoc (ms : List (PCo × Value)) (p : PCo × Value) : comsCells (ms ++ [p]) = comsCells ms ++ comCells p := by simp [comsCells]
theorem comsCells_at (l : List (PCo × Value)) (j : Nat) (x : PCo × Value) (hx : l[j]? = some x) : ∀ i u, (comCells x)[i]? = some u → (comsCells l)[j * 5 + i]? = some u := by
  induction l generalizing j with
  | nil => simp at hx
  | cons y l ih =>
    intro i u hu
    have hi : i < 5 := by have := (List.getElem?_eq_some_iff.1 hu).1; simpa [comCells] using this
    have e : comsCells (y :: l) = comCells y ++ comsCells l := rfl
    cases j with
    | zero =>
      simp at hx
      subst hx
      rw [e, List.getElem?_append_left (by simp [comCells]; omega)]
      simpa using hu
    | succ j =>
      simp at hx
      rw [e, List.getElem?_append_right (by simp [comCells]; omega)]
      have := ih j hx i u hu
      rw [← this]
      congr 1
      simp [comCells]
      omega
theorem Arr.of_coms {w : World} {base : Nat} {e : TypeId} {v : Value} {ms : List (PCo × Value)} (h : w.ownsRow base e 5 v ms.length (comsCells ms)) (hI : ∀ p ∈ ms, Arr ItE 5 w p.2 p.1.items) : Arr CoE 5 w v (ms.map Prod.fst) := by
  rcases h.2 with ⟨rfl, h0⟩ | ⟨g, cap, cur, rfl, hb, hh, h1, h2, h3, h4⟩
  · obtain rfl : ms = [] := List.eq_nil_of_length_eq_zero h0
    exact ⟨none, 0, rfl, by simp, fun h => by simp at h⟩
  · refine ⟨some ⟨g, 0, none⟩, cap, by simp, ⟨by simp only [maxLen] at h2; simp; omega, by simpa using h1⟩, fun _ => ⟨_, rfl, rfl, fun j x hx => ?_⟩⟩
    rw [List.getElem?_map, Option.map_eq_some_iff] at hx
    obtain ⟨p, hp, rfl⟩ := hx
    refine ⟨comCells p, ⟨p.2, rfl, hI p (List.mem_of_getElem? hp)⟩, rfl, fun i u hu => ?_⟩
    have := own_cellAt h (j * 5 + i) u (comsCells_at ms j p hp i u hu)
    rw [← this]
    congr 1
    simp
theorem own_gr0 {w w' : World} {base : Nat} {e : TypeId} {size n : Nat} {v : Value} {xs : List Value} (h : w.ownsRow base e size v n xs) (hg : w.grownBy w' none) : w'.ownsRow base e size v n xs :=
  own_grown h hg (by rcases hv : v.ownBlock with _ | x; exact .inl rfl; exact .inr (by simp))
theorem infoCom : (Try.prog.info? 33).map (fun i => (i.zero, i.size, i.bytes)) = some (some (.agg #[.int .i64 0, .int .i64 0, .int .i64 0, .slice none 0 0, .int .i64 0]), 5, 56) := by kernel_rfl
set_option maxRecDepth 100000 in
set_option maxHeartbeats 6400000 in
theorem ar_walk (w : World) (v : Value) (l : List PCo) (c : Int) (hv : Arr CoE 5 w v l) :
    Calls Try.prog 3 #[.int .i64 c, v] w fun e w' => e = .returned (.bool true) ∧ w.grownBy w' none := by
  obtain ⟨i0, hi, hz0, hz1, hz2⟩ := info_parts infoCom
  have HI := As.mk (And.intro hi (And.intro hz0 (And.intro hz1 hz2)))
  clear hi hz0 hz1 hz2
  obtain ⟨A, cp, rfl⟩ := hv.len
  have H := As.mk hv
  clear hv
  go_enter Try.func3, Try.ntmps3
  go_wp2_with fail
  refine (awake_c w).mono ?_
  rintro e1 w1 ⟨rfl, g1⟩
  have HG := As.mk g1
  clear g1
  go_wp2_with fail
  refine (great_c w1 _ l (H.out.below HG.out (fun x cs h => h.grown HG.out)) _ rfl).mono ?_
  rintro e2 w2 ⟨rfl, g2⟩
  replace HG := As.mk (HG.out.trans g2)
  clear g2
  cases hgr : grtB l
  · have h60 : l.length ≤ 60 := by unfold grtB at hgr; simp at hgr; omega
    clear hgr
    by_cases hc : c < 1 ∨ 16 < c
    · go_wp2_with fail
      refine (final_no w2 _ c hc).mono ?_
      rintro e3 w3 ⟨rfl, rfl⟩
      clear hc
      go_wp2_with fail
      go_ret
      exact ⟨rfl, HG.out⟩
    · obtain ⟨n, rfl⟩ : ∃ n : Nat, c = (n : Int) := ⟨c.toNat, by omega⟩
      have h1 : 1 ≤ n := by omega
      have h16 : n ≤ 16 := by omega
      clear hc
      by_cases he : (plC n l).2.2 = 0
      · have HP := As.mk (reads_pure n l he)
        have HE := As.mk he
        have HLN := As.mk (plC_len n l)
        clear he
        go_wp2_with fail
        refine (final_ok w2 _ l (H.out.below HG.out (fun x cs h => h.grown HG.out)) (by omega) n h1 h16 _ rfl HE.out).mono ?_
        rintro e3 w3 ⟨lb, rfl, hlb, hlo, g3⟩
        have HG3 := As.mk (HG.out.trans g3)
        have HLB := As.mk hlb
        clear hlb hlo g3 HG
        generalize hrs : (plC n l).1 = rs at *
        have HRS := As.mk hrs
        clear hrs
        go_wp2_with fail
        go_loopw [7, 32] (fun m i wr => ∃ k : Nat, ∃ ms : List (PCo × Value), k ≤ l.length ∧ i = .int .i64 k ∧ (∃ A' c', m = .slice A' ms.length c') ∧ As (w3.grownBy wr none ∧ ms.map Prod.fst = (l.take k).filter hasW ∧ (∀ p ∈ ms, Arr ItE 5 w p.2 p.1.items) ∧ wr.ownsRow w3.heap.size 33 5 m ms.length (comsCells ms))) (fun _ i _ => l.length - (intOf i).toNat)
        case atStart => exact ⟨0, [], Nat.zero_le _, rfl, ⟨_, _, rfl⟩, ⟨gr_refl _ _, by simp, by simp, World.ownsRow_nil _ _ _ _⟩⟩
        case round =>
          obtain ⟨k, ms, hk, rfl, ⟨A', c', rfl⟩, HL⟩ := hrel
          by_cases hlt : k < l.length
          · have hltI : (k : Int) < (l.length : Int) := by omega
            have hk0 : (0 : Int) ≤ (k : Int) := by omega
            obtain ⟨b, o, cs, rfl, ⟨vi, hE, hIt⟩, hcs, hcell⟩ := H.out.at_ k l[k] (List.getElem?_eq_getElem hlt)
            obtain ⟨A2, cc2, rfl⟩ := hIt.len
            obtain rfl := hE
            have hgr := HG3.out.trans HL.out.1
            have c0 : wr.cell? ⟨b, o + k * 5, none⟩ = _ := hgr.cell (hcell 0 _ rfl) (by simp)
            have c1 := hgr.cell (hcell 1 _ rfl) (by simp)
            have c2 := hgr.cell (hcell 2 _ rfl) (by simp)
            have c3 := hgr.cell (hcell 3 _ rfl) (by simp)
            have c4 := hgr.cell (hcell 4 _ rfl) (by simp)
            have HFT := As.mk (show (l.take (k + 1)).filter hasW = (l.take k).filter hasW ++ if hasW (l[k]'hlt) = true then [l[k]'hlt] else [] by rw [List.take_succ_eq_append_getElem hlt, List.filter_append]; cases hw : hasW (l[k]'hlt) <;> simp [hw])
            have HGW := As.mk hgr
            have HIT := As.mk hIt
            have hil := hIt.le
            clear hcell hcs hIt hgr
            generalize l[k]'hlt = x at *
            obtain ⟨⟨tn, te, ts⟩, its, ca⟩ := x
            dsimp only at *
            have HBX := As.mk (Blk.new wr 33 #[.int .i64 tn, .int .i64 te, .int .i64 ts, .slice A2 its.length cc2, .int .i64 ca])
            have HGX := As.mk (gr_alloc (gr_refl wr none) (.cells #[.int .i64 tn, .int .i64 te, .int .i64 ts, .slice A2 its.length cc2, .int .i64 ca] 33))
            go_wp2_with fail
            clear c0 c1 c2 c3 c4
            generalize wr.alloc (.cells #[.int .i64 tn, .int .i64 te, .int .i64 ts, .slice A2 its.length cc2, .int .i64 ca] 33) = WX at *
            generalize wr.heap.size = gx at *
            obtain ⟨wo, rfl⟩ : ∃ wo : World, wo = wr := ⟨_, rfl⟩
            go_loopw [10, 39] (fun bb i wi => ∃ q : Nat, q ≤ its.length ∧ i = .int .i64 q ∧ bb = .bool ((its.take q).any (fun x => x.wr)) ∧ As (WX.grownBy wi none)) (fun _ i _ => its.length - (intOf i).toNat)
            case atStart => exact ⟨0, Nat.zero_le _, rfl, rfl, ⟨gr_refl _ _⟩⟩
            case round =>
              obtain ⟨q, hq, rfl, rfl, HW⟩ := hrel
              by_cases hqt : q < its.length
              · have hqI : (q : Int) < (its.length : Int) := by omega
                have hq0 : (0 : Int) ≤ (q : Int) := by omega
                obtain ⟨b2, o2, cs2, rfl, hE2, hcs2, hcell2⟩ := HIT.out.at_ q its[q] (List.getElem?_eq_getElem hqt)
                obtain rfl := hE2
                have hg2 := (HGW.out.trans HGX.out).trans HW.out
                have d0 : wr.cell? ⟨b2, o2 + q * 5, none⟩ = _ := hg2.cell (hcell2 0 _ rfl) (by simp)
                have d1 := hg2.cell (hcell2 1 _ rfl) (by simp)
                have d2 := hg2.cell (hcell2 2 _ rfl) (by simp)
                have d3 := hg2.cell (hcell2 3 _ rfl) (by simp)
                have d4 := hg2.cell (hcell2 4 _ rfl) (by simp)
                have HS := As.mk (any_take_succ (fun x : PIt => x.wr) its q hqt)
                clear hcell2 hcs2 hg2
                generalize its[q]'hqt = y at *
                obtain ⟨yc, yv, ya, yw, yn⟩ := y
                dsimp only at *
                have HGY := As.mk (gr_alloc HW.out (.cells #[.int .i64 yc, .int .i64 yv, .int .i64 ya, .bool yw, .int .i64 yn] 35))
                cases hb : (its.take q).any (fun x => x.wr)
                · have HB := As.mk hb
                  clear hb
                  go_wp2_with fail
                  go_roundw
                  case measure => simp [intOf]; omega
                  case rel => exact ⟨q + 1, by omega, by go_num, by rw [HS.out, HB.out, Bool.false_or], HGY⟩
                · have HB := As.mk hb
                  clear hb
                  go_wp2_with fail
                  go_roundw
                  case measure => simp [intOf]; omega
                  case rel => exact ⟨q + 1, by omega, by go_num, by rw [HS.out, HB.out, Bool.true_or], HGY⟩
              · obtain rfl : q = its.length := by omega
                rw [List.take_of_length_le (Nat.le_refl its.length)]
                have hWx : hasW ⟨⟨tn, te, ts⟩, its, ca⟩ = its.any (fun x => x.wr) := rfl
                cases hb : its.any (fun x => x.wr)
                · rw [hWx, hb, if_neg (by simp), List.append_nil] at HFT
                  have HR := As.mk (And.intro ((HL.out.1.trans HGX.out).trans HW.out) (own_gr0 (own_gr0 HL.out.2.2.2 HGX.out) HW.out))
                  clear hWx hb
                  go_wp2_with fail
                  go_roundw
                  case measure => simp [intOf]; omega
                  case rel => exact ⟨k + 1, ms, by omega, by go_num, ⟨_, _, rfl⟩, ⟨HR.out.1, by rw [HFT.out]; exact HL.out.2.1, HL.out.2.2.1, HR.out.2⟩⟩
                · rw [hWx, hb, if_pos rfl] at HFT
                  have HBI := As.mk (HBX.out.grown HW.out (by simp))
                  have e0 := HBI.out.cell 0
                  have e1 := HBI.out.cell 1
                  have e2 := HBI.out.cell 2
                  have e3 := HBI.out.cell 3
                  have e4 := HBI.out.cell 4
                  simp only [List.getElem?_toArray, List.getElem?_cons_zero, List.getElem?_cons_succ] at e0 e1 e2 e3 e4
                  have hml : ms.length ≤ 60 := by
                    have h1 := congrArg List.length HL.out.2.1
                    rw [List.length_map] at h1
                    have h2 := List.length_filter_le hasW (l.take k)
                    have h3 : (l.take k).length ≤ 60 := by rw [List.length_take]; omega
                    omega
                  have HBS := As.mk (Blk.new wr 33 #[.int .i64 tn, .int .i64 te, .int .i64 ts, .slice A2 its.length cc2, .int .i64 ca])
                  have HGS := As.mk (gr_alloc (gr_refl wr none) (.cells #[.int .i64 tn, .int .i64 te, .int .i64 ts, .slice A2 its.length cc2, .int .i64 ca] 33))
                  have HR := As.mk (And.intro (((HL.out.1.trans HGX.out).trans HW.out).trans HGS.out) (own_gr0 (own_gr0 (own_gr0 HL.out.2.2.2 HGX.out) HW.out) HGS.out))
                  clear hWx hb
                  go_wp2_with (at_builtin; refine wpList_app1 (by rfl) _ _ _ (by rfl) w3.heap.size 33 i0 _ 5 56 Try.underlying22 HI.out.1 HI.out.2.1 HI.out.2.2.1 HI.out.2.2.2 rfl (by omega) (by omega) _ ms.length (comsCells ms) (by rfl) HR.out.2 wr.heap.size (by rfl) _ HBS.out rfl (by simp [Value.oneCell']) (by omega) HR.out.1.size ?_; intro v' w' ho hg' _; obtain ⟨A9, c9, rfl⟩ := own_shape ho; have HN := As.mk (And.intro ho (gr_then HR.out.1 hg' (.inr (.inr (fun q hq => (HR.out.2.lt q hq).1))))); clear ho hg')
                  go_roundw
                  case measure => simp [intOf]; omega
                  case rel =>
                    refine ⟨k + 1, ms ++ [(⟨⟨tn, te, ts⟩, its, ca⟩, .slice A2 its.length cc2)], by omega, by go_num, ⟨_, _, by rw [List.length_append]; rfl⟩, ⟨HN.out.2, by rw [HFT.out, List.map_append, HL.out.2.1]; rfl, fun p hp => ?_, ?_⟩⟩
                    · rcases List.mem_append.1 hp with hp | hp
                      · exact HL.out.2.2.1 p hp
                      · rw [List.mem_singleton] at hp
                        subst hp
                        exact HIT.out
                    · rw [comsCells_snoc, List.length_append]
                      exact HN.out.1
          · obtain rfl : k = l.length := by omega
            rw [List.take_of_length_le (Nat.le_refl _)] at HL
            have hml : ms.length = (l.filter hasW).length := by rw [← HL.out.2.1, List.length_map]
            have hml60 : ms.length ≤ 60 := by have := List.length_filter_le hasW l; omega
            have HM := As.mk hml
            have HQ := As.mk (show Arr CoE 5 wr (.slice A' ms.length c') (l.filter hasW) by
              rw [← HL.out.2.1]
              exact Arr.of_coms HL.out.2.2.2 (fun p hp => (HL.out.2.2.1 p hp).below (HG3.out.trans HL.out.1) (fun _ _ h => h)))
            have HGR := As.mk (HG3.out.trans HL.out.1)
            have HLR := As.mk (HLB.out.grown HL.out.1 (by simp))
            clear hml HL
            go_wp2_with fail
            refine (final_ok wr _ (l.filter hasW) HQ.out (by have := HM.out; omega) n h1 h16 rs (congrArg Prod.fst HP.out) (congrArg (fun p => p.2.2) HP.out)).mono ?_
            rintro e4 w4 ⟨lb4, rfl, hlb4, hlo4, g4⟩
            have HG4 := As.mk (HGR.out.trans g4)
            have HL4 := As.mk hlb4
            have HL3 := As.mk (HLR.out.grown g4 (by simp))
            have HQ4 := As.mk (HQ.out.below g4 (fun x cs h => h.grown g4))
            clear hlb4 hlo4 g4
            go_wp2_with fail
            have hrl : rs.length ≤ 16 := by rw [HLN.out]; exact h16
            go_loopw [63] (fun i wi => ∃ j : Nat, j ≤ rs.length ∧ i = .int .i64 j ∧ As (w4.grownBy wi none)) (fun i _ => rs.length - (intOf i).toNat)
            case atStart => exact ⟨0, Nat.zero_le _, rfl, ⟨gr_refl _ _⟩⟩
            case round =>
              obtain ⟨j, hj, rfl, HJ⟩ := hrel
              by_cases hjt : j < rs.length
              · have hjI : (j : Int) < (rs.length : Int) := by omega
                have hdj : decide (rs.length ≤ j) = false := by simp; omega
                have hj0 : (0 : Int) ≤ (j : Int) := by omega
                have hR4 := HL4.out.grown HJ.out (by simp)
                have hR3 := HL3.out.grown HJ.out (by simp)
                obtain ⟨q1, q2⟩ := regCells_at rs j _ (List.getElem?_eq_getElem hjt)
                have HC := As.mk (show (wr.cell? ⟨lb4, j * 2, none⟩ = some (.int .i64 (rs[j]'hjt).1) ∧ wr.cell? ⟨lb4, j * 2 + 1, none⟩ = some (.int .i64 (rs[j]'hjt).2)) ∧ wr.cell? ⟨lb, j * 2, none⟩ = some (.int .i64 (rs[j]'hjt).1) ∧ wr.cell? ⟨lb, j * 2 + 1, none⟩ = some (.int .i64 (rs[j]'hjt).2) from
                  ⟨⟨by rw [hR4.cell]; simpa using q1, by rw [hR4.cell]; simpa using q2⟩, by rw [hR3.cell]; simpa using q1, by rw [hR3.cell]; simpa using q2⟩)
                clear hR4 hR3 q1 q2
                generalize rs[j]'hjt = p at *
                obtain ⟨p1, p2⟩ := p
                dsimp only at *
                go_wp2_with fail
                refine wp_region_noPanic ?_
                refine wp_region_held_drew (S := fun w' => w'.cell? ⟨lb4, j * 2, none⟩ = some (.int .i64 p1) ∧ w'.cell? ⟨lb4, j * 2 + 1, none⟩ = some (.int .i64 p2) ∧ w'.cell? ⟨lb, j * 2, none⟩ = some (.int .i64 p1) ∧ w'.cell? ⟨lb, j * 2 + 1, none⟩ = some (.int .i64 p2)) (by kernel_rfl) (⟨HC.out.1.1, HC.out.1.2, HC.out.2.1, HC.out.2.2⟩) (fun hS => ?_)
                refine wpAnyH_take (i := 0) (v := ?vc1) rfl (by kernel_rfl) (by kernel_rfl) (by kernel_rfl) (fun _ _ _ h => h) (Or.inl ⟨by rfl, ?yc1⟩) hS ?rc1
                case yc1 => (intro w0 _; go_simp; try with_reducible rfl)
                try simp only [List.getElem_toArray, List.getElem_cons_zero, List.getElem_cons_succ, Act.put, List.setIfInBounds_toArray, List.set_cons_zero, List.set_cons_succ]
                refine wpAnyH_take (i := 1) (v := ?vc2) rfl (by kernel_rfl) (by kernel_rfl) (by kernel_rfl) (fun _ _ _ h => h) (Or.inl ⟨by rfl, ?yc2⟩) hS ?rc2
                case yc2 => (intro w0 _; go_simp; try with_reducible rfl)
                try simp only [List.getElem_toArray, List.getElem_cons_zero, List.getElem_cons_succ, Act.put, List.setIfInBounds_toArray, List.set_cons_zero, List.set_cons_succ]
                refine wpAnyH_take (i := 2) (v := ?vc3) rfl (by kernel_rfl) (by kernel_rfl) (by kernel_rfl) (fun _ _ _ h => h) (Or.inl ⟨by rfl, ?yc3⟩) hS ?rc3
                case yc3 => (intro w0 _; go_simp; try with_reducible rfl)
                try simp only [List.getElem_toArray, List.getElem_cons_zero, List.getElem_cons_succ, Act.put, List.setIfInBounds_toArray, List.set_cons_zero, List.set_cons_succ]
                refine wpAnyH_take (i := 3) (v := ?vc4) rfl (by kernel_rfl) (by kernel_rfl) (by kernel_rfl) (fun _ _ _ h => h) (Or.inl ⟨by rfl, ?yc4⟩) hS ?rc4
                case yc4 => (intro w0 _; go_simp; try with_reducible rfl)
                try simp only [List.getElem_toArray, List.getElem_cons_zero, List.getElem_cons_succ, Act.put, List.setIfInBounds_toArray, List.set_cons_zero, List.set_cons_succ]
                refine wpAnyH_take (i := 4) (v := ?vc5) rfl (by kernel_rfl) (by kernel_rfl) (by kernel_rfl) (fun _ _ _ h => h) (Or.inl ⟨by rfl, ?yc5⟩) hS ?rc5
                case yc5 => (intro w0 _; go_simp; try with_reducible rfl)
                try simp only [List.getElem_toArray, List.getElem_cons_zero, List.getElem_cons_succ, Act.put, List.setIfInBounds_toArray, List.set_cons_zero, List.set_cons_succ]
                refine wpAnyH_take (i := 5) (v := ?vc6) rfl (by kernel_rfl) (by kernel_rfl) (by kernel_rfl) (fun _ _ _ h => h) (Or.inl ⟨by rfl, ?yc6⟩) hS ?rc6
                case yc6 => (intro w0 _; go_simp; try with_reducible rfl)
                try simp only [List.getElem_toArray, List.getElem_cons_zero, List.getElem_cons_succ, Act.put, List.setIfInBounds_toArray, List.set_cons_zero, List.set_cons_succ]
                refine wpAnyH_take (i := 6) (v := ?vc7) rfl (by kernel_rfl) (by kernel_rfl) (by kernel_rfl) (fun _ _ _ h => h) (Or.inl ⟨by rfl, ?yc7⟩) hS ?rc7
                case yc7 => (intro w0 _; go_simp; try with_reducible rfl)
                try simp only [List.getElem_toArray, List.getElem_cons_zero, List.getElem_cons_succ, Act.put, List.setIfInBounds_toArray, List.set_cons_zero, List.set_cons_succ]
                refine wpAnyH_take (i := 7) (v := ?vc8) rfl (by kernel_rfl) (by kernel_rfl) (by kernel_rfl) (fun _ _ _ h => h) (Or.inl ⟨by rfl, ?yc8⟩) hS ?rc8
                case yc8 => (intro w0 _; go_simp; try with_reducible rfl)
                try simp only [List.getElem_toArray, List.getElem_cons_zero, List.getElem_cons_succ, Act.put, List.setIfInBounds_toArray, List.set_cons_zero, List.set_cons_succ]
                refine wpAnyH_take (i := 8) (v := ?vc9) rfl (by kernel_rfl) (by kernel_rfl) (by kernel_rfl) (fun _ _ _ h => h) (Or.inl ⟨by rfl, ?yc9⟩) hS ?rc9
                case yc9 => (intro w0 hS0; (try simp only [] at hS0); obtain ⟨hS0_0, hS0_1, hS0_2, hS0_3⟩ := hS0; go_simp; try with_reducible rfl)
                try simp only [List.getElem_toArray, List.getElem_cons_zero, List.getElem_cons_succ, Act.put, List.setIfInBounds_toArray, List.set_cons_zero, List.set_cons_succ]
                refine wpAnyH_take (i := 9) (v := ?vc10) rfl (by kernel_rfl) (by kernel_rfl) (by kernel_rfl) (fun _ _ _ h => h) (Or.inl ⟨by rfl, ?yc10⟩) hS ?rc10
                case yc10 => (intro w0 _; go_simp; try with_reducible rfl)
                try simp only [List.getElem_toArray, List.getElem_cons_zero, List.getElem_cons_succ, Act.put, List.setIfInBounds_toArray, List.set_cons_zero, List.set_cons_succ]
                refine wpAnyH_take (i := 10) (v := ?vc11) rfl (by kernel_rfl) (by kernel_rfl) (by kernel_rfl) (fun _ _ _ h => h) (Or.inl ⟨by rfl, ?yc11⟩) hS ?rc11
                case yc11 => (intro w0 _; go_simp; try with_reducible rfl)
                try simp only [List.getElem_toArray, List.getElem_cons_zero, List.getElem_cons_succ, Act.put, List.setIfInBounds_toArray, List.set_cons_zero, List.set_cons_succ]
                refine wpAnyH_take (i := 11) (v := ?vc12) rfl (by kernel_rfl) (by kernel_rfl) (by kernel_rfl) (fun _ _ _ h => h) (Or.inl ⟨by rfl, ?yc12⟩) hS ?rc12
                case yc12 => (intro w0 _; go_simp; try with_reducible rfl)
                try simp only [List.getElem_toArray, List.getElem_cons_zero, List.getElem_cons_succ, Act.put, List.setIfInBounds_toArray, List.set_cons_zero, List.set_cons_succ]
                refine wpAnyH_take (i := 12) (v := ?vc13) rfl (by kernel_rfl) (by kernel_rfl) (by kernel_rfl) (fun _ _ _ h => h) (Or.inl ⟨by rfl, ?yc13⟩) hS ?rc13
                case yc13 => (intro w0 hS0; (try simp only [] at hS0); obtain ⟨hS0_0, hS0_1, hS0_2, hS0_3⟩ := hS0; go_simp; try with_reducible rfl)
                try simp only [List.getElem_toArray, List.getElem_cons_zero, List.getElem_cons_succ, Act.put, List.setIfInBounds_toArray, List.set_cons_zero, List.set_cons_succ]
                refine wpAnyH_take (i := 13) (v := ?vc14) rfl (by kernel_rfl) (by kernel_rfl) (by kernel_rfl) (fun _ _ _ h => h) (Or.inl ⟨by rfl, ?yc14⟩) hS ?rc14
                case yc14 => (intro w0 _; go_simp; try with_reducible rfl)
                try simp only [List.getElem_toArray, List.getElem_cons_zero, List.getElem_cons_succ, Act.put, List.setIfInBounds_toArray, List.set_cons_zero, List.set_cons_succ]
                refine wpAnyH_take (i := 14) (v := ?vc15) rfl (by kernel_rfl) (by kernel_rfl) (by kernel_rfl) (fun _ _ _ h => h) (Or.inl ⟨by rfl, ?yc15⟩) hS ?rc15
                case yc15 => (intro w0 _; go_simp; try with_reducible rfl)
                try simp only [List.getElem_toArray, List.getElem_cons_zero, List.getElem_cons_succ, Act.put, List.setIfInBounds_toArray, List.set_cons_zero, List.set_cons_succ]
                refine wpAnyH_done (by kernel_rfl) ?_ _
                refine NoPanic.normal ?_
                try simp only [Exit.then]
                clear hS
                go_wp2_with fail
                go_roundw
                case measure => simp [intOf]; omega
                case rel => exact ⟨j + 1, by omega, by go_num, ⟨gr_drew HJ.out⟩⟩
              · obtain rfl : j = rs.length := by omega
                have HGF := As.mk (HG4.out.trans HJ.out)
                go_wp2_with fail
                refine (serial_c wr _ (l.filter hasW) (HQ4.out.below HJ.out (fun x cs h => h.grown HJ.out)) (by have := HM.out; omega) n h1 h16 (ms.length : Int) 0 (by rw [HP.out, HM.out]) (congrArg (fun p => p.2.2) HP.out)).mono ?_
                rintro e5 w5 ⟨rfl, g5⟩
                have HGZ := As.mk (HGF.out.trans g5)
                clear g5 HGF
                go_wp2_with fail
                go_ret
                exact ⟨by simp, HGZ.out⟩
      · go_wp2_with fail
        refine (final_bad w2 _ l (H.out.below HG.out (fun x cs h => h.grown HG.out)) (by omega) n h1 h16 _ rfl he).mono ?_
        rintro e3 w3 ⟨rfl, g3⟩
        have HG3 := As.mk (HG.out.trans g3)
        have heb : ((plC n l).2.2 == 0) = false := by simpa using he
        clear g3 he
        generalize (plC n l).2.2 = q at *
        go_wp2_with fail
        go_ret
        exact ⟨rfl, HG3.out⟩
  · go_wp2_with fail
    go_ret
    exact ⟨rfl, HG.out⟩
end Go.Proofs.Ytpamncakhffnfaa
