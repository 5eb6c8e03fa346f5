/- The walks of prepare's test and of free. (Printed by wip/gen/gen_lf.py.) -/
import Derived.Test.YtdmkijdbldcdiaaLs1
namespace Go.Proofs.Ytdmkijdbldcdiaa
open Go.RowKit
set_option linter.unusedVariables false
set_option linter.unusedSimpArgs false
set_option maxRecDepth 100000

/-- A state behind a pointer. -/
structure StP (w : World) (sb : Nat) (s : PSt) : Prop where
  h : ∃ vP vQ vD vC, Blk w sb 32 (stCells s vP vQ vD vC) ∧ StR w s vP vQ vD vC
theorem StP.grown {w w' : World} {sb : Nat} {s : PSt} (h : StP w sb s) (hg : w.grownBy w' none) : StP w' sb s := by
  obtain ⟨vP, vQ, vD, vC, h1, h2⟩ := h.h
  exact ⟨vP, vQ, vD, vC, h1.grown hg (by simp), h2.grown hg⟩
set_option maxHeartbeats 1600000 in
theorem prep1_c (w : World) (x : PIt) (b sb : Nat) (hb : w.cell? ⟨b, 0, none⟩ = some (.pointer (some ⟨sb, 0, none⟩))) (s : PSt) (hs : StP w sb s) (r : Bool) (hr : (!cellB s x.c) = r) :
    Calls Try.prog 74 #[.agg #[.int .i64 x.c, .int .i64 x.v, .int .i64 x.a, .bool x.wr, .int .i64 x.nw], .pointer (some ⟨b, 0, none⟩)] w fun e w' => e = .returned (.bool r) ∧ w.grownBy w' none := by
  subst hr
  obtain ⟨vP, vQ, vD, vC, hB, h⟩ := hs.h
  obtain ⟨A1, c1, rfl⟩ := h.pl.len
  obtain ⟨A2, c2, rfl⟩ := h.pr.len
  obtain ⟨A3, c3, rfl⟩ := h.de.len
  obtain ⟨A4, c4, rfl⟩ := h.cm.len
  unfold stCells at hB
  have HG := As.mk (gr_alloc (gr_refl w none) (.cells #[.int .i64 x.c, .int .i64 x.v, .int .i64 x.a, .bool x.wr, .int .i64 x.nw] 66))
  have HX := As.mk (Blk.new w 66 #[.int .i64 x.c, .int .i64 x.v, .int .i64 x.a, .bool x.wr, .int .i64 x.nw])
  have HB := As.mk (hB.grown HG.out (by simp))
  have HR := As.mk (h.grown HG.out)
  have HP := As.mk (HG.out.cell hb (by simp))
  clear hs hB h hb
  go_enter Try.func74, Try.ntmps74
  go_wp2_with fail
  generalize w.alloc (.cells #[.int .i64 x.c, .int .i64 x.v, .int .i64 x.a, .bool x.wr, .int .i64 x.nw] 66) = W at *
  generalize w.heap.size = gx at *
  refine wp_region_noPanic ?_
  refine wp_region_held_drew (S := fun w' => w'.cell? ⟨b, 0, none⟩ = some (.pointer (some ⟨sb, 0, none⟩)) ∧ Blk w' sb 32 #[.int .i64 s.node, .int .i64 s.nodes, .int .i64 s.cells, .int .i64 s.epoch, .slice A1 s.places.length c1, .slice A2 s.prepared.length c2, .slice A3 s.decided.length c3, .slice A4 s.commits.length c4] ∧ w'.cell? ⟨gx, 0, none⟩ = some (.int .i64 x.c)) (by kernel_rfl) (⟨HP.out, HB.out, HX.out.cell 0⟩) (fun hS => ?_)
  refine wpAnyH_take (i := 0) (v := ?va1) rfl (by kernel_rfl) (by kernel_rfl) (by kernel_rfl) (fun _ _ _ h => h) (Or.inl ⟨by rfl, ?ya1⟩) hS ?ra1
  case ya1 => (intro w0 hS0; (try simp only [] at hS0); obtain ⟨hS0_0, hS0_1, hS0_2⟩ := hS0; go_simp; try with_reducible rfl)
  try simp only [yA, yB, yC, Act.put, yD, yE, yF]
  refine wpAnyH_take (i := 1) (v := ?va2) rfl (by kernel_rfl) (by kernel_rfl) (by kernel_rfl) (fun _ _ _ h => h) (Or.inl ⟨by rfl, ?ya2⟩) hS ?ra2
  case ya2 => (intro w0 _; go_simp; try with_reducible rfl)
  try simp only [yA, yB, yC, Act.put, yD, yE, yF]
  refine wpAnyH_take (i := 2) (v := ?va3) rfl (by kernel_rfl) (by kernel_rfl) (by kernel_rfl) (fun _ _ _ h => h) (Or.inl ⟨by rfl, ?ya3⟩) hS ?ra3
  case ya3 => (intro w0 hS0; (try simp only [] at hS0); obtain ⟨hS0_0, hS0_1, hS0_2⟩ := hS0; have d0 := hS0_1.cell 0; have d1 := hS0_1.cell 1; have d2 := hS0_1.cell 2; have d3 := hS0_1.cell 3; have d4 := hS0_1.cell 4; have d5 := hS0_1.cell 5; have d6 := hS0_1.cell 6; have d7 := hS0_1.cell 7; simp only [List.getElem?_toArray, List.getElem?_cons_zero, List.getElem?_cons_succ] at d0 d1 d2 d3 d4 d5 d6 d7; go_simp; try with_reducible rfl)
  try simp only [yA, yB, yC, Act.put, yD, yE, yF]
  refine wpAnyH_take (i := 3) (v := ?va4) rfl (by kernel_rfl) (by kernel_rfl) (by kernel_rfl) (fun _ _ _ h => h) (Or.inl ⟨by rfl, ?ya4⟩) hS ?ra4
  case ya4 => (intro w0 _; go_simp; try with_reducible rfl)
  try simp only [yA, yB, yC, Act.put, yD, yE, yF]
  refine wpAnyH_take (i := 4) (v := ?va5) rfl (by kernel_rfl) (by kernel_rfl) (by kernel_rfl) (fun _ _ _ h => h) (Or.inl ⟨by rfl, ?ya5⟩) hS ?ra5
  case ya5 => (intro w0 hS0; (try simp only [] at hS0); obtain ⟨hS0_0, hS0_1, hS0_2⟩ := hS0; go_simp; try with_reducible rfl)
  try simp only [yA, yB, yC, Act.put, yD, yE, yF]
  refine wpAnyH_ready (rs := [5]) (by kernel_rfl) (by simp) (AllReadyH.cons (i := 5) rfl (fun K hK => ?_) AllReadyH.nil)
  go_simp
  refine (cell_c _ s _ _ _ _ (HR.out.grown (gr_drew (gr_refl _ none))) x.c _ rfl).mono ?_
  rintro e0 w1 ⟨rfl, hg⟩
  replace HP := As.mk (hg.cell (show W.drew.cell? _ = _ from HP.out) (by simp))
  replace HB := As.mk (HB.out.drew.grown hg (by simp))
  replace HX := As.mk (HX.out.drew.grown hg (by simp))
  replace HG := As.mk (gr_then (gr_drew HG.out) hg (.inl rfl))
  clear hg
  go_simp
  refine hK.out _ _ (⟨HP.out, HB.out, HX.out.cell 0⟩) (fun hS => ?_)
  clear hK K
  try simp only [yA, yB, yC, Act.put, yD, yE, yF]
  refine wpAnyH_take (i := 6) (v := ?va7) rfl (by kernel_rfl) (by kernel_rfl) (by kernel_rfl) (fun _ _ _ h => h) (Or.inl ⟨by rfl, ?ya7⟩) hS ?ra7
  case ya7 => (intro w0 _; go_simp; try with_reducible rfl)
  try simp only [yA, yB, yC, Act.put, yD, yE, yF]
  refine wpAnyH_take (i := 7) (v := ?va8) rfl (by kernel_rfl) (by kernel_rfl) (by kernel_rfl) (fun _ _ _ h => h) (Or.inl ⟨by rfl, ?ya8⟩) hS ?ra8
  case ya8 => (intro w0 _; go_simp; try with_reducible rfl)
  try simp only [yA, yB, yC, Act.put, yD, yE, yF]
  refine wpAnyH_done (by kernel_rfl) ?_ _
  refine NoPanic.normal ?_
  try simp only [Exit.then]
  clear hS
  go_wp2_with fail
  go_ret
  exact ⟨rfl, HG.out⟩
set_option maxHeartbeats 1600000 in
theorem idxItP_c (w : World) (v : Value) (l : List PIt) (h : Arr ItE 5 w v l) (b0 sb : Nat) (s : PSt) (hb : w.cell? ⟨b0, 0, none⟩ = some (.pointer (some ⟨sb, 0, none⟩))) (hs : StP w sb s) :
    Calls Try.prog 65 #[v, .func (.func 74) #[] #[.pointer (some ⟨b0, 0, none⟩)]] w fun e w' => e = .returned (.int .i64 (findI (fun x : PIt => !cellB s x.c) l)) ∧ w.grownBy w' none := by
  obtain ⟨A, c_, rfl⟩ := h.len
  have hl := h.le
  have H := As.mk h
  clear h
  have Hhb_ := As.mk hb
  have Hhs_ := As.mk hs
  clear hb hs
  go_enter Try.func65, Try.ntmps65
  go_wp2_with fail
  go_loopw [8] (fun i wr => ∃ k : Nat, k ≤ l.length ∧ i = .int .i64 k ∧ As ((l.take k).any (fun x : PIt => !cellB s x.c) = false ∧ w.grownBy wr none)) (fun i _ => l.length - (intOf i).toNat)
  case atStart => exact ⟨0, Nat.zero_le _, rfl, ⟨by simp, gr_refl _ _⟩⟩
  case round =>
    obtain ⟨k, hk, rfl, HL⟩ := hrel
    by_cases hlt : k < l.length
    · have hltI : (k : Int) < (l.length : Int) := by omega
      have hk0 : (0 : Int) ≤ (k : Int) := by omega
      obtain ⟨b, o, cs, rfl, hE, hcs, hcell⟩ := H.out.at_ k l[k] (List.getElem?_eq_getElem hlt)
      obtain rfl := hE
      have c0 : wr.cell? ⟨b, o + k * 5, none⟩ = _ := HL.out.2.cell (hcell 0 _ rfl) (by simp)
      have c1_ := HL.out.2.cell (hcell 1 _ rfl) (by simp)
      have c2_ := HL.out.2.cell (hcell 2 _ rfl) (by simp)
      have c3_ := HL.out.2.cell (hcell 3 _ rfl) (by simp)
      have c4_ := HL.out.2.cell (hcell 4 _ rfl) (by simp)
      have HS := As.mk (any_take_succ (fun x : PIt => !cellB s x.c) l k hlt)
      have HFA := As.mk (fun h0 h1 => findI_at (p := fun x : PIt => !cellB s x.c) hlt h0 h1)
      have HMEM := As.mk (List.getElem_mem hlt)
      clear hcell hcs
      generalize l[k]'hlt = x at *
      go_wp2_with fail
      refine (prep1_c wr x b0 sb (HL.out.2.cell Hhb_.out (by simp)) s (Hhs_.out.grown HL.out.2) _ rfl).mono ?_
      rintro e w1 ⟨rfl, g1⟩
      have G1 := As.mk (gr_then HL.out.2 g1 (.inl rfl))
      clear g1 c0 c1_ c2_ c3_ c4_
      cases hf : (fun x : PIt => !cellB s x.c) x
      · have HF := As.mk hf
        have HF2 := As.mk hf
        dsimp only at HF
        first | rw [HF.out] | skip
        clear hf HFA
        go_wp2_with fail
        go_roundw
        case measure => simp [intOf]; omega
        case rel => exact ⟨k + 1, by omega, by go_num, ⟨by rw [HS.out, HL.out.1, HF2.out]; rfl, G1.out⟩⟩
      · have HF := As.mk hf
        have HF2 := As.mk (HFA.out HL.out.1 hf)
        dsimp only at HF
        first | rw [HF.out] | skip
        clear hf HFA
        go_wp2_with fail
        go_ret
        exact ⟨by rw [HF2.out]; rfl, G1.out⟩
    · obtain rfl : k = l.length := by omega
      rw [List.take_of_length_le (Nat.le_refl _)] at HL
      have HX := As.mk (findI_none HL.out.1)
      have HY := As.mk HL.out.2
      clear HL
      go_wp2_with fail
      go_ret
      exact ⟨by rw [HX.out]; rfl, HY.out⟩
theorem conItP_c (w : World) (v : Value) (l : List PIt) (h : Arr ItE 5 w v l) (b0 sb : Nat) (s : PSt) (hb : w.cell? ⟨b0, 0, none⟩ = some (.pointer (some ⟨sb, 0, none⟩))) (hs : StP w sb s) (r : Bool) (hr : l.any (fun x : PIt => !cellB s x.c) = r) :
    Calls Try.prog 73 #[v, .func (.func 74) #[] #[.pointer (some ⟨b0, 0, none⟩)]] w fun e w' => e = .returned (.bool r) ∧ w.grownBy w' none := by
  have H := As.mk h
  have HR := As.mk ((findI_neg (fun x : PIt => !cellB s x.c) l).trans hr)
  clear h hr
  have Hhb_ := As.mk hb
  have Hhs_ := As.mk hs
  clear hb hs
  go_enter Try.func73, Try.ntmps73
  go_wp2_with fail
  refine (idxItP_c w v l H.out b0 sb s Hhb_.out Hhs_.out).mono ?_
  rintro e w1 ⟨rfl, hg⟩
  have HG := As.mk hg
  clear hg
  generalize findI (fun x : PIt => !cellB s x.c) l = q at *
  go_wp2_with fail
  go_ret
  exact ⟨by rw [← HR.out]; rfl, HG.out⟩
def verAt (s : PSt) (c : Int) : Int := match s.places[c.toNat]? with | some p => p.ver | none => 0
def freeE (s : PSt) : List PIt → Int
  | [] => 0
  | x :: l => if ownsB s x.c = false then 8 else if lockedB s x.c = true then 12 else if (verAt s x.c == x.v) = false then 13 else freeE s l
set_option maxHeartbeats 3200000 in
theorem free_c (w : World) (s : PSt) (vP vQ vD vC : Value) (h : StR w s vP vQ vD vC) (v : Value) (l : List PIt) (hv : Arr ItE 5 w v l) (q : Int) (hq : freeE s l = q) :
    Calls Try.prog 75 #[.agg (stCells s vP vQ vD vC), v] w fun e w' => e = .returned (.int .i64 q) ∧ w.grownBy w' none := by
  subst hq
  obtain ⟨A1, c1, rfl⟩ := h.pl.len
  obtain ⟨A2, c2, rfl⟩ := h.pr.len
  obtain ⟨A3, c3, rfl⟩ := h.de.len
  obtain ⟨A4, c4, rfl⟩ := h.cm.len
  obtain ⟨A, c_, rfl⟩ := hv.len
  have hl := hv.le
  unfold stCells
  have HG := As.mk (gr_alloc (gr_refl w none) (.cells #[.int .i64 s.node, .int .i64 s.nodes, .int .i64 s.cells, .int .i64 s.epoch, .slice A1 s.places.length c1, .slice A2 s.prepared.length c2, .slice A3 s.decided.length c3, .slice A4 s.commits.length c4] 32))
  have HB := As.mk (Blk.new w 32 #[.int .i64 s.node, .int .i64 s.nodes, .int .i64 s.cells, .int .i64 s.epoch, .slice A1 s.places.length c1, .slice A2 s.prepared.length c2, .slice A3 s.decided.length c3, .slice A4 s.commits.length c4])
  have HR := As.mk (h.grown HG.out)
  have H := As.mk (hv.below HG.out (fun _ _ h => h))
  clear h hv
  go_enter Try.func75, Try.ntmps75
  go_wp2_with fail
  generalize w.alloc (.cells #[.int .i64 s.node, .int .i64 s.nodes, .int .i64 s.cells, .int .i64 s.epoch, .slice A1 s.places.length c1, .slice A2 s.prepared.length c2, .slice A3 s.decided.length c3, .slice A4 s.commits.length c4] 32) = W at *
  generalize w.heap.size = g at *
  go_loopw [9] (fun i wr => ∃ k : Nat, k ≤ l.length ∧ i = .int .i64 k ∧ As (freeE s l = freeE s (l.drop k) ∧ W.grownBy wr none)) (fun i _ => l.length - (intOf i).toNat)
  case atStart => exact ⟨0, Nat.zero_le _, rfl, ⟨rfl, gr_refl _ _⟩⟩
  case round =>
    obtain ⟨k, hk, rfl, HL⟩ := hrel
    by_cases hlt : k < l.length
    · have hltI : (k : Int) < (l.length : Int) := by omega
      have hk0 : (0 : Int) ≤ (k : Int) := by omega
      obtain ⟨b, o, cs, rfl, hE, hcs, hcell⟩ := H.out.at_ k l[k] (List.getElem?_eq_getElem hlt)
      obtain rfl := hE
      have c0 : wr.cell? ⟨b, o + k * 5, none⟩ = _ := HL.out.2.cell (hcell 0 _ rfl) (by simp)
      have c1_ := HL.out.2.cell (hcell 1 _ rfl) (by simp)
      have c2_ := HL.out.2.cell (hcell 2 _ rfl) (by simp)
      have c3_ := HL.out.2.cell (hcell 3 _ rfl) (by simp)
      have c4_ := HL.out.2.cell (hcell 4 _ rfl) (by simp)
      have HS := As.mk (show freeE s l = freeE s (l[k]'hlt :: l.drop (k + 1)) by rw [HL.out.1, List.drop_eq_getElem_cons hlt])
      clear hcell hcs
      generalize l[k]'hlt = x at *
      have HGX := As.mk (gr_alloc HL.out.2 (.cells #[.int .i64 x.c, .int .i64 x.v, .int .i64 x.a, .bool x.wr, .int .i64 x.nw] 66))
      have HBX := As.mk (Blk.new wr 66 #[.int .i64 x.c, .int .i64 x.v, .int .i64 x.a, .bool x.wr, .int .i64 x.nw])
      have HBW := As.mk (HB.out.grown HGX.out (by simp))
      have HRW := As.mk (HR.out.grown HGX.out)
      have HLX := As.mk HL.out.1
      clear HL
      have d0 := HBW.out.cell 0
      have d1 := HBW.out.cell 1
      have d2 := HBW.out.cell 2
      have d3 := HBW.out.cell 3
      have d4 := HBW.out.cell 4
      have d5 := HBW.out.cell 5
      have d6 := HBW.out.cell 6
      have d7 := HBW.out.cell 7
      simp only [List.getElem?_toArray, List.getElem?_cons_zero, List.getElem?_cons_succ] at d0 d1 d2 d3 d4 d5 d6 d7
      go_wp2_with fail
      clear c0 c1_ c2_ c3_ c4_ d0 d1 d2 d3 d4 d5 d6 d7
      generalize wr.alloc (.cells #[.int .i64 x.c, .int .i64 x.v, .int .i64 x.a, .bool x.wr, .int .i64 x.nw] 66) = WX at *
      generalize wr.heap.size = gx at *
      refine (owns_c WX s _ _ _ _ HRW.out x.c _ rfl).mono ?_
      rintro e w1 ⟨rfl, g1⟩
      replace HGX := As.mk (HGX.out.trans g1)
      replace HBX := As.mk (HBX.out.grown g1 (by simp))
      replace HBW := As.mk (HBW.out.grown g1 (by simp))
      replace HRW := As.mk (HRW.out.grown g1)
      clear g1
      cases ho : ownsB s x.c
      · have HE := As.mk (show freeE s l = 8 by rw [HS.out, freeE, if_pos ho])
        clear ho
        go_wp2_with fail
        go_ret
        exact ⟨retI HE.out, HG.out.trans HGX.out⟩
      · have HO := As.mk ho
        clear ho
        have d0 := HBW.out.cell 0
        have d1 := HBW.out.cell 1
        have d2 := HBW.out.cell 2
        have d3 := HBW.out.cell 3
        have d4 := HBW.out.cell 4
        have d5 := HBW.out.cell 5
        have d6 := HBW.out.cell 6
        have d7 := HBW.out.cell 7
        have x0 := HBX.out.cell 0
        simp only [List.getElem?_toArray, List.getElem?_cons_zero, List.getElem?_cons_succ] at d0 d1 d2 d3 d4 d5 d6 d7 x0
        go_wp2_with fail
        refine (locked_c w1 s _ _ _ _ HRW.out x.c _ rfl).mono ?_
        rintro e w2 ⟨rfl, g2⟩
        replace HGX := As.mk (HGX.out.trans g2)
        replace HBX := As.mk (HBX.out.grown g2 (by simp))
        replace HBW := As.mk (HBW.out.grown g2 (by simp))
        replace HRW := As.mk (HRW.out.grown g2)
        clear g2 d0 d1 d2 d3 d4 d5 d6 d7 x0
        cases hk2 : lockedB s x.c
        · have HK := As.mk hk2
          clear hk2
          have hob := HO.out
          unfold ownsB cellB at hob
          simp only [Bool.and_eq_true, decide_eq_true_eq] at hob
          obtain ⟨j, hj⟩ : ∃ j : Nat, x.c = (j : Int) := ⟨x.c.toNat, by omega⟩
          have hjl : j < s.places.length := by omega
          have hjI : (j : Int) < (s.places.length : Int) := by omega
          have hj0 : (0 : Int) ≤ (j : Int) := by omega
          clear hob
          obtain ⟨b2, o2, cs2, hA2, hE2, _, hcell2⟩ := HRW.out.pl.at_ j _ (List.getElem?_eq_getElem hjl)
          obtain rfl := hE2
          have HPC := As.mk (show w2.cell? ⟨b2, o2 + j * 5 + 3, none⟩ = _ from hcell2 3 _ rfl)
          have HVA := As.mk (show verAt s x.c = (s.places[j]'hjl).ver by unfold verAt; rw [hj, Int.toNat_natCast, List.getElem?_eq_getElem hjl])
          clear hcell2
          subst hA2
          generalize s.places[j]'hjl = p at *
          have x0 := HBX.out.cell 0
          have x1 := HBX.out.cell 1
          simp only [List.getElem?_toArray, List.getElem?_cons_zero, List.getElem?_cons_succ] at x0 x1
          rw [hj] at x0
          have HXC := As.mk (And.intro x0 x1)
          clear x0 x1
          go_wp2_with fail
          refine wp_region_noPanic ?_
          refine wp_region_held_drew (S := fun w' => w'.cell? ⟨g, 4, none⟩ = some (.slice (some ⟨b2, o2, none⟩) s.places.length c1) ∧ w'.cell? ⟨gx, 0, none⟩ = some (.int .i64 (j : Int)) ∧ w'.cell? ⟨b2, o2 + j * 5 + 3, none⟩ = some (.int .i64 p.ver) ∧ w'.cell? ⟨gx, 1, none⟩ = some (.int .i64 x.v)) (by kernel_rfl) (⟨HBW.out.cell 4, HXC.out.1, HPC.out, HXC.out.2⟩) (fun hS => ?_)
          refine wpAnyH_take (i := 0) (v := ?vv1) rfl (by kernel_rfl) (by kernel_rfl) (by kernel_rfl) (fun _ _ _ h => h) (Or.inl ⟨by rfl, ?yv1⟩) hS ?rv1
          case yv1 => (intro w0 _; go_simp; try with_reducible rfl)
          try simp only [yA, yB, yC, Act.put, yD, yE, yF]
          refine wpAnyH_take (i := 1) (v := ?vv2) rfl (by kernel_rfl) (by kernel_rfl) (by kernel_rfl) (fun _ _ _ h => h) (Or.inl ⟨by rfl, ?yv2⟩) hS ?rv2
          case yv2 => (intro w0 hS0; (try simp only [] at hS0); obtain ⟨hS0_0, hS0_1, hS0_2, hS0_3⟩ := hS0; go_simp; try with_reducible rfl)
          try simp only [yA, yB, yC, Act.put, yD, yE, yF]
          refine wpAnyH_take (i := 2) (v := ?vv3) rfl (by kernel_rfl) (by kernel_rfl) (by kernel_rfl) (fun _ _ _ h => h) (Or.inl ⟨by rfl, ?yv3⟩) hS ?rv3
          case yv3 => (intro w0 _; go_simp; try with_reducible rfl)
          try simp only [yA, yB, yC, Act.put, yD, yE, yF]
          refine wpAnyH_take (i := 3) (v := ?vv4) rfl (by kernel_rfl) (by kernel_rfl) (by kernel_rfl) (fun _ _ _ h => h) (Or.inl ⟨by rfl, ?yv4⟩) hS ?rv4
          case yv4 => (intro w0 hS0; (try simp only [] at hS0); obtain ⟨hS0_0, hS0_1, hS0_2, hS0_3⟩ := hS0; go_simp; try with_reducible rfl)
          try simp only [yA, yB, yC, Act.put, yD, yE, yF]
          refine wpAnyH_take (i := 4) (v := ?vv5) rfl (by kernel_rfl) (by kernel_rfl) (by kernel_rfl) (fun _ _ _ h => h) (Or.inl ⟨by rfl, ?yv5⟩) hS ?rv5
          case yv5 => (intro w0 _; go_simp; try with_reducible rfl)
          try simp only [yA, yB, yC, Act.put, yD, yE, yF]
          refine wpAnyH_take (i := 5) (v := ?vv6) rfl (by kernel_rfl) (by kernel_rfl) (by kernel_rfl) (fun _ _ _ h => h) (Or.inl ⟨by rfl, ?yv6⟩) hS ?rv6
          case yv6 => (intro w0 _; go_simp; try with_reducible rfl)
          try simp only [yA, yB, yC, Act.put, yD, yE, yF]
          refine wpAnyH_take (i := 6) (v := ?vv7) rfl (by kernel_rfl) (by kernel_rfl) (by kernel_rfl) (fun _ _ _ h => h) (Or.inl ⟨by rfl, ?yv7⟩) hS ?rv7
          case yv7 => (intro w0 hS0; (try simp only [] at hS0); obtain ⟨hS0_0, hS0_1, hS0_2, hS0_3⟩ := hS0; go_simp; try with_reducible rfl)
          try simp only [yA, yB, yC, Act.put, yD, yE, yF]
          refine wpAnyH_take (i := 7) (v := ?vv8) rfl (by kernel_rfl) (by kernel_rfl) (by kernel_rfl) (fun _ _ _ h => h) (Or.inl ⟨by rfl, ?yv8⟩) hS ?rv8
          case yv8 => (intro w0 _; go_simp; try with_reducible rfl)
          try simp only [yA, yB, yC, Act.put, yD, yE, yF]
          refine wpAnyH_take (i := 8) (v := ?vv9) rfl (by kernel_rfl) (by kernel_rfl) (by kernel_rfl) (fun _ _ _ h => h) (Or.inl ⟨by rfl, ?yv9⟩) hS ?rv9
          case yv9 => (intro w0 hS0; (try simp only [] at hS0); obtain ⟨hS0_0, hS0_1, hS0_2, hS0_3⟩ := hS0; go_simp; try with_reducible rfl)
          try simp only [yA, yB, yC, Act.put, yD, yE, yF]
          refine wpAnyH_take (i := 9) (v := ?vv10) rfl (by kernel_rfl) (by kernel_rfl) (by kernel_rfl) (fun _ _ _ h => h) (Or.inl ⟨by rfl, ?yv10⟩) hS ?rv10
          case yv10 => (intro w0 _; go_simp; try with_reducible rfl)
          try simp only [yA, yB, yC, Act.put, yD, yE, yF]
          refine wpAnyH_take (i := 10) (v := ?vv11) rfl (by kernel_rfl) (by kernel_rfl) (by kernel_rfl) (fun _ _ _ h => h) (Or.inl ⟨by rfl, ?yv11⟩) hS ?rv11
          case yv11 => (intro w0 _; go_simp; try with_reducible rfl)
          try simp only [yA, yB, yC, Act.put, yD, yE, yF]
          refine wpAnyH_done (by kernel_rfl) ?_ _
          refine NoPanic.normal ?_
          try simp only [Exit.then]
          clear hS
          cases hv : (p.ver == x.v)
          · have HE := As.mk (show freeE s l = 13 by rw [HS.out, freeE, if_neg (by rw [HO.out]; simp), if_neg (by rw [HK.out]; simp), if_pos (by rw [HVA.out]; exact hv)])
            have hne : ¬ p.ver = x.v := by simpa using hv
            go_wp2_with fail
            go_ret
            exact ⟨retI HE.out, HG.out.trans (gr_drew HGX.out)⟩
          · have HE := As.mk (show freeE s l = freeE s (l.drop (k + 1)) by rw [HS.out, freeE, if_neg (by rw [HO.out]; simp), if_neg (by rw [HK.out]; simp), if_neg (by rw [HVA.out, hv]; simp)])
            have heq : p.ver = x.v := by simpa using hv
            rw [heq]
            clear hv heq
            go_wp2_with fail
            go_roundw
            case measure => simp [intOf]; omega
            case rel => exact ⟨k + 1, by omega, by go_num, ⟨HE.out, gr_drew HGX.out⟩⟩
        · have HE := As.mk (show freeE s l = 12 by rw [HS.out, freeE, if_neg (by rw [HO.out]; simp), if_pos hk2])
          clear hk2
          go_wp2_with fail
          go_ret
          exact ⟨retI HE.out, HG.out.trans HGX.out⟩
    · obtain rfl : k = l.length := by omega
      rw [List.drop_length] at HL
      have HX := As.mk HL.out
      clear HL
      go_wp2_with fail
      go_ret
      exact ⟨retI (HX.out.1.trans rfl), HG.out.trans HX.out.2⟩
end Go.Proofs.Ytdmkijdbldcdiaa
