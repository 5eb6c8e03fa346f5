/- The walks of what reads a ledger's state. (Printed by wip/gen/gen_lr.py.) -/
import Derived.Test.YtdmkijdbldcdiaaLb
namespace Go.Proofs.Ytdmkijdbldcdiaa
open Go.RowKit
set_option linter.unusedVariables false
set_option linter.unusedSimpArgs false
set_option maxRecDepth 100000

def cellB (s : PSt) (c : Int) : Bool := decide (0 ≤ c) && decide (c < s.places.length)
set_option maxHeartbeats 1600000 in
theorem cell_c (w : World) (s : PSt) (vP vQ vD vC : Value) (h : StR w s vP vQ vD vC) (c : Int) (r : Bool) (hr : cellB s c = r) :
    Calls Try.prog 35 #[.agg (stCells s vP vQ vD vC), .int .i64 c] w fun e w' => e = .returned (.bool r) ∧ w.grownBy w' none := by
  subst hr
  obtain ⟨A1, c1, rfl⟩ := h.pl.len
  obtain ⟨A2, c2, rfl⟩ := h.pr.len
  obtain ⟨A3, c3, rfl⟩ := h.de.len
  obtain ⟨A4, c4, rfl⟩ := h.cm.len
  unfold stCells
  have HG := As.mk (gr_alloc (gr_refl w none) (.cells #[.int .i64 s.node, .int .i64 s.nodes, .int .i64 s.cells, .int .i64 s.epoch, .slice A1 s.places.length c1, .slice A2 s.prepared.length c2, .slice A3 s.decided.length c3, .slice A4 s.commits.length c4] 32))
  clear h
  by_cases h0 : 0 ≤ c
  · by_cases h1 : c < (s.places.length : Int)
    · have HR : As (cellB s c = true) := ⟨by simp [cellB, h0, h1]⟩
      go_enter Try.func35, Try.ntmps35
      go_wp2_with fail
      go_ret
      exact ⟨retB HR.out, HG.out⟩
    · have HR : As (cellB s c = false) := ⟨by simp [cellB, h1]⟩
      go_enter Try.func35, Try.ntmps35
      go_wp2_with fail
      go_ret
      exact ⟨retB HR.out, HG.out⟩
  · have HR : As (cellB s c = false) := ⟨by simp [cellB, h0]⟩
    go_enter Try.func35, Try.ntmps35
    go_wp2_with fail
    go_ret
    exact ⟨retB HR.out, HG.out⟩
def ownsB (s : PSt) (c : Int) : Bool := cellB s c && (match s.places[c.toNat]? with | some p => p.st == 1 | none => false)
set_option maxHeartbeats 1600000 in
theorem owns_c (w : World) (s : PSt) (vP vQ vD vC : Value) (h : StR w s vP vQ vD vC) (c : Int) (r : Bool) (hr : ownsB s c = r) :
    Calls Try.prog 17 #[.agg (stCells s vP vQ vD vC), .int .i64 c] w fun e w' => e = .returned (.bool r) ∧ w.grownBy w' none := by
  subst hr
  obtain ⟨A1, c1, rfl⟩ := h.pl.len
  obtain ⟨A2, c2, rfl⟩ := h.pr.len
  obtain ⟨A3, c3, rfl⟩ := h.de.len
  obtain ⟨A4, c4, rfl⟩ := h.cm.len
  unfold stCells
  have HG := As.mk (gr_alloc (gr_refl w none) (.cells #[.int .i64 s.node, .int .i64 s.nodes, .int .i64 s.cells, .int .i64 s.epoch, .slice A1 s.places.length c1, .slice A2 s.prepared.length c2, .slice A3 s.decided.length c3, .slice A4 s.commits.length c4] 32))
  have HR := As.mk (h.grown HG.out)
  have HB := As.mk (Blk.new w 32 #[.int .i64 s.node, .int .i64 s.nodes, .int .i64 s.cells, .int .i64 s.epoch, .slice A1 s.places.length c1, .slice A2 s.prepared.length c2, .slice A3 s.decided.length c3, .slice A4 s.commits.length c4])
  clear h
  go_enter Try.func17, Try.ntmps17
  go_wp2_with fail
  generalize w.alloc (.cells #[.int .i64 s.node, .int .i64 s.nodes, .int .i64 s.cells, .int .i64 s.epoch, .slice A1 s.places.length c1, .slice A2 s.prepared.length c2, .slice A3 s.decided.length c3, .slice A4 s.commits.length c4] 32) = W at *
  generalize w.heap.size = g at *
  refine (cell_c W s _ _ _ _ HR.out c _ rfl).mono ?_
  rintro e w1 ⟨rfl, g1⟩
  replace HG := As.mk (HG.out.trans g1)
  replace HR := As.mk (HR.out.grown g1)
  replace HB := As.mk (HB.out.grown g1 (by simp))
  clear g1
  have d4 := HB.out.cell 4
  simp only [List.getElem?_toArray, List.getElem?_cons_zero, List.getElem?_cons_succ] at d4
  cases hc : cellB s c
  · have HE : As (ownsB s c = false) := ⟨by unfold ownsB; rw [hc]; rfl⟩
    clear hc
    go_wp2_with fail
    go_ret
    exact ⟨retB HE.out, HG.out⟩
  · have hcc := hc
    unfold cellB at hcc
    simp only [Bool.and_eq_true, decide_eq_true_eq] at hcc
    obtain ⟨j, rfl⟩ : ∃ j : Nat, c = (j : Int) := ⟨c.toNat, by omega⟩
    have hj : j < s.places.length := by omega
    have hjI : (j : Int) < (s.places.length : Int) := by omega
    have hj0 : (0 : Int) ≤ (j : Int) := by omega
    obtain ⟨b, o, cs, hA, hE, _, hcell⟩ := HR.out.pl.at_ j _ (List.getElem?_eq_getElem hj)
    have c0 : W.cell? ⟨b, o + j * 5, none⟩ = W.cell? ⟨b, o + j * 5, none⟩ := rfl
    clear c0
    obtain rfl := hE
    have c0 : w1.cell? ⟨b, o + j * 5, none⟩ = _ := hcell 0 _ rfl
    subst hA
    have HE := As.mk (show ownsB s (j : Int) = ((s.places[j]'hj).st == 1) by unfold ownsB; rw [hc, Int.toNat_natCast, List.getElem?_eq_getElem hj]; rfl)
    clear hc hcc hcell
    generalize s.places[j]'hj = p at *
    cases hq : (p.st == 1)
    · go_wp2_with fail
      go_ret
      exact ⟨retB (HE.out.trans hq), HG.out⟩
    · go_wp2_with fail
      go_ret
      exact ⟨retB (HE.out.trans hq), HG.out⟩
set_option maxHeartbeats 1600000 in
theorem find1_c (w : World) (x : PIt) (b : Nat) (c : Int) (hb : w.cell? ⟨b, 0, none⟩ = some (.int .i64 c)) (r : Bool) (hr : (x.c == c) = r) :
    Calls Try.prog 66 #[.agg #[.int .i64 x.c, .int .i64 x.v, .int .i64 x.a, .bool x.wr, .int .i64 x.nw], .pointer (some ⟨b, 0, none⟩)] w fun e w' => e = .returned (.bool r) ∧ w.grownBy w' none := by
  have HG := As.mk (gr_alloc (gr_refl w none) (.cells #[.int .i64 x.c, .int .i64 x.v, .int .i64 x.a, .bool x.wr, .int .i64 x.nw] 66))
  have d0 := HG.out.cell hb (by simp)
  have HB := As.mk (Blk.new w 66 #[.int .i64 x.c, .int .i64 x.v, .int .i64 x.a, .bool x.wr, .int .i64 x.nw])
  clear hb
  go_enter Try.func66, Try.ntmps66
  go_wp2_with fail
  go_ret
  exact ⟨rfl, HG.out⟩
set_option maxHeartbeats 1600000 in
theorem idxItC_c (w : World) (v : Value) (l : List PIt) (h : Arr ItE 5 w v l) (b0 : Nat) (c : Int) (hb : w.cell? ⟨b0, 0, none⟩ = some (.int .i64 c)) :
    Calls Try.prog 65 #[v, .func (.func 66) #[] #[.pointer (some ⟨b0, 0, none⟩)]] w fun e w' => e = .returned (.int .i64 (findI (fun x : PIt => x.c == c) l)) ∧ w.grownBy w' none := by
  obtain ⟨A, c_, rfl⟩ := h.len
  have hl := h.le
  have H := As.mk h
  clear h
  have Hhb_ := As.mk hb
  clear hb
  go_enter Try.func65, Try.ntmps65
  go_wp2_with fail
  go_loopw [8] (fun i wr => ∃ k : Nat, k ≤ l.length ∧ i = .int .i64 k ∧ As ((l.take k).any (fun x : PIt => x.c == c) = false ∧ w.grownBy wr none)) (fun i _ => l.length - (intOf i).toNat)
  case atStart => exact ⟨0, Nat.zero_le _, rfl, ⟨by simp, gr_refl _ _⟩⟩
  case round =>
    obtain ⟨k, hk, rfl, HL⟩ := hrel
    by_cases hlt : k < l.length
    · have hltI : (k : Int) < (l.length : Int) := by omega
      have hk0 : (0 : Int) ≤ (k : Int) := by omega
      obtain ⟨b, o, cs, rfl, hE, hcs, hcell⟩ := H.out.at_ k l[k] (List.getElem?_eq_getElem hlt)
      obtain rfl := hE
      have c0 : wr.cell? ⟨b, o + k * 5, none⟩ = _ := HL.out.2.cell (hcell 0 _ rfl) (by simp)
      have c1_ := HL.out.2.cell (hcell 1 _ rfl) (by simp)
      have c2_ := HL.out.2.cell (hcell 2 _ rfl) (by simp)
      have c3_ := HL.out.2.cell (hcell 3 _ rfl) (by simp)
      have c4_ := HL.out.2.cell (hcell 4 _ rfl) (by simp)
      have HS := As.mk (any_take_succ (fun x : PIt => x.c == c) l k hlt)
      have HFA := As.mk (fun h0 h1 => findI_at (p := fun x : PIt => x.c == c) hlt h0 h1)
      have HMEM := As.mk (List.getElem_mem hlt)
      clear hcell hcs
      generalize l[k]'hlt = x at *
      go_wp2_with fail
      refine (find1_c wr x b0 c (HL.out.2.cell Hhb_.out (by simp)) _ rfl).mono ?_
      rintro e w1 ⟨rfl, g1⟩
      have G1 := As.mk (gr_then HL.out.2 g1 (.inl rfl))
      clear g1 c0 c1_ c2_ c3_ c4_
      cases hf : (fun x : PIt => x.c == c) x
      · have HF := As.mk hf
        have HF2 := As.mk hf
        dsimp only at HF
        first | rw [HF.out] | skip
        clear hf HFA
        go_wp2_with fail
        go_roundw
        case measure => simp [intOf]; omega
        case rel => exact ⟨k + 1, by omega, by go_num, ⟨by rw [HS.out, HL.out.1, HF2.out]; rfl, G1.out⟩⟩
      · have HF := As.mk hf
        have HF2 := As.mk (HFA.out HL.out.1 hf)
        dsimp only at HF
        first | rw [HF.out] | skip
        clear hf HFA
        go_wp2_with fail
        go_ret
        exact ⟨by rw [HF2.out]; rfl, G1.out⟩
    · obtain rfl : k = l.length := by omega
      rw [List.take_of_length_le (Nat.le_refl _)] at HL
      have HX := As.mk (findI_none HL.out.1)
      have HY := As.mk HL.out.2
      clear HL
      go_wp2_with fail
      go_ret
      exact ⟨by rw [HX.out]; rfl, HY.out⟩
theorem findIt_c (w : World) (v : Value) (l : List PIt) (h : Arr ItE 5 w v l) (c : Int) :
    Calls Try.prog 38 #[v, .int .i64 c] w fun e w' => e = .returned (.int .i64 (findI (fun x : PIt => x.c == c) l)) ∧ w.grownBy w' none := by
  have HG := As.mk (gr_alloc (gr_refl w none) (.cells #[.int .i64 c] 3))
  have HA := As.mk (h.below HG.out (fun _ _ h => h))
  have HB := As.mk ((Blk.new w 3 #[.int .i64 c]).cell 0)
  clear h
  go_enter Try.func38, Try.ntmps38
  go_wp2_with fail
  refine (idxItC_c _ v l HA.out _ c HB.out).mono ?_
  rintro e w1 ⟨rfl, g1⟩
  have HX := As.mk (HG.out.trans g1)
  clear g1 HG HA HB
  go_wp2_with fail
  go_ret
  exact ⟨rfl, HX.out⟩
def hasIt (c : Int) (l : List PIt) : Bool := l.any (fun x => x.c == c)
set_option maxHeartbeats 1600000 in
theorem locked1_c (w : World) (x : PPr) (A1 A2 : Option Addr) (c1 c2 : Nat) (hI : Arr ItE 5 w (.slice A1 x.items.length c1) x.items) (b : Nat) (c : Int) (hb : w.cell? ⟨b, 0, none⟩ = some (.int .i64 c)) (r : Bool) (hr : hasIt c x.items = r) :
    Calls Try.prog 37 #[.agg #[.int .i64 x.tid.n, .int .i64 x.tid.e, .int .i64 x.tid.s, .slice A1 x.items.length c1, .slice A2 x.nodes.length c2], .pointer (some ⟨b, 0, none⟩)] w fun e w' => e = .returned (.bool r) ∧ w.grownBy w' none := by
  have HG := As.mk (gr_alloc (gr_refl w none) (.cells #[.int .i64 x.tid.n, .int .i64 x.tid.e, .int .i64 x.tid.s, .slice A1 x.items.length c1, .slice A2 x.nodes.length c2] 60))
  have d0 := HG.out.cell hb (by simp)
  have HI := As.mk (hI.below HG.out (fun _ _ h => h))
  have HR := As.mk ((findI_neg (fun y : PIt => y.c == c) x.items).trans hr)
  clear hb hI hr
  go_enter Try.func37, Try.ntmps37
  go_wp2_with fail
  refine (findIt_c _ _ x.items HI.out c).mono ?_
  rintro e w1 ⟨rfl, g1⟩
  have HX := As.mk (HG.out.trans g1)
  clear g1 HG HI d0
  generalize findI (fun y : PIt => y.c == c) x.items = q at *
  go_wp2_with fail
  go_ret
  exact ⟨retB HR.out.symm, HX.out⟩
set_option maxHeartbeats 1600000 in
theorem idxPrL_c (w : World) (v : Value) (l : List PPr) (h : Arr PrE 5 w v l) (b0 : Nat) (c : Int) (hb : w.cell? ⟨b0, 0, none⟩ = some (.int .i64 c)) :
    Calls Try.prog 63 #[v, .func (.func 37) #[] #[.pointer (some ⟨b0, 0, none⟩)]] w fun e w' => e = .returned (.int .i64 (findI (fun x : PPr => hasIt c x.items) l)) ∧ w.grownBy w' none := by
  obtain ⟨A, c_, rfl⟩ := h.len
  have hl := h.le
  have H := As.mk h
  clear h
  have Hhb_ := As.mk hb
  clear hb
  go_enter Try.func63, Try.ntmps63
  go_wp2_with fail
  go_loopw [8] (fun i wr => ∃ k : Nat, k ≤ l.length ∧ i = .int .i64 k ∧ As ((l.take k).any (fun x : PPr => hasIt c x.items) = false ∧ w.grownBy wr none)) (fun i _ => l.length - (intOf i).toNat)
  case atStart => exact ⟨0, Nat.zero_le _, rfl, ⟨by simp, gr_refl _ _⟩⟩
  case round =>
    obtain ⟨k, hk, rfl, HL⟩ := hrel
    by_cases hlt : k < l.length
    · have hltI : (k : Int) < (l.length : Int) := by omega
      have hk0 : (0 : Int) ≤ (k : Int) := by omega
      obtain ⟨b, o, cs, rfl, ⟨A1, c1, A2, c2, hE, hI1, hI2⟩, hcs, hcell⟩ := H.out.at_ k l[k] (List.getElem?_eq_getElem hlt)
      obtain rfl := hE
      have c0 : wr.cell? ⟨b, o + k * 5, none⟩ = _ := HL.out.2.cell (hcell 0 _ rfl) (by simp)
      have c1_ := HL.out.2.cell (hcell 1 _ rfl) (by simp)
      have c2_ := HL.out.2.cell (hcell 2 _ rfl) (by simp)
      have c3_ := HL.out.2.cell (hcell 3 _ rfl) (by simp)
      have c4_ := HL.out.2.cell (hcell 4 _ rfl) (by simp)
      have HN := As.mk (And.intro hI1 hI2)
      have HS := As.mk (any_take_succ (fun x : PPr => hasIt c x.items) l k hlt)
      have HFA := As.mk (fun h0 h1 => findI_at (p := fun x : PPr => hasIt c x.items) hlt h0 h1)
      have HMEM := As.mk (List.getElem_mem hlt)
      clear hcell hcs hI1 hI2
      generalize l[k]'hlt = x at *
      go_wp2_with fail
      refine (locked1_c wr x _ _ _ _ (HN.out.1.below HL.out.2 (fun _ _ h => h)) b0 c (HL.out.2.cell Hhb_.out (by simp)) _ rfl).mono ?_
      rintro e w1 ⟨rfl, g1⟩
      have G1 := As.mk (gr_then HL.out.2 g1 (.inl rfl))
      clear g1 c0 c1_ c2_ c3_ c4_
      cases hf : (fun x : PPr => hasIt c x.items) x
      · have HF := As.mk hf
        have HF2 := As.mk hf
        dsimp only at HF
        first | rw [HF.out] | skip
        clear hf HFA
        go_wp2_with fail
        go_roundw
        case measure => simp [intOf]; omega
        case rel => exact ⟨k + 1, by omega, by go_num, ⟨by rw [HS.out, HL.out.1, HF2.out]; rfl, G1.out⟩⟩
      · have HF := As.mk hf
        have HF2 := As.mk (HFA.out HL.out.1 hf)
        dsimp only at HF
        first | rw [HF.out] | skip
        clear hf HFA
        go_wp2_with fail
        go_ret
        exact ⟨by rw [HF2.out]; rfl, G1.out⟩
    · obtain rfl : k = l.length := by omega
      rw [List.take_of_length_le (Nat.le_refl _)] at HL
      have HX := As.mk (findI_none HL.out.1)
      have HY := As.mk HL.out.2
      clear HL
      go_wp2_with fail
      go_ret
      exact ⟨by rw [HX.out]; rfl, HY.out⟩
theorem conPrL_c (w : World) (v : Value) (l : List PPr) (h : Arr PrE 5 w v l) (b0 : Nat) (c : Int) (hb : w.cell? ⟨b0, 0, none⟩ = some (.int .i64 c)) (r : Bool) (hr : l.any (fun x : PPr => hasIt c x.items) = r) :
    Calls Try.prog 36 #[v, .func (.func 37) #[] #[.pointer (some ⟨b0, 0, none⟩)]] w fun e w' => e = .returned (.bool r) ∧ w.grownBy w' none := by
  have H := As.mk h
  have HR := As.mk ((findI_neg (fun x : PPr => hasIt c x.items) l).trans hr)
  clear h hr
  have Hhb_ := As.mk hb
  clear hb
  go_enter Try.func36, Try.ntmps36
  go_wp2_with fail
  refine (idxPrL_c w v l H.out b0 c Hhb_.out).mono ?_
  rintro e w1 ⟨rfl, hg⟩
  have HG := As.mk hg
  clear hg
  generalize findI (fun x : PPr => hasIt c x.items) l = q at *
  go_wp2_with fail
  go_ret
  exact ⟨by rw [← HR.out]; rfl, HG.out⟩
def lockedB (s : PSt) (c : Int) : Bool := cellB s c && s.prepared.any (fun p => hasIt c p.items)
set_option maxHeartbeats 1600000 in
theorem locked_c (w : World) (s : PSt) (vP vQ vD vC : Value) (h : StR w s vP vQ vD vC) (c : Int) (r : Bool) (hr : lockedB s c = r) :
    Calls Try.prog 18 #[.agg (stCells s vP vQ vD vC), .int .i64 c] w fun e w' => e = .returned (.bool r) ∧ w.grownBy w' none := by
  subst hr
  obtain ⟨A1, c1, rfl⟩ := h.pl.len
  obtain ⟨A2, c2, rfl⟩ := h.pr.len
  obtain ⟨A3, c3, rfl⟩ := h.de.len
  obtain ⟨A4, c4, rfl⟩ := h.cm.len
  unfold stCells
  have HG := As.mk (gr_alloc (gr_alloc (gr_refl w none) (.cells #[.int .i64 s.node, .int .i64 s.nodes, .int .i64 s.cells, .int .i64 s.epoch, .slice A1 s.places.length c1, .slice A2 s.prepared.length c2, .slice A3 s.decided.length c3, .slice A4 s.commits.length c4] 32)) (.cells #[.int .i64 c] 3))
  have HR := As.mk (h.grown HG.out)
  have HB := As.mk ((Blk.new w 32 #[.int .i64 s.node, .int .i64 s.nodes, .int .i64 s.cells, .int .i64 s.epoch, .slice A1 s.places.length c1, .slice A2 s.prepared.length c2, .slice A3 s.decided.length c3, .slice A4 s.commits.length c4]).alloc (.cells #[.int .i64 c] 3))
  have HC := As.mk (Blk.new_at (w.alloc (.cells #[.int .i64 s.node, .int .i64 s.nodes, .int .i64 s.cells, .int .i64 s.epoch, .slice A1 s.places.length c1, .slice A2 s.prepared.length c2, .slice A3 s.decided.length c3, .slice A4 s.commits.length c4] 32)) 3 #[.int .i64 c] (g := w.heap.size + 1) (by simp))
  clear h
  go_enter Try.func18, Try.ntmps18
  go_wp2_with fail
  generalize (w.alloc (.cells #[.int .i64 s.node, .int .i64 s.nodes, .int .i64 s.cells, .int .i64 s.epoch, .slice A1 s.places.length c1, .slice A2 s.prepared.length c2, .slice A3 s.decided.length c3, .slice A4 s.commits.length c4] 32)).alloc (.cells #[.int .i64 c] 3) = W at *
  generalize w.heap.size = g at *
  refine (cell_c W s _ _ _ _ HR.out c _ rfl).mono ?_
  rintro e w1 ⟨rfl, g1⟩
  replace HG := As.mk (HG.out.trans g1)
  replace HR := As.mk (HR.out.grown g1)
  replace HB := As.mk (HB.out.grown g1 (by simp))
  replace HC := As.mk ((HC.out.grown g1 (by simp)).cell 0)
  clear g1
  have d5 := HB.out.cell 5
  simp only [List.getElem?_toArray, List.getElem?_cons_zero, List.getElem?_cons_succ] at d5
  cases hc : cellB s c
  · have HE : As (lockedB s c = false) := ⟨by unfold lockedB; rw [hc]; rfl⟩
    clear hc
    go_wp2_with fail
    go_ret
    exact ⟨retB HE.out, HG.out⟩
  · have HE : As (lockedB s c = s.prepared.any (fun p => hasIt c p.items)) := ⟨by unfold lockedB; rw [hc]; rfl⟩
    clear hc
    go_wp2_with fail
    refine (conPrL_c w1 _ s.prepared HR.out.pr _ c HC.out _ rfl).mono ?_
    rintro e w2 ⟨rfl, g2⟩
    replace HG := As.mk (HG.out.trans g2)
    clear g2
    go_wp2_with fail
    go_ret
    exact ⟨retB HE.out, HG.out⟩
def knownB (s : PSt) (t : PTid) : Bool := s.prepared.any (fun x => eqT x.tid t) || s.decided.any (fun x => eqT x.tid t)
set_option maxHeartbeats 1600000 in
theorem known_c (w : World) (s : PSt) (vP vQ vD vC : Value) (h : StR w s vP vQ vD vC) (t : PTid) (r : Bool) (hr : knownB s t = r) :
    Calls Try.prog 70 #[.agg (stCells s vP vQ vD vC), .agg #[.int .i64 t.n, .int .i64 t.e, .int .i64 t.s]] w fun e w' => e = .returned (.bool r) ∧ w.grownBy w' none := by
  subst hr
  obtain ⟨A1, c1, rfl⟩ := h.pl.len
  obtain ⟨A2, c2, rfl⟩ := h.pr.len
  obtain ⟨A3, c3, rfl⟩ := h.de.len
  obtain ⟨A4, c4, rfl⟩ := h.cm.len
  unfold stCells
  have HG := As.mk (gr_alloc (gr_alloc (gr_refl w none) (.cells #[.int .i64 s.node, .int .i64 s.nodes, .int .i64 s.cells, .int .i64 s.epoch, .slice A1 s.places.length c1, .slice A2 s.prepared.length c2, .slice A3 s.decided.length c3, .slice A4 s.commits.length c4] 32)) (.cells #[.int .i64 t.n, .int .i64 t.e, .int .i64 t.s] 39))
  have HR := As.mk (h.grown HG.out)
  have HB := As.mk ((Blk.new w 32 #[.int .i64 s.node, .int .i64 s.nodes, .int .i64 s.cells, .int .i64 s.epoch, .slice A1 s.places.length c1, .slice A2 s.prepared.length c2, .slice A3 s.decided.length c3, .slice A4 s.commits.length c4]).alloc (.cells #[.int .i64 t.n, .int .i64 t.e, .int .i64 t.s] 39))
  have HC := As.mk (Blk.new_at (w.alloc (.cells #[.int .i64 s.node, .int .i64 s.nodes, .int .i64 s.cells, .int .i64 s.epoch, .slice A1 s.places.length c1, .slice A2 s.prepared.length c2, .slice A3 s.decided.length c3, .slice A4 s.commits.length c4] 32)) 39 #[.int .i64 t.n, .int .i64 t.e, .int .i64 t.s] (g := w.heap.size + 1) (by simp))
  clear h
  go_enter Try.func70, Try.ntmps70
  go_wp2_with fail
  generalize (w.alloc (.cells #[.int .i64 s.node, .int .i64 s.nodes, .int .i64 s.cells, .int .i64 s.epoch, .slice A1 s.places.length c1, .slice A2 s.prepared.length c2, .slice A3 s.decided.length c3, .slice A4 s.commits.length c4] 32)).alloc (.cells #[.int .i64 t.n, .int .i64 t.e, .int .i64 t.s] 39) = W at *
  generalize w.heap.size = g at *
  refine (findPr_c W s _ _ _ _ HR.out t).mono ?_
  rintro e w1 ⟨rfl, g1⟩
  replace HG := As.mk (HG.out.trans g1)
  replace HR := As.mk (HR.out.grown g1)
  replace HB := As.mk (HB.out.grown g1 (by simp))
  replace HC := As.mk (HC.out.grown g1 (by simp))
  clear g1
  have HN := As.mk (findI_neg (fun x : PPr => eqT x.tid t) s.prepared)
  cases hp : s.prepared.any (fun x => eqT x.tid t)
  · rw [hp] at HN
    have HE : As (knownB s t = s.decided.any (fun x => eqT x.tid t)) := ⟨by unfold knownB; rw [hp]; rfl⟩
    clear hp
    generalize findI (fun x : PPr => eqT x.tid t) s.prepared = q at *
    have hq : ¬ 0 ≤ q := by simpa using HN.out
    have hqd : decide (0 ≤ q) = false := by simpa using hq
    have d0 := HB.out.cell 0
    have d1 := HB.out.cell 1
    have d2 := HB.out.cell 2
    have d3 := HB.out.cell 3
    have d4 := HB.out.cell 4
    have d5 := HB.out.cell 5
    have d6 := HB.out.cell 6
    have d7 := HB.out.cell 7
    have k0 := HC.out.cell 0
    have k1 := HC.out.cell 1
    have k2 := HC.out.cell 2
    simp only [List.getElem?_toArray, List.getElem?_cons_zero, List.getElem?_cons_succ] at d0 d1 d2 d3 d4 d5 d6 d7 k0 k1 k2
    go_wp2_with fail
    refine (findDe_c w1 s _ _ _ _ HR.out t).mono ?_
    rintro e w2 ⟨rfl, g2⟩
    replace HG := As.mk (HG.out.trans g2)
    have HN2 := As.mk (findI_neg (fun x : PDe => eqT x.tid t) s.decided)
    clear g2 d0 d1 d2 d3 d4 d5 d6 d7 k0 k1 k2
    generalize findI (fun x : PDe => eqT x.tid t) s.decided = q2 at *
    go_wp2_with fail
    go_ret
    exact ⟨retB (HE.out.trans HN2.out.symm), HG.out⟩
  · rw [hp] at HN
    have HE : As (knownB s t = true) := ⟨by unfold knownB; rw [hp]; rfl⟩
    clear hp
    generalize findI (fun x : PPr => eqT x.tid t) s.prepared = q at *
    have hq : 0 ≤ q := by simpa using HN.out
    go_wp2_with fail
    go_ret
    exact ⟨retB HE.out, HG.out⟩
def roomB (s : PSt) : Bool := decide (s.prepared.length + s.decided.length < 512)
set_option maxHeartbeats 1600000 in
theorem room_c (w : World) (s : PSt) (vP vQ vD vC : Value) (h : StR w s vP vQ vD vC) (hn : s.prepared.length + s.decided.length ≤ 100000) (r : Bool) (hr : roomB s = r) :
    Calls Try.prog 76 #[.agg (stCells s vP vQ vD vC)] w fun e w' => e = .returned (.bool r) ∧ w.grownBy w' none := by
  subst hr
  obtain ⟨A1, c1, rfl⟩ := h.pl.len
  obtain ⟨A2, c2, rfl⟩ := h.pr.len
  obtain ⟨A3, c3, rfl⟩ := h.de.len
  obtain ⟨A4, c4, rfl⟩ := h.cm.len
  unfold stCells
  have HG := As.mk (gr_alloc (gr_refl w none) (.cells #[.int .i64 s.node, .int .i64 s.nodes, .int .i64 s.cells, .int .i64 s.epoch, .slice A1 s.places.length c1, .slice A2 s.prepared.length c2, .slice A3 s.decided.length c3, .slice A4 s.commits.length c4] 32))
  clear h
  by_cases h0 : s.prepared.length + s.decided.length < 512
  · have HR : As (roomB s = true) := ⟨by simp [roomB, h0]⟩
    have h0I : (s.prepared.length : Int) + (s.decided.length : Int) < 512 := by omega
    go_enter Try.func76, Try.ntmps76
    go_wp2_with fail
    go_ret
    exact ⟨retB HR.out, HG.out⟩
  · have HR : As (roomB s = false) := ⟨by simp [roomB, h0]⟩
    have h0I : ¬ (s.prepared.length : Int) + (s.decided.length : Int) < 512 := by omega
    go_enter Try.func76, Try.ntmps76
    go_wp2_with fail
    go_ret
    exact ⟨retB HR.out, HG.out⟩
end Go.Proofs.Ytdmkijdbldcdiaa
