/- The walks of strange, Contains, RightNodes, prepare's test, free. (Printed by wip/gen/gen_ls.py.) -/
import Derived.Test.YtdmkijdbldcdiaaLr
namespace Go.Proofs.Ytdmkijdbldcdiaa
open Go.RowKit
set_option linter.unusedVariables false
set_option linter.unusedSimpArgs false
set_option maxRecDepth 100000

theorem strange1_c (w : World) (n : Int) (b : Nat) (m : Int) (hb : w.cell? ⟨b, 1, none⟩ = some (.int .i64 m)) (r : Bool) (hr : decide (m < n) = r) :
    Calls Try.prog 85 #[.int .i64 n, .pointer (some ⟨b, 0, none⟩)] w fun e w' => e = .returned (.bool r) ∧ w.grownBy w' none := by
  subst hr
  go_enter Try.func85, Try.ntmps85
  go_wp2_with fail
  go_ret
  exact ⟨rfl, gr_refl _ _⟩
set_option maxHeartbeats 1600000 in
theorem idxInS_c (w : World) (v : Value) (l : List Int) (h : Arr IE 1 w v l) (b0 : Nat) (m : Int) (hb : w.cell? ⟨b0, 1, none⟩ = some (.int .i64 m)) :
    Calls Try.prog 92 #[v, .func (.func 85) #[] #[.pointer (some ⟨b0, 0, none⟩)]] w fun e w' => e = .returned (.int .i64 (findI (fun x : Int => decide (m < x)) l)) ∧ w.grownBy w' none := by
  obtain ⟨A, c_, rfl⟩ := h.len
  have hl := h.le
  have H := As.mk h
  clear h
  have Hhb_ := As.mk hb
  clear hb
  go_enter Try.func92, Try.ntmps92
  go_wp2_with fail
  go_loopw [8] (fun i wr => ∃ k : Nat, k ≤ l.length ∧ i = .int .i64 k ∧ As ((l.take k).any (fun x : Int => decide (m < x)) = false ∧ w.grownBy wr none)) (fun i _ => l.length - (intOf i).toNat)
  case atStart => exact ⟨0, Nat.zero_le _, rfl, ⟨by simp, gr_refl _ _⟩⟩
  case round =>
    obtain ⟨k, hk, rfl, HL⟩ := hrel
    by_cases hlt : k < l.length
    · have hltI : (k : Int) < (l.length : Int) := by omega
      have hk0 : (0 : Int) ≤ (k : Int) := by omega
      obtain ⟨b, o, cs, rfl, hE, hcs, hcell⟩ := H.out.at_ k l[k] (List.getElem?_eq_getElem hlt)
      obtain rfl := hE
      have c0 : wr.cell? ⟨b, o + k * 1, none⟩ = _ := HL.out.2.cell (hcell 0 _ rfl) (by simp)
      rw [Nat.mul_one] at c0
      have HS := As.mk (any_take_succ (fun x : Int => decide (m < x)) l k hlt)
      have HFA := As.mk (fun h0 h1 => findI_at (p := fun x : Int => decide (m < x)) hlt h0 h1)
      have HMEM := As.mk (List.getElem_mem hlt)
      clear hcell hcs
      generalize l[k]'hlt = x at *
      go_wp2_with fail
      refine (strange1_c wr x b0 m (HL.out.2.cell Hhb_.out (by simp)) _ rfl).mono ?_
      rintro e w1 ⟨rfl, g1⟩
      have G1 := As.mk (gr_then HL.out.2 g1 (.inl rfl))
      clear g1 c0 
      cases hf : (fun x : Int => decide (m < x)) x
      · have HF := As.mk hf
        have HF2 := As.mk hf
        dsimp only at HF
        first | rw [HF.out] | skip
        clear hf HFA
        go_wp2_with fail
        go_roundw
        case measure => simp [intOf]; omega
        case rel => exact ⟨k + 1, by omega, by go_num, ⟨by rw [HS.out, HL.out.1, HF2.out]; rfl, G1.out⟩⟩
      · have HF := As.mk hf
        have HF2 := As.mk (HFA.out HL.out.1 hf)
        dsimp only at HF
        first | rw [HF.out] | skip
        clear hf HFA
        go_wp2_with fail
        go_ret
        exact ⟨by rw [HF2.out]; rfl, G1.out⟩
    · obtain rfl : k = l.length := by omega
      rw [List.take_of_length_le (Nat.le_refl _)] at HL
      have HX := As.mk (findI_none HL.out.1)
      have HY := As.mk HL.out.2
      clear HL
      go_wp2_with fail
      go_ret
      exact ⟨by rw [HX.out]; rfl, HY.out⟩
theorem conInS_c (w : World) (v : Value) (l : List Int) (h : Arr IE 1 w v l) (b0 : Nat) (m : Int) (hb : w.cell? ⟨b0, 1, none⟩ = some (.int .i64 m)) (r : Bool) (hr : l.any (fun x : Int => decide (m < x)) = r) :
    Calls Try.prog 83 #[v, .func (.func 85) #[] #[.pointer (some ⟨b0, 0, none⟩)]] w fun e w' => e = .returned (.bool r) ∧ w.grownBy w' none := by
  have H := As.mk h
  have HR := As.mk ((findI_neg (fun x : Int => decide (m < x)) l).trans hr)
  clear h hr
  have Hhb_ := As.mk hb
  clear hb
  go_enter Try.func83, Try.ntmps83
  go_wp2_with fail
  refine (idxInS_c w v l H.out b0 m Hhb_.out).mono ?_
  rintro e w1 ⟨rfl, hg⟩
  have HG := As.mk hg
  clear hg
  generalize findI (fun x : Int => decide (m < x)) l = q at *
  go_wp2_with fail
  go_ret
  exact ⟨by rw [← HR.out]; rfl, HG.out⟩
def strangeB (s : PSt) (l : List Int) : Bool := l.any (fun x => decide (s.nodes < x))
set_option maxHeartbeats 1600000 in
theorem strange_c (w : World) (s : PSt) (vP vQ vD vC : Value) (h : StR w s vP vQ vD vC) (v : Value) (l : List Int) (hv : Arr IE 1 w v l) (r : Bool) (hr : strangeB s l = r) :
    Calls Try.prog 71 #[.agg (stCells s vP vQ vD vC), v] w fun e w' => e = .returned (.bool r) ∧ w.grownBy w' none := by
  obtain ⟨A1, c1, rfl⟩ := h.pl.len
  obtain ⟨A2, c2, rfl⟩ := h.pr.len
  obtain ⟨A3, c3, rfl⟩ := h.de.len
  obtain ⟨A4, c4, rfl⟩ := h.cm.len
  unfold stCells
  have HG := As.mk (gr_alloc (gr_refl w none) (.cells #[.int .i64 s.node, .int .i64 s.nodes, .int .i64 s.cells, .int .i64 s.epoch, .slice A1 s.places.length c1, .slice A2 s.prepared.length c2, .slice A3 s.decided.length c3, .slice A4 s.commits.length c4] 32))
  have HV := As.mk (hv.below HG.out (fun _ _ h => h))
  have HB := As.mk ((Blk.new w 32 #[.int .i64 s.node, .int .i64 s.nodes, .int .i64 s.cells, .int .i64 s.epoch, .slice A1 s.places.length c1, .slice A2 s.prepared.length c2, .slice A3 s.decided.length c3, .slice A4 s.commits.length c4]).cell 1)
  clear h hv
  go_enter Try.func71, Try.ntmps71
  go_wp2_with fail
  refine (conInS_c _ v l HV.out _ s.nodes HB.out r hr).mono ?_
  rintro e w1 ⟨rfl, g1⟩
  have HX := As.mk (HG.out.trans g1)
  clear g1 HG HV HB
  go_wp2_with fail
  go_ret
  exact ⟨rfl, HX.out⟩
set_option maxHeartbeats 1600000 in
theorem index_c (w : World) (v : Value) (l : List Int) (h : Arr IE 1 w v l) (m : Int) :
    Calls Try.prog 86 #[v, .int .i64 m] w fun e w' => e = .returned (.int .i64 (findI (fun x => m == x) l)) ∧ w' = w := by
  obtain ⟨A, c, rfl⟩ := h.len
  have hl := h.le
  have H := As.mk h
  clear h
  go_enter Try.func86, Try.ntmps86
  go_wp2_with fail
  go_loopw [8] (fun i wr => ∃ k : Nat, k ≤ l.length ∧ i = .int .i64 k ∧ wr = w ∧ As ((l.take k).any (fun x => m == x) = false)) (fun i _ => l.length - (intOf i).toNat)
  case atStart => exact ⟨0, Nat.zero_le _, rfl, rfl, ⟨by simp⟩⟩
  case round =>
    obtain ⟨k, hk, rfl, rfl, HL⟩ := hrel
    by_cases hlt : k < l.length
    · have hltI : (k : Int) < (l.length : Int) := by omega
      have hk0 : (0 : Int) ≤ (k : Int) := by omega
      obtain ⟨b, o, cs, rfl, hE, hcs, hcell⟩ := H.out.at_ k l[k] (List.getElem?_eq_getElem hlt)
      obtain rfl := hE
      have c0 : wr.cell? ⟨b, o + k * 1, none⟩ = _ := hcell 0 _ rfl
      rw [Nat.mul_one] at c0
      have HS := As.mk (any_take_succ (fun x => m == x) l k hlt)
      have HFA := As.mk (fun h0 h1 => findI_at (p := fun x => m == x) hlt h0 h1)
      clear hcell hcs
      generalize l[k]'hlt = x at *
      cases hf : (m == x)
      · have HF := As.mk hf
        have hne : ¬ m = x := by simpa using hf
        clear HFA
        go_wp2_with fail
        go_roundw
        case measure => simp [intOf]; omega
        case rel => exact ⟨k + 1, by omega, by go_num, by trivial, ⟨by rw [HS.out, HL.out, HF.out]; rfl⟩⟩
      · have HF := As.mk (HFA.out HL.out hf)
        obtain rfl : m = x := by simpa using hf
        clear HFA
        go_wp2_with fail
        go_ret
        exact ⟨by rw [HF.out]; rfl, rfl⟩
    · obtain rfl : k = l.length := by omega
      rw [List.take_of_length_le (Nat.le_refl _)] at HL
      have HX := As.mk (findI_none HL.out)
      clear HL
      go_wp2_with fail
      go_ret
      exact ⟨by rw [HX.out]; rfl, rfl⟩
theorem contains_c (w : World) (v : Value) (l : List Int) (h : Arr IE 1 w v l) (m : Int) (r : Bool) (hr : l.any (fun x => m == x) = r) :
    Calls Try.prog 72 #[v, .int .i64 m] w fun e w' => e = .returned (.bool r) ∧ w' = w := by
  have H := As.mk h
  have HR := As.mk ((findI_neg (fun x => m == x) l).trans hr)
  clear h hr
  go_enter Try.func72, Try.ntmps72
  go_wp2_with fail
  refine (index_c w v l H.out m).mono ?_
  rintro e w1 ⟨rfl, rfl⟩
  generalize findI (fun x => m == x) l = q at *
  go_wp2_with fail
  go_ret
  exact ⟨retB HR.out.symm, rfl⟩
/-- Is the i-th node behind the one ahead of it? -/
def upAt (l : List Int) (i : Nat) : Bool := match l[i]? with
  | some x => (match i with | 0 => true | j + 1 => match l[j]? with | some y => decide (y < x) | none => true)
  | none => true
def upTo (l : List Int) (k : Nat) : Bool := (List.range k).all (upAt l)
theorem upTo_succ (l : List Int) (k : Nat) : upTo l (k + 1) = (upTo l k && upAt l k) := by
  unfold upTo
  rw [List.range_succ, List.all_append]
  simp
def nodesOk (l : List Int) : Bool := upTo l l.length && l.all (fun x => inR x 1 16)
theorem upTo_bad {l : List Int} {k : Nat} (hk : k < l.length) (h : upAt l k = false) : nodesOk l = false := by
  unfold nodesOk upTo
  rw [Bool.and_eq_false_iff]
  left
  rw [List.all_eq_false]
  exact ⟨k, List.mem_range.2 hk, by simp [h]⟩
set_option maxHeartbeats 1600000 in
theorem rightNodes_c (w : World) (v : Value) (l : List Int) (h : Arr IE 1 w v l) (r : Bool) (hr : nodesOk l = r) :
    Calls Try.prog 51 #[v] w fun e w' => e = .returned (.bool r) ∧ w.grownBy w' none := by
  subst hr
  obtain ⟨A, c, rfl⟩ := h.len
  have hl := h.le
  have H := As.mk h
  clear h
  go_enter Try.func51, Try.ntmps51
  go_wp2_with fail
  go_loopw [7] (fun i wr => ∃ k : Nat, k ≤ l.length ∧ i = .int .i64 k ∧ wr = w ∧ As (upTo l k = true)) (fun i _ => l.length - (intOf i).toNat)
  case atStart => exact ⟨0, Nat.zero_le _, rfl, rfl, ⟨rfl⟩⟩
  case round =>
    obtain ⟨k, hk, rfl, rfl, HL⟩ := hrel
    by_cases hlt : k < l.length
    · have hltI : (k : Int) < (l.length : Int) := by omega
      have hk0 : (0 : Int) ≤ (k : Int) := by omega
      obtain ⟨b, o, cs, rfl, hE, hcs, hcell⟩ := H.out.at_ k l[k] (List.getElem?_eq_getElem hlt)
      obtain rfl := hE
      have c0 : wr.cell? ⟨b, o + k * 1, none⟩ = _ := hcell 0 _ rfl
      rw [Nat.mul_one] at c0
      have HX := As.mk (show l[k]? = some (l[k]'hlt) from List.getElem?_eq_getElem hlt)
      have HGS := As.mk (upTo_succ l k)
      clear hcell hcs
      generalize l[k]'hlt = x at *
      rcases k with _ | j
      · have HN := As.mk (show upAt l 0 = true by unfold upAt; rw [HX.out])
        have hz : ¬ ((0 : Nat) : Int) > 0 := by simp
        rw [Nat.add_zero] at c0
        go_wp2_with fail
        go_roundw
        case measure => simp [intOf]; omega
        case rel => exact ⟨1, by omega, by go_num, by trivial, ⟨by rw [HGS.out, HN.out, HL.out]; rfl⟩⟩
      · have hj : j < l.length := by omega
        have hjI : (j : Int) < (l.length : Int) := by omega
        have hj0 : (0 : Int) ≤ (j : Int) := by omega
        obtain ⟨b', o', cs', hA, hE', hcs', hcell'⟩ := H.out.at_ j l[j] (List.getElem?_eq_getElem hj)
        obtain ⟨rfl, rfl⟩ : b = b' ∧ o = o' := by injection hA with hA; injection hA with h1 h2; exact ⟨h1, h2⟩
        obtain rfl := hE'
        have e0 : wr.cell? ⟨b, o + j * 1, none⟩ = _ := hcell' 0 _ rfl
        rw [Nat.mul_one] at e0
        have HXj := As.mk (show l[j]? = some (l[j]'hj) from List.getElem?_eq_getElem hj)
        have hpos : (0 : Int) < (j : Int) + 1 := by omega
        clear hcell' hcs' hA
        generalize l[j]'hj = y at *
        cases hc : decide (y < x)
        · have HN := As.mk (show upAt l (j + 1) = false by unfold upAt; rw [HX.out]; simp only [HXj.out, hc])
          have hcc : x ≤ y := by simpa using hc
          clear hc
          go_wp2_with fail
          go_ret
          exact ⟨retB (upTo_bad hlt HN.out), gr_refl _ _⟩
        · have HN := As.mk (show upAt l (j + 1) = true by unfold upAt; rw [HX.out]; simp only [HXj.out, hc])
          have hcc : ¬ x ≤ y := by simpa using hc
          clear hc
          go_wp2_with fail
          go_roundw
          case measure => simp [intOf]; omega
          case rel => exact ⟨j + 2, by omega, by go_num, by trivial, ⟨by rw [HGS.out, HN.out, HL.out]; rfl⟩⟩
    · obtain rfl : k = l.length := by omega
      have HY := As.mk (show nodesOk l = l.all (fun x => inR x 1 16) by unfold nodesOk; rw [HL.out]; rfl)
      clear HL
      go_wp2_with fail
      refine (in_c wr _ l H.out 1 16 _ rfl).mono ?_
      rintro e w1 ⟨rfl, g1⟩
      have HG := As.mk g1
      clear g1
      go_wp2_with fail
      go_ret
      exact ⟨retB HY.out, HG.out⟩
end Go.Proofs.Ytdmkijdbldcdiaa
