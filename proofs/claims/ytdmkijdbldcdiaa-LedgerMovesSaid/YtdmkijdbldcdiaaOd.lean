/- The walks of the document's Same, at states that are alike. (Printed by wip/gen/gen_od.py.) -/
import Derived.Test.YtdmkijdbldcdiaaOc
import Derived.WalkSpells
import Derived.Deep.RegionLaw
import Derived.Deep.LoopGhost
namespace Go.Proofs.Ytdmkijdbldcdiaa
open Go.RowKit
set_option linter.unusedVariables false
set_option linter.unusedSimpArgs false
set_option maxRecDepth 100000

theorem Arr.itG {w w' : World} {v : Value} {l : List PIt} (h : Arr ItE 5 w v l) (hg : w.grownBy w' none) : Arr ItE 5 w' v l := h.below hg (fun _ _ h => h)
theorem Arr.inG {w w' : World} {v : Value} {l : List Int} (h : Arr IE 1 w v l) (hg : w.grownBy w' none) : Arr IE 1 w' v l := h.below hg (fun _ _ h => h)
set_option maxHeartbeats 3200000 in
/-- Items that are alike. -/
theorem sameIt_c (v v' : Value) (l : List PIt) (w : World) (h : Arr ItE 5 w v l) (h' : Arr ItE 5 w v' l) :
    Calls Try.prog 27 #[v, v'] w fun e w' => e = .returned (.bool true) ∧ ∃ n, w' = w.drewN n := by
  obtain ⟨A, c, rfl⟩ := h.len
  obtain ⟨A', c', rfl⟩ := h'.len
  have hl := h.le
  have H := As.mk h
  have H' := As.mk h'
  clear h h'
  go_enter Try.func27, Try.ntmps27
  go_wp2_with fail
  go_loopw [5] (fun i wr => ∃ k : Nat, k ≤ l.length ∧ i = .int .i64 k ∧ ∃ n, wr = w.drewN n) (fun i _ => l.length - (Go.RowKit.intOf i).toNat)
  case atStart => exact ⟨0, Nat.zero_le _, rfl, 0, rfl⟩
  case round =>
    obtain ⟨k, hk, rfl, nd, rfl⟩ := hrel
    by_cases hlt : k < l.length
    · have hltI : (k : Int) < (l.length : Int) := by omega
      have hk0 : (0 : Int) ≤ (k : Int) := by omega
      obtain ⟨b, o, cs, rfl, rfl, hcs, hcell⟩ := H.out.at_ k l[k] (List.getElem?_eq_getElem hlt)
      obtain ⟨b', o', cs', rfl, rfl, hcs', hcell'⟩ := H'.out.at_ k l[k] (List.getElem?_eq_getElem hlt)
      have c0: w.cell? ⟨b, o + k * 5, none⟩ = _ := hcell 0 _ rfl
      have d0: w.cell? ⟨b', o' + k * 5, none⟩ = _ := hcell' 0 _ rfl
      have c1 := hcell 1 _ rfl
      have d1 := hcell' 1 _ rfl
      have c2 := hcell 2 _ rfl
      have d2 := hcell' 2 _ rfl
      have c3 := hcell 3 _ rfl
      have d3 := hcell' 3 _ rfl
      have c4 := hcell 4 _ rfl
      have d4 := hcell' 4 _ rfl
      clear hcell hcell' hcs hcs'
      generalize l[k]'hlt = x at *
      go_wp2_with fail
      go_quiet (fail)
      go_wp2_with fail
      go_roundw
      case measure => simp [Go.RowKit.intOf]; omega
      case rel => exact ⟨k + 1, by omega, by go_num, _, rfl⟩
    · obtain rfl : k = l.length := by omega
      go_wp2_with fail
      go_ret
      exact ⟨rfl, _, rfl⟩
set_option maxHeartbeats 3200000 in
/-- Nodes that are alike. -/
theorem sameNo_c (v v' : Value) (l : List Int) (w : World) (h : Arr IE 1 w v l) (h' : Arr IE 1 w v' l) :
    Calls Try.prog 28 #[v, v'] w fun e w' => e = .returned (.bool true) ∧ ∃ n, w' = w.drewN n := by
  obtain ⟨A, c, rfl⟩ := h.len
  obtain ⟨A', c', rfl⟩ := h'.len
  have hl := h.le
  have H := As.mk h
  have H' := As.mk h'
  clear h h'
  go_enter Try.func28, Try.ntmps28
  go_wp2_with fail
  go_loopw [5] (fun i wr => ∃ k : Nat, k ≤ l.length ∧ i = .int .i64 k ∧ ∃ n, wr = w.drewN n) (fun i _ => l.length - (Go.RowKit.intOf i).toNat)
  case atStart => exact ⟨0, Nat.zero_le _, rfl, 0, rfl⟩
  case round =>
    obtain ⟨k, hk, rfl, nd, rfl⟩ := hrel
    by_cases hlt : k < l.length
    · have hltI : (k : Int) < (l.length : Int) := by omega
      have hk0 : (0 : Int) ≤ (k : Int) := by omega
      obtain ⟨b, o, cs, rfl, rfl, hcs, hcell⟩ := H.out.at_ k l[k] (List.getElem?_eq_getElem hlt)
      obtain ⟨b', o', cs', rfl, rfl, hcs', hcell'⟩ := H'.out.at_ k l[k] (List.getElem?_eq_getElem hlt)
      have c0 := hcell 0 _ rfl
      have d0 := hcell' 0 _ rfl
      simp only [Nat.add_zero, Nat.mul_one] at c0 d0
      clear hcell hcell' hcs hcs'
      generalize l[k]'hlt = x at *
      go_wp2_with fail
      go_quiet (fail)
      go_wp2_with fail
      go_roundw
      case measure => simp [Go.RowKit.intOf]; omega
      case rel => exact ⟨k + 1, by omega, by go_num, _, rfl⟩
    · obtain rfl : k = l.length := by omega
      go_wp2_with fail
      go_ret
      exact ⟨rfl, _, rfl⟩
set_option maxHeartbeats 12800000 in
theorem Same_c (w : World) (s : PSt) (vP vQ vD vC wP wQ wD wC : Value) (h : StR w s vP vQ vD vC) (h' : StR w s wP wQ wD wC) :
    Calls Try.prog 12 #[.agg (stCells s vP vQ vD vC), .agg (stCells s wP wQ wD wC)] w fun e w' => e = .returned (.bool true) ∧ w.grownBy w' none := by
  obtain ⟨A1, c1, rfl⟩ := h.pl.len
  obtain ⟨B1, d1, rfl⟩ := h'.pl.len
  obtain ⟨A2, c2, rfl⟩ := h.pr.len
  obtain ⟨B2, d2, rfl⟩ := h'.pr.len
  obtain ⟨A3, c3, rfl⟩ := h.de.len
  obtain ⟨B3, d3, rfl⟩ := h'.de.len
  obtain ⟨A4, c4, rfl⟩ := h.cm.len
  obtain ⟨B4, d4, rfl⟩ := h'.cm.len
  have HLE := As.mk (And.intro h.pl.le (And.intro h.pr.le (And.intro h.de.le h.cm.le)))
  have HA := As.mk h
  have HB := As.mk h'
  clear h h'
  unfold stCells
  have hga := gr_alloc (gr_alloc (gr_refl w none) (.cells #[.int .i64 s.node, .int .i64 s.nodes, .int .i64 s.cells, .int .i64 s.epoch, .slice A1 s.places.length c1, .slice A2 s.prepared.length c2, .slice A3 s.decided.length c3, .slice A4 s.commits.length c4] 50)) (.cells #[.int .i64 s.node, .int .i64 s.nodes, .int .i64 s.cells, .int .i64 s.epoch, .slice B1 s.places.length d1, .slice B2 s.prepared.length d2, .slice B3 s.decided.length d3, .slice B4 s.commits.length d4] 50)
  have HG := As.mk hga
  have HX := As.mk ((Blk.new w 50 #[.int .i64 s.node, .int .i64 s.nodes, .int .i64 s.cells, .int .i64 s.epoch, .slice A1 s.places.length c1, .slice A2 s.prepared.length c2, .slice A3 s.decided.length c3, .slice A4 s.commits.length c4]).alloc (.cells #[.int .i64 s.node, .int .i64 s.nodes, .int .i64 s.cells, .int .i64 s.epoch, .slice B1 s.places.length d1, .slice B2 s.prepared.length d2, .slice B3 s.decided.length d3, .slice B4 s.commits.length d4] 50))
  have HY := As.mk (Blk.new2 w (.cells #[.int .i64 s.node, .int .i64 s.nodes, .int .i64 s.cells, .int .i64 s.epoch, .slice A1 s.places.length c1, .slice A2 s.prepared.length c2, .slice A3 s.decided.length c3, .slice A4 s.commits.length c4] 50) 50 #[.int .i64 s.node, .int .i64 s.nodes, .int .i64 s.cells, .int .i64 s.epoch, .slice B1 s.places.length d1, .slice B2 s.prepared.length d2, .slice B3 s.decided.length d3, .slice B4 s.commits.length d4])
  clear hga
  go_enter Try.func12, Try.ntmps12
  go_wp2_with fail
  generalize (w.alloc (.cells #[.int .i64 s.node, .int .i64 s.nodes, .int .i64 s.cells, .int .i64 s.epoch, .slice A1 s.places.length c1, .slice A2 s.prepared.length c2, .slice A3 s.decided.length c3, .slice A4 s.commits.length c4] 50)).alloc (.cells #[.int .i64 s.node, .int .i64 s.nodes, .int .i64 s.cells, .int .i64 s.epoch, .slice B1 s.places.length d1, .slice B2 s.prepared.length d2, .slice B3 s.decided.length d3, .slice B4 s.commits.length d4] 50) = W at *
  have hlz1 : s.places.length ≤ 9223372036854775807 := HLE.out.1
  go_loopw [5] (fun i wr => ∃ k : Nat, k ≤ s.places.length ∧ i = .int .i64 k ∧ As (w.grownBy wr none ∧ Blk wr w.heap.size 50 #[.int .i64 s.node, .int .i64 s.nodes, .int .i64 s.cells, .int .i64 s.epoch, .slice A1 s.places.length c1, .slice A2 s.prepared.length c2, .slice A3 s.decided.length c3, .slice A4 s.commits.length c4] ∧ Blk wr (w.heap.size + 1) 50 #[.int .i64 s.node, .int .i64 s.nodes, .int .i64 s.cells, .int .i64 s.epoch, .slice B1 s.places.length d1, .slice B2 s.prepared.length d2, .slice B3 s.decided.length d3, .slice B4 s.commits.length d4])) (fun i _ => s.places.length - (Go.RowKit.intOf i).toNat)
  case atStart => exact ⟨0, Nat.zero_le _, rfl, ⟨HG.out, HX.out, HY.out⟩⟩
  case round =>
    obtain ⟨k, hk, rfl, HL⟩ := hrel
    clear HG HX HY
    obtain ⟨HG, HX, HY⟩ := HL.out
    clear HL
    replace HG := As.mk HG
    replace HX := As.mk HX
    replace HY := As.mk HY
    by_cases hlt : k < s.places.length
    · have hltI : (k : Int) < (s.places.length : Int) := by omega
      have hk0 : (0 : Int) ≤ (k : Int) := by omega
      obtain ⟨x, hx⟩ : ∃ x, s.places[k]? = some x := ⟨_, List.getElem?_eq_getElem hlt⟩
      obtain ⟨b, o, cs, rfl, rfl, _, hc⟩ := HA.out.pl.at_ k x hx
      obtain ⟨b', o', cs', rfl, rfl, _, hc'⟩ := HB.out.pl.at_ k x hx
      have hle1 := HA.out.pl.cap
      have hle2 := HB.out.pl.cap
      have e0 := HG.out.cell (hc 0 _ rfl) (by simp)
      have f0 := HG.out.cell (hc' 0 _ rfl) (by simp)
      have e1 := HG.out.cell (hc 1 _ rfl) (by simp)
      have f1 := HG.out.cell (hc' 1 _ rfl) (by simp)
      have e2 := HG.out.cell (hc 2 _ rfl) (by simp)
      have f2 := HG.out.cell (hc' 2 _ rfl) (by simp)
      have e3 := HG.out.cell (hc 3 _ rfl) (by simp)
      have f3 := HG.out.cell (hc' 3 _ rfl) (by simp)
      have e4 := HG.out.cell (hc 4 _ rfl) (by simp)
      have f4 := HG.out.cell (hc' 4 _ rfl) (by simp)
      simp only [Nat.add_zero] at e0 f0
      clear hc hc' hx
      obtain ⟨p0, p1, p2, p3, p4, p5, p6, p7⟩ := (HX.out).c8
      obtain ⟨q0, q1, q2, q3, q4, q5, q6, q7⟩ := (HY.out).c8
      go_wp2_with fail
      go_quiet (fail)
      go_wp2_with fail
      clear e0 f0 e1 f1 e2 f2 e3 f3 e4 f4
      clear p0 p1 p2 p3 p4 p5 p6 p7 q0 q1 q2 q3 q4 q5 q6 q7
      go_roundw
      case measure => simp [Go.RowKit.intOf]; omega
      case rel => exact ⟨k + 1, by omega, by go_num, ⟨gr_drewN HG.out _, HX.out.drewN _, HY.out.drewN _⟩⟩
    · obtain rfl : k = s.places.length := by omega
      clear hlt hk
      obtain ⟨p0, p1, p2, p3, p4, p5, p6, p7⟩ := (HX.out).c8
      obtain ⟨q0, q1, q2, q3, q4, q5, q6, q7⟩ := (HY.out).c8
      go_wp2_with fail
      clear p0 p1 p2 p3 p4 p5 p6 p7 q0 q1 q2 q3 q4 q5 q6 q7
      have hlz2 : s.prepared.length ≤ 9223372036854775807 := HLE.out.2.1
      go_loopw [6] (fun i wr => ∃ k : Nat, k ≤ s.prepared.length ∧ i = .int .i64 k ∧ As (w.grownBy wr none ∧ Blk wr w.heap.size 50 #[.int .i64 s.node, .int .i64 s.nodes, .int .i64 s.cells, .int .i64 s.epoch, .slice A1 s.places.length c1, .slice A2 s.prepared.length c2, .slice A3 s.decided.length c3, .slice A4 s.commits.length c4] ∧ Blk wr (w.heap.size + 1) 50 #[.int .i64 s.node, .int .i64 s.nodes, .int .i64 s.cells, .int .i64 s.epoch, .slice B1 s.places.length d1, .slice B2 s.prepared.length d2, .slice B3 s.decided.length d3, .slice B4 s.commits.length d4])) (fun i _ => s.prepared.length - (Go.RowKit.intOf i).toNat)
      case atStart => exact ⟨0, Nat.zero_le _, rfl, ⟨HG.out, HX.out, HY.out⟩⟩
      case round =>
        obtain ⟨k, hk, rfl, HL⟩ := hrel
        clear HG HX HY
        obtain ⟨HG, HX, HY⟩ := HL.out
        clear HL
        replace HG := As.mk HG
        replace HX := As.mk HX
        replace HY := As.mk HY
        by_cases hlt : k < s.prepared.length
        · have hltI : (k : Int) < (s.prepared.length : Int) := by omega
          have hk0 : (0 : Int) ≤ (k : Int) := by omega
          obtain ⟨x, hx⟩ : ∃ x, s.prepared[k]? = some x := ⟨_, List.getElem?_eq_getElem hlt⟩
          obtain ⟨b, o, cs, rfl, ⟨I1, i1, N1, n1, rfl, hi1, hn1⟩, _, hc⟩ := HA.out.pr.at_ k x hx
          obtain ⟨b', o', cs', rfl, ⟨I2, i2, N2, n2, rfl, hi2, hn2⟩, _, hc'⟩ := HB.out.pr.at_ k x hx
          have HI1 := As.mk hi1
          have HI2 := As.mk hi2
          have HN1 := As.mk hn1
          have HN2 := As.mk hn2
          clear hi1 hi2 hn1 hn2
          have hle1 := HA.out.pr.cap
          have hle2 := HB.out.pr.cap
          have e0 := HG.out.cell (hc 0 _ rfl) (by simp)
          have f0 := HG.out.cell (hc' 0 _ rfl) (by simp)
          have e1 := HG.out.cell (hc 1 _ rfl) (by simp)
          have f1 := HG.out.cell (hc' 1 _ rfl) (by simp)
          have e2 := HG.out.cell (hc 2 _ rfl) (by simp)
          have f2 := HG.out.cell (hc' 2 _ rfl) (by simp)
          have e3 := HG.out.cell (hc 3 _ rfl) (by simp)
          have f3 := HG.out.cell (hc' 3 _ rfl) (by simp)
          have e4 := HG.out.cell (hc 4 _ rfl) (by simp)
          have f4 := HG.out.cell (hc' 4 _ rfl) (by simp)
          simp only [Nat.add_zero] at e0 f0
          clear hc hc' hx
          have WI1 := As.mk (HI1.out.below HG.out (fun _ _ h => h))
          have WI2 := As.mk (HI2.out.below HG.out (fun _ _ h => h))
          have WN1 := As.mk (HN1.out.below HG.out (fun _ _ h => h))
          have WN2 := As.mk (HN2.out.below HG.out (fun _ _ h => h))
          obtain ⟨p0, p1, p2, p3, p4, p5, p6, p7⟩ := (HX.out).c8
          obtain ⟨q0, q1, q2, q3, q4, q5, q6, q7⟩ := (HY.out).c8
          go_wp2_with fail
          go_quiet ((first | (go_at_call 27; exact Calls.quiet_of (sameIt_c _ _ x.items _ (WI1.out.below (gr_drewN (gr_refl wr none) _) (fun _ _ h => h)) (WI2.out.below (gr_drewN (gr_refl wr none) _) (fun _ _ h => h)))) | (go_at_call 28; exact Calls.quiet_of (sameNo_c _ _ x.nodes _ (WN1.out.below (gr_drewN (gr_refl wr none) _) (fun _ _ h => h)) (WN2.out.below (gr_drewN (gr_refl wr none) _) (fun _ _ h => h))))))
          go_wp2_with fail
          clear e0 f0 e1 f1 e2 f2 e3 f3 e4 f4
          clear p0 p1 p2 p3 p4 p5 p6 p7 q0 q1 q2 q3 q4 q5 q6 q7
          go_roundw
          case measure => simp [Go.RowKit.intOf]; omega
          case rel => exact ⟨k + 1, by omega, by go_num, ⟨gr_drewN HG.out _, HX.out.drewN _, HY.out.drewN _⟩⟩
        · obtain rfl : k = s.prepared.length := by omega
          clear hlt hk
          obtain ⟨p0, p1, p2, p3, p4, p5, p6, p7⟩ := (HX.out).c8
          obtain ⟨q0, q1, q2, q3, q4, q5, q6, q7⟩ := (HY.out).c8
          go_wp2_with fail
          clear p0 p1 p2 p3 p4 p5 p6 p7 q0 q1 q2 q3 q4 q5 q6 q7
          have hlz3 : s.decided.length ≤ 9223372036854775807 := HLE.out.2.2.1
          go_loopw [7] (fun i wr => ∃ k : Nat, k ≤ s.decided.length ∧ i = .int .i64 k ∧ As (w.grownBy wr none ∧ Blk wr w.heap.size 50 #[.int .i64 s.node, .int .i64 s.nodes, .int .i64 s.cells, .int .i64 s.epoch, .slice A1 s.places.length c1, .slice A2 s.prepared.length c2, .slice A3 s.decided.length c3, .slice A4 s.commits.length c4] ∧ Blk wr (w.heap.size + 1) 50 #[.int .i64 s.node, .int .i64 s.nodes, .int .i64 s.cells, .int .i64 s.epoch, .slice B1 s.places.length d1, .slice B2 s.prepared.length d2, .slice B3 s.decided.length d3, .slice B4 s.commits.length d4])) (fun i _ => s.decided.length - (Go.RowKit.intOf i).toNat)
          case atStart => exact ⟨0, Nat.zero_le _, rfl, ⟨HG.out, HX.out, HY.out⟩⟩
          case round =>
            obtain ⟨k, hk, rfl, HL⟩ := hrel
            clear HG HX HY
            obtain ⟨HG, HX, HY⟩ := HL.out
            clear HL
            replace HG := As.mk HG
            replace HX := As.mk HX
            replace HY := As.mk HY
            by_cases hlt : k < s.decided.length
            · have hltI : (k : Int) < (s.decided.length : Int) := by omega
              have hk0 : (0 : Int) ≤ (k : Int) := by omega
              obtain ⟨x, hx⟩ : ∃ x, s.decided[k]? = some x := ⟨_, List.getElem?_eq_getElem hlt⟩
              obtain ⟨b, o, cs, rfl, rfl, _, hc⟩ := HA.out.de.at_ k x hx
              obtain ⟨b', o', cs', rfl, rfl, _, hc'⟩ := HB.out.de.at_ k x hx
              have hle1 := HA.out.de.cap
              have hle2 := HB.out.de.cap
              have e0 := HG.out.cell (hc 0 _ rfl) (by simp)
              have f0 := HG.out.cell (hc' 0 _ rfl) (by simp)
              have e1 := HG.out.cell (hc 1 _ rfl) (by simp)
              have f1 := HG.out.cell (hc' 1 _ rfl) (by simp)
              have e2 := HG.out.cell (hc 2 _ rfl) (by simp)
              have f2 := HG.out.cell (hc' 2 _ rfl) (by simp)
              have e3 := HG.out.cell (hc 3 _ rfl) (by simp)
              have f3 := HG.out.cell (hc' 3 _ rfl) (by simp)
              simp only [Nat.add_zero] at e0 f0
              clear hc hc' hx
              obtain ⟨p0, p1, p2, p3, p4, p5, p6, p7⟩ := (HX.out).c8
              obtain ⟨q0, q1, q2, q3, q4, q5, q6, q7⟩ := (HY.out).c8
              go_wp2_with fail
              go_quiet (fail)
              go_wp2_with fail
              clear e0 f0 e1 f1 e2 f2 e3 f3
              clear p0 p1 p2 p3 p4 p5 p6 p7 q0 q1 q2 q3 q4 q5 q6 q7
              go_roundw
              case measure => simp [Go.RowKit.intOf]; omega
              case rel => exact ⟨k + 1, by omega, by go_num, ⟨gr_drewN HG.out _, HX.out.drewN _, HY.out.drewN _⟩⟩
            · obtain rfl : k = s.decided.length := by omega
              clear hlt hk
              obtain ⟨p0, p1, p2, p3, p4, p5, p6, p7⟩ := (HX.out).c8
              obtain ⟨q0, q1, q2, q3, q4, q5, q6, q7⟩ := (HY.out).c8
              go_wp2_with fail
              clear p0 p1 p2 p3 p4 p5 p6 p7 q0 q1 q2 q3 q4 q5 q6 q7
              have hlz4 : s.commits.length ≤ 9223372036854775807 := HLE.out.2.2.2
              go_loopw [8] (fun i wr => ∃ k : Nat, k ≤ s.commits.length ∧ i = .int .i64 k ∧ As (w.grownBy wr none ∧ Blk wr w.heap.size 50 #[.int .i64 s.node, .int .i64 s.nodes, .int .i64 s.cells, .int .i64 s.epoch, .slice A1 s.places.length c1, .slice A2 s.prepared.length c2, .slice A3 s.decided.length c3, .slice A4 s.commits.length c4] ∧ Blk wr (w.heap.size + 1) 50 #[.int .i64 s.node, .int .i64 s.nodes, .int .i64 s.cells, .int .i64 s.epoch, .slice B1 s.places.length d1, .slice B2 s.prepared.length d2, .slice B3 s.decided.length d3, .slice B4 s.commits.length d4])) (fun i _ => s.commits.length - (Go.RowKit.intOf i).toNat)
              case atStart => exact ⟨0, Nat.zero_le _, rfl, ⟨HG.out, HX.out, HY.out⟩⟩
              case round =>
                obtain ⟨k, hk, rfl, HL⟩ := hrel
                clear HG HX HY
                obtain ⟨HG, HX, HY⟩ := HL.out
                clear HL
                replace HG := As.mk HG
                replace HX := As.mk HX
                replace HY := As.mk HY
                by_cases hlt : k < s.commits.length
                · have hltI : (k : Int) < (s.commits.length : Int) := by omega
                  have hk0 : (0 : Int) ≤ (k : Int) := by omega
                  obtain ⟨x, hx⟩ : ∃ x, s.commits[k]? = some x := ⟨_, List.getElem?_eq_getElem hlt⟩
                  obtain ⟨b, o, cs, rfl, ⟨I1, i1, N1, n1, rfl, hi1, hn1⟩, _, hc⟩ := HA.out.cm.at_ k x hx
                  obtain ⟨b', o', cs', rfl, ⟨I2, i2, N2, n2, rfl, hi2, hn2⟩, _, hc'⟩ := HB.out.cm.at_ k x hx
                  have HI1 := As.mk hi1
                  have HI2 := As.mk hi2
                  have HN1 := As.mk hn1
                  have HN2 := As.mk hn2
                  clear hi1 hi2 hn1 hn2
                  have hle1 := HA.out.cm.cap
                  have hle2 := HB.out.cm.cap
                  have e0 := HG.out.cell (hc 0 _ rfl) (by simp)
                  have f0 := HG.out.cell (hc' 0 _ rfl) (by simp)
                  have e1 := HG.out.cell (hc 1 _ rfl) (by simp)
                  have f1 := HG.out.cell (hc' 1 _ rfl) (by simp)
                  have e2 := HG.out.cell (hc 2 _ rfl) (by simp)
                  have f2 := HG.out.cell (hc' 2 _ rfl) (by simp)
                  have e3 := HG.out.cell (hc 3 _ rfl) (by simp)
                  have f3 := HG.out.cell (hc' 3 _ rfl) (by simp)
                  have e4 := HG.out.cell (hc 4 _ rfl) (by simp)
                  have f4 := HG.out.cell (hc' 4 _ rfl) (by simp)
                  have e5 := HG.out.cell (hc 5 _ rfl) (by simp)
                  have f5 := HG.out.cell (hc' 5 _ rfl) (by simp)
                  simp only [Nat.add_zero] at e0 f0
                  clear hc hc' hx
                  have WI1 := As.mk (HI1.out.below HG.out (fun _ _ h => h))
                  have WI2 := As.mk (HI2.out.below HG.out (fun _ _ h => h))
                  have WN1 := As.mk (HN1.out.below HG.out (fun _ _ h => h))
                  have WN2 := As.mk (HN2.out.below HG.out (fun _ _ h => h))
                  have EC := As.mk (And.intro e0 (And.intro e1 (And.intro e2 (And.intro e3 (And.intro e4 e5)))))
                  have FC := As.mk (And.intro f0 (And.intro f1 (And.intro f2 (And.intro f3 (And.intro f4 f5)))))
                  clear e0 e1 e2 e3 e4 e5 f0 f1 f2 f3 f4 f5
                  obtain ⟨p0, p1, p2, p3, p4, p5, p6, p7⟩ := (HX.out).c8
                  obtain ⟨q0, q1, q2, q3, q4, q5, q6, q7⟩ := (HY.out).c8
                  go_wp2_with fail
                  clear p0 p1 p2 p3 p4 p5 p6 q0 q1 q2 q3 q4 q5 q6
                  obtain ⟨e0, e1, e2, e3, e4, e5⟩ := EC.out
                  obtain ⟨f0, f1, f2, f3, f4, f5⟩ := FC.out
                  have np := World.new_ne wr _ p7
                  have nq := World.new_ne wr _ q7
                  have ne := World.new_ne wr _ e0
                  have nf := World.new_ne wr _ f0
                  dsimp only at np nq ne nf
                  go_region_held3 (fun w' => w'.cell? ⟨w.heap.size, 7, none⟩ = some (.slice (some ⟨b, o, none⟩) s.commits.length c4) ∧ w'.cell? ⟨w.heap.size + 1, 7, none⟩ = some (.slice (some ⟨b', o', none⟩) s.commits.length d4) ∧ w'.cell? ⟨b, o + k * 6, none⟩ = some (.int .i64 x.tid.n) ∧ w'.cell? ⟨b, o + k * 6 + 1, none⟩ = some (.int .i64 x.tid.e) ∧ w'.cell? ⟨b, o + k * 6 + 2, none⟩ = some (.int .i64 x.tid.s) ∧ w'.cell? ⟨b, o + k * 6 + 3, none⟩ = some (.slice I1 x.items.length i1) ∧ w'.cell? ⟨b, o + k * 6 + 4, none⟩ = some (.slice N1 x.nodes.length n1) ∧ w'.cell? ⟨b, o + k * 6 + 5, none⟩ = some (.bool x.over) ∧ w'.cell? ⟨b', o' + k * 6, none⟩ = some (.int .i64 x.tid.n) ∧ w'.cell? ⟨b', o' + k * 6 + 1, none⟩ = some (.int .i64 x.tid.e) ∧ w'.cell? ⟨b', o' + k * 6 + 2, none⟩ = some (.int .i64 x.tid.s) ∧ w'.cell? ⟨b', o' + k * 6 + 3, none⟩ = some (.slice I2 x.items.length i2) ∧ w'.cell? ⟨b', o' + k * 6 + 4, none⟩ = some (.slice N2 x.nodes.length n2) ∧ w'.cell? ⟨b', o' + k * 6 + 5, none⟩ = some (.bool x.over)) (go_keep) (fail)
                  clear np nq ne nf p7 q7 e0 e1 e2 e3 e4 e5 f0 f1 f2 f3 f4 f5
                  all_goals
                    (try simp only [Exit.then])
                    go_wp2_with fail
                    refine (sameIt_c _ _ x.items _ (WI1.out.itG ?g1) (WI2.out.itG ?g1)).mono ?_
                    case g1 => (repeat (first | exact gr_refl _ _ | refine gr_drew ?_ | refine gr_drewN ?_ _ | refine gr_alloc ?_ _))
                    rintro e1 w1 ⟨rfl, n1, rfl⟩
                    go_wp2_with fail
                    refine (sameNo_c _ _ x.nodes _ (WN1.out.inG ?g2) (WN2.out.inG ?g2)).mono ?_
                    case g2 => (repeat (first | exact gr_refl _ _ | refine gr_drew ?_ | refine gr_drewN ?_ _ | refine gr_alloc ?_ _))
                    rintro e2 w2 ⟨rfl, n2, rfl⟩
                    go_wp2_with fail
                    go_roundw
                    case measure => simp [Go.RowKit.intOf]; omega
                    case rel =>
                      refine ⟨k + 1, by omega, by go_num, ⟨gr_then HG.out (row' := none) ?_ (.inl rfl), HX.out.grown (row := none) ?_ (by simp), HY.out.grown (row := none) ?_ (by simp)⟩⟩
                      all_goals (repeat (first | exact gr_refl _ _ | refine gr_drew ?_ | refine gr_drewN ?_ _ | refine gr_alloc ?_ _))
                · obtain rfl : k = s.commits.length := by omega
                  clear hlt hk
                  obtain ⟨p0, p1, p2, p3, p4, p5, p6, p7⟩ := (HX.out).c8
                  obtain ⟨q0, q1, q2, q3, q4, q5, q6, q7⟩ := (HY.out).c8
                  go_wp2_with fail
                  clear p0 p1 p2 p3 p4 p5 p6 p7 q0 q1 q2 q3 q4 q5 q6 q7
                  go_ret
                  exact ⟨rfl, HG.out⟩
end Go.Proofs.Ytdmkijdbldcdiaa
