/- The walk of layer 5's great. -/
import Derived.Test.YtmehohpboliibaaArr
namespace Go.Proofs.Ytmehohpboliibaa
open Go.RowKit
set_option linter.unusedVariables false

set_option maxHeartbeats 3200000 in
theorem great5_walk (v : Value) (l : List DOp) (w : World) (h : Arr DOpE 3 w v l) (hb : ∀ o ∈ l, ∀ s ∈ o.l, s.size ≤ 140737488351232) :
    Calls Try.prog 43 #[v, .int .i64 40] w fun e w' => (∃ b, e = .returned (.bool b) ∧ (b = false → total l l.length ≤ 9000 ∧ Small l ∧ l.length ≤ 40)) ∧ w.grownBy w' none := by
  obtain ⟨A, c, rfl⟩ := h.len
  have H := As.mk h
  have hl := h.le
  have HB := As.mk hb
  clear h hb
  by_cases h40 : l.length ≤ 40
  · have H40 := As.mk h40
    go_enter Try.func43, Try.ntmps43
    go_wp2_with fail
    go_loopw [5, 16] (fun n i wr => ∃ k : Nat, k ≤ l.length ∧ n = .int .i64 (total l k : Nat) ∧ i = .int .i64 k ∧ total l k ≤ 9000 ∧ As (∀ j o, j < k → l[j]? = some o → o.l.length ≤ 20) ∧ As (w.grownBy wr none)) (fun _ i _ => l.length - (intOf i).toNat)
    case atStart => exact ⟨0, Nat.zero_le _, rfl, rfl, by simp [total], ⟨fun j o hj => absurd hj (by omega)⟩, ⟨gr_refl _ _⟩⟩
    case round =>
      obtain ⟨k, hk, rfl, rfl, ht, HT, HG⟩ := hrel
      by_cases hlt : k < l.length
      · have hltI : (k : Int) < (l.length : Int) := by omega
        have hk0 : (0 : Int) ≤ (k : Int) := by omega
        obtain ⟨b, o, cs, rfl, ⟨u, rfl, hu⟩, hcs, hcell⟩ := H.out.at_ k l[k] (List.getElem?_eq_getElem hlt)
        have hg := HG.out
        have c0 : wr.cell? ⟨b, o + k * 3, none⟩ = _ := hg.cell (hcell 0 _ rfl) (by simp)
        have c1 : wr.cell? ⟨b, o + k * 3 + 1, none⟩ = _ := hg.cell (hcell 1 _ rfl) (by simp)
        have c2 : wr.cell? ⟨b, o + k * 3 + 2, none⟩ = _ := hg.cell (hcell 2 _ rfl) (by simp)
        have hbw := World.block_lt_of_cell? wr _ c0
        have etot : total l (k + 1) = total l k + sumN l[k].l l[k].l.length := by rw [total, List.getElem?_eq_getElem hlt]
        have EQ := As.mk etot
        have HU := As.mk hu
        have LK := As.mk (List.getElem?_eq_getElem hlt)
        obtain ⟨A2, c2', rfl⟩ := hu.len
        clear hcell hcs etot hu hg
        dsimp only at hbw
        generalize total l k = tk at *
        generalize l[k] = x at *
        by_cases h20 : x.l.length ≤ 20
        · go_wp2_with fail
          go_loopw [5, 27] (fun n i w2 => ∃ j : Nat, j ≤ x.l.length ∧ n = .int .i64 (tk + sumN x.l j : Nat) ∧ i = .int .i64 j ∧ tk + sumN x.l j ≤ 9000 ∧ As (w.grownBy w2 none)) (fun _ i _ => x.l.length - (intOf i).toNat)
          case atStart => exact ⟨0, Nat.zero_le _, by simp [sumN], rfl, by simpa [sumN] using ht, ⟨gr_alloc HG.out _⟩⟩
          case round =>
            obtain ⟨j, hj, rfl, rfl, hs, HG2⟩ := hrel
            by_cases hjl : j < x.l.length
            · have hltJ : (j : Int) < (x.l.length : Int) := by omega
              have hj0 : (0 : Int) ≤ (j : Int) := by omega
              obtain ⟨b2, o2, rfl, cj⟩ := HU.out.at_ j hjl
              have cj2 := HG2.out.cell cj (by simp)
              have hsz : (x.l.getD j ⟨#[]⟩).size ≤ 140737488351232 := by
                have h1 : x ∈ l := List.mem_of_getElem? LK.out
                rw [List.getD_eq_getElem?_getD, List.getElem?_eq_getElem hjl]
                exact HB.out x h1 _ (List.getElem_mem hjl)
              have ES : sumN x.l (j + 1) = sumN x.l j + (x.l.getD j ⟨#[]⟩).size := rfl
              have ES := As.mk ES
              have hA : ∃ acc, acc = tk + sumN x.l j := ⟨_, rfl⟩
              obtain ⟨acc, hacc⟩ := hA
              rw [← hacc] at hs ⊢
              have HA := As.mk hacc
              clear hacc cj
              generalize x.l.getD j ⟨#[]⟩ = s at *
              have e1 : IntKind.i64.wrap ((acc : Int) + (s.size : Int)) = (acc : Int) + (s.size : Int) := by rw [IntKind.wrap_i64]; omega
              by_cases h3 : acc + s.size ≤ 9000
              · have h3I : ¬ (9000 : Int) < (acc : Int) + (s.size : Int) := by omega
                go_wp2_with fail
                go_roundw
                case measure => simp [intOf]; omega
                case rel => exact ⟨j + 1, by omega, by rw [ES.out]; have := HA.out; congr 1; omega, by go_num, by rw [ES.out]; have := HA.out; omega, HG2⟩
              · have h3I : (9000 : Int) < (acc : Int) + (s.size : Int) := by omega
                go_wp2
                go_ret
                exact ⟨⟨true, rfl, by simp⟩, HG2.out⟩
            · obtain rfl : j = x.l.length := by omega
              go_wp2_with fail
              go_roundw
              case measure => simp [intOf]; omega
              case rel => exact ⟨k + 1, by omega, by rw [EQ.out], by go_num, by rw [EQ.out]; exact hs, ⟨fun j o hj ho => by
                rcases Nat.lt_succ_iff_lt_or_eq.1 hj with hj | rfl
                · exact HT.out j o hj ho
                · rw [LK.out] at ho
                  injection ho with ho
                  subst ho
                  exact h20⟩, HG2⟩
        · go_wp2
          go_ret
          exact ⟨⟨true, rfl, by simp⟩, gr_alloc HG.out _⟩
      · obtain rfl : k = l.length := by omega
        go_wp2
        go_ret
        exact ⟨⟨false, rfl, fun _ => ⟨ht, fun o ho => by
          obtain ⟨j, hj, rfl⟩ := List.getElem_of_mem ho
          exact HT.out j _ hj (List.getElem?_eq_getElem hj), H40.out⟩⟩, HG.out⟩
  · go_enter Try.func43, Try.ntmps43
    go_wp2
    go_ret
    exact ⟨⟨true, rfl, by simp⟩, gr_refl _ _⟩
end Go.Proofs.Ytmehohpboliibaa
