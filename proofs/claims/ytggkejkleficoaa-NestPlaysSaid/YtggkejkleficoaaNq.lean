/- The walk of the document's SameItems, at lists that are alike. -/
import Derived.Test.YtggkejkleficoaaNs
import Derived.WalkSpells
import Derived.Deep.RegionLaw
import Derived.Deep.LoopGhost
namespace Go.Proofs.Ytggkejkleficoaa
open Go.RowKit
set_option linter.unusedVariables false

set_option maxRecDepth 100000 in
set_option maxHeartbeats 6400000 in
theorem sameItems_c (v v' : Value) (l : List PIt) (w : World) (h : Arr ItE 5 w v l) (h' : Arr ItE 5 w v' l) :
    Calls Try.prog 22 #[v, v'] w fun e w' => e = .returned (.bool true) ∧ ∃ n, w' = w.drewN n := by
  obtain ⟨A, c, rfl⟩ := h.len
  obtain ⟨A', c', rfl⟩ := h'.len
  have hl := h.le
  have H := As.mk h
  have H' := As.mk h'
  clear h h'
  go_enter Try.func22, Try.ntmps22
  go_wp2_with fail
  go_loopw [5] (fun i wr => ∃ k : Nat, k ≤ l.length ∧ i = .int .i64 k ∧ ∃ n, wr = w.drewN n) (fun i _ => l.length - (Go.RowKit.intOf i).toNat)
  case atStart => exact ⟨0, Nat.zero_le _, rfl, 0, rfl⟩
  case round =>
    obtain ⟨k, hk, rfl, nd, rfl⟩ := hrel
    by_cases hlt : k < l.length
    · have hltI : (k : Int) < (l.length : Int) := by omega
      have hk0 : (0 : Int) ≤ (k : Int) := by omega
      obtain ⟨b, o, cs, rfl, rfl, hcs, hcell⟩ := H.out.at_ k l[k] (List.getElem?_eq_getElem hlt)
      obtain ⟨b', o', cs', rfl, rfl, hcs', hcell'⟩ := H'.out.at_ k l[k] (List.getElem?_eq_getElem hlt)
      have c0 : w.cell? ⟨b, o + k * 5, none⟩ = _ := hcell 0 _ rfl
      have c1 := hcell 1 _ rfl
      have c2 := hcell 2 _ rfl
      have c3 := hcell 3 _ rfl
      have c4 := hcell 4 _ rfl
      have c0' : w.cell? ⟨b', o' + k * 5, none⟩ = _ := hcell' 0 _ rfl
      have c1' := hcell' 1 _ rfl
      have c2' := hcell' 2 _ rfl
      have c3' := hcell' 3 _ rfl
      have c4' := hcell' 4 _ rfl
      clear hcell hcell' hcs hcs'
      generalize l[k]'hlt = x at *
      go_wp2_with fail
      go_quiet (fail)
      go_wp2_with fail
      go_roundw
      case measure => simp [Go.RowKit.intOf]; omega
      case rel => exact ⟨k + 1, by omega, by go_num, _, rfl⟩
    · obtain rfl : k = l.length := by omega
      go_wp2_with fail
      go_ret
      exact ⟨rfl, _, rfl⟩
end Go.Proofs.Ytggkejkleficoaa
