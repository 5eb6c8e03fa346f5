/- The walks of Same, over operations and over events: alike lists are told as such. -/
import Derived.Test.YtmmgmdfhdhnmaaaPl
namespace Go.Proofs.Ytmmgmdfhdhnmaaa
open Go.RowKit
set_option linter.unusedVariables false

set_option maxRecDepth 100000 in
set_option maxHeartbeats 3200000 in
theorem same20_walk (v v' : Value) (l : List POp) (w : World) (h : Arr OpE 5 w v l) (h' : Arr OpE 5 w v' l) :
    Calls Try.prog 17 #[v, v'] w fun e w' => e = .returned (.bool true) ∧ ∃ n, w' = w.drewN n := by
  obtain ⟨A, c, rfl⟩ := h.len
  obtain ⟨A', c', rfl⟩ := h'.len
  have hl := h.le
  have H := As.mk h
  have H' := As.mk h'
  clear h h'
  go_enter Try.func17, Try.ntmps17
  go_wp2_with fail
  go_loopw [5] (fun i wr => ∃ k : Nat, k ≤ l.length ∧ i = .int .i64 k ∧ ∃ n, wr = w.drewN n) (fun i _ => l.length - (intOf i).toNat)
  case atStart => exact ⟨0, Nat.zero_le _, rfl, 0, rfl⟩
  case round =>
    obtain ⟨k, hk, rfl, nd, rfl⟩ := hrel
    by_cases hlt : k < l.length
    · have hltI : (k : Int) < (l.length : Int) := by omega
      have hk0 : (0 : Int) ≤ (k : Int) := by omega
      obtain ⟨b, o, cs, rfl, rfl, hcs, hcell⟩ := H.out.at_ k l[k] (List.getElem?_eq_getElem hlt)
      obtain ⟨b', o', cs', rfl, rfl, hcs', hcell'⟩ := H'.out.at_ k l[k] (List.getElem?_eq_getElem hlt)
      have c0 : w.cell? ⟨b, o + k * 5, none⟩ = _ := hcell 0 _ rfl
      have c1 := hcell 1 _ rfl
      have c2 := hcell 2 _ rfl
      have c3 := hcell 3 _ rfl
      have c4 := hcell 4 _ rfl
      have c0' : w.cell? ⟨b', o' + k * 5, none⟩ = _ := hcell' 0 _ rfl
      have c1' := hcell' 1 _ rfl
      have c2' := hcell' 2 _ rfl
      have c3' := hcell' 3 _ rfl
      have c4' := hcell' 4 _ rfl
      clear hcell hcell' hcs hcs'
      go_wp2_with fail
      go_quiet (fail)
      go_wp2_with fail
      go_roundw
      case measure => simp [intOf]; omega
      case rel => exact ⟨k + 1, by omega, by go_num, _, rfl⟩
    · obtain rfl : k = l.length := by omega
      go_wp2
      go_ret
      exact ⟨rfl, _, rfl⟩

def Drawn (w wr : World) : Prop := ∃ n, wr = w.drewN n
theorem Drawn.cell {w wr : World} (h : Drawn w wr) {a : Addr} {v : Value} (hc : w.cell? a = some v) : wr.cell? a = some v := by obtain ⟨n, rfl⟩ := h; exact hc
theorem Drawn.gr {w wr : World} (h : Drawn w wr) : w.grownBy wr none := by obtain ⟨n, rfl⟩ := h; exact gr_drewN (gr_refl _ _) _
theorem Drawn.drewN {w wr : World} (h : Drawn w wr) (m : Nat) : Drawn w (wr.drewN m) := by obtain ⟨n, rfl⟩ := h; exact ⟨n + m, World.drewN_drewN ..⟩
set_option maxRecDepth 100000 in
set_option maxHeartbeats 6400000 in
theorem same26_walk (v v' : Value) (l : List PEv) (w : World) (h : Arr EvE 5 w v l) (h' : Arr EvE 5 w v' l) :
    Calls Try.prog 9 #[v, v'] w fun e w' => e = .returned (.bool true) ∧ ∃ n, w' = w.drewN n := by
  obtain ⟨A, c, rfl⟩ := h.len
  obtain ⟨A', c', rfl⟩ := h'.len
  have hl := h.le
  have H := As.mk h
  have H' := As.mk h'
  clear h h'
  go_enter Try.func9, Try.ntmps9
  go_wp2_with fail
  go_loopw [5] (fun i wr => ∃ k : Nat, k ≤ l.length ∧ i = .int .i64 k ∧ As (Drawn w wr)) (fun i _ => l.length - (intOf i).toNat)
  case atStart => exact ⟨0, Nat.zero_le _, rfl, ⟨0, rfl⟩⟩
  case round =>
    obtain ⟨k, hk, rfl, HD⟩ := hrel
    by_cases hlt : k < l.length
    · have hltI : (k : Int) < (l.length : Int) := by omega
      have hk0 : (0 : Int) ≤ (k : Int) := by omega
      obtain ⟨b, o, cs, rfl, ⟨u, rfl, hu⟩, hcs, hcell⟩ := H.out.at_ k l[k] (List.getElem?_eq_getElem hlt)
      obtain ⟨b', o', cs', rfl, ⟨u', rfl, hu'⟩, hcs', hcell'⟩ := H'.out.at_ k l[k] (List.getElem?_eq_getElem hlt)
      have c0 : wr.cell? ⟨b, o + k * 5, none⟩ = _ := HD.out.cell (hcell 0 _ rfl)
      have c1 := HD.out.cell (hcell 1 _ rfl)
      have c2 := HD.out.cell (hcell 2 _ rfl)
      have c3 := HD.out.cell (hcell 3 _ rfl)
      have c4 := HD.out.cell (hcell 4 _ rfl)
      have c0' : wr.cell? ⟨b', o' + k * 5, none⟩ = _ := HD.out.cell (hcell' 0 _ rfl)
      have c1' := HD.out.cell (hcell' 1 _ rfl)
      have c2' := HD.out.cell (hcell' 2 _ rfl)
      have c3' := HD.out.cell (hcell' 3 _ rfl)
      have c4' := HD.out.cell (hcell' 4 _ rfl)
      obtain ⟨A2, c2a, rfl⟩ := hu.len
      obtain ⟨A3, c3a, rfl⟩ := hu'.len
      have HU := As.mk (hu.below HD.out.gr (fun _ _ => OpE.any _ _))
      have HU' := As.mk (hu'.below HD.out.gr (fun _ _ => OpE.any _ _))
      clear hcell hcell' hcs hcs' hu hu'
      go_wp2_with fail
      go_quiet ((go_at_call 17; exact Calls.quiet_of (same20_walk _ _ _ _ (HU.out.below (gr_drewN (gr_refl _ _) _) (fun _ _ => OpE.any _ _)) (HU'.out.below (gr_drewN (gr_refl _ _) _) (fun _ _ => OpE.any _ _)))))
      go_wp2_with fail
      go_roundw
      case measure => simp [intOf]; omega
      case rel => exact ⟨k + 1, by omega, by go_num, ⟨HD.out.drewN _⟩⟩
    · obtain rfl : k = l.length := by omega
      go_wp2
      go_ret
      exact ⟨rfl, HD.out⟩
end Go.Proofs.Ytmmgmdfhdhnmaaa
