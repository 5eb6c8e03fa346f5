/- slices.Backward over a nest's levels: its contract as an iterator. -/
import Derived.Test.YtgmhopkajopfcaaNf
import Derived.RangeFuncFrom
import Derived.RangeFuncBox
import Derived.RangeFuncLeaves
import Derived.Shelf.Abstract
import Derived.OwnWalkIn
import Derived.TacticsInMore
import Derived.LoopNIn
import Derived.LoopIn
import Derived.Maps.OwnIn
namespace Go.Proofs.Ytgmhopkajopfcaa
open Go.RowKit Go.Shelf
set_option linter.unusedVariables false
attribute [local go_sem] Oper.semAt_some

/-- What has come when k rounds are over: the levels from the last one on. -/
def revs (n : Nat) : Nat → List (Fin n)
  | 0 => []
  | k + 1 => revs n k ++ (if h : n - 1 - k < n then [⟨n - 1 - k, h⟩] else [])
theorem revs_succ {n k : Nat} (h : k < n) : revs n (k + 1) = revs n k ++ [⟨n - 1 - k, by omega⟩] := by
  rw [revs, dif_pos (by omega)]
theorem revs_length {n : Nat} : ∀ {k : Nat}, k ≤ n → (revs n k).length = k
  | 0, _ => rfl
  | k + 1, h => by rw [revs_succ (by omega), List.length_append, revs_length (by omega)]; rfl
def mapAt (bs : List Nat) (i : Fin bs.length) : Array Value := #[.int .i64 (i.1 : Int), .map (some (bs.getD i.1 0))]
set_option maxRecDepth 100000 in
set_option maxHeartbeats 2000000 in
theorem back1_in (F : Fence) (n : Nat) (h41 : F.fn 79) (hro : F.round = none) (hn : 1 ≤ n) (l Bs n₀ b cap : Nat) (bs : List Nat) (hbs : bs.length ≤ 1000000) (hb : b < n₀) (J Jx : List (Fin bs.length) → World → Prop)
    (hY : ∀ pre x W, J pre W → pre.length < bs.length → YieldAt F (n - 1) Try.prog l (mapAt bs x) W fun e W' =>
      (e = .returned (.bool true) ∧ J (pre ++ [x]) W' ∧ Below n₀ W W') ∨ (e = .returned (.bool false) ∧ Jx (pre ++ [x]) W'))
    (W : World) (hBs : W.cell? ⟨Bs, 0, none⟩ = some (.slice (some ⟨b, 0, none⟩) bs.length cap)) (hBn : Bs < n₀) (hc : ∀ j, j < bs.length → W.cell? ⟨b, j, none⟩ = some (.map (some (bs.getD j 0)))) (h0 : J [] W) :
    CallsIn F n Try.prog 79 #[.func (.yield l) #[] #[], .pointer (some ⟨Bs, 0, none⟩)] W fun e W' => (∃ v, e = .returned v) ∧
      ((∃ ys, ys = revs bs.length bs.length ∧ J ys W') ∨ (∃ pre, (∃ k, k ≤ bs.length ∧ pre = revs bs.length k) ∧ Jx pre W')) := by
  refine callsIn_of_wp Try.func79 rfl h41 ?_ hro
  simp only [Try.ntmps79, List.size_toArray, List.length_cons, List.length_nil, Nat.reduceAdd, Nat.reduceSub, Array.replicate_succ, Array.replicate_zero, List.push_toArray, List.append_toArray, List.nil_append, List.cons_append]
  gi_wp2
  gi_loopw [3] (fun i wr => ∃ k : Nat, k ≤ bs.length ∧ i = .int .i64 ((bs.length : Int) - 1 - (k : Int)) ∧ J (revs bs.length k) wr ∧ Below n₀ W wr)
    (fun i _ => (intOf i + 1).toNat)
  case atStart => exact ⟨0, Nat.zero_le _, by simp, h0, Below.refl _ _⟩
  case round =>
    obtain ⟨k, hk, rfl, hJs, hnx⟩ := hrel
    by_cases hlt : k < bs.length
    · have hi0 : (0 : Int) ≤ (bs.length : Int) - 1 - (k : Int) := by omega
      have hi1 : (bs.length : Int) - 1 - (k : Int) < (bs.length : Int) := by omega
      have hit : ((bs.length : Int) - 1 - (k : Int)).toNat = bs.length - 1 - k := by omega
      have hcx : wr.cell? ⟨b, bs.length - 1 - k, none⟩ = some (.map (some (bs.getD (bs.length - 1 - k) 0))) := (hnx.cell (p := ⟨b, bs.length - 1 - k, none⟩) hb).trans (hc _ (by omega))
      have hBx := (hnx.cell (p := ⟨Bs, 0, none⟩) hBn).trans hBs
      obtain ⟨fn, tmps, assign, body, hy, hR⟩ := hY _ ⟨bs.length - 1 - k, by omega⟩ wr hJs (by rw [revs_length hk]; exact hlt)
      unfold mapAt at hy
      dsimp only at hy
      rw [show ((bs.length - 1 - k : Nat) : Int) = (bs.length : Int) - 1 - (k : Int) by omega] at hy
      generalize bs.getD (bs.length - 1 - k) 0 = mb at *
      gi_wp2
      refine hR.mono ?_
      rintro e W3 (⟨rfl, hJ3, hk3⟩ | ⟨rfl, hJx3⟩)
      · gi_wp2
        go_roundw
        case rel => exact ⟨k + 1, by omega, by go_num, by rw [revs_succ hlt]; exact hJ3, hnx.trans hk3⟩
        case measure => simp [intOf]; omega
      · gi_wp2
        refine bodyPost_ret (results_none rfl _ _ _) rfl ?_
        exact ⟨⟨_, rfl⟩, .inr ⟨_, ⟨k + 1, by omega, (revs_succ hlt).symm⟩, hJx3⟩⟩
    · obtain rfl : k = bs.length := by omega
      gi_wp2
      go_end0
      exact ⟨⟨_, rfl⟩, .inl ⟨_, rfl, hJs⟩⟩
set_option maxHeartbeats 1000000 in
theorem back_in (F : Fence) (n : Nat) (h37 : F.fn 63) (hro : F.round = none) (a : Option Addr) (len cap : Nat) (w : World) :
    CallsIn F n Try.prog 63 #[.slice a len cap] w fun e w' => e = .returned (.func (.func 79) #[] #[.pointer (some ⟨w.heap.size, 0, none⟩)]) ∧ w' = w.alloc (.cells #[.slice a len cap] 82) := by
  refine callsIn_of_wp Try.func63 rfl h37 ?_ hro
  simp only [Try.ntmps63, List.size_toArray, List.length_cons, List.length_nil, Nat.reduceAdd, Nat.reduceSub, Array.replicate_succ, Array.replicate_zero, List.push_toArray, List.append_toArray, List.nil_append, List.cons_append]
  gi_wp2
  go_ret
  exact ⟨rfl, rfl⟩
theorem back_stops (F : Fence) (n : Nat) (h41 : F.fn 79) (hro : F.round = none) (hn : 1 ≤ n) (Bs n₀ b cap : Nat) (bs : List Nat) (hbs : bs.length ≤ 1000000) (w : World) (hBn : Bs < n₀) (hb : b < n₀) (hn₀ : n₀ ≤ w.heap.size)
    (hBs : w.cell? ⟨Bs, 0, none⟩ = some (.slice (some ⟨b, 0, none⟩) bs.length cap)) (hc : ∀ j, j < bs.length → w.cell? ⟨b, j, none⟩ = some (.map (some (bs.getD j 0)))) :
    SeqStopsK F n Try.prog 79 #[.pointer (some ⟨Bs, 0, none⟩)] (mapAt bs) (Below n₀) (fun ys => ys = revs bs.length bs.length)
      (fun pre => ∃ k, k ≤ bs.length ∧ pre = revs bs.length k) bs.length w := fun l J Jx W hW _ _ hY h0 =>
  back1_in F n h41 hro hn l Bs n₀ b cap bs hbs hb J Jx hY W ((hW.cell (p := ⟨Bs, 0, none⟩) (by show Bs < _; omega)).trans hBs) hBn (fun j hj => (hW.cell (p := ⟨b, j, none⟩) (by show b < _; omega)).trans (hc j hj)) h0
end Go.Proofs.Ytgmhopkajopfcaa
