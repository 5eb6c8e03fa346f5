/- The walk of Joined: texts, one behind the other. -/
import Derived.Test.YtmehohpboliibaaDiskE
namespace Go.Proofs.Ytmehohpboliibaa
open Go.RowKit
set_option linter.unusedVariables false

/-- The first k texts, one behind the other. -/
def joinN (xs : List ByteArray) : Nat → ByteArray
  | 0 => ⟨#[]⟩
  | k + 1 => joinN xs k ++ xs.getD k ⟨#[]⟩

set_option maxHeartbeats 3200000 in
theorem joined_walk (v : Value) (xs : List ByteArray) (w : World) (h : Strs w v xs) (hN : xs.length ≤ 140737488355328) (hsz : ∀ k, (joinN xs k).size ≤ 140737488355328) :
    Calls Try.prog 14 #[v] w fun e w' => e = .returned (.string (joinN xs xs.length)) ∧ ∃ n, w' = w.drewN n := by
  have hv : ∃ A c, v = .slice A xs.length c := by
    rcases h with ⟨rfl, a, c, rfl⟩ | ⟨bk, o, c, rfl, _⟩
    · exact ⟨_, _, rfl⟩
    · exact ⟨_, _, rfl⟩
  obtain ⟨A, c, rfl⟩ := hv
  have H := As.mk h
  have HS := As.mk hsz
  clear h hsz
  go_enter Try.func14, Try.ntmps14
  go_wp2_with fail
  go_loopw [3, 4] (fun s i wr => ∃ k : Nat, k ≤ xs.length ∧ s = .string (joinN xs k) ∧ i = .int .i64 k ∧ ∃ n, wr = w.drewN n) (fun _ i _ => xs.length - (intOf i).toNat)
  case atStart => exact ⟨0, Nat.zero_le _, rfl, rfl, 0, rfl⟩
  case round =>
    obtain ⟨k, hk, rfl, rfl, nd, rfl⟩ := hrel
    by_cases hlt : k < xs.length
    · have hltI : (k : Int) < (xs.length : Int) := by omega
      have hk0 : (0 : Int) ≤ (k : Int) := by omega
      have hc : ∃ bk o, A = some ⟨bk, o, none⟩ ∧ w.cell? ⟨bk, o + k, none⟩ = some (.string (xs.getD k ⟨#[]⟩)) := by
        rcases H.out with ⟨hx, _⟩ | ⟨bk, o, c', hv, _, _, hcell⟩
        · rw [hx] at hlt; simp at hlt
        · injection hv with h1 _ h3
          refine ⟨bk, o, h1, ?_⟩
          have := hcell k xs[k] (List.getElem?_eq_getElem hlt)
          rw [this, List.getD_eq_getElem?_getD, List.getElem?_eq_getElem hlt]
          rfl
      obtain ⟨bk, o, rfl, c0⟩ := hc
      have e6 := HS.out (k + 1)
      have e7 : joinN xs (k + 1) = joinN xs k ++ xs.getD k ⟨#[]⟩ := rfl
      rw [e7] at e6
      have e8 : ¬ 9223372036854775807 < (joinN xs k).size + (xs.getD k ⟨#[]⟩).size := by rw [ByteArray.size_append] at e6; omega
      have E7 := As.mk e7
      clear e7 e6
      generalize joinN xs k = a at *
      generalize xs.getD k ⟨#[]⟩ = b at *
      go_wp2_with fail
      go_roundw
      case measure => simp [intOf]; omega
      case rel => exact ⟨k + 1, by omega, by rw [E7.out], by go_num, _, rfl⟩
    · obtain rfl : k = xs.length := by omega
      go_wp2
      go_ret
      exact ⟨rfl, _, rfl⟩
end Go.Proofs.Ytmehohpboliibaa
