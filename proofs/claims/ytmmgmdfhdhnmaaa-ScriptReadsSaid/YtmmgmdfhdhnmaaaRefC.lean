/- The document's Parse, for every text: the config and the events that the reader's walk comes to. -/
import Derived.Test.YtmmgmdfhdhnmaaaRef
import Derived.Test.YtmmgmdfhdhnmaaaParse
namespace Go.Proofs.Ytmmgmdfhdhnmaaa
open Go.RowKit
set_option linter.unusedVariables false

theorem p_nodes (S : ByteArray) (h : 1 ≤ S.size) : rByte S ⟨0, false⟩ = (byteAt S 0, ⟨1, false⟩) := by unfold rByte; rw [if_pos ⟨rfl, h⟩]
theorem p_cells (S : ByteArray) (h : 2 ≤ S.size) : rByte S ⟨1, false⟩ = (byteAt S 1, ⟨2, false⟩) := by unfold rByte; rw [if_pos ⟨rfl, h⟩]
theorem p_disk (S : ByteArray) (h : 4 ≤ S.size) : rCount S ⟨2, false⟩ = (byteAt S 2 * 256 + byteAt S 3, ⟨4, false⟩) := by unfold rCount; rw [if_pos ⟨rfl, h⟩]
theorem p_none (S : ByteArray) (t : St) (h : ¬ (t.br = false ∧ t.p < S.size)) : rByte S t = (0, ⟨t.p, true⟩) := by unfold rByte; rw [if_neg h]
theorem c_none (S : ByteArray) (t : St) (h : ¬ (t.br = false ∧ t.p + 2 ≤ S.size)) : rCount S t = (0, ⟨t.p, true⟩) := by unfold rCount; rw [if_neg h]

set_option maxRecDepth 100000 in
set_option maxHeartbeats 3200000 in
theorem ref_small (S : ByteArray) (w : World) (base : Nat) (hbase : w.heap.size = base) (N C : Int) (h4 : S.size < 4) (hN : N = if 1 ≤ S.size then (byteAt S 0 : Int) % 16 + 1 else 1) (hC : C = if 2 ≤ S.size then (byteAt S 1 : Int) % 16 + 1 else 1) :
    Calls Try.prog 8 #[.string S] w (RefPost w base N C 0 []) := by
  have HB := As.mk hbase
  have k4 : decide ((4 : Int) ≤ (S.size : Int)) = false := by simp; omega
  have hend : ¬ (4 : Int) < (S.size : Int) := by omega
  have hown : As (∀ W : World, W.heap.size = base → (W.alloc (.cells #[] 41)).ownsRow base 41 5 (.slice (some ⟨base, 0, none⟩) 0 0) 0 []) := ⟨fun W hW => by
      have := World.ownsRow_made (base := base) (e := 41) (size := 5) W #[] 0 (by omega) (by simp [maxLen]) rfl
      simpa [hW] using this⟩
  by_cases h1 : 1 ≤ S.size
  · have h0' : 0 < S.size := by omega
    have q0 := byteAt_eq S 0 h0'
    have l0 := byteAt_lt S 0
    rw [if_pos h1] at hN
    have k1 : decide ((1 : Int) ≤ (S.size : Int)) = true := by simp; omega
    generalize byteAt S 0 = x0 at *
    by_cases h2 : 2 ≤ S.size
    · have h1' : 1 < S.size := by omega
      have q1 := byteAt_eq S 1 h1'
      have l1 := byteAt_lt S 1
      rw [if_pos h2] at hC
      have k2 : decide ((2 : Int) ≤ (S.size : Int)) = true := by simp; omega
      generalize byteAt S 1 = x1 at *
      subst hN hC
      go_enter Try.func8, Try.ntmps8
      go_wp2_with fail
      clear q0 q1 hbase
      go_loopw [9, 10] (fun o at_ wr => o = .slice (some ⟨base, 0, none⟩) 0 0 ∧ at_ = .int .i64 4 ∧ wr = w.alloc (.cells #[] 41)) (fun _ _ _ => 0)
      case atStart => exact ⟨rfl, rfl, rfl⟩
      case round =>
        obtain ⟨rfl, rfl, rfl⟩ := hrel
        go_wp2
        refine bodyPost_ret (results_tmp4 rfl _ _ _) rfl ⟨_, rfl, ⟨[], hown.out _ HB.out, rfl⟩, gr_alloc (gr_refl _ _) _⟩
    · have k2 : decide ((2 : Int) ≤ (S.size : Int)) = false := by simp; omega
      rw [if_neg h2] at hC
      subst hN hC
      go_enter Try.func8, Try.ntmps8
      go_wp2_with fail
      clear q0 hbase
      go_loopw [9, 10] (fun o at_ wr => o = .slice (some ⟨base, 0, none⟩) 0 0 ∧ at_ = .int .i64 4 ∧ wr = w.alloc (.cells #[] 41)) (fun _ _ _ => 0)
      case atStart => exact ⟨rfl, rfl, rfl⟩
      case round =>
        obtain ⟨rfl, rfl, rfl⟩ := hrel
        go_wp2
        refine bodyPost_ret (results_tmp4 rfl _ _ _) rfl ⟨_, rfl, ⟨[], hown.out _ HB.out, rfl⟩, gr_alloc (gr_refl _ _) _⟩
  · have k1 : decide ((1 : Int) ≤ (S.size : Int)) = false := by simp; omega
    have k2 : decide ((2 : Int) ≤ (S.size : Int)) = false := by simp; omega
    rw [if_neg h1] at hN
    rw [if_neg (by omega)] at hC
    subst hN hC
    go_enter Try.func8, Try.ntmps8
    go_wp2_with fail
    clear hbase
    go_loopw [9, 10] (fun o at_ wr => o = .slice (some ⟨base, 0, none⟩) 0 0 ∧ at_ = .int .i64 4 ∧ wr = w.alloc (.cells #[] 41)) (fun _ _ _ => 0)
    case atStart => exact ⟨rfl, rfl, rfl⟩
    case round =>
      obtain ⟨rfl, rfl, rfl⟩ := hrel
      go_wp2
      refine bodyPost_ret (results_tmp4 rfl _ _ _) rfl ⟨_, rfl, ⟨[], hown.out _ HB.out, rfl⟩, gr_alloc (gr_refl _ _) _⟩

theorem ref_c (S : ByteArray) (w : World) (hS : S.size ≤ 4000) : Calls Try.prog 8 #[.string S] w (RefPost w w.heap.size (pNodes S) (pCells S) (pDisk S) (pEvs S)) := by
  by_cases h4 : 4 ≤ S.size
  · have e1 : pNodes S = (byteAt S 0 : Int) % 16 + 1 := by unfold pNodes; rw [p_nodes S (by omega)]
    have e2 : pCells S = (byteAt S 1 : Int) % 16 + 1 := by unfold pCells; rw [p_nodes S (by omega)]; dsimp only; rw [p_cells S (by omega)]
    have e3 : pDisk S = 16 * (byteAt S 2 * 256 + byteAt S 3 : Nat) := by unfold pDisk; rw [p_nodes S (by omega)]; dsimp only; rw [p_cells S (by omega)]; dsimp only; rw [p_disk S h4]
    have e4 : pEvs S = evsFrom S (S.size + 1) 4 0 := by unfold pEvs; rw [p_nodes S (by omega)]; dsimp only; rw [p_cells S (by omega)]; dsimp only; rw [p_disk S h4]; rfl
    rw [e1, e2, e3, e4]
    exact ref_big S w _ _ rfl rfl h4 (by omega)
  · have hb : ∀ t : St, (rCount S (rByte S (rByte S ⟨0, false⟩).2).2).2.br = true ∧ (rCount S (rByte S (rByte S ⟨0, false⟩).2).2).1 = 0 := by
      intro _
      by_cases h1 : 1 ≤ S.size
      · rw [p_nodes S h1]; dsimp only
        by_cases h2 : 2 ≤ S.size
        · rw [p_cells S h2]; dsimp only
          rw [c_none S ⟨2, false⟩ (by intro h; have := h.2; dsimp only at this; omega)]
          exact ⟨rfl, rfl⟩
        · rw [p_none S ⟨1, false⟩ (by intro h; have := h.2; dsimp only at this; omega)]; dsimp only
          rw [c_none S ⟨1, true⟩ (by simp)]
          exact ⟨rfl, rfl⟩
      · rw [p_none S ⟨0, false⟩ (by intro h; have := h.2; dsimp only at this; omega)]; dsimp only
        rw [p_none S ⟨0, true⟩ (by simp)]; dsimp only
        rw [c_none S ⟨0, true⟩ (by simp)]
        exact ⟨rfl, rfl⟩
    have e3 : pDisk S = 0 := by unfold pDisk; rw [(hb ⟨0, false⟩).2]; rfl
    have e4 : pEvs S = [] := by unfold pEvs evsT; rw [if_pos (hb ⟨0, false⟩).1]
    rw [e3, e4]
    refine ref_small S w _ rfl _ _ (by omega) ?_ ?_
    · unfold pNodes
      by_cases h1 : 1 ≤ S.size
      · rw [p_nodes S h1, if_pos h1]
      · rw [p_none S ⟨0, false⟩ (by intro h; have := h.2; dsimp only at this; omega), if_neg h1]; rfl
    · unfold pCells
      by_cases h1 : 1 ≤ S.size
      · rw [p_nodes S h1]; dsimp only
        by_cases h2 : 2 ≤ S.size
        · rw [p_cells S h2, if_pos h2]
        · rw [p_none S ⟨1, false⟩ (by intro h; have := h.2; dsimp only at this; omega), if_neg h2]; rfl
      · rw [p_none S ⟨0, false⟩ (by intro h; have := h.2; dsimp only at this; omega)]; dsimp only
        rw [p_none S ⟨0, true⟩ (by simp), if_neg (by omega)]; rfl
end Go.Proofs.Ytmmgmdfhdhnmaaa
