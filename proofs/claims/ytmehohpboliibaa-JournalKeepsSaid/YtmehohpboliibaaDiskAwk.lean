/- The document's example of a disk holds. -/
import Derived.Test.YtmehohpboliibaaDiskD
import Derived.Test.YtmehohpboliibaaDiskE
namespace Go.Proofs.Ytmehohpboliibaa
open Go.RowKit
set_option linter.unusedVariables false

def dA : DK := ⟨false, false, 0, ⟨#[]⟩, 0, 100⟩
def dB : DK := ⟨false, false, -2, ⟨#[97, 98]⟩, 0, 100⟩
def dC : DK := ⟨false, false, -3, ⟨#[97, 98]⟩, 2, 100⟩
def dD : DK := ⟨false, false, -5, ⟨#[97, 98, 99, 100]⟩, 2, 100⟩
def dE : DK := ⟨false, false, 0, ⟨#[97, 98, 99]⟩, 3, 100⟩
theorem okA : dA.ok := by unfold DK.ok dA; decide
theorem okC : dC.ok := by unfold DK.ok dC; decide
theorem okD : dD.ok := by unfold DK.ok dD; decide
theorem stAB : dA.append (joinC [⟨#[97]⟩, ⟨#[98]⟩]) = (0, dB) := by kernel_rfl
theorem stBC : dB.sync = (0, dC) := by kernel_rfl
theorem stCD : dC.append (joinC [⟨#[99, 100]⟩]) = (0, dD) := by kernel_rfl
theorem stDE : dD.crash 1 = dE := by kernel_rfl
theorem exNew (w : World) : Calls Try.prog 20 #[.int .i64 100] w fun e w' => e = .returned (.tuple #[.pointer (some ⟨w.heap.size, 0, none⟩), .int .i64 0]) ∧ DkAt w' w.heap.size dA ∧ w.grownBy w' none := new_c 100 w (by decide) (by decide)
theorem exAB {g : Nat} {v : Value} {w : World} (hx : Strs w v [⟨#[97]⟩, ⟨#[98]⟩]) (h : DkAt w g dA) : Calls Try.prog 21 #[.pointer (some ⟨g, 0, none⟩), v] w fun e w' => e = .returned (.int .i64 0) ∧ DkAt w' g dB ∧ w.grownBy w' (some g) := by
  have := append_c okA hx (by decide) (by decide +kernel) h
  rw [stAB] at this
  exact this
theorem exBC {g : Nat} {w : World} (h : DkAt w g dB) : Calls Try.prog 22 #[.pointer (some ⟨g, 0, none⟩)] w fun e w' => e = .returned (.int .i64 0) ∧ DkAt w' g dC ∧ w.grownBy w' (some g) := by
  have := sync_c h
  rw [stBC] at this
  exact this
theorem exCD {g : Nat} {v : Value} {w : World} (hx : Strs w v [⟨#[99, 100]⟩]) (h : DkAt w g dC) : Calls Try.prog 21 #[.pointer (some ⟨g, 0, none⟩), v] w fun e w' => e = .returned (.int .i64 0) ∧ DkAt w' g dD ∧ w.grownBy w' (some g) := by
  have := append_c okC hx (by decide) (by decide +kernel) h
  rw [stCD] at this
  exact this
theorem exDE {g : Nat} {w : World} (h : DkAt w g dD) : Calls Try.prog 25 #[.pointer (some ⟨g, 0, none⟩), .int .i64 1] w fun e w' => e = .returned (.tuple #[]) ∧ DkAt w' g dE ∧ w.grownBy w' (some g) := by
  have := crash_c 1 okD h
  rw [stDE] at this
  exact this

theorem strs_two (w : World) (a b : ByteArray) (t : TypeId) : Strs (w.alloc (.cells #[.string a, .string b] t)) (.slice (some ⟨w.heap.size, 0, none⟩) 2 2) [a, b] := by
  have h := Blk.new w t #[.string a, .string b]
  refine .inr ⟨w.heap.size, 0, 2, rfl, Nat.le_refl _, by simp, fun j x hj => ?_⟩
  match j, hj with
  | 0, hj => injection hj with hj; subst hj; exact h.cell 0
  | 1, hj => injection hj with hj; subst hj; exact h.cell 1
theorem strs_one (w : World) (a : ByteArray) (t : TypeId) : Strs (w.alloc (.cells #[.string a] t)) (.slice (some ⟨w.heap.size, 0, none⟩) 1 1) [a] := by
  have h := Blk.new w t #[.string a]
  refine .inr ⟨w.heap.size, 0, 1, rfl, Nat.le_refl _, by simp, fun j x hj => ?_⟩
  match j, hj with
  | 0, hj => injection hj with hj; subst hj; exact h.cell 0
theorem gr_shed {w w1 w2 : World} {g : Nat} (h : w.grownBy w1 none) (h2 : w1.grownBy w2 (some g)) (hg : w.heap.size ≤ g) : w.grownBy w2 none := gr_then h h2 (.inr (.inr fun k e => by injection e with e; omega))

set_option maxHeartbeats 1600000 in
theorem awake_walk (w : World) : Calls Try.prog 18 #[] w fun e w' => e = .returned (.bool true) ∧ w.grownBy w' none := by
  have HG : ∃ g, g = w.heap.size := ⟨_, rfl⟩
  obtain ⟨g, hg0⟩ := HG
  have HG := As.mk hg0
  go_enter Try.func18, Try.ntmps18
  go_wp2_with fail
  refine (exNew _).mono ?_
  rintro e w1 ⟨rfl, h1, hg⟩
  rw [← hg0] at h1 ⊢
  clear hg0
  have H := As.mk h1
  have G := As.mk hg
  have hw := h1.lt
  clear h1 hg
  go_wp2_with fail
  refine (exAB (strs_two _ _ _ _) (H.out.alloc _)).mono ?_
  rintro e w2 ⟨rfl, h1, hg⟩
  have H2 := As.mk h1
  have G2 := As.mk (gr_shed (gr_alloc G.out _) hg (by have := HG.out; omega))
  clear H G hw h1 hg
  go_wp2_with fail
  refine (exBC H2.out).mono ?_
  rintro e w3 ⟨rfl, h1, hg⟩
  have H3 := As.mk h1
  have G3 := As.mk (gr_shed G2.out hg (by have := HG.out; omega))
  clear H2 G2 h1 hg
  go_wp2_with fail
  refine (exCD (strs_one _ _ _) (H3.out.alloc _)).mono ?_
  rintro e w4 ⟨rfl, h1, hg⟩
  have H4 := As.mk h1
  have G4 := As.mk (gr_shed (gr_alloc G3.out _) hg (by have := HG.out; omega))
  clear H3 G3 h1 hg
  go_wp2_with fail
  refine (exDE H4.out).mono ?_
  rintro e w5 ⟨rfl, h1, hg⟩
  have H5 := As.mk h1
  have G5 := As.mk (gr_shed G4.out hg (by have := HG.out; omega))
  clear H4 G4 h1 hg
  go_wp2_with fail
  have hb := bytes_c H5.out
  rw [show dE.b = (⟨#[97, 98, 99]⟩ : ByteArray) from rfl] at hb
  refine hb.mono ?_
  clear hb
  rintro e w6 ⟨rfl, rfl⟩
  go_wp2_with fail
  have hb := safe_c H5.out
  rw [show dE.safe = 3 from rfl] at hb
  refine hb.mono ?_
  clear hb
  rintro e w6 ⟨rfl, rfl⟩
  go_wp2
  go_ret
  exact ⟨rfl, G5.out⟩
end Go.Proofs.Ytmehohpboliibaa
