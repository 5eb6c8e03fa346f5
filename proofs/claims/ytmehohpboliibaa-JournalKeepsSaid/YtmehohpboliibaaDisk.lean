/- The walks of disk: the stand-in for a disk. -/
import Derived.Test.YtmehohpboliibaaBase
import Derived.Test.YtmehohpboliibaaShelf
namespace Go.Proofs.Ytmehohpboliibaa
open Go.RowKit
set_option linter.unusedVariables false

structure DK where
  on : Bool
  down : Bool
  left : Int
  b : ByteArray
  safe : Int
  size : Int
def DkAt (w : World) (g : Nat) (d : DK) : Prop := Blk w g 85 #[.bool d.on, .bool d.down, .int .i64 d.left, .string d.b, .int .i64 d.safe, .int .i64 d.size]
/-- Up to n steps spent: how many could be. -/
def DK.spend (d : DK) (n : Int) : Int × DK := if d.on = false ∨ n ≤ d.left then (n, { d with left := wrap64 (d.left - n) }) else (d.left, { d with down := true })

set_option maxHeartbeats 400000 in
theorem spend_c {g : Nat} {d d' : DK} {n m : Int} {w : World} (hv : d.spend n = (m, d')) (h : DkAt w g d) :
    Calls Try.prog 54 #[.pointer (some ⟨g, 0, none⟩), .int .i64 n] w fun e w' => e = .returned (.int .i64 m) ∧ DkAt w' g d' ∧ w.grownBy w' (some g) := by
  have c0 : w.cell? ⟨g, 0, none⟩ = some (.bool d.on) := h.cell 0
  have c1 : w.cell? ⟨g, 1, none⟩ = some (.bool d.down) := h.cell 1
  have c2 : w.cell? ⟨g, 2, none⟩ = some (.int .i64 d.left) := h.cell 2
  have f0 := h.free
  have H := As.mk h
  obtain ⟨on, down, left, b, safe, size⟩ := d
  dsimp only at *
  unfold DK.spend at hv
  cases on with
  | false =>
    rw [if_pos (.inl rfl)] at hv
    obtain ⟨rfl, rfl⟩ := Prod.mk.inj hv
    clear hv h
    go_enter Try.func54, Try.ntmps54
    go_wp2
    go_ret
    exact ⟨rfl, H.out.set 2 _, gr_set (gr_refl _ _) (.inl rfl) _⟩
  | true =>
    by_cases hn : n ≤ left
    · rw [if_pos (.inr hn)] at hv
      obtain ⟨rfl, rfl⟩ := Prod.mk.inj hv
      clear hv h
      go_enter Try.func54, Try.ntmps54
      go_wp2
      go_ret
      exact ⟨rfl, H.out.set 2 _, gr_set (gr_refl _ _) (.inl rfl) _⟩
    · rw [if_neg (by simp; omega)] at hv
      obtain ⟨rfl, rfl⟩ := Prod.mk.inj hv
      clear hv h
      go_enter Try.func54, Try.ntmps54
      go_wp2
      go_ret
      exact ⟨rfl, H.out.set 1 _, gr_set (gr_refl _ _) (.inl rfl) _⟩
end Go.Proofs.Ytmehohpboliibaa
