/- The walks of frame.Seal and frame.Open. -/
import Derived.Test.YtmehohpboliibaaFsum
import Derived.Test.YtmehohpboliibaaDiskAwk
namespace Go.Proofs.Ytmehohpboliibaa
open Go.RowKit
set_option linter.unusedVariables false

def le4 (m : Nat) : ByteArray := ⟨#[m.toUInt8, (m / 256).toUInt8, (m / 65536).toUInt8, (m / 16777216).toUInt8]⟩
def len2 (n : Nat) : ByteArray := ⟨#[(n / 256).toUInt8, n.toUInt8]⟩
def frameOf (p : ByteArray) : ByteArray := len2 p.size ++ p ++ le4 (moreSum 0 (len2 p.size ++ p))
theorem le4_size (m : Nat) : (le4 m).size = 4 := rfl
theorem len2_size (n : Nat) : (len2 n).size = 2 := rfl
theorem frameOf_size (p : ByteArray) : (frameOf p).size = p.size + 6 := by
  unfold frameOf
  rw [ByteArray.size_append, ByteArray.size_append, le4_size, len2_size]
  omega
theorem joinC_two (a b : ByteArray) : joinC [a, b] = a ++ b := by
  rw [joinC_eq]
  show (⟨#[]⟩ : ByteArray) ++ a ++ b = a ++ b
  rw [show (⟨#[]⟩ : ByteArray) ++ a = a from ByteArray.empty_append]
theorem joinC_one (a : ByteArray) : joinC [a] = a := by
  rw [joinC_eq]
  show (⟨#[]⟩ : ByteArray) ++ a = a
  exact ByteArray.empty_append
/-- The sum of texts that a call of its own lays. -/
theorem fsum_two (a b : ByteArray) (t : TypeId) (w : World) (ha : a.size ≤ 140737488351232) (hb : b.size ≤ 140737488351232) :
    Calls Try.prog 51 #[.slice (some ⟨w.heap.size, 0, none⟩) 2 2] (w.alloc (.cells #[.string a, .string b] t)) fun e w' => e = .returned (.string (le4 (moreSum 0 (a ++ b)))) ∧ w.grownBy w' none := by
  refine (fsum_c _ [a, b] _ (strs_two w a b t) (by simp) (by intro s hs; simp at hs; rcases hs with rfl | rfl <;> assumption)).mono ?_
  rintro e w' ⟨rfl, hg⟩
  rw [joinC_two]
  exact ⟨rfl, gr_then (gr_alloc (gr_refl _ _) _) hg (.inl rfl)⟩
theorem fsum_one (a : ByteArray) (t : TypeId) (w : World) (ha : a.size ≤ 140737488351232) :
    Calls Try.prog 51 #[.slice (some ⟨w.heap.size, 0, none⟩) 1 1] (w.alloc (.cells #[.string a] t)) fun e w' => e = .returned (.string (le4 (moreSum 0 a))) ∧ w.grownBy w' none := by
  refine (fsum_c _ [a] _ (strs_one w a t) (by simp) (by intro s hs; simp at hs; subst hs; exact ha)).mono ?_
  rintro e w' ⟨rfl, hg⟩
  rw [joinC_one]
  exact ⟨rfl, gr_then (gr_alloc (gr_refl _ _) _) hg (.inl rfl)⟩

set_option maxHeartbeats 1600000 in
theorem seal_c {xs : List ByteArray} {v : Value} {w : World} (h : Strs w v xs) (hN : xs.length ≤ 140737488355328) (hz : (joinC xs).size ≤ 140737488351232) :
    Calls Try.prog 15 #[v] w fun e w' => e = .returned (.tuple (if (joinC xs).size ≤ 4096 then #[.string (frameOf (joinC xs)), .int .i64 0] else #[.string ⟨#[]⟩, .int .i64 5])) ∧ w.grownBy w' none := by
  have J := As.mk (join_c h hN (by omega))
  obtain ⟨A, c', rfl⟩ := h.len
  clear h hN
  generalize joinC xs = p at *
  by_cases hp : p.size ≤ 4096
  · rw [if_pos hp]
    have hpI : ¬ (4096 : Int) < (p.size : Int) := by omega
    have L : As (∀ w', Calls Try.prog 50 #[.int .i64 (p.size : Int)] w' fun e w'' => e = .returned (.string (len2 p.size)) ∧ w'.grownBy w'' none) := ⟨fun w' => length_c p.size (by omega) w'⟩
    have S := As.mk (fun w' => fsum_two (len2 p.size) p 9 w' (by rw [len2_size]; decide) hz)
    have e1 : ¬ 9223372036854775807 < (len2 p.size).size + p.size := by rw [len2_size]; omega
    have e2 : ¬ 9223372036854775807 < (len2 p.size ++ p).size + (le4 (moreSum 0 (len2 p.size ++ p))).size := by rw [ByteArray.size_append, len2_size, le4_size]; omega
    have FR := As.mk (show frameOf p = len2 p.size ++ p ++ le4 (moreSum 0 (len2 p.size ++ p)) from rfl)
    rw [ByteArray.size_append] at e2
    rw [FR.out]
    clear FR
    generalize len2 p.size = l2 at *
    generalize moreSum 0 (l2 ++ p) = ms at *
    go_enter Try.func15, Try.ntmps15
    go_wp2_with fail
    refine J.out.mono ?_
    rintro e w1 ⟨rfl, hg⟩
    have G1 := As.mk hg
    clear hg J
    go_wp2_with fail
    refine (L.out _).mono ?_
    rintro e w2 ⟨rfl, hg⟩
    have G2 := As.mk (gr_then G1.out hg (.inl rfl))
    clear hg G1 L
    go_wp2_with fail
    refine (S.out _).mono ?_
    rintro e w3 ⟨rfl, hg⟩
    have G3 := As.mk (gr_then G2.out hg (.inl rfl))
    clear hg G2 S
    go_wp2
    go_ret2
    exact ⟨rfl, G3.out⟩
  · rw [if_neg hp]
    have hpI : (4096 : Int) < (p.size : Int) := by omega
    clear hp
    go_enter Try.func15, Try.ntmps15
    go_wp2_with fail
    refine J.out.mono ?_
    rintro e w1 ⟨rfl, hg⟩
    have G1 := As.mk hg
    clear hg J
    go_wp2
    go_ret2
    exact ⟨rfl, G1.out⟩
end Go.Proofs.Ytmehohpboliibaa
