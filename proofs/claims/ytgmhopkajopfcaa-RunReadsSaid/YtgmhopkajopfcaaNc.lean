/- The keys of what was read, sorted, by the library's contracts (the shelf). -/
import Derived.Test.YtgmhopkajopfcaaShelf
import Derived.Test.YtgmhopkajopfcaaNy
namespace Go.Proofs.Ytgmhopkajopfcaa
open Go.RowKit Go.Maps Go.Sort Go.Shelf
set_option linter.unusedVariables false

def ivs (l : List Int) : List Value := l.map (Value.int .i64)
theorem sortsA (m : Nat) : AnyZI.SortsIn Try.prog Try.sortedA_ren Fence.wide m :=
  ⟨fun blk off cap ss W hH hblk hsz => callsIn_wide.2 (Try.slices_Sort_int blk off cap ss W hH hblk hsz),
   fun p cap W => callsIn_wide.2 (Try.slices_Sort_int_none p cap W)⟩
theorem keysF_sort {α : Type} {f : Int → Option α} {ss : List Int} (h : (keysF f).Perm ss) : ss.mergeSort (fun x y => decide (x ≤ y)) = keysF f := by
  have h1 : ss.mergeSort leI = (keysF f).mergeSort leI := (mergeSort_of_perm_i h).symm
  have h2 : (keysF f).mergeSort leI = keysF f := List.mergeSort_of_pairwise ((keysF_sorted f).imp (fun {a b} hab => by simp only [leI, decide_eq_true_eq]; omega))
  exact h1.trans h2
theorem keys_c (b : Nat) (w : World) : Calls Try.prog 45 #[.map (some b)] w fun e w' => e = .returned (.func (.func 62) #[] #[.pointer (some ⟨w.heap.size, 0, none⟩)]) ∧ w' = w.alloc (.cells #[.map (some b)] 79) :=
  (callsIn_wide (n := 5)).1 (AnyZI.keys_in Try.keysA Fence.wide 5 trivial rfl (some b) w)
theorem sorted_c {w : World} {b n : Nat} {f : Int → Option (Int × Int)} (h : MapF elSeen w b n f) (hf : ∀ c, (f c).isSome = true → 0 ≤ c ∧ c < 16) :
    Calls Try.prog 44 #[.func (.func 62) #[] #[.pointer (some ⟨w.heap.size, 0, none⟩)]] (w.alloc (.cells #[.map (some b)] 79)) fun e w' =>
      (∃ v, e = .returned v ∧ w'.ownsRow w.heap.size 3 1 v (keysF f).length (ivs (keysF f))) ∧ w.grownBy w' none := by
  have hb := h.lt
  obtain ⟨D, hown, hD⟩ := h
  have hp := perm_F hown hD hf
  have hsz := size_F hown hD hf
  have hlen : (keysF f).length ≤ 16 := by
    unfold keysF
    refine Nat.le_trans (List.length_filter_le _ _) ?_
    simp
  refine (callsIn_wide (n := 5)).1 ?_
  have hseq : SeqGives Fence.wide 2 Try.prog 62 #[.pointer (some ⟨w.heap.size, 0, none⟩)] encZ (fun ss => ss.Perm (intKeys D)) (Maps.size D) (w.alloc (.cells #[.map (some b)] 79)) :=
    AnyZI.keys_gives (ρ := Try.keysA_ren) { Try.keysA with } Fence.wide _ trivial rfl (by omega) w.heap.size b n D _ (by simp) (by simp) (by
      obtain ⟨es, clock, hb, Ft, hs, hD⟩ := hown
      exact ⟨es, clock, (Below.heap_alloc _ _ b (by assumption)).trans hb, Ft, hs, hD⟩)
  have cS := AnyZI.sorted_in Try.sortedA Fence.wide 5 trivial trivial trivial trivial rfl (by omega) (sortsA _) (enters_of Try.func32 (by kernel_rfl) rfl) 62 #[.pointer (some ⟨w.heap.size, 0, none⟩)] trivial (enters_of Try.func62 (by kernel_rfl) rfl) _ (Maps.size D) (by rw [hsz]; unfold maxLen; omega) (by rw [hsz]; omega) _ hseq
  change CallsIn _ _ Try.prog 44 _ _ _ at cS
  refine cS.mono ?_
  rintro e w' ⟨v, ss, rfl, hS, hrow, -, hbl⟩
  have e1 := keysF_sort (hp.trans hS.symm)
  have e2 : ss.length = (keysF f).length := (hp.trans hS.symm).length_eq.symm
  rw [e1, e2] at hrow
  refine ⟨⟨v, rfl, ownsRow_base_a hrow (by simp)⟩, (gr_alloc (gr_refl w none) _).trans (below_gr hbl none)⟩
end Go.Proofs.Ytgmhopkajopfcaa
