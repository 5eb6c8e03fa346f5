/- The walks of the law FrameSeals. -/
import Derived.Test.YtmehohpboliibaaFpure
import Derived.Test.YtmehohpboliibaaArr
namespace Go.Proofs.Ytmehohpboliibaa
open Go.RowKit
set_option linter.unusedVariables false

theorem frame_nil : frameOf ⟨#[]⟩ = ⟨#[0, 0, 255, 18, 217, 65]⟩ := by kernel_rfl
theorem awake3_walk (w : World) : Calls Try.prog 12 #[] w fun e w' => e = .returned (.bool true) ∧ w.grownBy w' none := by
  have S := As.mk (seal_c (xs := []) (v := .slice none 0 0) (w := w) (.inl ⟨rfl, _, _, rfl⟩) (by decide) (by decide))
  have S : As (Calls Try.prog 15 #[.slice none 0 0] w fun e w' => e = .returned (.tuple #[.string ⟨#[0, 0, 255, 18, 217, 65]⟩, .int .i64 0]) ∧ w.grownBy w' none) := ⟨by
    have h := S.out
    rw [show joinC [] = (⟨#[]⟩ : ByteArray) from rfl, if_pos (by decide), frame_nil] at h
    exact h⟩
  go_enter Try.func12, Try.ntmps12
  go_wp2_with fail
  refine S.out.mono ?_
  rintro e w1 ⟨rfl, hg⟩
  have G := As.mk hg
  clear hg S
  go_wp2
  go_ret
  exact ⟨rfl, G.out⟩
set_option maxHeartbeats 1600000 in
theorem long_walk (v : Value) (xs : List ByteArray) (w : World) (h : Strs w v xs) (hb : ∀ s ∈ xs, s.size ≤ 140737488351232) :
    Calls Try.prog 13 #[v] w fun e w' => (∃ b, e = .returned (.bool b) ∧ (b = false → sumN xs xs.length ≤ 9000 ∧ xs.length ≤ 40)) ∧ ∃ n, w' = w.drewN n := by
  obtain ⟨A, c, rfl⟩ := h.len
  have H := As.mk h
  have HB := As.mk hb
  clear h hb
  by_cases h40 : xs.length ≤ 40
  · have H40 := As.mk h40
    go_enter Try.func13, Try.ntmps13
    go_wp2_with fail
    go_loopw [3, 11] (fun n i wr => ∃ k : Nat, k ≤ xs.length ∧ n = .int .i64 (sumN xs k : Nat) ∧ i = .int .i64 k ∧ sumN xs k ≤ 9000 ∧ ∃ n, wr = w.drewN n) (fun _ i _ => xs.length - (intOf i).toNat)
    case atStart => exact ⟨0, Nat.zero_le _, rfl, rfl, by simp [sumN], 0, rfl⟩
    case round =>
      obtain ⟨k, hk, rfl, rfl, ht, nd, rfl⟩ := hrel
      by_cases hlt : k < xs.length
      · have hltI : (k : Int) < (xs.length : Int) := by omega
        have hk0 : (0 : Int) ≤ (k : Int) := by omega
        obtain ⟨b2, o2, rfl, cj⟩ := H.out.at_ k hlt
        have hsz : (xs.getD k ⟨#[]⟩).size ≤ 140737488351232 := by
          rw [List.getD_eq_getElem?_getD, List.getElem?_eq_getElem hlt]
          exact HB.out _ (List.getElem_mem hlt)
        have ES := As.mk (show sumN xs (k + 1) = sumN xs k + (xs.getD k ⟨#[]⟩).size from rfl)
        generalize sumN xs k = acc at *
        generalize xs.getD k ⟨#[]⟩ = s at *
        have e1 : IntKind.i64.wrap ((acc : Int) + (s.size : Int)) = (acc : Int) + (s.size : Int) := by rw [IntKind.wrap_i64]; omega
        by_cases h3 : acc + s.size ≤ 9000
        · have h3I : ¬ (9000 : Int) < (acc : Int) + (s.size : Int) := by omega
          go_wp2_with fail
          go_roundw
          case measure => simp [intOf]; omega
          case rel => exact ⟨k + 1, by omega, by rw [ES.out]; rfl, by go_num, by rw [ES.out]; omega, _, rfl⟩
        · have h3I : (9000 : Int) < (acc : Int) + (s.size : Int) := by omega
          go_wp2
          go_ret
          exact ⟨⟨true, rfl, by simp⟩, _, rfl⟩
      · obtain rfl : k = xs.length := by omega
        go_wp2
        go_ret
        exact ⟨⟨false, rfl, fun _ => ⟨ht, H40.out⟩⟩, _, rfl⟩
  · go_enter Try.func13, Try.ntmps13
    go_wp2
    go_ret
    exact ⟨⟨true, rfl, by simp⟩, 0, rfl⟩
set_option maxRecDepth 100000 in
set_option maxHeartbeats 3200000 in
theorem fs_walk (v : Value) (l : List ByteArray) (m : ByteArray) (w : World) (h : Strs w v l) (hb : ∀ s ∈ l, s.size ≤ 140737488351232) (hm : m.size ≤ 140737488351232) :
    Calls Try.prog 3 #[v, .string m] w fun e w' => e = .returned (.bool true) ∧ w.grownBy w' none := by
  obtain ⟨A, c, rfl⟩ := h.len
  have H := As.mk h
  have HB := As.mk hb
  clear h hb
  go_enter Try.func3, Try.ntmps3
  go_wp2_with fail
  refine (awake3_walk _).mono ?_
  rintro e w1 ⟨rfl, hg⟩
  have G1 := As.mk hg
  clear hg
  go_wp2_with fail
  refine (long_walk _ l _ (H.out.grown G1.out) HB.out).mono ?_
  rintro e w2 ⟨⟨b, rfl, ht⟩, nd, hw⟩
  have G2 : As (w.grownBy w2 none) := ⟨by rw [hw]; exact gr_drewN G1.out nd⟩
  clear hw G1
  cases b with
  | true =>
    clear ht
    go_wp2
    go_ret
    exact ⟨rfl, G2.out⟩
  | false =>
    have HT := As.mk (ht rfl)
    clear ht
    by_cases h3 : m.size ≤ 3000
    · have h3I : ¬ (3000 : Int) < (m.size : Int) := by omega
      have hj : (joinC l).size ≤ 9000 := by rw [joinC_size]; exact HT.out.1
      have HJ := As.mk hj
      have JE := As.mk (joinC_eq l)
      clear hj
      go_wp2_with fail
      refine (joined_walk _ l _ (H.out.grown G2.out) (by have := HT.out.2; omega) (fun k => by
        rw [joinN_size]
        have h1 := sumN_mono l k
        have h2 := HT.out.1
        omega)).mono ?_
      rw [← JE.out]
      rintro e w3 ⟨rfl, nd1, hw⟩
      have G3 : As (w.grownBy w3 none) := ⟨by rw [hw]; exact gr_drewN G2.out nd1⟩
      clear hw G2
      by_cases hp : (joinC l).size ≤ 4096
      · have HP := As.mk hp
        go_wp2_with fail
        have S := seal_c (H.out.grown G3.out) (by have := HT.out.2; omega) (by have := HJ.out; omega)
        rw [if_pos hp] at S
        refine S.mono ?_
        clear S
        rintro e w4 ⟨rfl, hg⟩
        have G4 := As.mk (gr_then G3.out hg (.inl rfl))
        clear hg G3
        go_wp2_with fail
        have R := rseal_c (joinC l) (by have := HJ.out; omega) w4
        rw [if_pos HP.out] at R
        refine R.mono ?_
        clear R hp
        rintro e w5 ⟨rfl, hg⟩
        have G5 := As.mk (gr_then G4.out hg (.inl rfl))
        clear hg G4
        have OS := As.mk (open_seal (joinC l) m HP.out)
        have hfs := frameOf_size (joinC l)
        have e6 : ¬ 9223372036854775807 < (frameOf (joinC l)).size + m.size := by rw [hfs]; have := HJ.out; omega
        have ez : (frameOf (joinC l) ++ m).size ≤ 140737488351232 := by rw [ByteArray.size_append, hfs]; have := HJ.out; omega
        have EZ := As.mk ez
        clear hfs ez
        generalize joinC l = p at *
        generalize frameOf p = fr at *
        go_wp2_with fail
        have O := open_c (fr ++ m) w5 EZ.out
        rw [OS.out] at O
        refine O.mono ?_
        clear O
        rintro e w6 ⟨rfl, hg⟩
        have G6 := As.mk (gr_then G5.out hg (.inl rfl))
        clear hg G5
        go_wp2
        go_ret
        exact ⟨rfl, G6.out⟩
      · have HP := As.mk hp
        go_wp2_with fail
        have S := seal_c (H.out.grown G3.out) (by have := HT.out.2; omega) (by have := HJ.out; omega)
        rw [if_neg hp] at S
        refine S.mono ?_
        clear S
        rintro e w4 ⟨rfl, hg⟩
        have G4 := As.mk (gr_then G3.out hg (.inl rfl))
        clear hg G3
        go_wp2_with fail
        have R := rseal_c (joinC l) (by have := HJ.out; omega) w4
        rw [if_neg HP.out] at R
        refine R.mono ?_
        clear R hp
        rintro e w5 ⟨rfl, hg⟩
        have G5 := As.mk (gr_then G4.out hg (.inl rfl))
        clear hg G4
        go_wp2
        go_ret
        exact ⟨rfl, G5.out⟩
    · have h3I : (3000 : Int) < (m.size : Int) := by omega
      go_wp2
      go_ret
      exact ⟨rfl, G2.out⟩
end Go.Proofs.Ytmehohpboliibaa
