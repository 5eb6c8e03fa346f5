/- The walk of the document's Append: byte by byte. -/
import Derived.Test.YtmehohpboliibaaRdk
namespace Go.Proofs.Ytmehohpboliibaa
open Go.RowKit
set_option linter.unusedVariables false

theorem one_more (a s : ByteArray) (k : Nat) (hk : k < s.size) : a ++ s.extract 0 k ++ s.extract k (k + 1) = a ++ s.extract 0 (k + 1) := by
  rw [ByteArray.append_assoc, ByteArray.extract_append_extract, Nat.min_eq_left (Nat.zero_le _), Nat.max_eq_right (by omega)]
/-- So far: k bytes of s are put. -/
def RK.so (r : RK) (s : ByteArray) (k : Nat) : RK := { r with b := r.b ++ s.extract 0 k, fuse := if r.fuse < 0 then r.fuse else r.fuse - k }
set_option maxHeartbeats 3200000 in
theorem rappend_c {g : Nat} {r : RK} {w : World} (s : ByteArray) (hs : s.size ≤ 140737488351232) (hr : r.ok) (h : RkAt w g r) : Calls Try.prog 33 #[.pointer (some ⟨g, 0, none⟩), .string s] w fun e w' => e = .returned (.int .i64 (r.append s).1) ∧ RkAt w' g (r.append s).2 ∧ w.grownBy w' (some g) := by
  obtain ⟨hf, hd1, hd2, hd3, hz1, hz2⟩ := hr
  have H := As.mk h
  have c0 : w.cell? ⟨g, 0, none⟩ = some (.string r.b) := h.cell 0
  have c2 : w.cell? ⟨g, 2, none⟩ = some (.int .i64 r.size) := h.cell 2
  have c4 : w.cell? ⟨g, 4, none⟩ = some (.bool r.down) := h.cell 4
  clear h
  unfold RK.append
  cases hd : r.down with
  | true =>
    rw [hd] at c4
    rw [if_pos rfl]
    clear hd1 hd2 hd3 hs hz1 hz2 hf
    go_enter Try.func33, Try.ntmps33
    go_wp2
    go_ret
    exact ⟨rfl, H.out, gr_refl _ _⟩
  | false =>
    rw [hd] at c4
    rw [if_neg (by simp)]
    have e1 : IntKind.i64.wrap (r.size - (r.b.size : Int)) = r.size - (r.b.size : Int) := by rw [IntKind.wrap_i64]; omega
    by_cases hx : r.size - (r.b.size : Int) < s.size
    · rw [if_pos hx]
      clear hd1 hd2 hd3 hs hz1 hz2 hf
      go_enter Try.func33, Try.ntmps33
      go_wp2_with fail
      go_quiet (fail)
      go_wp2
      go_ret
      exact ⟨rfl, H.out.drewN _, gr_drewN (gr_refl _ _) _⟩
    · rw [if_neg hx]
      have HR := As.mk (And.intro hf (And.intro hd1 (And.intro hd2 (And.intro hd3 (And.intro hz1 (And.intro hz2 hs))))))
      have HD := As.mk hd
      clear hf hd1 hd2 hd3 hz1 hz2 hs hd
      go_enter Try.func33, Try.ntmps33
      go_wp2_with fail
      go_quiet (fail)
      go_wp2_with fail
      go_loopw [5] (fun i wr => ∃ k : Nat, k ≤ s.size ∧ i = .int .i64 k ∧ As (r.fuse < 0 ∨ (k : Int) ≤ r.fuse) ∧ As (RkAt wr g (r.so s k)) ∧ As (w.grownBy wr (some g))) (fun i _ => s.size - (intOf i).toNat)
      case atStart => exact ⟨0, Nat.zero_le _, rfl, ⟨by omega⟩, ⟨by
        have e : r.so s 0 = r := by
          unfold RK.so
          rw [ByteArray.extract_same, ByteArray.append_empty]
          obtain ⟨b, safe, size, fuse, down⟩ := r
          dsimp only
          congr 1
          split <;> simp
        rw [e]
        exact H.out.drewN _⟩, ⟨gr_drewN (gr_refl _ _) _⟩⟩
      case round =>
        obtain ⟨k, hk, rfl, HF, HA, HG⟩ := hrel
        by_cases hlt : k < s.size
        · have hltI : (k : Int) < (s.size : Int) := by omega
          have hk0 : (0 : Int) ≤ (k : Int) := by omega
          have hr := HR.out
          have hf := HF.out
          have ef : (r.so s k).fuse ≤ 9223372036854775807 := by unfold RK.so; dsimp only; split <;> omega
          have S := As.mk (rstep_c ef HA.out)
          have sb := (r.so s k).step_b
          have e2 : (r.so s k).b = r.b ++ s.extract 0 k := rfl
          have HB := As.mk HA.out
          have esz : ¬ 9223372036854775807 < ((r.so s k).b.size) + (min (k + 1) s.size - k) := by rw [e2, ByteArray.size_append, ByteArray.size_extract]; omega
          have e3 : IntKind.i64.wrap ((k : Int) + 1) = (k : Int) + 1 := by rw [IntKind.wrap_i64]; omega
          have hk1 : (k : Int) + 1 ≤ (s.size : Int) := by omega
          have hk2 : (k : Int) ≤ (k : Int) + 1 := by omega
          by_cases hz : (r.so s k).fuse = 0
          · have es : (r.so s k).step = (false, { r.so s k with down := true }) := by unfold RK.step; rw [if_pos hz]
            rw [es] at S
            clear hr hf ef sb
            go_wp2_with fail
            refine S.out.mono ?_
            rintro e w1 ⟨rfl, h1, h2⟩
            have H1 := As.mk h1
            have H2 := As.mk h2
            clear h1 h2
            go_wp2
            go_ret
            have hf := HF.out
            have hz2 : r.fuse = (k : Int) := by
              unfold RK.so at hz
              dsimp only at hz
              by_cases h9 : r.fuse < 0
              · rw [if_pos h9] at hz; omega
              · rw [if_neg h9] at hz; omega
            have e9 : r.run s = (7, { r.so s k with down := true }) := by
              unfold RK.run RK.so
              rw [if_neg (by omega), if_neg (by omega), if_neg (by omega), hz2, Int.toNat_natCast, Int.sub_self]
            rw [e9]
            exact ⟨rfl, H1.out, gr_then HG.out H2.out (.inl rfl)⟩
          · have es : (r.so s k).step = (true, (r.so s k).step.2) := by
              unfold RK.step
              rw [if_neg hz]
              split <;> rfl
            rw [es] at S
            have en : { (r.so s k).step.2 with b := (r.so s k).b ++ s.extract k (k + 1) } = r.so s (k + 1) := by
              rw [e2, one_more r.b s k hlt]
              unfold RK.step
              rw [if_neg hz]
              by_cases hz2 : 0 < (r.so s k).fuse
              · rw [if_pos hz2]
                unfold RK.so at hz hz2 ⊢
                dsimp only at hz hz2 ⊢
                congr 1
                split
                · rename_i h9; rw [if_pos h9] at hz2; omega
                · omega
              · rw [if_neg hz2]
                unfold RK.so at hz hz2 ⊢
                dsimp only at hz hz2 ⊢
                congr 1
                split
                · rfl
                · rename_i h9; rw [if_neg h9] at hz2 hz; omega
            have hfn : r.fuse < 0 ∨ ((k + 1 : Nat) : Int) ≤ r.fuse := by
              unfold RK.so at hz
              dsimp only at hz
              by_cases h9 : r.fuse < 0
              · exact .inl h9
              · rw [if_neg h9] at hz; omega
            have EN := As.mk en
            have HFN := As.mk hfn
            obtain ⟨sb1, sb2, sb3⟩ := sb
            have SB := As.mk sb1
            clear hr hf ef es en hfn hz sb1 sb2 sb3 e2
            generalize (r.so s k).step.2 = r1 at *
            generalize r.so s k = r0 at *
            go_wp2_with fail
            refine S.out.mono ?_
            rintro e w1 ⟨rfl, h1, h2⟩
            have k0 : w1.cell? ⟨g, 0, none⟩ = some (.string r0.b) := by rw [← SB.out]; exact h1.cell 0
            have f4 := h1.free
            have H1 := As.mk h1
            have H2 := As.mk h2
            clear h1 h2
            go_wp2_with fail
            go_region_law (fail)
            simp only [Exit.inBlock, Exit.then]
            go_wp2_with fail
            go_roundw
            case measure => simp [intOf]; omega
            case rel => exact ⟨k + 1, by omega, by go_num, HFN, ⟨by rw [← EN.out]; exact ((show Blk _ _ _ _ from H1.out).set 0 _).drew⟩, ⟨gr_drew (gr_own (gr_then HG.out H2.out (.inl rfl)) _ _)⟩⟩
        · obtain rfl : k = s.size := by omega
          go_wp2
          go_ret
          have e : r.run s = (0, r.so s s.size) := by
            have hf := HF.out
            unfold RK.run RK.so
            rw [ByteArray.extract_zero_size]
            by_cases h9 : r.fuse < 0
            · rw [if_pos h9, if_pos h9]
            · rw [if_neg h9, if_neg h9, if_pos (by omega)]
          rw [e]
          exact ⟨rfl, HA.out, HG.out⟩
end Go.Proofs.Ytmehohpboliibaa
