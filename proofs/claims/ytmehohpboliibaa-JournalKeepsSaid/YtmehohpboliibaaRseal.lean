/- The walks of the document's Seal and Open. -/
import Derived.Test.YtmehohpboliibaaRfrm
namespace Go.Proofs.Ytmehohpboliibaa
open Go.RowKit
set_option linter.unusedVariables false

def leK (m : Nat) : Nat → ByteArray
  | 0 => ⟨#[]⟩
  | k + 1 => leK m k ++ ⟨#[(m / 256 ^ k).toUInt8]⟩
theorem leK_size (m : Nat) : ∀ k, (leK m k).size = k
  | 0 => rfl
  | k + 1 => by rw [leK, ByteArray.size_append, leK_size m k]; rfl
theorem leK_four (m : Nat) : leK m 4 = le4 m := by
  apply ByteArray.ext
  simp [leK, le4]
set_option maxRecDepth 100000 in
set_option maxHeartbeats 1600000 in
theorem rseal_c (p : ByteArray) (hz : p.size ≤ 140737488351232) (w : World) : Calls Try.prog 16 #[.string p] w fun e w' => e = .returned (.tuple (if p.size ≤ 4096 then #[.string (frameOf p), .bool true] else #[.string ⟨#[]⟩, .bool false])) ∧ w.grownBy w' none := by
  by_cases hp : p.size ≤ 4096
  · rw [if_pos hp]
    have hpI : ¬ (4096 : Int) < (p.size : Int) := by omega
    have wp : IntKind.u64.wrap (p.size : Int) = (p.size : Int) := by
      have hw : ∀ n : Int, IntKind.u64.wrap n = n % 18446744073709551616 := fun n => by simp [IntKind.wrap, IntKind.bits, IntKind.signed]
      rw [hw]; omega
    have L : As (∀ w', Calls Try.prog 52 #[.int .u64 (p.size : Int), .int .i64 2] w' fun e w'' => e = .returned (.string (len2 p.size)) ∧ w'.grownBy w'' none) := ⟨fun w' => big2_c p.size (by omega) w'⟩
    have M : As (∀ w', Calls Try.prog 53 #[.int .u32 0, .string (len2 p.size ++ p)] w' fun e w'' => e = .returned (.int .u32 ((moreSum 0 (len2 p.size ++ p) : Nat) : Int)) ∧ ∃ n, w'' = w'.drewN n) := ⟨fun w' => rmore_c 0 (by decide) (len2 p.size ++ p) (by rw [ByteArray.size_append, len2_size]; omega) w'⟩
    have e1 : ¬ 9223372036854775807 < (len2 p.size).size + p.size := by rw [len2_size]; omega
    have e2 : (len2 p.size ++ p).size ≤ 5000 := by rw [ByteArray.size_append, len2_size]; omega
    have ml : moreSum 0 (len2 p.size ++ p) < 4294967296 := moreSum_lt (by decide) _
    have FR := As.mk (show frameOf p = len2 p.size ++ p ++ leK (moreSum 0 (len2 p.size ++ p)) 4 by rw [leK_four]; rfl)
    rw [FR.out]
    have E2 := As.mk e2
    clear FR e2 hz
    generalize len2 p.size = l2 at *
    generalize moreSum 0 (l2 ++ p) = ms at *
    have ML := As.mk ml
    clear ml hp
    go_enter Try.func16, Try.ntmps16
    go_wp2_with fail
    refine (L.out _).mono ?_
    rintro e w1 ⟨rfl, hg⟩
    have G1 := As.mk hg
    clear hg L
    go_wp2_with fail
    refine (M.out _).mono ?_
    rintro e w2 ⟨rfl, nd, hw⟩
    have G2 : As (w.grownBy w2 none) := ⟨by rw [hw]; exact gr_drewN G1.out nd⟩
    clear hw G1 M e1
    have hB : ∃ b, b = l2 ++ p := ⟨_, rfl⟩
    obtain ⟨b, hB⟩ := hB
    rw [← hB] at E2
    have HB := As.mk hB
    go_wp2_with fail
    rw [← hB]
    clear hB
    go_loopw [4, 5, 6] (fun s c i wr => ∃ k : Nat, k ≤ 4 ∧ s = .string (b ++ leK ms k) ∧ c = .int .u32 ((ms / 256 ^ k : Nat) : Int) ∧ i = .int .i64 k ∧ As (w.grownBy wr none)) (fun _ _ i _ => 4 - (intOf i).toNat)
    case atStart => exact ⟨0, Nat.zero_le _, by rw [show leK ms 0 = ⟨#[]⟩ from rfl, show b ++ (⟨#[]⟩ : ByteArray) = b from ByteArray.append_empty], by simp, rfl, G2⟩
    case round =>
      clear G2
      obtain ⟨k, hk, rfl, rfl, rfl, HG⟩ := hrel
      by_cases hlt : k < 4
      · have hltI : (k : Int) < 4 := by omega
        have hk0 : (0 : Int) ≤ (k : Int) := by omega
        have EL := As.mk (show leK ms (k + 1) = leK ms k ++ ⟨#[(ms / 256 ^ k).toUInt8]⟩ from rfl)
        have ED := As.mk (show ms / 256 ^ (k + 1) = ms / 256 ^ k / 256 by rw [Nat.pow_succ, Nat.div_div_eq_div_mul])
        have cl : ms / 256 ^ k < 4294967296 := by
          have := Nat.div_le_self ms (256 ^ k)
          have := ML.out
          omega
        have hs : (b ++ leK ms k).size ≤ 5004 := by
          rw [ByteArray.size_append, leK_size]
          have := E2.out
          omega
        have EA := As.mk (show b ++ leK ms k ++ ⟨#[(ms / 256 ^ k).toUInt8]⟩ = b ++ leK ms (k + 1) by rw [EL.out, ByteArray.append_assoc])
        generalize b ++ leK ms k = a at *
        generalize ms / 256 ^ k = c at *
        have e2 : (c : Int).tmod 256 = ((c % 256 : Nat) : Int) := by rw [Int.tmod_eq_emod_of_nonneg (by omega)]; rfl
        have e3 : (c : Int).tdiv 256 = ((c / 256 : Nat) : Int) := by rw [Int.tdiv_eq_ediv_of_nonneg (by omega)]; rfl
        have ev : IntKind.u8.wrap ((c % 256 : Nat) : Int) = ((c.toUInt8.toNat : Nat) : Int) := by
          rw [IntKind.wrap_u8]
          have : c.toUInt8.toNat = c % 256 := by simp
          rw [this]; omega
        have e4 : IntKind.u32.wrap ((c / 256 : Nat) : Int) = ((c / 256 : Nat) : Int) := wraps_u32n _ (by omega) (by omega)
        have hcv := run_convert_bytes_back (P := Try.prog) (wr.alloc (.cells #[.int .u8 ((c.toUInt8.toNat : Nat) : Int)] 5)) 35 9 5 ⟨wr.heap.size, 0, none⟩ 1 [c.toUInt8] Try.underlying35 Try.underlying5 Try.underlying9 (fun j hj => by
          rw [Go.WideShapes.add_plain, Nat.zero_add, World.cell?_alloc_new]
          match j, hj with
          | 0, _ => rfl)
        simp only [List.length_cons, List.length_nil] at hcv
        have hcv : (convert 35 9 (.slice (some ⟨wr.heap.size, 0, none⟩) 1 1)).run Try.prog (wr.alloc (.cells #[.int .u8 ((c.toUInt8.toNat : Nat) : Int)] 5)) = .ok (.string ⟨#[c.toUInt8]⟩) (wr.alloc (.cells #[.int .u8 ((c.toUInt8.toNat : Nat) : Int)] 5)) := hcv
        have ev2 : ((c.toUInt8.toNat : Nat) : Int) = (c : Int) % 256 := by
          have : c.toUInt8.toNat = c % 256 := by simp
          rw [this]; rfl
        rw [ev2] at hcv
        clear ev2 ev
        have e5 : ¬ 9223372036854775807 < a.size + (⟨#[c.toUInt8]⟩ : ByteArray).size := by
          show ¬ 9223372036854775807 < a.size + 1
          omega
        have CL := As.mk (show (c : Int) / 256 % 4294967296 = ((c / 256 : Nat) : Int) by omega)
        clear cl hs
        go_wp2_with fail
        go_roundw
        case measure => simp [intOf]; omega
        case rel => exact ⟨k + 1, by omega, by rw [← EA.out], by rw [ED.out, CL.out], by go_num, ⟨gr_alloc HG.out _⟩⟩
      · obtain rfl : k = 4 := by omega
        go_wp2
        go_ret2
        rw [← HB.out]
        exact ⟨rfl, HG.out⟩
  · rw [if_neg hp]
    have hpI : (4096 : Int) < (p.size : Int) := by omega
    clear hp
    go_enter Try.func16, Try.ntmps16
    go_wp2
    go_ret2
    exact ⟨rfl, gr_refl _ _⟩
def ropenF (s : ByteArray) : ByteArray × Int × Int :=
  if s.size < 6 then (⟨#[]⟩, 0, 4) else
  if 4096 < hd s then (⟨#[]⟩, 0, 5) else
  if s.size < 6 + hd s then (⟨#[]⟩, 0, 4) else
  if frameOf (s.extract 2 (2 + hd s)) = s.extract 0 (6 + hd s) then (s.extract 2 (2 + hd s), ((6 + hd s : Nat) : Int), 0) else (⟨#[]⟩, 0, 3)
set_option maxHeartbeats 3200000 in
theorem ropen_c (s : ByteArray) (w : World) (hz : s.size ≤ 140737488351232) :
    Calls Try.prog 28 #[.string s] w fun e w' => e = .returned (.tuple #[.string (ropenF s).1, .int .i64 (ropenF s).2.1, .int .i64 (ropenF s).2.2]) ∧ w.grownBy w' none := by
  unfold ropenF
  by_cases h6 : s.size < 6
  · rw [if_pos h6]
    go_enter Try.func28, Try.ntmps28
    go_wp2
    go_ret3
    exact ⟨rfl, gr_refl _ _⟩
  · rw [if_neg h6]
    have l0 : (0 : Int) < (s.size : Int) := by omega
    have l1 : (1 : Int) < (s.size : Int) := by omega
    have l6 : ¬ (s.size : Int) < 6 := by omega
    have n0 : 0 < s.size := by omega
    have n1 : 1 < s.size := by omega
    have b0 := byt_lt s 0
    have b1 := byt_lt s 1
    have w0 : IntKind.i64.wrap ((s[0]'n0).toNat : Int) = ((byt s 0 : Nat) : Int) := by rw [byt_get, IntKind.wrap_i64]; omega
    have w1 : IntKind.i64.wrap ((s[1]'n1).toNat : Int) = ((byt s 1 : Nat) : Int) := by rw [byt_get, IntKind.wrap_i64]; omega
    have w2 : IntKind.i64.wrap (((byt s 0 : Nat) : Int) * 256) = ((byt s 0 * 256 : Nat) : Int) := by rw [IntKind.wrap_i64]; omega
    have w3 : IntKind.i64.wrap (((byt s 0 * 256 : Nat) : Int) + ((byt s 1 : Nat) : Int)) = ((hd s : Nat) : Int) := by unfold hd; rw [IntKind.wrap_i64]; omega
    have hhd : hd s < 65536 := by unfold hd; omega
    generalize hd s = n at *
    generalize byt s 0 * 256 = q at *
    generalize byt s 0 = x0 at *
    generalize byt s 1 = x1 at *
    by_cases h4 : 4096 < n
    · rw [if_pos h4]
      have h4I : (4096 : Int) < (n : Int) := by omega
      clear h4 hhd b0 b1
      go_enter Try.func28, Try.ntmps28
      go_wp2_with fail
      go_quiet (fail)
      go_wp2
      go_ret3
      exact ⟨rfl, gr_drewN (gr_refl _ _) _⟩
    · rw [if_neg h4]
      have h4I : ¬ (4096 : Int) < (n : Int) := by omega
      have w6 : IntKind.i64.wrap (6 + (n : Int)) = ((6 + n : Nat) : Int) := by rw [IntKind.wrap_i64]; omega
      by_cases h5 : s.size < 6 + n
      · rw [if_pos h5]
        have h5I : (s.size : Int) < ((6 + n : Nat) : Int) := by omega
        generalize 6 + n = n6 at *
        clear h4 h5 hhd b0 b1
        go_enter Try.func28, Try.ntmps28
        go_wp2_with fail
        go_quiet (fail)
        go_wp2
        go_ret3
        exact ⟨rfl, gr_drewN (gr_refl _ _) _⟩
      · rw [if_neg h5]
        have h5I : ¬ (s.size : Int) < ((6 + n : Nat) : Int) := by omega
        have w5 : IntKind.i64.wrap (2 + (n : Int)) = ((2 + n : Nat) : Int) := by rw [IntKind.wrap_i64]; omega
        have f1 : ((2 + n : Nat) : Int) ≤ (s.size : Int) := by omega
        have f2 : ((6 + n : Nat) : Int) ≤ (s.size : Int) := by omega
        have f3 : (2 : Int) ≤ ((2 + n : Nat) : Int) := by omega
        have hps : (s.extract 2 (2 + n)).size ≤ 4096 := by rw [ByteArray.size_extract]; omega
        have S : As (∀ w', Calls Try.prog 16 #[.string (s.extract 2 (2 + n))] w' fun e w'' => e = .returned (.tuple #[.string (frameOf (s.extract 2 (2 + n))), .bool true]) ∧ w'.grownBy w'' none) := ⟨fun w' => by
          have h := rseal_c (s.extract 2 (2 + n)) (by omega) w'
          rw [if_pos hps] at h
          exact h⟩
        clear hps
        generalize 2 + n = n2 at *
        generalize 6 + n = n6 at *
        generalize frameOf (s.extract 2 n2) = fr at *
        by_cases hc : fr = s.extract 0 n6
        · rw [if_pos hc]
          clear h4 h5 hhd b0 b1
          subst hc
          go_enter Try.func28, Try.ntmps28
          go_wp2_with fail
          go_quiet (fail)
          go_wp2_with fail
          refine (S.out _).mono ?_
          rintro e w4 ⟨rfl, hg⟩
          have G := As.mk hg
          clear hg S
          go_wp2_with fail
          go_ret3
          exact ⟨rfl, gr_then (gr_drewN (gr_refl w none) _) G.out (.inl rfl)⟩
        · rw [if_neg hc]
          clear h4 h5 hhd b0 b1
          have hb : ¬ fr.toList = (s.extract 0 n6).toList := fun e => hc (ba_inj e)
          clear hc
          go_enter Try.func28, Try.ntmps28
          go_wp2_with fail
          go_quiet (fail)
          go_wp2_with fail
          refine (S.out _).mono ?_
          rintro e w4 ⟨rfl, hg⟩
          have G := As.mk hg
          clear hg S
          go_wp2_with fail
          · go_ret3
            exact ⟨rfl, gr_then (gr_drewN (gr_refl w none) _) G.out (.inl rfl)⟩
          · rename_i hx
            exact absurd (by simpa using hx) hb
end Go.Proofs.Ytmehohpboliibaa
