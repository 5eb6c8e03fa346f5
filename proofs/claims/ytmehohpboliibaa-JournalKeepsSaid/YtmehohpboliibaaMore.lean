/- The walks of crc.More and crc.Sum. -/
import Derived.Test.YtmehohpboliibaaHalves
import Derived.Test.YtmehohpboliibaaDkMath
namespace Go.Proofs.Ytmehohpboliibaa
open Go.RowKit
set_option linter.unusedVariables false

theorem tab16 : tabK 16 = #[tv 0, tv 1, tv 2, tv 3, tv 4, tv 5, tv 6, tv 7, tv 8, tv 9, tv 10, tv 11, tv 12, tv 13, tv 14, tv 15] := by rfl
theorem ba_snoc (s : ByteArray) (k : Nat) (h : k < s.size) : s.data.toList.take (k + 1) = s.data.toList.take k ++ [s[k]] := by
  rw [List.take_succ_eq_append_getElem (by simpa using h)]; rfl
theorem ba_all (s : ByteArray) : s.data.toList.take s.size = s.data.toList := List.take_of_length_le (by rw [Array.length_toList]; exact Nat.le_refl _)
theorem half_int (q : Nat) (h : q < 4294967296) : bits .xor .u32 ((q : Int) / 16) ((bN 4 (q % 16) : Nat) : Int) = ((bN 4 q : Nat) : Int) := by
  have := xor32 (q / 16) (bN 4 (q % 16)) (by omega) (bN_lt 4 (by omega))
  rw [half q, ← this]
  rfl
/-- What one half byte's step reads and makes. -/
structure Half (wr : World) (g q m u r : Nat) : Prop where
  a : bits .and .u32 (q : Int) 15 = (m : Int)
  lo : m < 16
  c : wr.cell? ⟨g, m, none⟩ = some (.int .u32 (u : Int))
  y : bits .xor .u32 ((q : Int) / 16) (u : Int) = (r : Int)
  lt : r < 4294967296
  e : r = bN 4 q
theorem Half.of {wr : World} {g : Nat} (h : Blk wr g 106 (tabK 16)) (q : Nat) (hq : q < 4294967296) : ∃ m u r, Half wr g q m u r :=
  ⟨q % 16, bN 4 (q % 16), bN 4 q, and32_15 q hq, Nat.mod_lt _ (by decide), (h.cell (q % 16)).trans (tabK_at 16 _ (Nat.mod_lt _ (by decide)) (Nat.mod_lt _ (by decide))), half_int q hq, bN_lt 4 hq, rfl⟩
set_option maxRecDepth 100000 in
set_option maxHeartbeats 3200000 in
theorem more_c (c : Nat) (hc : c < 4294967296) (v : Value) (xs : List ByteArray) (w : World) (h : Strs w v xs) (hN : xs.length ≤ 140737488355328) (hz : ∀ s ∈ xs, s.size ≤ 140737488351232) :
    Calls Try.prog 68 #[.int .u32 (c : Int), v] w fun e w' => e = .returned (.int .u32 ((moreSum c (joinC xs) : Nat) : Int)) ∧ w.grownBy w' none := by
  obtain ⟨A, c', rfl⟩ := h.len
  have H := As.mk h
  have HZ := As.mk hz
  clear h hz
  have ex : bits .xor .u32 IntKind.u32.max (c : Int) = ((c ^^^ 4294967295 : Nat) : Int) := by
    rw [Nat.xor_comm]
    exact xor32 4294967295 c (by decide) hc
  have hc2 : c ^^^ 4294967295 < 4294967296 := Nat.xor_lt_two_pow (n := 32) hc (by decide)
  have HL := As.mk hc2
  clear hc2 hc
  have hm : moreSum c (joinC xs) = runSum (c ^^^ 4294967295) (joinN xs xs.length).data.toList ^^^ 4294967295 := by rw [← joinC_eq]; rfl
  rw [hm]
  clear hm
  generalize c ^^^ 4294967295 = c0 at *
  go_enter Try.func68, Try.ntmps68
  go_wp2_with fail
  refine (halves_c _).mono ?_
  rintro e w1 ⟨rfl, hg⟩
  have HG := As.mk hg
  clear hg
  rw [tab16]
  unfold tv
  go_wp2_with fail
  have T0 : As (Blk (w1.alloc (.cells #[tv 0, tv 1, tv 2, tv 3, tv 4, tv 5, tv 6, tv 7, tv 8, tv 9, tv 10, tv 11, tv 12, tv 13, tv 14, tv 15] 106)) w1.heap.size 106 (tabK 16)) := ⟨by rw [tab16]; exact Blk.new _ _ _⟩
  have G0 : As (w.grownBy (w1.alloc (.cells #[tv 0, tv 1, tv 2, tv 3, tv 4, tv 5, tv 6, tv 7, tv 8, tv 9, tv 10, tv 11, tv 12, tv 13, tv 14, tv 15] 106)) none) := ⟨gr_alloc HG.out _⟩
  unfold tv at T0 G0
  clear HG
  generalize w1.alloc _ = w2 at *
  generalize w1.heap.size = g at *
  clear ex
  go_loopw [6, 15] (fun s i wr => ∃ k : Nat, k ≤ xs.length ∧ s = .int .u32 ((runSum c0 (joinN xs k).data.toList : Nat) : Int) ∧ i = .int .i64 k ∧ As (Blk wr g 106 (tabK 16)) ∧ As (w.grownBy wr none)) (fun _ i _ => xs.length - (intOf i).toNat)
  case atStart => exact ⟨0, Nat.zero_le _, rfl, rfl, T0, G0⟩
  case round =>
    clear T0 G0
    obtain ⟨k, hk, rfl, rfl, HT, HG⟩ := hrel
    by_cases hlt : k < xs.length
    · have hltI : (k : Int) < (xs.length : Int) := by omega
      have hk0 : (0 : Int) ≤ (k : Int) := by omega
      obtain ⟨b2, o2, rfl, cj⟩ := H.out.at_ k hlt
      have cj2 := HG.out.cell cj (by simp)
      have hsz : (xs.getD k ⟨#[]⟩).size ≤ 140737488351232 := by
        rw [List.getD_eq_getElem?_getD, List.getElem?_eq_getElem hlt]
        exact HZ.out _ (List.getElem_mem hlt)
      have EJ := As.mk (show joinN xs (k + 1) = joinN xs k ++ xs.getD k ⟨#[]⟩ from rfl)
      have RL := As.mk (runSum_lt HL.out (joinN xs k).data.toList)
      have hc1 : ∃ c1, c1 = runSum c0 (joinN xs k).data.toList := ⟨_, rfl⟩
      obtain ⟨c1, hc1⟩ := hc1
      rw [← hc1] at RL ⊢
      have HC1 := As.mk hc1
      clear hc1 cj
      generalize xs.getD k ⟨#[]⟩ = s at *
      have hwr : ∀ x : UInt8, IntKind.u32.wrap (x.toNat : Int) = (x.toNat : Int) := fun x => by
        have := x.toNat_lt
        exact wraps_u32n _ (by omega) (by omega)
      go_wp2_with fail
      go_loopw [6, 9] (fun z i w3 => ∃ j : Nat, j ≤ s.size ∧ z = .int .u32 ((runSum c1 (s.data.toList.take j) : Nat) : Int) ∧ i = .int .i64 j ∧ As (Blk w3 g 106 (tabK 16)) ∧ As (w.grownBy w3 none)) (fun _ i _ => s.size - (intOf i).toNat)
      case atStart => exact ⟨0, Nat.zero_le _, rfl, rfl, HT, HG⟩
      case round =>
        clear HT HG cj2
        obtain ⟨j, hj, rfl, rfl, HT, HG⟩ := hrel
        by_cases hjl : j < s.size
        · have hltJ : (j : Int) < (s.size : Int) := by omega
          have hj0 : (0 : Int) ≤ (j : Int) := by omega
          have hb := (s[j]'hjl).toNat_lt
          have zl := runSum_lt RL.out (s.data.toList.take j)
          have EZ := As.mk (show runSum c1 (s.data.toList.take (j + 1)) = byteStep (runSum c1 (s.data.toList.take j)) s[j] by rw [ba_snoc s j hjl, runSum_append]; rfl)
          generalize runSum c1 (s.data.toList.take j) = z at *
          have x1 : bits .xor .u32 (z : Int) ((s[j]'hjl).toNat : Int) = ((z ^^^ (s[j]'hjl).toNat : Nat) : Int) := xor32 z _ zl (by omega)
          have ql : z ^^^ (s[j]'hjl).toNat < 4294967296 := Nat.xor_lt_two_pow (n := 32) zl (by omega)
          have EQ := As.mk (show byteStep z s[j] = bN 4 (bN 4 (z ^^^ (s[j]'hjl).toNat)) from byteStep_halves _ _)
          generalize z ^^^ (s[j]'hjl).toNat = q at *
          obtain ⟨m, u, r, h1⟩ := Half.of HT.out q ql
          obtain ⟨m2, u2, r2, h2⟩ := Half.of HT.out r h1.lt
          have a1 := h1.a
          have l1 : (m : Int) < 16 := by have := h1.lo; omega
          have p1 : (0 : Int) ≤ (m : Int) := by omega
          have k1 := h1.c
          have y1 := h1.y
          have a2 := h2.a
          have l2 : (m2 : Int) < 16 := by have := h2.lo; omega
          have p2 : (0 : Int) ≤ (m2 : Int) := by omega
          have k2 := h2.c
          have y2 := h2.y
          have ER := As.mk (show byteStep z s[j] = r2 by rw [EQ.out, h2.e, h1.e])
          clear h1 h2 hb zl ql
          go_wp2_with fail
          go_roundw
          case measure => simp [intOf]; omega
          case rel => exact ⟨j + 1, by omega, by rw [EZ.out, ER.out], by go_num, HT, HG⟩
        · obtain rfl : j = s.size := by omega
          go_wp2_with fail
          go_roundw
          case measure => simp [intOf]; omega
          case rel => exact ⟨k + 1, by omega, by rw [EJ.out, ByteArray.data_append, Array.toList_append, runSum_append, ← HC1.out, ba_all], by go_num, HT, HG⟩
    · obtain rfl : k = xs.length := by omega
      have e1 : bits .xor .u32 IntKind.u32.max ((runSum c0 (joinN xs xs.length).data.toList : Nat) : Int) = ((runSum c0 (joinN xs xs.length).data.toList ^^^ 4294967295 : Nat) : Int) := by
        rw [Nat.xor_comm]
        exact xor32 4294967295 _ (by decide) (runSum_lt HL.out _)
      go_wp2
      go_ret
      exact ⟨rfl, HG.out⟩
theorem sum_c (v : Value) (xs : List ByteArray) (w : World) (h : Strs w v xs) (hN : xs.length ≤ 140737488355328) (hz : ∀ s ∈ xs, s.size ≤ 140737488351232) :
    Calls Try.prog 65 #[v] w fun e w' => e = .returned (.int .u32 ((moreSum 0 (joinC xs) : Nat) : Int)) ∧ w.grownBy w' none := by
  have M := As.mk (more_c 0 (by decide) v xs w h hN hz)
  clear hN hz
  obtain ⟨A, c', rfl⟩ := h.len
  clear h
  go_enter Try.func65, Try.ntmps65
  go_wp2_with fail
  refine M.out.mono ?_
  rintro e w1 ⟨rfl, hg⟩
  have HG := As.mk hg
  clear hg M
  go_wp2
  go_ret
  exact ⟨rfl, HG.out⟩
end Go.Proofs.Ytmehohpboliibaa
