/- The walks of frame.length and frame.sum: the four bytes of the check sum, the two of the length. -/
import Derived.Test.YtmehohpboliibaaMore
import Derived.Laws.IdiomStrings
namespace Go.Proofs.Ytmehohpboliibaa
open Go.RowKit
set_option linter.unusedVariables false

theorem u8_of (n : Nat) : IntKind.u8.wrap (n : Int) = ((n.toUInt8.toNat : Nat) : Int) := by
  rw [IntKind.wrap_u8]
  have : n.toUInt8.toNat = n % 256 := by simp
  rw [this]
  rfl
set_option maxRecDepth 100000 in
theorem length_c (n : Nat) (hn : n ≤ 140737488355328) (w : World) : Calls Try.prog 50 #[.int .i64 (n : Int)] w fun e w' => e = .returned (.string ⟨#[(n / 256).toUInt8, n.toUInt8]⟩) ∧ w.grownBy w' none := by
  have e1 : IntKind.u8.wrap ((n : Int) / 256) = (((n / 256).toUInt8.toNat : Nat) : Int) := u8_of (n / 256)
  have e2 := u8_of n
  generalize (n / 256).toUInt8 = a at *
  generalize n.toUInt8 = b at *
  have hcv := run_convert_bytes_back (P := Try.prog) (w.alloc (.cells #[.int .u8 (a.toNat : Int), .int .u8 (b.toNat : Int)] 5)) 35 9 5 ⟨w.heap.size, 0, none⟩ 2 [a, b] Try.underlying35 Try.underlying5 Try.underlying9 (fun j hj => by
    rw [Go.WideShapes.add_plain, Nat.zero_add, World.cell?_alloc_new]
    match j, hj with
    | 0, _ => rfl
    | 1, _ => rfl)
  simp only [List.length_cons, List.length_nil] at hcv
  go_enter Try.func50, Try.ntmps50
  go_wp2
  go_ret
  exact ⟨rfl, gr_alloc (gr_refl _ _) _⟩
theorem byte_int (m k : Nat) : (m : Int) / 2 ^ (8 * k) % 256 = (((m / 256 ^ k).toUInt8.toNat : Nat) : Int) := by
  have e : (2 : Nat) ^ (8 * k) = 256 ^ k := by rw [Nat.pow_mul]
  have h : (m / 256 ^ k).toUInt8.toNat = m / 256 ^ k % 256 := by simp
  rw [h, ← e]
  simp
def sumK (m k : Nat) : Array Value := Array.ofFn (n := 4) fun i => .int .u8 (if i.val < k then (((m / 256 ^ i.val).toUInt8.toNat : Nat) : Int) else 0)
theorem sumK_set (m k : Nat) (hk : k < 4) : (sumK m k).setIfInBounds k (.int .u8 (((m / 256 ^ k).toUInt8.toNat : Nat) : Int)) = sumK m (k + 1) := by
  apply Array.ext
  · simp [sumK]
  · intro i h1 h2
    rw [Array.getElem_setIfInBounds (by simpa using h1)]
    by_cases h : k = i
    · subst h
      rw [if_pos rfl]
      simp [sumK]
    · rw [if_neg h]
      have : i < k ↔ i < k + 1 := by omega
      simp [sumK, this]
set_option maxRecDepth 100000 in
set_option maxHeartbeats 1600000 in
theorem fsum_c (v : Value) (xs : List ByteArray) (w : World) (h : Strs w v xs) (hN : xs.length ≤ 140737488355328) (hz : ∀ s ∈ xs, s.size ≤ 140737488351232) :
    Calls Try.prog 51 #[v] w fun e w' => e = .returned (.string ⟨#[(moreSum 0 (joinC xs)).toUInt8, (moreSum 0 (joinC xs) / 256).toUInt8, (moreSum 0 (joinC xs) / 65536).toUInt8, (moreSum 0 (joinC xs) / 16777216).toUInt8]⟩) ∧ w.grownBy w' none := by
  have hm := moreSum_lt (c := 0) (by decide) (joinC xs)
  have S := As.mk (fun w' (h : Strs w' v xs) => sum_c v xs w' h hN hz)
  clear hN hz
  obtain ⟨A, c', rfl⟩ := h.len
  have H := As.mk h
  clear h
  generalize moreSum 0 (joinC xs) = m at *
  go_enter Try.func51, Try.ntmps51
  go_wp2_with fail
  refine (S.out _ (H.out.grown (gr_alloc (gr_refl _ _) _))).mono ?_
  rintro e w1 ⟨rfl, hg⟩
  have HB := As.mk ((Blk.new w 98 #[.int .u8 0, .int .u8 0, .int .u8 0, .int .u8 0]).grown hg (by simp))
  have HG := As.mk (gr_then (gr_alloc (gr_refl _ _) _) hg (.inl rfl))
  clear hg S
  have HE : ∃ g, g = w.heap.size := ⟨_, rfl⟩
  obtain ⟨g, hg⟩ := HE
  rw [← hg] at HB ⊢
  have HE := As.mk hg
  clear hg
  have HB : As (Blk w1 g 98 (sumK m 0)) := HB
  go_wp2_with fail
  go_loopw [8] (fun i wr => ∃ k : Nat, k ≤ 4 ∧ i = .int .i64 k ∧ As (Blk wr g 98 (sumK m k)) ∧ As (w.grownBy wr none)) (fun i _ => 4 - (intOf i).toNat)
  case atStart => exact ⟨0, Nat.zero_le _, rfl, HB, HG⟩
  case round =>
    clear HB HG
    obtain ⟨k, hk, rfl, HB, HG⟩ := hrel
    by_cases hlt : k < 4
    · have hltI : (k : Int) < 4 := by omega
      have hk0 : (0 : Int) ≤ (k : Int) := by omega
      have e1 : IntKind.i64.wrap (8 * (k : Int)) = 8 * (k : Int) := by rw [IntKind.wrap_i64]; omega
      have e2 : (0 : Int) ≤ 8 * (k : Int) := by omega
      have e3 : 8 * (k : Int) ≤ 32 := by omega
      have ck : ∃ u, wr.cell? ⟨g, k, none⟩ = some u := by
        refine ⟨_, (HB.out.cell k).trans (Array.getElem?_eq_getElem (by simpa [sumK] using hlt))⟩
      obtain ⟨u, ck⟩ := ck
      have fk := HB.out.free k
      go_wp2_with fail
      have ev := byte_int m k
      go_roundw
      case measure => simp [intOf]; omega
      case rel => exact ⟨k + 1, by omega, by go_num, ⟨by rw [ev, ← sumK_set m k hlt]; exact HB.out.set k _⟩, ⟨gr_set HG.out (.inr (by rw [HE.out]; exact Nat.le_refl _)) _⟩⟩
    · obtain rfl : k = 4 := by omega
      have hcv := run_convert_bytes_back (P := Try.prog) wr 35 9 5 ⟨g, 0, none⟩ 4 [m.toUInt8, (m / 256).toUInt8, (m / 65536).toUInt8, (m / 16777216).toUInt8] Try.underlying35 Try.underlying5 Try.underlying9 (fun j hj => by
        rw [Go.WideShapes.add_plain, Nat.zero_add, HB.out.cell j]
        match j, hj with
        | 0, _ => simp [sumK]
        | 1, _ => simp [sumK]
        | 2, _ => simp [sumK]
        | 3, _ => simp [sumK])
      simp only [List.length_cons, List.length_nil] at hcv
      have cg : ∃ u, wr.cell? ⟨g, 0, none⟩ = some u := ⟨_, (HB.out.cell 0).trans (Array.getElem?_eq_getElem (by simp [sumK]))⟩
      obtain ⟨u, cg⟩ := cg
      go_wp2
      go_ret
      exact ⟨rfl, HG.out⟩
end Go.Proofs.Ytmehohpboliibaa
