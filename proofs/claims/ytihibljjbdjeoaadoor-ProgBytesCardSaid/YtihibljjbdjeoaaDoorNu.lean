/- The walk of wire.Writer's Nums. -/
import Derived.Test.YtihibljjbdjeoaaDoorEp
namespace Go.Proofs.YtihibljjbdjeoaaDoor
open Go.RowKit
set_option linter.unusedVariables false
set_option linter.unusedSimpArgs false

def intVals (l : List Int) : List Value := l.map (Value.int .i64)
theorem u64_shr (n : Int) : IntKind.u64.wrap n = n % 18446744073709551616 := by simp [IntKind.wrap, IntKind.bits, IntKind.signed]
theorem u8_wrap (n : Int) : IntKind.u8.wrap n = n % 256 := by simp [IntKind.wrap, IntKind.bits, IntKind.signed]
def enc8At (n : Int) (j : Nat) : UInt8 := byteI (n / 256 ^ (7 - j))
theorem enc8_take (n : Int) (j : Nat) (h : j < 8) : (enc8 n).take (j + 1) = (enc8 n).take j ++ [enc8At n j] := by
  match j, h with
  | 0, _ => rfl
  | 1, _ => rfl
  | 2, _ => rfl
  | 3, _ => rfl
  | 4, _ => rfl
  | 5, _ => rfl
  | 6, _ => rfl
  | 7, _ => simp [enc8, enc8At]
theorem enc8_val (n : Int) (j : Nat) (h : j < 8) : #[Value.int .u8 (IntKind.u64.wrap n / 2 ^ (56 - 8 * j) % 256)] = (byteVals [enc8At n j]).toArray := by
  have : IntKind.u64.wrap n / 2 ^ (56 - 8 * j) % 256 = (((enc8At n j).toNat : Nat) : Int) := by
    rw [u64_shr, enc8At, byteI_nat]
    match j, h with
    | 0, _ => simp; omega
    | 1, _ => simp; omega
    | 2, _ => simp; omega
    | 3, _ => simp; omega
    | 4, _ => simp; omega
    | 5, _ => simp; omega
    | 6, _ => simp; omega
    | 7, _ => simp
  rw [this]
  rfl
def encInts (l : List Int) : List UInt8 := l.flatMap enc8
theorem encInts_take {l : List Int} {k : Nat} (h : k < l.length) : encInts (l.take (k + 1)) = encInts (l.take k) ++ enc8 (l[k]'h) := by
  unfold encInts
  rw [List.take_succ_eq_append_getElem h, List.flatMap_append]
  simp
theorem encInts_len (l : List Int) : (encInts l).length = 8 * l.length := by
  induction l with
  | nil => rfl
  | cons x l ih =>
    unfold encInts at *
    rw [List.flatMap_cons, List.length_append, ih, enc8_len, List.length_cons]
    omega
set_option maxRecDepth 100000 in
set_option maxHeartbeats 6400000 in
theorem nums_c {w : World} {B b ab : Nat} {v : Value} {l : List UInt8} {ns : List Int} {bad : Bool} (h : WrW w B b v l bad) (ha : Blk w ab 3 (intVals ns).toArray) (hab : ab ≠ b) (hav : v.ownBlock ≠ some ab) (hl : l.length + 8 * ns.length < 900000) (hn : ns.length < 1000) :
    Calls Tryd.prog 54 #[.pointer (some ⟨b, 0, none⟩), .slice (some ⟨ab, 0, none⟩) ns.length ns.length] w fun e w' => e = .returned (.tuple #[]) ∧ ∃ v', WrW w' B b v' (l ++ encInts ns) bad ∧ WrG w w' b v v' := by
  have H := As.mk h
  have HA := As.mk (And.intro ha (And.intro hab hav))
  clear h ha hab hav
  go_enter Tryd.func54, Tryd.ntmps54
  go_wp2_with fail
  go_loopw [9] (fun i wr => ∃ k : Nat, k ≤ ns.length ∧ i = .int .i64 k ∧ As (∃ vr, WrW wr B b vr (l ++ encInts (ns.take k)) bad ∧ WrG w wr b v vr)) (fun i _ => ns.length - (intOf i).toNat)
  case atStart => exact ⟨0, Nat.zero_le _, rfl, ⟨v, by simpa [encInts] using H.out, WrG.refl _ _ _⟩⟩
  case round =>
    obtain ⟨k, hk, rfl, HL⟩ := hrel
    by_cases hlt : k < ns.length
    · have hltI : (k : Int) < (ns.length : Int) := by omega
      have hk0 : (0 : Int) ≤ (k : Int) := by omega
      have hk9 : (k : Int) < 1000 := by omega
      obtain ⟨vr, h1, h2⟩ := HL.out
      have c0 : wr.cell? ⟨ab, k, none⟩ = some (.int .i64 (ns[k]'hlt)) := by
        rw [(HA.out.1.wr h2 HA.out.2.1 HA.out.2.2).cell k]
        simp [intVals, hlt]
      have hlen : (l ++ encInts (ns.take k)).length = l.length + 8 * k := by rw [List.length_append, encInts_len, List.length_take, Nat.min_eq_left (by omega)]
      have HT := As.mk (encInts_take hlt)
      have HW := As.mk (And.intro h1 (And.intro h2 hlen))
      clear h1 h2 hlen HL
      generalize ns[k]'hlt = n at *
      generalize hlk : l ++ encInts (ns.take k) = lk at *
      have HLK := As.mk hlk
      clear hlk
      go_wp2_with fail
      obtain ⟨wo, rfl⟩ : ∃ wo : World, wo = wr := ⟨_, rfl⟩
      go_loopw [6] (fun i wr => ∃ j : Nat, j ≤ 8 ∧ i = .int .i64 (56 - 8 * (j : Int)) ∧ As (∃ vi, WrW wr B b vi (lk ++ (enc8 n).take j) bad ∧ WrG w wr b v vi)) (fun i _ => ((intOf i) + 8).toNat)
      case atStart => exact ⟨0, Nat.zero_le _, rfl, ⟨vr, by simpa using HW.out.1, HW.out.2.1⟩⟩
      case round =>
        obtain ⟨j, hj, rfl, HL⟩ := hrel
        by_cases hj8 : j < 8
        · obtain ⟨vi, h1, h2⟩ := HL.out
          have H1 := As.mk h1
          have H2 := As.mk h2
          have HE := As.mk (enc8_take n j hj8)
          have HV := As.mk (enc8_val n j hj8)
          clear h1 h2 HL c0
          have hj0 : (0 : Int) ≤ 56 - 8 * (j : Int) := by omega
          have hj9 : 56 - 8 * (j : Int) < 64 := by omega
          go_wp2_with fail
          rw [HV.out]
          have HA1 := As.mk (Blk.new wr 5 (byteVals [enc8At n j]).toArray)
          refine (by_c (cs := [enc8At n j]) (H1.out.alloc _) HA1.out (Ne.symm (Nat.ne_of_lt H1.out.lt)) H1.out.new_ne (by rw [List.length_append, List.length_take]; have := HW.out.2.2; have := enc8_len n; simp only [List.length_singleton]; omega)).mono ?_
          rintro e w2 ⟨rfl, v', h2, g2⟩
          have HX := As.mk (And.intro h2 ((H2.out.alloc (.cells (byteVals [enc8At n j]).toArray 5)).comp g2))
          clear h2 g2 HA1
          go_wp2_with fail
          go_roundw
          case measure => simp [intOf]; omega
          case rel => exact ⟨j + 1, by omega, by go_num, ⟨v', by rw [HE.out, ← List.append_assoc]; exact HX.out.1, HX.out.2⟩⟩
        · obtain rfl : j = 8 := by omega
          have HX := HL
          clear HL c0
          go_wp2_with fail
          go_roundw
          case measure => simp [intOf]; omega
          case rel =>
            obtain ⟨vi, h1, h2⟩ := HX.out
            exact ⟨k + 1, by omega, by go_num, ⟨vi, by rw [HT.out, ← List.append_assoc, HLK.out]; exact h1, h2⟩⟩
    · obtain rfl : k = ns.length := by omega
      obtain ⟨vr, h1, h2⟩ := HL.out
      have H1 := As.mk h1
      have H2 := As.mk h2
      clear h1 h2
      go_wp2
      go_end0
      exact ⟨rfl, vr, by simpa using H1.out, H2.out⟩
end Go.Proofs.YtihibljjbdjeoaaDoor
