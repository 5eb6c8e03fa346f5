/- The walk of the law FrameTurned. -/
import Derived.Test.YtmehohpboliibaaFtLaw
namespace Go.Proofs.Ytmehohpboliibaa
open Go.RowKit
set_option linter.unusedVariables false

set_option maxRecDepth 100000 in
set_option maxHeartbeats 6400000 in
theorem ft_walk (p : ByteArray) (at_ : Int) (m : Nat) (w : World) (hz : p.size ≤ 140737488351232) (ha : (Lit.int .i64 at_).wf = true) (hm : m < 4294967296) :
    Calls Try.prog 4 #[.string p, .int .i64 at_, .int .u32 (m : Int)] w fun e w' => e = .returned (.bool true) ∧ w.grownBy w' none := by
  have S := As.mk (fun w' => seal_one p 9 w' hz)
  by_cases hp : p.size ≤ 4096
  · have hpI : ¬ (4096 : Int) < (p.size : Int) := by omega
    have HP := As.mk hp
    have S1 : As (∀ w' : World, Calls Try.prog 15 #[.slice (some ⟨w'.heap.size, 0, none⟩) 1 1] (w'.alloc (.cells #[.string p] 9)) fun e w'' => e = .returned (.tuple #[.string (frameOf p), .int .i64 0]) ∧ w'.grownBy w'' none) := ⟨fun w' => by
      have h := S.out w'
      rw [if_pos hp] at h
      exact h⟩
    have FS := As.mk (frameOf_size p)
    have TN := As.mk (turned_not p hp)
    have OC := As.mk (open_cut p)
    have OS : As (openF (frameOf p) = (p, ⟨#[]⟩, 0)) := ⟨by
      have os := open_seal p ⟨#[]⟩ hp
      rwa [show frameOf p ++ (⟨#[]⟩ : ByteArray) = frameOf p from ByteArray.append_empty] at os⟩
    clear S hp
    generalize frameOf p = s at *
    go_enter Try.func4, Try.ntmps4
    go_wp2_with fail
    refine (awake3_walk _).mono ?_
    rintro e w1 ⟨rfl, hg⟩
    have G1 := As.mk hg
    clear hg
    go_wp2_with fail
    refine (S1.out _).mono ?_
    rintro e w2 ⟨rfl, hg⟩
    have G2 := As.mk (gr_then G1.out hg (.inl rfl))
    clear hg G1 S1
    by_cases h0 : at_ < 0
    · go_wp2
      go_ret
      exact ⟨rfl, G2.out⟩
    · by_cases h1 : (s.size : Int) ≤ at_
      · go_wp2
        go_ret
        exact ⟨rfl, G2.out⟩
      · obtain ⟨a, rfl⟩ : ∃ a : Nat, at_ = (a : Int) := ⟨at_.toNat, by omega⟩
        have hal : a < s.size := by omega
        have HA := As.mk hal
        have a0 : (0 : Int) ≤ (a : Int) := by omega
        have a1 : (a : Int) ≤ (s.size : Int) := by omega
        have a2 : ¬ (s.size : Int) ≤ (a : Int) := by omega
        clear h0 h1 hal ha
        go_wp2_with fail
        refine (open_c (s.extract 0 a) _ (by rw [ByteArray.size_extract]; have := FS.out; have := HP.out; omega)).mono ?_
        rintro e w3 ⟨rfl, hg⟩
        have G3 := As.mk (gr_then G2.out hg (.inl rfl))
        have EC := As.mk (OC.out a HP.out HA.out)
        clear hg G2 OC
        generalize (openF (s.extract 0 a)).1 = c1 at *
        generalize (openF (s.extract 0 a)).2.1 = c2 at *
        generalize (openF (s.extract 0 a)).2.2 = ec at *
        have hcv := run_bytes_of_string (P := Try.prog) w3 9 35 5 s Try.underlying9 Try.underlying35 Try.underlying5
        have hcap : s.size ≤ grownCap w3 s.size 0 5 := grownCap_ge _ _ _ _
        generalize grownCap w3 s.size 0 5 = cap at *
        have B0 : As (BytesIn (w3.alloc (.cells (bytesRow s cap) 5 ((bytesRow s cap).size, (bytesRow s cap).size + 1))).drew w3.heap.size s.data.toList) := ⟨BytesIn.new w3 s cap hcap⟩
        have GG : As (w.grownBy (w3.alloc (.cells (bytesRow s cap) 5 ((bytesRow s cap).size, (bytesRow s cap).size + 1))).drew none) := ⟨gr_drew (gr_alloc G3.out _)⟩
        have HG := As.mk (show w.heap.size ≤ w3.heap.size from G3.out.size)
        clear hcap G3
        go_wp2_with fail
        clear hcv
        generalize (w3.alloc (.cells (bytesRow s cap) 5 ((bytesRow s cap).size, (bytesRow s cap).size + 1))).drew = w4 at *
        generalize w3.heap.size = g at *
        have SL := As.mk (ba_sz s)
        go_loopw [13, 14] (fun b i wr => ∃ k : Nat, k ≤ 4 ∧ b = .bool (chg m k) ∧ i = .int .i64 k ∧ As (a + k ≤ s.size) ∧ As (BytesIn wr g (turnK s.data.toList a m k)) ∧ As (w.grownBy wr none)) (fun _ i _ => 4 - (intOf i).toNat)
        case atStart => exact ⟨0, Nat.zero_le _, rfl, rfl, ⟨by have := HA.out; omega⟩, B0, GG⟩
        case round =>
          clear B0 GG
          obtain ⟨k, hk, rfl, rfl, HK, HB, HGR⟩ := hrel
          by_cases hlt : k < 4 ∧ a + k < s.size
          · obtain ⟨hk4, hja⟩ := hlt
            have hltI : (k : Int) < 4 := by omega
            have hk0 : (0 : Int) ≤ (k : Int) := by omega
            obtain ⟨j, hj⟩ : ∃ j, j = a + k := ⟨_, rfl⟩
            have hw1 : IntKind.i64.wrap ((a : Int) + (k : Int)) = (j : Int) := by
              have := FS.out
              have := HP.out
              rw [IntKind.wrap_i64]; omega
            have hjI : (j : Int) < (s.size : Int) := by omega
            have hj0 : (0 : Int) ≤ (j : Int) := by omega
            have hjl : j < s.data.toList.length := by rw [SL.out]; omega
            have EN := As.mk (show turnK s.data.toList a m (k + 1) = (turnK s.data.toList a m k).set j (s.data.toList.getD j 0 ^^^ xb m k) by rw [hj]; rfl)
            have eget : (turnK s.data.toList a m k)[j]? = some (s.data.toList.getD j 0) := by
              rw [turnK_far _ _ _ _ _ (.inr (by omega)), List.getD_eq_getElem?_getD, List.getElem?_eq_getElem hjl]
              rfl
            have jl2 : j < (turnK s.data.toList a m k).length := by rw [turnK_len]; exact hjl
            have cj := HB.out.cell j jl2
            have fj := HB.out.free j jl2
            rw [List.getElem?_eq_getElem jl2] at eget
            injection eget with eget
            rw [eget] at cj
            have ex := xor8 (s.data.toList.getD j 0) (xb m k)
            have BS := As.mk (HB.out.set j (s.data.toList.getD j 0 ^^^ xb m k))
            rw [← EN.out] at BS
            have wu : IntKind.u64.wrap (k : Int) = (k : Int) := by
              have hw : ∀ n : Int, IntKind.u64.wrap n = n % 18446744073709551616 := fun n => by simp [IntKind.wrap, IntKind.bits, IntKind.signed]
              rw [hw]; omega
            have wu8 : IntKind.u64.wrap (8 * (k : Int)) = 8 * (k : Int) := by
              have hw : ∀ n : Int, IntKind.u64.wrap n = n % 18446744073709551616 := fun n => by simp [IntKind.wrap, IntKind.bits, IntKind.signed]
              rw [hw]; omega
            have e2 : (0 : Int) ≤ 8 * (k : Int) := by omega
            have e3 : 8 * (k : Int) ≤ 32 := by omega
            have ev : (m : Int) / 2 ^ (8 * k) % 256 = (((xb m k).toNat : Nat) : Int) := byte_int m k
            have ev2 : IntKind.u8.wrap ((m : Int) / 2 ^ (8 * k)) = (((xb m k).toNat : Nat) : Int) := by rw [IntKind.wrap_u8]; exact ev
            have CN := As.mk (show chg m (k + 1) = (chg m k || xb m k != 0) from rfl)
            have KN := As.mk (show a + (k + 1) ≤ s.size by omega)
            clear jl2 hjl eget HB EN HK hj hja
            generalize s.data.toList.getD j 0 ^^^ xb m k = bx at *
            generalize s.data.toList.getD j 0 = bb at *
            generalize chg m k = cb at *
            by_cases hx : xb m k = 0
            · have ex0 : bits .xor .u8 (bb.toNat : Int) 0 = ((bx.toNat : Nat) : Int) := by
                rw [hx] at ex
                exact ex
              rw [hx] at ev ev2 CN
              have CN2 : As (chg m (k + 1) = cb) := ⟨by rw [CN.out]; simp⟩
              clear CN hx ex
              cases cb with
              | true =>
                go_wp2_with fail
                go_roundw
                case measure => simp [intOf]; omega
                case rel => exact ⟨k + 1, by omega, by rw [CN2.out], by go_num, KN, BS, ⟨gr_set HGR.out (.inr HG.out) _⟩⟩
              | false =>
                go_wp2_with fail
                go_roundw
                case measure => simp [intOf]; omega
                case rel => exact ⟨k + 1, by omega, by rw [CN2.out], by go_num, KN, BS, ⟨gr_set HGR.out (.inr HG.out) _⟩⟩
            · have CN2 : As (chg m (k + 1) = true) := ⟨by rw [CN.out, bne_iff_ne.2 hx, Bool.or_true]⟩
              have hx0 : ¬ (((xb m k).toNat : Nat) : Int) = 0 := by
                intro e
                exact hx (UInt8.toNat_inj.1 (by simpa using e))
              clear CN hx
              have HX0 := As.mk hx0
              generalize xb m k = x at *
              cases cb with
              | true =>
                go_wp2_with fail
                go_roundw
                case measure => simp [intOf]; omega
                case rel => exact ⟨k + 1, by omega, by rw [CN2.out], by go_num, KN, BS, ⟨gr_set HGR.out (.inr HG.out) _⟩⟩
              | false =>
                go_wp2_with fail
                go_roundw
                case measure => simp [intOf]; omega
                case rel => exact ⟨k + 1, by omega, by rw [CN2.out, bne_iff_ne.2 HX0.out], by go_num, KN, BS, ⟨gr_set HGR.out (.inr HG.out) _⟩⟩
          · have HE : As (k ≤ 4 ∧ (k = 4 ∨ a + k = s.size)) := ⟨by have := HK.out; omega⟩
            have TL := As.mk (turnK_len s.data.toList a m k)
            have hcv2 := run_convert_bytes_back (P := Try.prog) wr 35 9 5 ⟨g, 0, none⟩ cap (turnK s.data.toList a m k) Try.underlying35 Try.underlying5 Try.underlying9 (fun j hj => by
              rw [Go.WideShapes.add_plain, Nat.zero_add]
              exact HB.out.cell j hj)
            rw [TL.out, SL.out] at hcv2
            have T1 := As.mk (show (⟨(turnK s.data.toList a m k).toArray⟩ : ByteArray).data.toList = turnK s.data.toList a m k from rfl)
            have TZ := As.mk (show (⟨(turnK s.data.toList a m k).toArray⟩ : ByteArray).size = s.size from by rw [← ba_sz, T1.out, TL.out, SL.out])
            have TT := As.mk (turnK_take s.data.toList a m k)
            have TD := As.mk (turnK_drop s.data.toList a m k hk)
            have TS := As.mk (turnK_same s.data.toList a m k)
            have TO := As.mk (turnK_other s.data.toList a m k (by rw [SL.out]; exact HK.out))
            generalize chg m k = cb at *
            have TE := As.mk (show cb = false → (⟨(turnK s.data.toList a m k).toArray⟩ : ByteArray) = s from fun e => ba_eq (by rw [T1.out, TS.out e]))
            have TX := As.mk (show cb = true → (openF ⟨(turnK s.data.toList a m k).toArray⟩).2.2 ≠ 0 ∨ (openF ⟨(turnK s.data.toList a m k).toArray⟩).2.1 ≠ ⟨#[]⟩ from fun e => TN.out _ a (Nat.le_of_lt HA.out) TZ.out (by rw [T1.out]; exact TT.out) (by rw [T1.out]; exact TD.out) (fun q => TO.out e (by rw [← T1.out, q])))
            clear TT TD TS TO T1 TL
            generalize (⟨(turnK s.data.toList a m k).toArray⟩ : ByteArray) = t at *
            by_cases hk4 : k < 4
            · have hk4I : (k : Int) < 4 := by omega
              have hw1 : IntKind.i64.wrap ((a : Int) + (k : Int)) = (s.size : Int) := by
                have h1 := FS.out
                have h2 := HP.out
                have h3 := HE.out
                rw [IntKind.wrap_i64]; omega
              clear hlt hk hk4
              go_wp2_with fail
              refine (open_c t _ (by rw [TZ.out]; have := FS.out; have := HP.out; omega)).mono ?_
              rintro e w5 ⟨rfl, hg⟩
              have G5 := As.mk (gr_then HGR.out hg (.inl rfl))
              clear hg HGR HB hcv2
              have hec := EC.out
              cases cb with
              | false =>
                have ht : t = s := TE.out rfl
                rw [ht, OS.out]
                clear ht TX TE
                go_wp2
                go_ret
                exact ⟨congrArg (fun b => Ending.returned (.bool b)) (bne_iff_ne.2 EC.out), G5.out⟩
              | true =>
                have hx := TX.out rfl
                clear TE TX
                generalize (openF t).1 = q1 at *
                generalize (openF t).2.1 = q2 at *
                generalize (openF t).2.2 = q3 at *
                by_cases h3 : q3 = 0
                · subst h3
                  have h2 : q2 ≠ ⟨#[]⟩ := by
                    rcases hx with hx | hx
                    · exact absurd rfl hx
                    · exact hx
                  have H2 := As.mk h2
                  clear hx h2
                  go_wp2
                  go_ret
                  have hq : q2.toList.isEmpty = false := by
                    cases hl : q2.toList.isEmpty with
                    | false => rfl
                    | true => exact absurd (ba_inj (a := q2) (b := ⟨#[]⟩) (by rw [List.isEmpty_iff.1 hl, ByteArray.toList_eq])) H2.out
                  exact ⟨congrArg (fun b => Ending.returned (.bool b)) (by rw [bne_iff_ne.2 EC.out, hq]; rfl), G5.out⟩
                · clear hx
                  go_wp2
                  go_ret
                  exact ⟨congrArg (fun b => Ending.returned (.bool b)) (bne_iff_ne.2 EC.out), G5.out⟩
            · have hk4I : ¬ (k : Int) < 4 := by omega
              clear hlt hk hk4
              go_wp2_with fail
              refine (open_c t _ (by rw [TZ.out]; have := FS.out; have := HP.out; omega)).mono ?_
              rintro e w5 ⟨rfl, hg⟩
              have G5 := As.mk (gr_then HGR.out hg (.inl rfl))
              clear hg HGR HB hcv2
              have hec := EC.out
              cases cb with
              | false =>
                have ht : t = s := TE.out rfl
                rw [ht, OS.out]
                clear ht TX TE
                go_wp2
                go_ret
                exact ⟨congrArg (fun b => Ending.returned (.bool b)) (bne_iff_ne.2 EC.out), G5.out⟩
              | true =>
                have hx := TX.out rfl
                clear TE TX
                generalize (openF t).1 = q1 at *
                generalize (openF t).2.1 = q2 at *
                generalize (openF t).2.2 = q3 at *
                by_cases h3 : q3 = 0
                · subst h3
                  have h2 : q2 ≠ ⟨#[]⟩ := by
                    rcases hx with hx | hx
                    · exact absurd rfl hx
                    · exact hx
                  have H2 := As.mk h2
                  clear hx h2
                  go_wp2
                  go_ret
                  have hq : q2.toList.isEmpty = false := by
                    cases hl : q2.toList.isEmpty with
                    | false => rfl
                    | true => exact absurd (ba_inj (a := q2) (b := ⟨#[]⟩) (by rw [List.isEmpty_iff.1 hl, ByteArray.toList_eq])) H2.out
                  exact ⟨congrArg (fun b => Ending.returned (.bool b)) (by rw [bne_iff_ne.2 EC.out, hq]; rfl), G5.out⟩
                · clear hx
                  go_wp2
                  go_ret
                  exact ⟨congrArg (fun b => Ending.returned (.bool b)) (bne_iff_ne.2 EC.out), G5.out⟩
  · have hpI : (4096 : Int) < (p.size : Int) := by omega
    have S1 : As (∀ w' : World, Calls Try.prog 15 #[.slice (some ⟨w'.heap.size, 0, none⟩) 1 1] (w'.alloc (.cells #[.string p] 9)) fun e w'' => e = .returned (.tuple #[.string ⟨#[]⟩, .int .i64 5]) ∧ w'.grownBy w'' none) := ⟨fun w' => by
      have h := S.out w'
      rw [if_neg hp] at h
      exact h⟩
    clear S hp
    go_enter Try.func4, Try.ntmps4
    go_wp2_with fail
    refine (awake3_walk _).mono ?_
    rintro e w1 ⟨rfl, hg⟩
    have G1 := As.mk hg
    clear hg
    go_wp2_with fail
    refine (S1.out _).mono ?_
    rintro e w2 ⟨rfl, hg⟩
    have G2 := As.mk (gr_then G1.out hg (.inl rfl))
    clear hg G1 S1
    go_wp2
    go_ret
    exact ⟨rfl, G2.out⟩
theorem ft_walk2 (p : ByteArray) (at_ m : Int) (w : World) (hz : p.size ≤ 140737488351232) (ha : (Lit.int .i64 at_).wf = true) (hm : (Lit.int .u32 m).wf = true) :
    Calls Try.prog 4 #[.string p, .int .i64 at_, .int .u32 m] w fun e w' => e = .returned (.bool true) ∧ w.grownBy w' none := by
  have hm2 : 0 ≤ m ∧ m ≤ 4294967295 := by simpa [Lit.wf, IntKind.min, IntKind.max, IntKind.signed, IntKind.bits] using hm
  obtain ⟨n, rfl⟩ : ∃ n : Nat, m = (n : Int) := ⟨m.toNat, by omega⟩
  exact ft_walk p at_ n w hz ha (by omega)
end Go.Proofs.Ytmehohpboliibaa
