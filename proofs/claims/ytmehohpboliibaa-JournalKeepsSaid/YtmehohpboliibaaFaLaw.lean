/- The walk of the law FrameAll. -/
import Derived.Test.YtmehohpboliibaaFoLaw
namespace Go.Proofs.Ytmehohpboliibaa
open Go.RowKit
set_option linter.unusedVariables false

/-- The frames of the first texts, one behind the other. -/
def framesN (l : List ByteArray) : Nat → ByteArray
  | 0 => ⟨#[]⟩
  | k + 1 => framesN l k ++ frameOf (l.getD k ⟨#[]⟩)
theorem framesN_size (l : List ByteArray) : ∀ k, (framesN l k).size = sumN l k + 6 * k
  | 0 => rfl
  | k + 1 => by rw [framesN, sumN, ByteArray.size_append, framesN_size l k, frameOf_size]; omega
def frL : List ByteArray → ByteArray
  | [] => ⟨#[]⟩
  | p :: r => frameOf p ++ frL r
theorem frL_snoc : ∀ (l : List ByteArray) (p : ByteArray), frL (l ++ [p]) = frL l ++ frameOf p
  | [], p => by
    show frameOf p ++ ⟨#[]⟩ = ⟨#[]⟩ ++ frameOf p
    rw [show frameOf p ++ (⟨#[]⟩ : ByteArray) = frameOf p from ByteArray.append_empty, show (⟨#[]⟩ : ByteArray) ++ frameOf p = frameOf p from ByteArray.empty_append]
  | q :: r, p => by
    show frameOf q ++ frL (r ++ [p]) = frameOf q ++ frL r ++ frameOf p
    rw [frL_snoc r p, ByteArray.append_assoc]
theorem framesN_eq (l : List ByteArray) : ∀ k, k ≤ l.length → framesN l k = frL (l.take k)
  | 0, _ => by rw [List.take_zero]; rfl
  | k + 1, h => by
    rw [framesN, framesN_eq l k (by omega), List.take_succ_eq_append_getElem (show k < l.length by omega), frL_snoc, List.getD_eq_getElem?_getD, List.getElem?_eq_getElem (show k < l.length by omega)]
    rfl
/-- A beginning of a frame is none. -/
theorem open_cut (p : ByteArray) (c : Nat) (hp : p.size ≤ 4096) (hc : c < (frameOf p).size) : (openF ((frameOf p).extract 0 c)).2.2 ≠ 0 := by
  rw [frameOf_size] at hc
  have hz : ((frameOf p).extract 0 c).size = c := by rw [ByteArray.size_extract, frameOf_size]; omega
  unfold openF
  rw [hz]
  by_cases h6 : c < 6
  · rw [if_pos h6]; decide
  · rw [if_neg h6]
    have hh : hd ((frameOf p).extract 0 c) = p.size := by
      have e : (frameOf p).extract 0 c = len2 p.size ++ (frameOf p).extract 2 c := by
        rw [← ext_ext (frameOf p) 0 2 c (by omega) (by omega)]
        congr 1
        unfold frameOf
        rw [ByteArray.append_assoc, ext_left _ _ _ (by rw [len2_size])]
      rw [e, hd_len2 _ (by omega)]
    rw [hh, if_neg (by omega), if_pos (by omega)]
    decide
theorem open_none : (openF ⟨#[]⟩).2.2 ≠ 0 := by
  unfold openF
  rw [if_pos (by decide)]
  decide
theorem all_frames : ∀ (l : List ByteArray) (t : ByteArray), (∀ p ∈ l, p.size ≤ 4096) → (openF t).2.2 ≠ 0 → allF (frL l ++ t) = (l, t)
  | [], t, _, ht => by rw [show frL [] ++ t = t from ByteArray.empty_append, allF_no t ht]
  | p :: r, t, h, ht => by
    have hp := h p (List.mem_cons_self ..)
    have e : frL (p :: r) ++ t = frameOf p ++ (frL r ++ t) := by rw [← ByteArray.append_assoc]; rfl
    have ho := open_seal p (frL r ++ t) hp
    have hi := all_frames r t (fun q hq => h q (List.mem_cons_of_mem _ hq)) ht
    rw [e, allF_yes _ (by rw [ho]), ho]
    dsimp only
    rw [hi]
theorem seal_one (p : ByteArray) (t : TypeId) (w : World) (hp : p.size ≤ 140737488351232) :
    Calls Try.prog 15 #[.slice (some ⟨w.heap.size, 0, none⟩) 1 1] (w.alloc (.cells #[.string p] t)) fun e w' => e = .returned (.tuple (if p.size ≤ 4096 then #[.string (frameOf p), .int .i64 0] else #[.string ⟨#[]⟩, .int .i64 5])) ∧ w.grownBy w' none := by
  have h := seal_c (strs_one w p t) (by simp) (by rw [joinC_one]; exact hp)
  rw [joinC_one] at h
  refine h.mono ?_
  rintro e w' ⟨rfl, hg⟩
  exact ⟨rfl, gr_then (gr_alloc (gr_refl _ _) _) hg (.inl rfl)⟩
theorem sumN_le (xs : List ByteArray) (k : Nat) (hk : k < xs.length) : (xs.getD k ⟨#[]⟩).size ≤ sumN xs xs.length := by
  have h := sumN_mono xs (k + 1)
  rw [sumN] at h
  omega
/-- What holds behind the loop: the last frame, cut. -/
theorem fa_end (l : List ByteArray) (last : ByteArray) (c : Nat) (hl : ∀ p ∈ l, p.size ≤ 4096) (hp : last.size ≤ 4096) (hc : c < (frameOf last).size) :
    allF (framesN l l.length ++ (frameOf last).extract 0 c) = (l, (frameOf last).extract 0 c) := by
  rw [framesN_eq l l.length (Nat.le_refl _), List.take_length]
  exact all_frames l _ hl (open_cut last c hp hc)
theorem all_cut (l : List ByteArray) (m : ByteArray) (hl : ∀ p ∈ l, p.size ≤ 4096) (hm : m.size ≤ 3000) (ht : sumN l l.length ≤ 9000 ∧ l.length ≤ 40) (c : Nat) (hc : c < (frameOf m).size) (w' : World) :
    Calls Try.prog 29 #[.string (framesN l l.length ++ (frameOf m).extract 0 c)] w' fun e w'' => (∃ v, e = .returned (.tuple #[v, .int .i64 (((framesN l l.length).size : Nat) : Int)]) ∧ Strs w'' v l) ∧ w'.grownBy w'' none := by
  have fa := fa_end l m c hl (by omega) hc
  have hz : (framesN l l.length ++ (frameOf m).extract 0 c).size = (framesN l l.length).size + ((frameOf m).extract 0 c).size := ByteArray.size_append
  have h9 : ((frameOf m).extract 0 c).size ≤ c := by rw [ByteArray.size_extract]; omega
  have hf := framesN_size l l.length
  have hfo := frameOf_size m
  generalize (frameOf m).extract 0 c = t at *
  generalize framesN l l.length = fs at *
  have h := all_c (fs ++ t) w' (by omega)
  rw [fa] at h
  dsimp only at h
  have e : ((fs ++ t).size : Int) - (t.size : Int) = (fs.size : Int) := by omega
  rw [e] at h
  refine h.mono ?_
  rintro e w'' ⟨⟨v, rfl, ho⟩, hg⟩
  exact ⟨⟨v, rfl, own_strs ho⟩, hg⟩
set_option maxRecDepth 100000 in
set_option maxHeartbeats 6400000 in
theorem fa_walk (v : Value) (l : List ByteArray) (m : ByteArray) (cut : Int) (w : World) (h : Strs w v l) (hb : ∀ s ∈ l, s.size ≤ 140737488351232) (hm : m.size ≤ 140737488351232) :
    Calls Try.prog 8 #[v, .string m, .int .i64 cut] w fun e w' => e = .returned (.bool true) ∧ w.grownBy w' none := by
  obtain ⟨A, c, rfl⟩ := h.len
  have H := As.mk h
  have HB := As.mk hb
  clear h hb
  go_enter Try.func8, Try.ntmps8
  go_wp2_with fail
  refine (awake3_walk _).mono ?_
  rintro e w1 ⟨rfl, hg⟩
  have G1 := As.mk hg
  clear hg
  go_wp2_with fail
  refine (long_walk _ l _ (H.out.grown G1.out) HB.out).mono ?_
  rintro e w2 ⟨⟨b, rfl, ht⟩, nd, hw⟩
  have G2 : As (w.grownBy w2 none) := ⟨by rw [hw]; exact gr_drewN G1.out nd⟩
  clear hw G1
  cases b with
  | true =>
    clear ht
    go_wp2
    go_ret
    exact ⟨rfl, G2.out⟩
  | false =>
    have HT := As.mk (ht rfl)
    clear ht
    by_cases h3 : m.size ≤ 3000
    · have h3I : ¬ (3000 : Int) < (m.size : Int) := by omega
      have H3 := As.mk h3
      clear h3
      go_wp2_with fail
      go_loopw [7, 27] (fun s i wr => ∃ k : Nat, k ≤ l.length ∧ s = .string (framesN l k) ∧ i = .int .i64 k ∧ As (∀ j, j < k → (l.getD j ⟨#[]⟩).size ≤ 4096) ∧ As (w.grownBy wr none)) (fun _ i _ => l.length - (intOf i).toNat)
      case atStart => exact ⟨0, Nat.zero_le _, rfl, rfl, ⟨fun j hj => absurd hj (by omega)⟩, G2⟩
      case round =>
        clear G2
        obtain ⟨k, hk, rfl, rfl, HP, HG⟩ := hrel
        by_cases hlt : k < l.length
        · have hltI : (k : Int) < (l.length : Int) := by omega
          have hk0 : (0 : Int) ≤ (k : Int) := by omega
          obtain ⟨b2, o2, rfl, cj⟩ := H.out.at_ k hlt
          have cj2 := HG.out.cell cj (by simp)
          have FE := As.mk (show framesN l (k + 1) = framesN l k ++ frameOf (l.getD k ⟨#[]⟩) from rfl)
          have hsz := sumN_le l k hlt
          have hfs := framesN_size l k
          have hsm := sumN_mono l k
          have hfo := frameOf_size (l.getD k ⟨#[]⟩)
          have ht1 := HT.out.1
          have ht2 := HT.out.2
          have e1 : ¬ 9223372036854775807 < (framesN l k).size + (frameOf (l.getD k ⟨#[]⟩)).size := by omega
          have hs9 : (l.getD k ⟨#[]⟩).size ≤ 9000 := by omega
          have wk : IntKind.i64.wrap ((k : Int) + 1) = (k : Int) + 1 := by rw [IntKind.wrap_i64]; omega
          clear cj hsz hfs hsm hfo ht1 ht2
          have S := As.mk (fun w' => seal_one (l.getD k ⟨#[]⟩) 9 w' (by omega))
          have PK := As.mk (show (l.getD k ⟨#[]⟩).size ≤ 4096 → ∀ j, j < k + 1 → (l.getD j ⟨#[]⟩).size ≤ 4096 from fun hp j hj => by
            rcases Nat.lt_succ_iff_lt_or_eq.1 hj with hj | rfl
            · exact HP.out j hj
            · exact hp)
          generalize l.getD k ⟨#[]⟩ = p at *
          generalize framesN l k = f0 at *
          by_cases hp : p.size ≤ 4096
          · have S1 : As (∀ w' : World, Calls Try.prog 15 #[.slice (some ⟨w'.heap.size, 0, none⟩) 1 1] (w'.alloc (.cells #[.string p] 9)) fun e w'' => e = .returned (.tuple #[.string (frameOf p), .int .i64 0]) ∧ w'.grownBy w'' none) := ⟨fun w' => by
              have h := S.out w'
              rw [if_pos hp] at h
              exact h⟩
            have PK2 := As.mk (PK.out hp)
            clear S hs9 hp PK
            generalize frameOf p = fr at *
            go_wp2_with fail
            refine (S1.out _).mono ?_
            rintro e w4 ⟨rfl, hg⟩
            have G4 := As.mk (gr_then HG.out hg (.inl rfl))
            clear hg HG S1
            go_wp2_with fail
            go_roundw
            case measure => simp [intOf]; omega
            case rel => exact ⟨k + 1, by omega, by rw [FE.out], by go_num, PK2, G4⟩
          · have S1 : As (∀ w' : World, Calls Try.prog 15 #[.slice (some ⟨w'.heap.size, 0, none⟩) 1 1] (w'.alloc (.cells #[.string p] 9)) fun e w'' => e = .returned (.tuple #[.string ⟨#[]⟩, .int .i64 5]) ∧ w'.grownBy w'' none) := ⟨fun w' => by
              have h := S.out w'
              rw [if_neg hp] at h
              exact h⟩
            have hpI : (4096 : Int) < (p.size : Int) := by omega
            clear S hs9 hp PK
            go_wp2_with fail
            refine (S1.out _).mono ?_
            rintro e w4 ⟨rfl, hg⟩
            have G4 := As.mk (gr_then HG.out hg (.inl rfl))
            clear hg HG S1
            go_wp2
            go_ret
            exact ⟨rfl, G4.out⟩
        · obtain rfl : k = l.length := by omega
          have HPA := As.mk (show ∀ p ∈ l, p.size ≤ 4096 from fun p hp => by
            obtain ⟨j, hj, rfl⟩ := List.getElem_of_mem hp
            have := HP.out j hj
            rwa [List.getD_eq_getElem?_getD, List.getElem?_eq_getElem hj] at this)
          have S1 : As (∀ w' : World, Calls Try.prog 15 #[.slice (some ⟨w'.heap.size, 0, none⟩) 1 1] (w'.alloc (.cells #[.string m] 9)) fun e w'' => e = .returned (.tuple #[.string (frameOf m), .int .i64 0]) ∧ w'.grownBy w'' none) := ⟨fun w' => by
            have h := seal_one m 9 w' (by have := H3.out; omega)
            rw [if_pos (by have := H3.out; omega)] at h
            exact h⟩
          have hfs := framesN_size l l.length
          have hfo := frameOf_size m
          have FS := As.mk (show (framesN l l.length).size ≤ 9240 ∧ (frameOf m).size ≤ 3006 ∧ 6 ≤ (frameOf m).size by have := HT.out; have := H3.out; omega)
          have AC : As (∀ c, c < (frameOf m).size → ∀ w' : World, Calls Try.prog 29 #[.string (framesN l l.length ++ (frameOf m).extract 0 c)] w' fun e w'' => (∃ v, e = .returned (.tuple #[v, .int .i64 (((framesN l l.length).size : Nat) : Int)]) ∧ Strs w'' v l) ∧ w'.grownBy w'' none) := ⟨all_cut l m HPA.out H3.out HT.out⟩
          clear hfs hfo HP HPA hlt hk h3I
          go_wp2_with fail
          refine (S1.out _).mono ?_
          rintro e w4 ⟨rfl, hg⟩
          have G4 := As.mk (gr_then HG.out hg (.inl rfl))
          clear hg HG S1
          generalize framesN l l.length = fs at *
          generalize frameOf m = fr at *
          have AC0 : As (∀ w' : World, Calls Try.prog 29 #[.string fs] w' fun e w'' => (∃ v, e = .returned (.tuple #[v, .int .i64 ((fs.size : Nat) : Int)]) ∧ Strs w'' v l) ∧ w'.grownBy w'' none) := ⟨fun w' => by
            have h := AC.out 0 (by have := FS.out; omega) w'
            rw [ByteArray.extract_same, show fs ++ ByteArray.empty = fs from ByteArray.append_empty] at h
            exact h⟩
          by_cases hc0 : cut < 0
          · have e6 : ¬ 9223372036854775807 < fs.size := by have := FS.out; omega
            have e7 : (0 : Int) ≤ (fr.size : Int) := by omega
            go_wp2_with fail
            refine (AC0.out _).mono ?_
            rintro e w5 ⟨⟨v5, rfl, ho⟩, hg⟩
            have G5 := As.mk (gr_then G4.out hg (.inl rfl))
            have O5 := As.mk ho
            clear hg ho G4 AC AC0
            go_wp2_with fail
            refine (same_c _ _ _ _ _ O5.out (H.out.grown G5.out) (by have := HT.out.2; omega)).mono ?_
            rintro e w6 ⟨rfl, nd6, hw⟩
            have G6 : As (w.grownBy w6 none) := ⟨by rw [hw]; exact gr_drewN G5.out nd6⟩
            clear hw
            go_wp2
            go_ret
            exact ⟨by simp, G6.out⟩
          · by_cases hc1 : (fr.size : Int) ≤ cut
            · have e6 : ¬ 9223372036854775807 < fs.size := by have := FS.out; omega
              have e7 : (0 : Int) ≤ (fr.size : Int) := by omega
              go_wp2_with fail
              refine (AC0.out _).mono ?_
              rintro e w5 ⟨⟨v5, rfl, ho⟩, hg⟩
              have G5 := As.mk (gr_then G4.out hg (.inl rfl))
              have O5 := As.mk ho
              clear hg ho G4 AC AC0
              go_wp2_with fail
              refine (same_c _ _ _ _ _ O5.out (H.out.grown G5.out) (by have := HT.out.2; omega)).mono ?_
              rintro e w6 ⟨rfl, nd6, hw⟩
              have G6 : As (w.grownBy w6 none) := ⟨by rw [hw]; exact gr_drewN G5.out nd6⟩
              clear hw
              go_wp2
              go_ret
              exact ⟨by simp, G6.out⟩
            · have e6 : ¬ 9223372036854775807 < fs.size + cut.toNat := by have := FS.out; omega
              have e7 : cut ≤ (fr.size : Int) := by omega
              have e8 : 0 ≤ cut := by omega
              go_wp2_with fail
              refine (AC.out cut.toNat (by have := FS.out; omega) _).mono ?_
              rintro e w5 ⟨⟨v5, rfl, ho⟩, hg⟩
              have G5 := As.mk (gr_then G4.out hg (.inl rfl))
              have O5 := As.mk ho
              clear hg ho G4 AC AC0
              go_wp2_with fail
              refine (same_c _ _ _ _ _ O5.out (H.out.grown G5.out) (by have := HT.out.2; omega)).mono ?_
              rintro e w6 ⟨rfl, nd6, hw⟩
              have G6 : As (w.grownBy w6 none) := ⟨by rw [hw]; exact gr_drewN G5.out nd6⟩
              clear hw
              go_wp2
              go_ret
              exact ⟨by simp, G6.out⟩
    · have h3I : (3000 : Int) < (m.size : Int) := by omega
      go_wp2
      go_ret
      exact ⟨rfl, G2.out⟩
end Go.Proofs.Ytmehohpboliibaa
