/- The walks of the document's All, and Same. -/
import Derived.Test.YtmehohpboliibaaAll
namespace Go.Proofs.Ytmehohpboliibaa
open Go.RowKit
set_option linter.unusedVariables false

set_option maxRecDepth 100000 in
set_option maxHeartbeats 3200000 in
theorem rall_c (s : ByteArray) (w : World) (hz : s.size ≤ 1000000) :
    Calls Try.prog 30 #[.string s] w fun e w' => (∃ v, e = .returned (.tuple #[v, .int .i64 ((s.size : Int) - (allF s).2.size)]) ∧ w'.ownsRow w.heap.size 9 1 v (allF s).1.length (strVals (allF s).1)) ∧ w.grownBy w' none := by
  obtain ⟨i0, hi, hz0, hz1, hz2⟩ := info_split infoStr
  have HI := As.mk (And.intro hi (And.intro hz0 (And.intro hz1 hz2)))
  clear hi hz0 hz1 hz2
  go_enter Try.func30, Try.ntmps30
  go_wp2_with fail
  go_loopw [4, 5] (fun o r wr => ∃ (acc : List ByteArray) (a : Nat), r = .int .i64 a ∧ As (a ≤ s.size ∧ 6 * acc.length ≤ a) ∧ As (acc ++ (allF (s.extract a s.size)).1 = (allF s).1 ∧ (allF (s.extract a s.size)).2 = (allF s).2) ∧ As (wr.ownsRow w.heap.size 9 1 o acc.length (strVals acc)) ∧ As (w.grownBy wr none)) (fun _ r _ => s.size - (intOf r).toNat)
  case atStart => exact ⟨[], 0, rfl, ⟨by simp⟩, ⟨by rw [ByteArray.extract_zero_size]; exact ⟨rfl, rfl⟩⟩, ⟨World.ownsRow_lit w #[] 0 (Nat.le_refl _) (by decide) (by simp)⟩, ⟨gr_alloc (gr_refl _ _) _⟩⟩
  case round =>
    obtain ⟨acc, a, rfl, HL, HA, HO, HG⟩ := hrel
    obtain ⟨A2, c2, rfl⟩ := own_shape HO.out
    have a0 : (0 : Int) ≤ (a : Int) := by omega
    have a1 : (a : Int) ≤ (s.size : Int) := by have := HL.out.1; omega
    have RS := As.mk (show (s.extract a s.size).size = s.size - a by rw [ByteArray.size_extract]; omega)
    have RX := As.mk (show ∀ n, (s.extract a s.size).extract n (s.extract a s.size).size = s.extract (a + n) s.size from fun n => by
      apply ba_eq
      rw [ba_list, ba_list, ba_list, RS.out, List.drop_take, List.drop_drop, List.take_take]
      congr 1
      omega)
    go_wp2_with fail
    refine (ropen_c (s.extract a s.size) _ (by rw [RS.out]; omega)).mono ?_
    rintro e w1 ⟨rfl, hg⟩
    have HO1 := As.mk (own_grown HO.out hg (by cases (Value.slice A2 acc.length c2).ownBlock <;> simp))
    have HG1 := As.mk (gr_then HG.out hg (.inl rfl))
    clear hg HO HG
    have AL := As.mk (opens_alike (s.extract a s.size))
    by_cases h0 : (ropenF (s.extract a s.size)).2.2 = 0
    · obtain ⟨n, hn, hn6, hns, hmore⟩ := AL.out.2.2.1 h0
      have h00 : (openF (s.extract a s.size)).2.2 = 0 := by rw [AL.out.2.1]; exact h0
      have hy := allF_yes _ h00
      rw [hmore, RX.out, AL.out.1] at hy
      have HY := As.mk hy
      have NS := As.mk (And.intro hn6 hns)
      rw [h0, hn]
      have e1 : IntKind.i64.wrap ((a : Int) + (n : Int)) = ((a + n : Nat) : Int) := by
        rw [RS.out] at hns
        have := HL.out.1
        rw [IntKind.wrap_i64]; omega
      clear h0 h00 hy hn hn6 hns hmore AL
      generalize (ropenF (s.extract a s.size)).1 = p at *
      go_wp2_with (at_builtin; refine wpList_append_lies _ (by rfl) _ _ _ (by rfl) w.heap.size 9 i0 _ 1 16 Try.underlying22 HI.out.1 HI.out.2.1 HI.out.2.2.1 HI.out.2.2.2 rfl (by omega) _ acc.length (strVals acc) (by rfl) (HO1.out.alloc _) ⟨w1.heap.size, 0, none⟩ 1 1 [.string p] (by rfl) (by rfl) (World.news_of_block (cs := #[.string p]) (t := 9) (fr := (0, 0)) (heap_alloc_new w1 _)) (by simp [Value.oneCell']) (by omega) (by simp only [maxLen]; have := HL.out; omega) (by have := HL.out; omega) (by have := HG1.out.size; simp; omega) (w1.heap.size + 1) (by simp) ?_; intro gg cap w5 hown1 hgrow hat hlt)
      go_roundw
      case measure =>
        have h1 := NS.out.1
        have h2 := NS.out.2
        rw [RS.out] at h2
        simp only [intOf]
        omega
      case rel => exact ⟨acc ++ [p], a + n, rfl, ⟨by
        have h2 := NS.out
        rw [RS.out] at h2
        have := HL.out
        simp only [List.length_append, List.length_singleton]
        omega⟩, ⟨by rw [← HA.out.1, ← HA.out.2, HY.out]; simp⟩, ⟨by simpa [strVals] using hown1⟩, ⟨gr_then (gr_alloc HG1.out _) hgrow (.inr (.inr (fun k hk => (HO1.out.lt k hk).1)))⟩⟩
    · have h00 : (openF (s.extract a s.size)).2.2 ≠ 0 := by rw [AL.out.2.1]; exact h0
      have HN := As.mk (allF_no _ h00)
      have DE := As.mk (show ((s.size : Int) - ((allF s).2.size : Int)) = (a : Int) by
        rw [← HA.out.2, HN.out, RS.out]
        have := HL.out.1
        omega)
      clear h00 AL
      generalize (ropenF (s.extract a s.size)).2.2 = er at *
      go_wp2
      go_ret2
      have h1 := HA.out.1
      rw [HN.out] at h1
      have h2 : acc = (allF s).1 := by simpa using h1
      rw [DE.out, ← h2]
      exact ⟨⟨_, rfl, HO1.out⟩, HG1.out⟩
set_option maxHeartbeats 1600000 in
theorem same_c (v1 v2 : Value) (xs ys : List ByteArray) (w : World) (h1 : Strs w v1 xs) (h2 : Strs w v2 ys) (hN : xs.length ≤ 140737488355328 ∧ ys.length ≤ 140737488355328) :
    Calls Try.prog 31 #[v1, v2] w fun e w' => e = .returned (.bool (decide (xs = ys))) ∧ ∃ n, w' = w.drewN n := by
  obtain ⟨A1, c1, rfl⟩ := h1.len
  obtain ⟨A2, c2, rfl⟩ := h2.len
  have H1 := As.mk h1
  have H2 := As.mk h2
  obtain ⟨n1, n2⟩ := hN
  clear h1 h2
  by_cases hl : xs.length = ys.length
  · have hlI : ((xs.length : Nat) : Int) = ((ys.length : Nat) : Int) := by omega
    have HL := As.mk hl
    rw [← hl]
    clear hlI hl
    go_enter Try.func31, Try.ntmps31
    go_wp2_with fail
    go_loopw [5] (fun i wr => ∃ k : Nat, k ≤ xs.length ∧ i = .int .i64 k ∧ As (xs.take k = ys.take k) ∧ ∃ n, wr = w.drewN n) (fun i _ => xs.length - (intOf i).toNat)
    case atStart => exact ⟨0, Nat.zero_le _, rfl, ⟨rfl⟩, 0, rfl⟩
    case round =>
      obtain ⟨k, hk, rfl, HT, nd, rfl⟩ := hrel
      by_cases hlt : k < xs.length
      · have hltI : (k : Int) < (xs.length : Int) := by omega
        have hk0 : (0 : Int) ≤ (k : Int) := by omega
        have hly : k < ys.length := by have := HL.out; omega
        obtain ⟨b1, o1, rfl, c1⟩ := H1.out.at_ k hlt
        obtain ⟨b2, o2, rfl, c2⟩ := H2.out.at_ k (by have := HL.out; omega)
        have T1 := As.mk (show xs.take (k + 1) = xs.take k ++ [xs.getD k ⟨#[]⟩] by
          rw [List.take_succ_eq_append_getElem hlt, List.getD_eq_getElem?_getD, List.getElem?_eq_getElem hlt]; rfl)
        have T2 := As.mk (show ys.take (k + 1) = ys.take k ++ [ys.getD k ⟨#[]⟩] by
          rw [List.take_succ_eq_append_getElem hly, List.getD_eq_getElem?_getD, List.getElem?_eq_getElem hly]; rfl)
        have TE := As.mk (show xs = ys → xs.getD k ⟨#[]⟩ = ys.getD k ⟨#[]⟩ from fun e => by rw [e])
        clear hly
        generalize xs.getD k ⟨#[]⟩ = s1 at *
        generalize ys.getD k ⟨#[]⟩ = s2 at *
        by_cases hs : s1 = s2
        · have HS := As.mk hs
          subst hs
          go_wp2_with fail
          go_quiet (fail)
          go_wp2_with fail
          go_roundw
          case measure => simp [intOf]; omega
          case rel => exact ⟨k + 1, by omega, by go_num, ⟨by rw [T1.out, T2.out, HT.out]⟩, _, rfl⟩
        · have hb : ¬ s1.toList = s2.toList := fun e => hs (ba_inj e)
          have HS := As.mk hs
          clear hs
          go_wp2_with fail
          go_quiet (fail)
          go_wp2_with fail
          · go_ret
            exact ⟨congrArg (fun b => Ending.returned (.bool b)) (decide_eq_false (fun e => HS.out (TE.out e))).symm, nd + nq, by simp⟩
          · rename_i hx
            exact absurd (by simpa using hx) hb
      · obtain rfl : k = xs.length := by omega
        go_wp2
        go_ret
        have ht := HT.out
        rw [List.take_length, HL.out, List.take_length] at ht
        exact ⟨congrArg (fun b => Ending.returned (.bool b)) (decide_eq_true ht).symm, _, rfl⟩
  · have hlI : ¬ ((xs.length : Nat) : Int) = ((ys.length : Nat) : Int) := by omega
    have HL := As.mk hl
    clear hl
    go_enter Try.func31, Try.ntmps31
    go_wp2
    go_ret
    exact ⟨congrArg (fun b => Ending.returned (.bool b)) (decide_eq_false (fun e => HL.out (by rw [e]))).symm, 0, rfl⟩
end Go.Proofs.Ytmehohpboliibaa
