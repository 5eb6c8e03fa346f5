/- The walks of journal: Over, Len, did, sealed. -/
import Derived.Test.YtmehohpboliibaaFaLaw
import Derived.Test.YtmehohpboliibaaDiskF
namespace Go.Proofs.Ytmehohpboliibaa
open Go.RowKit
set_option linter.unusedVariables false

/-- A journal: its disk's place, and whether it is over. -/
def JAt (w : World) (gj gd : Nat) (over : Bool) : Prop := Blk w gj 87 #[.pointer (some ⟨gd, 0, none⟩), .bool over]
theorem over_c {gj gd : Nat} {over : Bool} {w : World} (h : JAt w gj gd over) : Calls Try.prog 47 #[.pointer (some ⟨gj, 0, none⟩)] w fun e w' => e = .returned (.bool over) ∧ w' = w := by
  have c1 : w.cell? ⟨gj, 1, none⟩ = some (.bool over) := h.cell 1
  clear h
  go_enter Try.func47, Try.ntmps47
  go_wp2
  go_ret
  exact ⟨rfl, rfl⟩
theorem jlen_c {gj gd : Nat} {d : DK} {w : World} (h : JAt w gj gd false) (hd : DkAt w gd d) : Calls Try.prog 60 #[.pointer (some ⟨gj, 0, none⟩)] w fun e w' => e = .returned (.int .i64 (d.b.size : Int)) ∧ w' = w := by
  have O := As.mk (over_c h)
  have B := As.mk (bytes_c hd)
  have c0 : w.cell? ⟨gj, 0, none⟩ = some (.pointer (some ⟨gd, 0, none⟩)) := h.cell 0
  clear h hd
  go_enter Try.func60, Try.ntmps60
  go_wp2_with fail
  refine O.out.mono ?_
  rintro e w1 ⟨rfl, rfl⟩
  go_wp2_with fail
  refine B.out.mono ?_
  rintro e w2 ⟨rfl, rfl⟩
  go_wp2
  go_ret
  exact ⟨rfl, rfl⟩
theorem did_c {gj gd : Nat} {over : Bool} {w : World} (n : Int) (h : JAt w gj gd over) : Calls Try.prog 61 #[.pointer (some ⟨gj, 0, none⟩), .int .i64 n] w fun e w' => e = .returned (.int .i64 n) ∧ JAt w' gj gd (over || n == 7) ∧ w.grownBy w' (some gj) := by
  have c1 : w.cell? ⟨gj, 1, none⟩ = some (.bool over) := h.cell 1
  have f1 := h.free
  have H := As.mk h
  clear h
  cases over with
  | true =>
    go_enter Try.func61, Try.ntmps61
    go_wp2
    go_ret
    exact ⟨rfl, (show Blk _ _ _ _ from H.out).set 1 _, gr_own (gr_refl _ _) _ _⟩
  | false =>
    by_cases hn : n = 7
    · subst hn
      go_enter Try.func61, Try.ntmps61
      go_wp2
      go_ret
      exact ⟨rfl, (show Blk _ _ _ _ from H.out).set 1 _, gr_own (gr_refl _ _) _ _⟩
    · have e : (n == 7) = false := beq_eq_false_iff_ne.2 hn
      rw [e]
      clear e
      go_enter Try.func61, Try.ntmps61
      go_wp2
      go_ret
      have e : (n == 7) = false := beq_eq_false_iff_ne.2 hn
      rw [e]
      exact ⟨rfl, (show Blk _ _ _ _ from H.out).set 1 _, gr_own (gr_refl _ _) _ _⟩
/-- All are short enough. -/
def shorts (l : List ByteArray) : Bool := l.all fun p => decide (p.size ≤ 4096)
def sealsK (l : List ByteArray) (k : Nat) : List ByteArray := (l.take k).map frameOf
theorem sealsK_succ (l : List ByteArray) (k : Nat) (h : k < l.length) : sealsK l (k + 1) = sealsK l k ++ [frameOf (l.getD k ⟨#[]⟩)] := by
  unfold sealsK
  rw [List.take_succ_eq_append_getElem h, List.map_append, List.getD_eq_getElem?_getD, List.getElem?_eq_getElem h]
  rfl
theorem sealsK_len (l : List ByteArray) (k : Nat) (h : k ≤ l.length) : (sealsK l k).length = k := by
  unfold sealsK
  rw [List.length_map, List.length_take]; omega
theorem sealsK_all (l : List ByteArray) : sealsK l l.length = l.map frameOf := by unfold sealsK; rw [List.take_length]
def SealedPost (w : World) (l : List ByteArray) (e : Ending) (w' : World) : Prop :=
  (shorts l = true ∧ ∃ u, e = .returned (.tuple #[u, .int .i64 0]) ∧ w'.ownsRow w.heap.size 9 1 u l.length (strVals (l.map frameOf))) ∨ (shorts l = false ∧ e = .returned (.tuple #[.slice none 0 0, .int .i64 5]))
set_option maxRecDepth 100000 in
set_option maxHeartbeats 3200000 in
theorem sealed_c {v : Value} {l : List ByteArray} {w : World} (h : Strs w v l) (hN : l.length ≤ 1000) (hz : ∀ s ∈ l, s.size ≤ 140737488351232) :
    Calls Try.prog 58 #[v] w fun e w' => SealedPost w l e w' ∧ w.grownBy w' none := by
  obtain ⟨A, c, rfl⟩ := h.len
  obtain ⟨i0, hi, hz0, hz1, hz2⟩ := info_split infoStr
  have HI := As.mk (And.intro hi (And.intro hz0 (And.intro hz1 hz2)))
  have H := As.mk h
  have HZ := As.mk hz
  have HS := As.mk (show shorts l = true ↔ ∀ p ∈ l, p.size ≤ 4096 by unfold shorts; simp)
  clear h hz hi hz0 hz1 hz2
  go_enter Try.func58, Try.ntmps58
  go_wp2_with fail
  go_loopw [4, 11] (fun o i wr => ∃ k : Nat, k ≤ l.length ∧ i = .int .i64 k ∧ As (∀ j, j < k → (l.getD j ⟨#[]⟩).size ≤ 4096) ∧ As (wr.ownsRow w.heap.size 9 1 o k (strVals (sealsK l k))) ∧ As (w.grownBy wr none)) (fun _ i _ => l.length - (intOf i).toNat)
  case atStart => exact ⟨0, Nat.zero_le _, rfl, ⟨fun j hj => absurd hj (by omega)⟩, ⟨World.ownsRow_nil _ _ _ _⟩, ⟨gr_refl _ _⟩⟩
  case round =>
    obtain ⟨k, hk, rfl, HP, HO, HG⟩ := hrel
    obtain ⟨A2, c2, rfl⟩ := own_shape HO.out
    by_cases hlt : k < l.length
    · have hltI : (k : Int) < (l.length : Int) := by omega
      have hk0 : (0 : Int) ≤ (k : Int) := by omega
      obtain ⟨b2, o2, rfl, cj⟩ := H.out.at_ k hlt
      have cj2 := HG.out.cell cj (by simp)
      have SK := As.mk (sealsK_succ l k hlt)
      have LK := As.mk (sealsK_len l k hk)
      have hs9 : (l.getD k ⟨#[]⟩).size ≤ 140737488351232 := by
        rw [List.getD_eq_getElem?_getD, List.getElem?_eq_getElem hlt]
        exact HZ.out _ (List.getElem_mem hlt)
      have S := As.mk (fun w' => seal_one (l.getD k ⟨#[]⟩) 9 w' hs9)
      have PK := As.mk (show (l.getD k ⟨#[]⟩).size ≤ 4096 → ∀ j, j < k + 1 → (l.getD j ⟨#[]⟩).size ≤ 4096 from fun hp j hj => by
        rcases Nat.lt_succ_iff_lt_or_eq.1 hj with hj | rfl
        · exact HP.out j hj
        · exact hp)
      have PN := As.mk (show ¬ (l.getD k ⟨#[]⟩).size ≤ 4096 → ¬ shorts l = true from fun hp q => hp (by
        rw [List.getD_eq_getElem?_getD, List.getElem?_eq_getElem hlt]
        exact HS.out.1 q _ (List.getElem_mem hlt)))
      clear cj hs9
      generalize l.getD k ⟨#[]⟩ = p at *
      by_cases hp : p.size ≤ 4096
      · have S1 : As (∀ w' : World, Calls Try.prog 15 #[.slice (some ⟨w'.heap.size, 0, none⟩) 1 1] (w'.alloc (.cells #[.string p] 9)) fun e w'' => e = .returned (.tuple #[.string (frameOf p), .int .i64 0]) ∧ w'.grownBy w'' none) := ⟨fun w' => by
          have h := S.out w'
          rw [if_pos hp] at h
          exact h⟩
        have PK2 := As.mk (PK.out hp)
        clear S hp PK PN
        generalize frameOf p = fr at *
        go_wp2_with fail
        refine (S1.out _).mono ?_
        rintro e w1 ⟨rfl, hg⟩
        have G4 := As.mk (gr_then HG.out hg (.inl rfl))
        have HO1 := As.mk (own_grown HO.out hg (by cases (Value.slice A2 k c2).ownBlock <;> simp))
        clear hg HG S1 HO
        go_wp2_with (at_builtin; refine wpList_append_lies _ (by rfl) _ _ _ (by rfl) w.heap.size 9 i0 _ 1 16 Try.underlying22 HI.out.1 HI.out.2.1 HI.out.2.2.1 HI.out.2.2.2 rfl (by omega) _ k (strVals (sealsK l k)) (by rfl) (HO1.out.alloc _) ⟨w1.heap.size, 0, none⟩ 1 1 [.string fr] (by rfl) (by rfl) (World.news_of_block (cs := #[.string fr]) (t := 9) (fr := (0, 0)) (heap_alloc_new w1 _)) (by simp [Value.oneCell']) (by omega) (by simp only [maxLen]; omega) (by omega) (by have := G4.out.size; simp; omega) (w1.heap.size + 1) (by simp) ?_; intro gg cap w5 hown1 hgrow hat hlt)
        go_roundw
        case measure => simp [intOf]; omega
        case rel => exact ⟨k + 1, by omega, by go_num, PK2, ⟨by rw [SK.out]; unfold strVals; rw [List.map_append]; exact hown1⟩, ⟨gr_then (gr_alloc G4.out _) hgrow (.inr (.inr (fun k hk => (HO1.out.lt k hk).1)))⟩⟩
      · have S1 : As (∀ w' : World, Calls Try.prog 15 #[.slice (some ⟨w'.heap.size, 0, none⟩) 1 1] (w'.alloc (.cells #[.string p] 9)) fun e w'' => e = .returned (.tuple #[.string ⟨#[]⟩, .int .i64 5]) ∧ w'.grownBy w'' none) := ⟨fun w' => by
          have h := S.out w'
          rw [if_neg hp] at h
          exact h⟩
        have PN2 := As.mk (PN.out hp)
        clear S hp PK PN
        go_wp2_with fail
        refine (S1.out _).mono ?_
        rintro e w1 ⟨rfl, hg⟩
        have G4 := As.mk (gr_then HG.out hg (.inl rfl))
        clear hg HG S1
        go_wp2
        go_ret2
        exact ⟨.inr ⟨by simpa using PN2.out, rfl⟩, G4.out⟩
    · obtain rfl : k = l.length := by omega
      have SH : As (shorts l = true) := ⟨HS.out.2 fun p hp => by
        obtain ⟨j, hj, rfl⟩ := List.getElem_of_mem hp
        have := HP.out j hj
        rwa [List.getD_eq_getElem?_getD, List.getElem?_eq_getElem hj] at this⟩
      go_wp2
      go_ret2
      have ho := HO.out
      rw [sealsK_all] at ho
      exact ⟨.inl ⟨SH.out, _, rfl, ho⟩, HG.out⟩
end Go.Proofs.Ytmehohpboliibaa
