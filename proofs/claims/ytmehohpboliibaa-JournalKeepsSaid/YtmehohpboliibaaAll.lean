/- The walks of frame.All, the document's All, and Same. -/
import Derived.Test.YtmehohpboliibaaFpure
import Derived.Test.YtmehohpboliibaaArr
namespace Go.Proofs.Ytmehohpboliibaa
open Go.RowKit
set_option linter.unusedVariables false

def strVals (xs : List ByteArray) : List Value := xs.map Value.string
theorem own_strs {w : World} {base : Nat} {e : TypeId} {v : Value} {xs : List ByteArray} (h : w.ownsRow base e 1 v xs.length (strVals xs)) : Strs w v xs := by
  rcases h.2 with ⟨rfl, h0⟩ | ⟨g, cap, cur, rfl, _, hg, hc, hm, hs, ht⟩
  · exact .inl ⟨List.length_eq_zero_iff.1 h0, _, _, rfl⟩
  · refine .inr ⟨g, 0, cap, rfl, hc, (Array.getElem?_eq_some_iff.1 hg).1, fun j x hx => ?_⟩
    have := h.cells (g := g) rfl j (.string x) (by unfold strVals; rw [List.getElem?_map, hx]; rfl)
    rw [Go.WideShapes.add_plain] at this
    exact this
def allK : Nat → ByteArray → List ByteArray × ByteArray
  | 0, r => ([], r)
  | k + 1, r => if (openF r).2.2 = 0 then ((openF r).1 :: (allK k (openF r).2.1).1, (allK k (openF r).2.1).2) else ([], r)
theorem open_less (r : ByteArray) (h : (openF r).2.2 = 0) : (openF r).2.1.size + 6 ≤ r.size := by
  unfold openF at h ⊢
  by_cases h6 : r.size < 6
  · rw [if_pos h6] at h; exact absurd h (by decide)
  · rw [if_neg h6] at h ⊢
    by_cases h4 : 4096 < hd r
    · rw [if_pos h4] at h; exact absurd h (by decide)
    · rw [if_neg h4] at h ⊢
      by_cases h5 : r.size < 6 + hd r
      · rw [if_pos h5] at h; exact absurd h (by decide)
      · rw [if_neg h5] at h ⊢
        split at h
        · rename_i hc
          rw [if_pos hc]
          dsimp only
          rw [ByteArray.size_extract]
          omega
        · exact absurd h (by decide)
theorem allK_fuel : ∀ (k j : Nat) (r : ByteArray), r.size < k → r.size < j → allK k r = allK j r
  | 0, _, _, h, _ => absurd h (by omega)
  | _ + 1, 0, _, _, h => absurd h (by omega)
  | k + 1, j + 1, r, h1, h2 => by
    unfold allK
    by_cases h : (openF r).2.2 = 0
    · have := open_less r h
      rw [if_pos h, if_pos h, allK_fuel k j (openF r).2.1 (by omega) (by omega)]
    · rw [if_neg h, if_neg h]
def allF (r : ByteArray) : List ByteArray × ByteArray := allK (r.size + 1) r
theorem allF_yes (r : ByteArray) (h : (openF r).2.2 = 0) : allF r = ((openF r).1 :: (allF (openF r).2.1).1, (allF (openF r).2.1).2) := by
  have hl := open_less r h
  have e : allK r.size (openF r).2.1 = allK ((openF r).2.1.size + 1) (openF r).2.1 := allK_fuel _ _ _ (by omega) (by omega)
  unfold allF
  rw [allK, if_pos h, e]
theorem allF_no (r : ByteArray) (h : (openF r).2.2 ≠ 0) : allF r = ([], r) := by
  unfold allF
  rw [allK, if_neg h]
theorem infoStr : (Try.prog.info? 9).map (fun i => (i.zero, i.size, i.bytes)) = some (some (.string ⟨#[]⟩), 1, 16) := by kernel_rfl
theorem info_split {q : Option TypeInfo} {z : Option Value} {n m : Nat} (h : q.map (fun i => (i.zero, i.size, i.bytes)) = some (z, n, m)) : ∃ i, q = some i ∧ i.zero = z ∧ i.size = n ∧ i.bytes = m := by
  obtain ⟨i, h1, h2⟩ := Option.map_eq_some_iff.1 h
  obtain ⟨h3, h4⟩ := Prod.mk.inj h2
  obtain ⟨h4, h5⟩ := Prod.mk.inj h4
  exact ⟨i, h1, h3, h4, h5⟩
def strSz : Value → Nat
  | .string s => s.size
  | _ => 0
set_option maxRecDepth 100000 in
set_option maxHeartbeats 3200000 in
theorem all_c (s : ByteArray) (w : World) (hz : s.size ≤ 1000000) :
    Calls Try.prog 29 #[.string s] w fun e w' => (∃ v, e = .returned (.tuple #[v, .int .i64 ((s.size : Int) - (allF s).2.size)]) ∧ w'.ownsRow w.heap.size 9 1 v (allF s).1.length (strVals (allF s).1)) ∧ w.grownBy w' none := by
  obtain ⟨i0, hi, hz0, hz1, hz2⟩ := info_split infoStr
  have HI := As.mk (And.intro hi (And.intro hz0 (And.intro hz1 hz2)))
  clear hi hz0 hz1 hz2
  go_enter Try.func29, Try.ntmps29
  go_wp2_with fail
  go_loopw [4, 5] (fun o r wr => ∃ (acc : List ByteArray) (rest : ByteArray), r = .string rest ∧ As (rest.size + 6 * acc.length ≤ s.size) ∧ As (acc ++ (allF rest).1 = (allF s).1 ∧ (allF rest).2 = (allF s).2) ∧ As (wr.ownsRow w.heap.size 9 1 o acc.length (strVals acc)) ∧ As (w.grownBy wr none)) (fun _ r _ => strSz r)
  case atStart => exact ⟨[], s, rfl, ⟨by simp⟩, ⟨⟨rfl, rfl⟩⟩, ⟨World.ownsRow_nil _ _ _ _⟩, ⟨gr_refl _ _⟩⟩
  case round =>
    obtain ⟨acc, rest, rfl, HL, HA, HO, HG⟩ := hrel
    obtain ⟨A2, c2, rfl⟩ := own_shape HO.out
    go_wp2_with fail
    refine (open_c rest _ (by have := HL.out; omega)).mono ?_
    rintro e w1 ⟨rfl, hg⟩
    have HO1 := As.mk (own_grown HO.out hg (by cases (Value.slice A2 acc.length c2).ownBlock <;> simp))
    have HG1 := As.mk (gr_then HG.out hg (.inl rfl))
    clear hg HO HG
    by_cases h0 : (openF rest).2.2 = 0
    · have HY := As.mk (allF_yes rest h0)
      have LE := As.mk (open_less rest h0)
      rw [h0]
      clear h0
      generalize (openF rest).1 = p at *
      generalize (openF rest).2.1 = more at *
      go_wp2_with (at_builtin; refine wpList_append_lies _ (by rfl) _ _ _ (by rfl) w.heap.size 9 i0 _ 1 16 Try.underlying22 HI.out.1 HI.out.2.1 HI.out.2.2.1 HI.out.2.2.2 rfl (by omega) _ acc.length (strVals acc) (by rfl) (HO1.out.alloc _) ⟨w1.heap.size, 0, none⟩ 1 1 [.string p] (by rfl) (by rfl) (World.news_of_block (cs := #[.string p]) (t := 9) (fr := (0, 0)) (heap_alloc_new w1 _)) (by simp [Value.oneCell']) (by omega) (by simp only [maxLen]; have := HL.out; omega) (by have := HL.out; omega) (by have := HG1.out.size; simp; omega) (w1.heap.size + 1) (by simp) ?_; intro gg cap w5 hown1 hgrow hat hlt)
      go_roundw
      case measure => simp only [strSz]; have := LE.out; show more.size < rest.size; omega
      case rel => exact ⟨acc ++ [p], more, rfl, ⟨by have := HL.out; have := LE.out; simp; omega⟩, ⟨by rw [← HA.out.1, ← HA.out.2, HY.out]; simp⟩, ⟨by simpa [strVals] using hown1⟩, ⟨gr_then (gr_alloc HG1.out _) hgrow (.inr (.inr (fun k hk => (HO1.out.lt k hk).1)))⟩⟩
    · have HN := As.mk (allF_no rest h0)
      have hr : rest.size ≤ s.size := by have := HL.out; omega
      have e1 : IntKind.i64.wrap ((s.size : Int) - (rest.size : Int)) = (s.size : Int) - (rest.size : Int) := by rw [IntKind.wrap_i64]; omega
      generalize (openF rest).2.2 = er at *
      go_wp2
      go_ret2
      have h1 := HA.out
      rw [HN.out] at h1
      have h2 : acc = (allF s).1 := by simpa using h1.1
      rw [← h1.2, ← h2]
      exact ⟨⟨_, rfl, HO1.out⟩, HG1.out⟩
end Go.Proofs.Ytmehohpboliibaa
