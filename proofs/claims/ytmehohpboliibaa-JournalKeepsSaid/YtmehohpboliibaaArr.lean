/- A slice that reads as a list; scripts of a disk. -/
import Derived.Test.YtmehohpboliibaaDiskE
import Derived.WalkSpells
namespace Go.Proofs.Ytmehohpboliibaa
open Go.RowKit
set_option linter.unusedVariables false

/-- A slice that reads as a list, each element's cells telling it. -/
def Arr {α : Type} (E : World → α → List Value → Prop) (sz : Nat) (w : World) (v : Value) (xs : List α) : Prop :=
  ∃ A c, v = .slice A xs.length c ∧ (xs.length ≤ 9223372036854775807 ∧ xs.length ≤ c) ∧ (0 < xs.length → ∃ ad : Addr, A = some ad ∧ ad.spot = none ∧ ∀ j x, xs[j]? = some x → ∃ cs, E w x cs ∧ cs.length = sz ∧ ∀ i u, cs[i]? = some u → w.cell? ⟨ad.block, ad.off + j * sz + i, none⟩ = some u)
theorem Arr.at_ {α : Type} {E : World → α → List Value → Prop} {sz : Nat} {w : World} {A : Option Addr} {n c : Nat} {xs : List α} (h : Arr E sz w (.slice A n c) xs) (j : Nat) (x : α) (hx : xs[j]? = some x) :
    ∃ b o cs, A = some ⟨b, o, none⟩ ∧ E w x cs ∧ cs.length = sz ∧ ∀ i u, cs[i]? = some u → w.cell? ⟨b, o + j * sz + i, none⟩ = some u := by
  obtain ⟨A', c', he, hm, h⟩ := h
  obtain ⟨rfl, rfl, rfl⟩ : A = A' ∧ n = xs.length ∧ c = c' := by injection he with h1 h2 h3; exact ⟨h1, h2, h3⟩
  have hj : j < xs.length := (List.getElem?_eq_some_iff.1 hx).1
  obtain ⟨⟨b, o, sp⟩, rfl, hs, hh⟩ := h (by omega)
  dsimp only at hs
  subst hs
  obtain ⟨cs, h1, h2, h3⟩ := hh j x hx
  exact ⟨b, o, cs, rfl, h1, h2, h3⟩
theorem Arr.len {α : Type} {E : World → α → List Value → Prop} {sz : Nat} {w : World} {v : Value} {xs : List α} (h : Arr E sz w v xs) : ∃ A c, v = .slice A xs.length c := let ⟨A, c, e, _⟩ := h; ⟨A, c, e⟩
theorem Arr.le {α : Type} {E : World → α → List Value → Prop} {sz : Nat} {w : World} {v : Value} {xs : List α} (h : Arr E sz w v xs) : xs.length ≤ 9223372036854775807 := let ⟨A, c, _, hm, _⟩ := h; hm.1
theorem Arr.cap {α : Type} {E : World → α → List Value → Prop} {sz : Nat} {w : World} {A : Option Addr} {n c : Nat} {xs : List α} (h : Arr E sz w (.slice A n c) xs) : xs.length ≤ c := by
  obtain ⟨A', c', he, hm, h⟩ := h
  injection he with h1 h2 h3
  rw [h3]; exact hm.2
/-- What reads does so behind a step that turns no cell that was there. -/
theorem Arr.below {α : Type} {E : World → α → List Value → Prop} {sz : Nat} {w w' : World} {v : Value} {xs : List α} (h : Arr E sz w v xs) (hg : w.grownBy w' none) (hE : ∀ x cs, E w x cs → E w' x cs) : Arr E sz w' v xs := by
  obtain ⟨A, c, e, hm, hh⟩ := h
  refine ⟨A, c, e, hm, fun h0 => ?_⟩
  obtain ⟨ad, h1, h2, h3⟩ := hh h0
  refine ⟨ad, h1, h2, fun j x hx => ?_⟩
  obtain ⟨cs, g1, g2, g3⟩ := h3 j x hx
  exact ⟨cs, hE _ _ g1, g2, fun i u hu => hg.cell (g3 i u hu) (by simp)⟩
structure DOp where
  k : Int
  n : Int
  l : List ByteArray
def DOpE (w : World) (x : DOp) (cs : List Value) : Prop := ∃ u, cs = [.int .i64 x.k, .int .i64 x.n, u] ∧ Strs w u x.l
def sumN (xs : List ByteArray) : Nat → Nat
  | 0 => 0
  | k + 1 => sumN xs k + (xs.getD k ⟨#[]⟩).size
def total : List DOp → Nat → Nat
  | l, 0 => 0
  | l, k + 1 => total l k + (match l[k]? with | some o => sumN o.l o.l.length | none => 0)
theorem Strs.len {w : World} {v : Value} {xs : List ByteArray} (h : Strs w v xs) : ∃ A c, v = .slice A xs.length c := by
  rcases h with ⟨rfl, a, c, rfl⟩ | ⟨bk, o, c, rfl, _⟩
  · exact ⟨_, _, rfl⟩
  · exact ⟨_, _, rfl⟩
theorem Strs.at_ {w : World} {A : Option Addr} {n c : Nat} {xs : List ByteArray} (h : Strs w (.slice A n c) xs) (k : Nat) (hk : k < xs.length) : ∃ bk o, A = some ⟨bk, o, none⟩ ∧ w.cell? ⟨bk, o + k, none⟩ = some (.string (xs.getD k ⟨#[]⟩)) := by
  rcases h with ⟨hx, _⟩ | ⟨bk, o, c', hv, _, _, hcell⟩
  · rw [hx] at hk; simp at hk
  · injection hv with h1 _ h3
    refine ⟨bk, o, h1, ?_⟩
    have := hcell k xs[k] (List.getElem?_eq_getElem hk)
    rw [this, List.getD_eq_getElem?_getD, List.getElem?_eq_getElem hk]
    rfl
theorem Strs.grown {w w' : World} {v : Value} {xs : List ByteArray} (h : Strs w v xs) (hg : w.grownBy w' none) : Strs w' v xs := by
  rcases h with h | ⟨bk, o, c, rfl, h1, h2, h3⟩
  · exact .inl h
  · exact .inr ⟨bk, o, c, rfl, h1, Nat.lt_of_lt_of_le h2 hg.size, fun j x hx => hg.cell (h3 j x hx) (by simp)⟩

def Small (l : List DOp) : Prop := ∀ o ∈ l, o.l.length ≤ 20
set_option maxHeartbeats 3200000 in
theorem great_walk (v : Value) (l : List DOp) (w : World) (h : Arr DOpE 3 w v l) (hb : ∀ o ∈ l, ∀ s ∈ o.l, s.size ≤ 140737488351232) :
    Calls Try.prog 19 #[v] w fun e w' => (∃ b, e = .returned (.bool b) ∧ (b = false → total l l.length ≤ 3000 ∧ Small l)) ∧ w.grownBy w' none := by
  obtain ⟨A, c, rfl⟩ := h.len
  have H := As.mk h
  have hl := h.le
  have HB := As.mk hb
  clear h hb
  by_cases h100 : l.length ≤ 100
  · go_enter Try.func19, Try.ntmps19
    go_wp2_with fail
    go_loopw [3, 13] (fun n i wr => ∃ k : Nat, k ≤ l.length ∧ n = .int .i64 (total l k : Nat) ∧ i = .int .i64 k ∧ total l k ≤ 3000 ∧ As (∀ j o, j < k → l[j]? = some o → o.l.length ≤ 20) ∧ As (w.grownBy wr none)) (fun _ i _ => l.length - (intOf i).toNat)
    case atStart => exact ⟨0, Nat.zero_le _, rfl, rfl, by simp [total], ⟨fun j o hj => absurd hj (by omega)⟩, ⟨gr_refl _ _⟩⟩
    case round =>
      obtain ⟨k, hk, rfl, rfl, ht, HT, HG⟩ := hrel
      by_cases hlt : k < l.length
      · have hltI : (k : Int) < (l.length : Int) := by omega
        have hk0 : (0 : Int) ≤ (k : Int) := by omega
        obtain ⟨b, o, cs, rfl, ⟨u, rfl, hu⟩, hcs, hcell⟩ := H.out.at_ k l[k] (List.getElem?_eq_getElem hlt)
        have hg := HG.out
        have c0 : wr.cell? ⟨b, o + k * 3, none⟩ = _ := hg.cell (hcell 0 _ rfl) (by simp)
        have c1 : wr.cell? ⟨b, o + k * 3 + 1, none⟩ = _ := hg.cell (hcell 1 _ rfl) (by simp)
        have c2 : wr.cell? ⟨b, o + k * 3 + 2, none⟩ = _ := hg.cell (hcell 2 _ rfl) (by simp)
        have hbw := World.block_lt_of_cell? wr _ c0
        have etot : total l (k + 1) = total l k + sumN l[k].l l[k].l.length := by rw [total, List.getElem?_eq_getElem hlt]
        have EQ := As.mk etot
        have HU := As.mk hu
        have LK := As.mk (List.getElem?_eq_getElem hlt)
        obtain ⟨A2, c2', rfl⟩ := hu.len
        clear hcell hcs etot hu hg
        dsimp only at hbw
        generalize total l k = tk at *
        generalize l[k] = x at *
        by_cases h20 : x.l.length ≤ 20
        · go_wp2_with fail
          go_loopw [3, 24] (fun n i w2 => ∃ j : Nat, j ≤ x.l.length ∧ n = .int .i64 (tk + sumN x.l j : Nat) ∧ i = .int .i64 j ∧ tk + sumN x.l j ≤ 3000 ∧ As (w.grownBy w2 none)) (fun _ i _ => x.l.length - (intOf i).toNat)
          case atStart => exact ⟨0, Nat.zero_le _, by simp [sumN], rfl, by simpa [sumN] using ht, ⟨gr_alloc HG.out _⟩⟩
          case round =>
            obtain ⟨j, hj, rfl, rfl, hs, HG2⟩ := hrel
            by_cases hjl : j < x.l.length
            · have hltJ : (j : Int) < (x.l.length : Int) := by omega
              have hj0 : (0 : Int) ≤ (j : Int) := by omega
              obtain ⟨b2, o2, rfl, cj⟩ := HU.out.at_ j hjl
              have cj2 := HG2.out.cell cj (by simp)
              have hsz : (x.l.getD j ⟨#[]⟩).size ≤ 140737488351232 := by
                have h1 : x ∈ l := List.mem_of_getElem? LK.out
                rw [List.getD_eq_getElem?_getD, List.getElem?_eq_getElem hjl]
                exact HB.out x h1 _ (List.getElem_mem hjl)
              have ES : sumN x.l (j + 1) = sumN x.l j + (x.l.getD j ⟨#[]⟩).size := rfl
              have ES := As.mk ES
              have hA : ∃ acc, acc = tk + sumN x.l j := ⟨_, rfl⟩
              obtain ⟨acc, hacc⟩ := hA
              rw [← hacc] at hs ⊢
              have HA := As.mk hacc
              clear hacc cj
              generalize x.l.getD j ⟨#[]⟩ = s at *
              have e1 : IntKind.i64.wrap ((acc : Int) + (s.size : Int)) = (acc : Int) + (s.size : Int) := by rw [IntKind.wrap_i64]; omega
              by_cases h3 : acc + s.size ≤ 3000
              · have h3I : ¬ (3000 : Int) < (acc : Int) + (s.size : Int) := by omega
                go_wp2_with fail
                go_roundw
                case measure => simp [intOf]; omega
                case rel => exact ⟨j + 1, by omega, by rw [ES.out]; have := HA.out; congr 1; omega, by go_num, by rw [ES.out]; have := HA.out; omega, HG2⟩
              · have h3I : (3000 : Int) < (acc : Int) + (s.size : Int) := by omega
                go_wp2
                go_ret
                exact ⟨⟨true, rfl, by simp⟩, HG2.out⟩
            · obtain rfl : j = x.l.length := by omega
              go_wp2_with fail
              go_roundw
              case measure => simp [intOf]; omega
              case rel => exact ⟨k + 1, by omega, by rw [EQ.out], by go_num, by rw [EQ.out]; exact hs, ⟨fun j o hj ho => by
                rcases Nat.lt_succ_iff_lt_or_eq.1 hj with hj | rfl
                · exact HT.out j o hj ho
                · rw [LK.out] at ho
                  injection ho with ho
                  subst ho
                  exact h20⟩, HG2⟩
        · go_wp2
          go_ret
          exact ⟨⟨true, rfl, by simp⟩, gr_alloc HG.out _⟩
      · obtain rfl : k = l.length := by omega
        go_wp2
        go_ret
        exact ⟨⟨false, rfl, fun _ => ⟨ht, fun o ho => by
          obtain ⟨j, hj, rfl⟩ := List.getElem_of_mem ho
          exact HT.out j _ hj (List.getElem?_eq_getElem hj)⟩⟩, HG.out⟩
  · go_enter Try.func19, Try.ntmps19
    go_wp2
    go_ret
    exact ⟨⟨true, rfl, by simp⟩, gr_refl _ _⟩
end Go.Proofs.Ytmehohpboliibaa
