/- The walks of prog's right, whole, and of slices.ContainsFunc over it. -/
import Derived.Test.YtgmhopkajopfcaaPra
import Derived.Test.YtgmhopkajopfcaaPrb
namespace Go.Proofs.Ytgmhopkajopfcaa
open Go.RowKit
set_option linter.unusedVariables false

theorem pright_c (x : POp) (w : World) (r : Bool) (hr : opRight x = r) : Calls Try.prog 36 #[.agg #[.int .i64 x.k, .int .i64 x.c, .int .i64 x.r, .int .i64 x.o, .int .i64 x.n]] w fun e w' => e = .returned (.bool r) ∧ w.grownBy w' none := by
  subst hr
  unfold opRight
  cases h1 : inR x.k 1 12
  · exact right_lo x w h1
  · cases h2 : eqOp x (plainOp x)
    · refine right_ne x _ w h1 rfl (plainOp_k x).symm fun h => ?_
      have : eqOp x (plainOp x) = true := by
        rw [eqOp_iff]
        obtain ⟨k, c, r, o, n⟩ := x
        have hk := plainOp_k ⟨k, c, r, o, n⟩
        generalize plainOp ⟨k, c, r, o, n⟩ = p at *
        obtain ⟨a, b, c', d, e⟩ := p
        dsimp only at *
        obtain ⟨rfl, rfl, rfl, rfl⟩ := h
        rw [hk]
      rw [h2] at this
      cases this
    · exact right_eq x w h1 ((eqOp_iff _ _).1 h2).symm
set_option maxRecDepth 100000 in
set_option maxHeartbeats 1600000 in
theorem right1_c (w : World) (x : POp) (r : Bool) (hr : opRight x = r) : Calls Try.prog 35 #[opV x] w fun e w' => e = .returned (.bool (!r)) ∧ w.grownBy w' none := by
  have B := As.mk (Blk.new w 57 #[.int .i64 x.k, .int .i64 x.c, .int .i64 x.r, .int .i64 x.o, .int .i64 x.n])
  have G := As.mk (gr_alloc (gr_refl w none) (.cells #[.int .i64 x.k, .int .i64 x.c, .int .i64 x.r, .int .i64 x.o, .int .i64 x.n] 57))
  show Calls Try.prog 35 #[.agg #[.int .i64 x.k, .int .i64 x.c, .int .i64 x.r, .int .i64 x.o, .int .i64 x.n]] w _
  go_enter Try.func35, Try.ntmps35
  go_wp2_with (go_at_call 36; refine (pright_c x _ _ hr).mono ?_)
  rintro e w1 ⟨rfl, g1⟩
  have G1 := As.mk (gr_then G.out g1 (.inl rfl))
  clear g1 G B
  cases r
  · go_wp2; go_ret; exact ⟨rfl, G1.out⟩
  · go_wp2; go_ret; exact ⟨rfl, G1.out⟩
theorem any_take_succ {α : Type} (p : α → Bool) (l : List α) (k : Nat) (hk : k < l.length) : (l.take (k + 1)).any p = ((l.take k).any p || p (l[k]'hk)) := by
  rw [List.take_succ_eq_append_getElem hk, List.any_append]
  simp
set_option maxRecDepth 100000 in
set_option maxHeartbeats 1600000 in
theorem idxOp_c (w : World) (v : Value) (l : List POp) (h : Arr OpE 5 w v l) :
    Calls Try.prog 51 #[v, .func (.func 35) #[] #[]] w fun e w' => (∃ i : Int, e = .returned (.int .i64 i) ∧ decide (0 ≤ i) = l.any (fun x => !opRight x)) ∧ w.grownBy w' none := by
  obtain ⟨A, c, rfl⟩ := h.len
  have hl := h.le
  have H := As.mk h
  clear h
  go_enter Try.func51, Try.ntmps51
  go_wp2_with fail

  go_loopw [8] (fun i wr => ∃ k : Nat, k ≤ l.length ∧ i = .int .i64 k ∧ As ((l.take k).any (fun x => !opRight x) = false ∧ w.grownBy wr none)) (fun i _ => l.length - (intOf i).toNat)
  case atStart => exact ⟨0, Nat.zero_le _, rfl, ⟨by simp, gr_refl _ _⟩⟩
  case round =>
    obtain ⟨k, hk, rfl, HL⟩ := hrel
    by_cases hlt : k < l.length
    · have hltI : (k : Int) < (l.length : Int) := by omega
      have hk0 : (0 : Int) ≤ (k : Int) := by omega
      obtain ⟨b, o, cs, rfl, hE, hcs, hcell⟩ := H.out.at_ k l[k] (List.getElem?_eq_getElem hlt)
      obtain rfl := hE
      have c0 : wr.cell? ⟨b, o + k * 5, none⟩ = _ := HL.out.2.cell (hcell 0 _ rfl) (by simp)
      have c1 := HL.out.2.cell (hcell 1 _ rfl) (by simp)
      have c2 := HL.out.2.cell (hcell 2 _ rfl) (by simp)
      have c3 := HL.out.2.cell (hcell 3 _ rfl) (by simp)
      have c4 := HL.out.2.cell (hcell 4 _ rfl) (by simp)
      have hs := any_take_succ (fun x => !opRight x) l k hlt
      have hs' := any_take_succ (fun x => !opRight x) l k hlt
      clear hcell hcs
      go_wp2_with (go_at_call 35; refine (right1_c _ (l[k]'hlt) _ rfl).mono ?_)
      rintro e w1 ⟨rfl, g1⟩
      have G1 := As.mk (gr_then HL.out.2 g1 (.inl rfl))
      clear g1 c0 c1 c2 c3 c4
      rw [HL.out.1] at hs
      have HS := As.mk hs
      clear hs hs'
      cases hf : opRight (l[k]'hlt)
      · go_wp2_with fail
        go_ret
        refine ⟨⟨k, rfl, ?_⟩, G1.out⟩
        have h1 := HS.out
        rw [hf] at h1
        rw [show decide ((0 : Int) ≤ (k : Int)) = true by simp]
        rw [eq_comm, List.any_eq_true]
        exact ⟨_, List.getElem_mem hlt, by simp [hf]⟩
      · go_wp2_with fail
        go_roundw
        case measure => simp [intOf]; omega
        case rel => exact ⟨k + 1, by omega, by go_num, ⟨by have h1 := HS.out; rw [hf] at h1; simpa using h1, G1.out⟩⟩
    · obtain rfl : k = l.length := by omega
      have HX := As.mk HL.out
      clear HL
      go_wp2
      go_ret
      refine ⟨⟨-1, rfl, ?_⟩, HX.out.2⟩
      have := HX.out.1
      rw [List.take_of_length_le (Nat.le_refl _)] at this
      rw [this]; rfl
set_option maxRecDepth 100000 in
theorem conOp_c (w : World) (v : Value) (l : List POp) (h : Arr OpE 5 w v l) (r : Bool) (hr : l.any (fun x => !opRight x) = r) :
    Calls Try.prog 34 #[v, .func (.func 35) #[] #[]] w fun e w' => e = .returned (.bool r) ∧ w.grownBy w' none := by
  have H := As.mk h
  clear h
  go_enter Try.func34, Try.ntmps34
  go_wp2_with (go_at_call 51; refine (idxOp_c _ _ l H.out).mono ?_)
  rintro e w1 ⟨⟨i, rfl, hi⟩, g1⟩
  have G1 := As.mk g1
  clear g1
  rw [hr] at hi
  cases r
  · have h0 : ¬ (0 ≤ i) := by simpa using hi
    go_wp2; go_ret; exact ⟨rfl, G1.out⟩
  · have h0 : 0 ≤ i := by simpa using hi
    go_wp2; go_ret; exact ⟨rfl, G1.out⟩
end Go.Proofs.Ytgmhopkajopfcaa
