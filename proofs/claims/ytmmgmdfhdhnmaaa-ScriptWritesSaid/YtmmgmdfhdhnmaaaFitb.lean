/- The walks of script's right, of slices.ContainsFunc at operations and events, and of the document's Right. -/
import Derived.Test.YtmmgmdfhdhnmaaaFit
namespace Go.Proofs.Ytmmgmdfhdhnmaaa
open Go.RowKit
set_option linter.unusedVariables false

set_option maxRecDepth 100000 in
set_option maxHeartbeats 1600000 in
theorem right1_c (w : World) (x : POp) (r : Bool) (hr : opFits x = r) : Calls Try.prog 35 #[opV x] w fun e w' => e = .returned (.bool (!r)) ∧ w.grownBy w' none := by
  have B := As.mk (Blk.new w 79 #[.int .i64 x.k, .int .i64 x.c, .int .i64 x.r, .int .i64 x.o, .int .i64 x.n])
  have G := As.mk (gr_alloc (gr_refl w none) (.cells #[.int .i64 x.k, .int .i64 x.c, .int .i64 x.r, .int .i64 x.o, .int .i64 x.n] 79))
  go_enter Try.func35, Try.ntmps35
  go_wp2_with (go_at_call 36; refine (fits_c _ x _ hr).mono ?_)
  rintro e w1 ⟨rfl, g1⟩
  have G1 := As.mk (gr_then G.out g1 (.inl rfl))
  clear g1 G B
  cases r
  · go_wp2; go_ret; exact ⟨rfl, G1.out⟩
  · go_wp2; go_ret; exact ⟨rfl, G1.out⟩
theorem any_take_succ {α : Type} (p : α → Bool) (l : List α) (k : Nat) (hk : k < l.length) : (l.take (k + 1)).any p = ((l.take k).any p || p (l[k]'hk)) := by
  rw [List.take_succ_eq_append_getElem hk, List.any_append]
  simp
set_option maxRecDepth 100000 in
set_option maxHeartbeats 1600000 in
theorem idxOp_c (w : World) (v : Value) (l : List POp) (h : Arr OpE 5 w v l) :
    Calls Try.prog 42 #[v, .func (.func 35) #[] #[]] w fun e w' => (∃ i : Int, e = .returned (.int .i64 i) ∧ decide (0 ≤ i) = l.any (fun x => !opFits x)) ∧ w.grownBy w' none := by
  obtain ⟨A, c, rfl⟩ := h.len
  have hl := h.le
  have H := As.mk h
  clear h
  go_enter Try.func42, Try.ntmps42
  go_wp2_with fail

  go_loopw [8] (fun i wr => ∃ k : Nat, k ≤ l.length ∧ i = .int .i64 k ∧ As ((l.take k).any (fun x => !opFits x) = false ∧ w.grownBy wr none)) (fun i _ => l.length - (intOf i).toNat)
  case atStart => exact ⟨0, Nat.zero_le _, rfl, ⟨by simp, gr_refl _ _⟩⟩
  case round =>
    obtain ⟨k, hk, rfl, HL⟩ := hrel
    by_cases hlt : k < l.length
    · have hltI : (k : Int) < (l.length : Int) := by omega
      have hk0 : (0 : Int) ≤ (k : Int) := by omega
      obtain ⟨b, o, cs, rfl, hE, hcs, hcell⟩ := H.out.at_ k l[k] (List.getElem?_eq_getElem hlt)
      obtain rfl := hE
      have c0 : wr.cell? ⟨b, o + k * 5, none⟩ = _ := HL.out.2.cell (hcell 0 _ rfl) (by simp)
      have c1 := HL.out.2.cell (hcell 1 _ rfl) (by simp)
      have c2 := HL.out.2.cell (hcell 2 _ rfl) (by simp)
      have c3 := HL.out.2.cell (hcell 3 _ rfl) (by simp)
      have c4 := HL.out.2.cell (hcell 4 _ rfl) (by simp)
      have hs := any_take_succ (fun x => !opFits x) l k hlt
      have hs' := any_take_succ (fun x => !opFits x) l k hlt
      clear hcell hcs
      go_wp2_with (go_at_call 35; refine (right1_c _ (l[k]'hlt) _ rfl).mono ?_)
      rintro e w1 ⟨rfl, g1⟩
      have G1 := As.mk (gr_then HL.out.2 g1 (.inl rfl))
      clear g1 c0 c1 c2 c3 c4
      rw [HL.out.1] at hs
      have HS := As.mk hs
      clear hs hs'
      cases hf : opFits (l[k]'hlt)
      · go_wp2_with fail
        go_ret
        refine ⟨⟨k, rfl, ?_⟩, G1.out⟩
        have h1 := HS.out
        rw [hf] at h1
        rw [show decide ((0 : Int) ≤ (k : Int)) = true by simp]
        rw [eq_comm, List.any_eq_true]
        exact ⟨_, List.getElem_mem hlt, by simp [hf]⟩
      · go_wp2_with fail
        go_roundw
        case measure => simp [intOf]; omega
        case rel => exact ⟨k + 1, by omega, by go_num, ⟨by have h1 := HS.out; rw [hf] at h1; simpa using h1, G1.out⟩⟩
    · obtain rfl : k = l.length := by omega
      have HX := As.mk HL.out
      clear HL
      go_wp2
      go_ret
      refine ⟨⟨-1, rfl, ?_⟩, HX.out.2⟩
      have := HX.out.1
      rw [List.take_of_length_le (Nat.le_refl _)] at this
      rw [this]; rfl
set_option maxRecDepth 100000 in
theorem conOp_c (w : World) (v : Value) (l : List POp) (h : Arr OpE 5 w v l) (r : Bool) (hr : l.any (fun x => !opFits x) = r) :
    Calls Try.prog 34 #[v, .func (.func 35) #[] #[]] w fun e w' => e = .returned (.bool r) ∧ w.grownBy w' none := by
  have H := As.mk h
  clear h
  go_enter Try.func34, Try.ntmps34
  go_wp2_with (go_at_call 42; refine (idxOp_c _ _ l H.out).mono ?_)
  rintro e w1 ⟨⟨i, rfl, hi⟩, g1⟩
  have G1 := As.mk g1
  clear g1
  rw [hr] at hi
  cases r
  · have h0 : ¬ (0 ≤ i) := by simpa using hi
    go_wp2; go_ret; exact ⟨rfl, G1.out⟩
  · have h0 : 0 ≤ i := by simpa using hi
    go_wp2; go_ret; exact ⟨rfl, G1.out⟩
def evRight (e : PEv) : Bool := inR e.k 1 11 && (inR e.a 0 255 && (inR e.b 0 255 && (inR e.n 0 65535 && (if e.k = 1 then (e.b == 0 && (e.n == 0 && (decide (e.ops.length < 33) && !(e.ops.any (fun x => !opFits x))))) else e.ops.length == 0))))
def InC (w : World) : Prop := ∀ w n lo hi r, inR n lo hi = r → Calls Try.prog 20 #[.int .i64 n, .int .i64 lo, .int .i64 hi] w fun e w' => e = .returned (.bool r) ∧ w' = w
set_option maxRecDepth 100000 in
set_option maxHeartbeats 3200000 in
theorem right_c (w : World) (x : PEv) (u : Value) (hu : Arr OpE 5 w u x.ops) (r : Bool) (hr : evRight x = r) :
    Calls Try.prog 23 #[.agg #[.int .i64 x.k, .int .i64 x.a, .int .i64 x.b, .int .i64 x.n, u]] w fun e w' => e = .returned (.bool r) ∧ w.grownBy w' none := by
  obtain ⟨k, a, b, n, ops⟩ := x
  obtain ⟨A, c, rfl⟩ := hu.len
  have hl := hu.le
  have HU := As.mk hu
  have B := As.mk (Blk.new w 37 #[.int .i64 k, .int .i64 a, .int .i64 b, .int .i64 n, .slice A ops.length c])
  have G := As.mk (gr_alloc (gr_refl w none) (.cells #[.int .i64 k, .int .i64 a, .int .i64 b, .int .i64 n, .slice A ops.length c] 37))
  have HU1 := As.mk (hu.below G.out (fun _ _ => OpE.any _ _))
  clear hu
  dsimp only at *
  go_enter Try.func23, Try.ntmps23
  unfold evRight at hr
  dsimp only at hr
  cases h1 : inR k 1 11
  · rw [h1] at hr
    go_wp2_with (go_at_call 20; refine (in_c _ _ _ _ _ (by assumption)).mono ?_; rintro e w1 ⟨rfl, rfl⟩)
    go_ret; exact ⟨by rw [← hr]; rfl, G.out⟩
  cases h2 : inR a 0 255
  · rw [h1, h2] at hr
    go_wp2_with (go_at_call 20; refine (in_c _ _ _ _ _ (by assumption)).mono ?_; rintro e w1 ⟨rfl, rfl⟩)
    go_ret; exact ⟨by rw [← hr]; rfl, G.out⟩
  cases h3 : inR b 0 255
  · rw [h1, h2, h3] at hr
    go_wp2_with (go_at_call 20; refine (in_c _ _ _ _ _ (by assumption)).mono ?_; rintro e w1 ⟨rfl, rfl⟩)
    go_ret; exact ⟨by rw [← hr]; rfl, G.out⟩
  cases h4 : inR n 0 65535
  · rw [h1, h2, h3, h4] at hr
    go_wp2_with (go_at_call 20; refine (in_c _ _ _ _ _ (by assumption)).mono ?_; rintro e w1 ⟨rfl, rfl⟩)
    go_ret; exact ⟨by rw [← hr]; rfl, G.out⟩
  rw [h1, h2, h3, h4] at hr
  by_cases hk : k = 1
  · subst hk
    by_cases hb : b = 0
    · subst hb
      by_cases hn : n = 0
      · subst hn
        by_cases hlt : ops.length < 33
        · have hltI : (ops.length : Int) < 33 := by omega
          generalize ha : ops.any (fun x => !opFits x) = q at hr
          have hq : r = !q := by rw [← hr]; simp [hlt]
          clear hr
          subst hq
          go_wp2_with (first
            | (go_at_call 20; refine (in_c _ _ _ _ _ (by assumption)).mono ?_; rintro e w1 ⟨rfl, rfl⟩)
            | (go_at_call 34; refine (conOp_c _ _ ops HU1.out q ha).mono ?_))
          rintro e w1 ⟨rfl, g1⟩
          have G1 := As.mk (gr_then G.out g1 (.inl rfl))
          clear g1
          go_wp2
          go_ret; exact ⟨rfl, G1.out⟩
        · have hltI : ¬ (ops.length : Int) < 33 := by omega
          go_wp2_with (go_at_call 20; refine (in_c _ _ _ _ _ (by assumption)).mono ?_; rintro e w1 ⟨rfl, rfl⟩)
          go_ret; exact ⟨by rw [← hr]; simp [hlt], G.out⟩
      · have hn' : (n == 0) = false := by simpa using hn
        go_wp2_with (go_at_call 20; refine (in_c _ _ _ _ _ (by assumption)).mono ?_; rintro e w1 ⟨rfl, rfl⟩)
        go_ret; exact ⟨by rw [← hr]; simp [hn], G.out⟩
    · have hb' : (b == 0) = false := by simpa using hb
      go_wp2_with (go_at_call 20; refine (in_c _ _ _ _ _ (by assumption)).mono ?_; rintro e w1 ⟨rfl, rfl⟩)
      go_ret; exact ⟨by rw [← hr]; simp [hb], G.out⟩
  · have hk' : (k == 1) = false := by simpa using hk
    by_cases h0 : ops.length = 0
    · have h0' : (((ops.length : Nat) : Int) == 0) = true := by simpa using h0
      go_wp2_with (go_at_call 20; refine (in_c _ _ _ _ _ (by assumption)).mono ?_; rintro e w1 ⟨rfl, rfl⟩)
      go_ret; exact ⟨by rw [← hr]; simp [hk, h0], by have := G.out; rw [h0] at this; exact this⟩
    · have h0' : (((ops.length : Nat) : Int) == 0) = false := by simpa using h0
      go_wp2_with (go_at_call 20; refine (in_c _ _ _ _ _ (by assumption)).mono ?_; rintro e w1 ⟨rfl, rfl⟩)
      go_ret; exact ⟨by rw [← hr]; simp [hk, h0], G.out⟩
end Go.Proofs.Ytmmgmdfhdhnmaaa
