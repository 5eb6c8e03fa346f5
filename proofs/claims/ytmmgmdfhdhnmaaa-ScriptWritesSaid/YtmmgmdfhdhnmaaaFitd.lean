/- The walk of the document's Right. -/
import Derived.Test.YtmmgmdfhdhnmaaaFitc
namespace Go.Proofs.Ytmmgmdfhdhnmaaa
open Go.RowKit
set_option linter.unusedVariables false

set_option maxRecDepth 100000 in
set_option maxHeartbeats 6400000 in
theorem refRight_c (w : World) (x : PEv) (u : Value) (hu : Arr OpE 5 w u x.ops) (r : Bool) (hr : evRight x = r) :
    Calls Try.prog 11 #[.agg #[.int .i64 x.k, .int .i64 x.a, .int .i64 x.b, .int .i64 x.n, u]] w fun e w' => e = .returned (.bool r) ∧ w.grownBy w' none := by
  obtain ⟨k, a, b, n, ops⟩ := x
  obtain ⟨A, c, rfl⟩ := hu.len
  have hl := hu.le
  have HB := As.mk (Blk.new w 41 #[.int .i64 k, .int .i64 a, .int .i64 b, .int .i64 n, .slice A ops.length c])
  have G := As.mk (gr_alloc (gr_refl w none) (.cells #[.int .i64 k, .int .i64 a, .int .i64 b, .int .i64 n, .slice A ops.length c] 41))
  have HU1 := As.mk (hu.below G.out (fun _ _ => OpE.any _ _))
  clear hu
  dsimp only at *
  go_enter Try.func11, Try.ntmps11
  unfold evRight at hr
  dsimp only at hr
  by_cases hk1 : k < 1
  · have h1 : inR k 1 11 = false := by unfold inR; simp; omega
    rw [h1] at hr
    go_wp2_with fail
    go_ret; exact ⟨by rw [← hr]; rfl, G.out⟩
  by_cases hk2 : 11 < k
  · have h1 : inR k 1 11 = false := by unfold inR; simp; omega
    rw [h1] at hr
    go_wp2_with fail
    go_ret; exact ⟨by rw [← hr]; rfl, G.out⟩
  have h1 : inR k 1 11 = true := by unfold inR; simp; omega
  cases h2 : inR a 0 255
  · rw [h1, h2] at hr
    go_wp2_with (go_at_call 19; refine (byteful_c _ _ _ (by assumption)).mono ?_; rintro e w1 ⟨rfl, rfl⟩)
    go_ret; exact ⟨by rw [← hr]; rfl, G.out⟩
  cases h3 : inR b 0 255
  · rw [h1, h2, h3] at hr
    go_wp2_with (go_at_call 19; refine (byteful_c _ _ _ (by assumption)).mono ?_; rintro e w1 ⟨rfl, rfl⟩)
    go_ret; exact ⟨by rw [← hr]; rfl, G.out⟩
  by_cases hn1 : n < 0
  · have h4 : inR n 0 65535 = false := by unfold inR; simp; omega
    rw [h1, h2, h3, h4] at hr
    go_wp2_with (go_at_call 19; refine (byteful_c _ _ _ (by assumption)).mono ?_; rintro e w1 ⟨rfl, rfl⟩)
    go_ret; exact ⟨by rw [← hr]; rfl, G.out⟩
  by_cases hn2 : 65535 < n
  · have h4 : inR n 0 65535 = false := by unfold inR; simp; omega
    rw [h1, h2, h3, h4] at hr
    go_wp2_with (go_at_call 19; refine (byteful_c _ _ _ (by assumption)).mono ?_; rintro e w1 ⟨rfl, rfl⟩)
    go_ret; exact ⟨by rw [← hr]; rfl, G.out⟩
  have h4 : inR n 0 65535 = true := by unfold inR; simp; omega
  rw [h1, h2, h3, h4] at hr
  by_cases hk : k = 1
  · subst hk
    by_cases hb : b = 0
    · subst hb
      by_cases hn : n = 0
      · subst hn
        by_cases hlt : ops.length < 33
        · have hltI : ¬ (32 : Int) < (ops.length : Int) := by omega
          have hq : r = !ops.any (fun x => !opFits x) := by rw [← hr]; simp [hlt]
          clear hr
          subst hq
          have h2' : As (inR a 0 255 = true) := ⟨h2⟩
          go_wp2_with (go_at_call 19; refine (byteful_c _ _ _ (by assumption)).mono ?_; rintro e w1 ⟨rfl, rfl⟩)
          have c4 : (w.alloc (.cells #[.int .i64 1, .int .i64 a, .int .i64 0, .int .i64 0, .slice A ops.length c] 41)).cell? ⟨w.heap.size, 4, none⟩ = some (.slice A ops.length c) := HB.out.cell 4
          have hgs := G.out.size
          generalize hW : w.alloc (.cells #[.int .i64 1, .int .i64 a, .int .i64 0, .int .i64 0, .slice A ops.length c] 41) = W at *
          have hszW : W.heap.size = w.heap.size + 1 := by rw [← hW]; simp
          generalize hg0 : w.heap.size = g at *
          clear hW
          go_loopw [3] (fun i wr => ∃ j : Nat, j ≤ ops.length ∧ i = .int .i64 j ∧ As ((ops.take j).any (fun x => !opFits x) = false ∧ W.grownBy wr none)) (fun i _ => ops.length - (intOf i).toNat)
          case atStart => exact ⟨0, Nat.zero_le _, rfl, ⟨by simp, gr_refl _ _⟩⟩
          case round =>
            obtain ⟨j, hj, rfl, HL⟩ := hrel
            have d4 : wr.cell? ⟨g, 4, none⟩ = some (.slice A ops.length c) := HL.out.2.cell c4 (by simp)
            by_cases hjl : j < ops.length
            · have hltJ : (j : Int) < (ops.length : Int) := by omega
              have hj0 : (0 : Int) ≤ (j : Int) := by omega
              obtain ⟨bb, o, cs, rfl, hE, hcs, hcell⟩ := HU1.out.at_ j ops[j] (List.getElem?_eq_getElem hjl)
              obtain rfl := hE
              have e0 : wr.cell? ⟨bb, o + j * 5, none⟩ = _ := HL.out.2.cell (hcell 0 _ rfl) (by simp)
              have e1 := HL.out.2.cell (hcell 1 _ rfl) (by simp)
              have e2 := HL.out.2.cell (hcell 2 _ rfl) (by simp)
              have e3 := HL.out.2.cell (hcell 3 _ rfl) (by simp)
              have e4 := HL.out.2.cell (hcell 4 _ rfl) (by simp)
              have hs := any_take_succ (fun x => !opFits x) ops j hjl
              have hmem : ops[j]'hjl ∈ ops := List.getElem_mem hjl
              rw [HL.out.1] at hs
              generalize hx : ops[j]'hjl = x at *
              have HS := As.mk (And.intro hs (And.intro hmem hx))
              have GL := As.mk (gr_alloc HL.out.2 (.cells #[.int .i64 x.k, .int .i64 x.c, .int .i64 x.r, .int .i64 x.o, .int .i64 x.n] 54))
              clear hcell hcs hs hmem hx
              have bad : opFits x = false → (!ops.any fun x => !opFits x) = false := fun hf => by
                rw [Bool.not_eq_false', List.any_eq_true]
                exact ⟨x, HS.out.2.1, by simp [hf]⟩
              have Hbad := As.mk bad
              clear bad
              cases q1 : inR x.k 0 255
              · go_wp2_with (go_at_call 19; refine (byteful_c _ _ _ (by assumption)).mono ?_; rintro e w1 ⟨rfl, rfl⟩)
                go_ret
                exact ⟨by rw [Hbad.out (by simp [opFits, q1])]; rfl, gr_then G.out GL.out (.inl rfl)⟩
              cases q2 : inR x.r 0 255
              · go_wp2_with (go_at_call 19; refine (byteful_c _ _ _ (by assumption)).mono ?_; rintro e w1 ⟨rfl, rfl⟩)
                go_ret
                exact ⟨by rw [Hbad.out (by simp [opFits, q2])]; rfl, gr_then G.out GL.out (.inl rfl)⟩
              cases q3 : inR x.o 0 255
              · go_wp2_with (go_at_call 19; refine (byteful_c _ _ _ (by assumption)).mono ?_; rintro e w1 ⟨rfl, rfl⟩)
                go_ret
                exact ⟨by rw [Hbad.out (by simp [opFits, q3])]; rfl, gr_then G.out GL.out (.inl rfl)⟩
              cases q4 : inR x.c 0 255
              · go_wp2_with (go_at_call 19; refine (byteful_c _ _ _ (by assumption)).mono ?_; rintro e w1 ⟨rfl, rfl⟩)
                go_ret
                exact ⟨by rw [Hbad.out (by simp [opFits, q4])]; rfl, gr_then G.out GL.out (.inl rfl)⟩
              by_cases q5 : x.n < -128
              · have q5' : inR x.n (-128) 127 = false := by unfold inR; simp; omega
                go_wp2_with (go_at_call 19; refine (byteful_c _ _ _ (by assumption)).mono ?_; rintro e w1 ⟨rfl, rfl⟩)
                go_ret
                exact ⟨by rw [Hbad.out (by simp [opFits, q5'])]; rfl, gr_then G.out GL.out (.inl rfl)⟩
              by_cases q6 : 127 < x.n
              · have q5' : inR x.n (-128) 127 = false := by unfold inR; simp; omega
                go_wp2_with (go_at_call 19; refine (byteful_c _ _ _ (by assumption)).mono ?_; rintro e w1 ⟨rfl, rfl⟩)
                go_ret
                exact ⟨by rw [Hbad.out (by simp [opFits, q5'])]; rfl, gr_then G.out GL.out (.inl rfl)⟩
              have q5' : inR x.n (-128) 127 = true := by unfold inR; simp; omega
              have hok := As.mk (show opFits x = true by simp [opFits, q1, q2, q3, q4, q5'])
              go_wp2_with (go_at_call 19; refine (byteful_c _ _ _ (by assumption)).mono ?_; rintro e w1 ⟨rfl, rfl⟩)
              go_roundw
              case measure => simp [intOf]; omega
              case rel => exact ⟨j + 1, by omega, by go_num, ⟨by have h1 := HS.out.1; rw [hok.out] at h1; simpa using h1, GL.out⟩⟩
            · obtain rfl : j = ops.length := by omega
              have HX := As.mk HL.out
              clear HL
              go_wp2_with fail
              go_ret
              refine ⟨?_, gr_then G.out HX.out.2 (.inl rfl)⟩
              have := HX.out.1
              rw [List.take_of_length_le (Nat.le_refl _)] at this
              rw [this]; rfl
        · have hltI : (32 : Int) < (ops.length : Int) := by omega
          go_wp2_with (go_at_call 19; refine (byteful_c _ _ _ (by assumption)).mono ?_; rintro e w1 ⟨rfl, rfl⟩)
          go_ret; exact ⟨by rw [← hr]; simp [hlt], G.out⟩
      · have hn' : (n == 0) = false := by simpa using hn
        go_wp2_with (go_at_call 19; refine (byteful_c _ _ _ (by assumption)).mono ?_; rintro e w1 ⟨rfl, rfl⟩)
        go_ret; exact ⟨by rw [← hr]; simp [hn], G.out⟩
    · have hb' : (b == 0) = false := by simpa using hb
      go_wp2_with (go_at_call 19; refine (byteful_c _ _ _ (by assumption)).mono ?_; rintro e w1 ⟨rfl, rfl⟩)
      go_ret; exact ⟨by rw [← hr]; simp [hb], G.out⟩
  · have hk' : (k == 1) = false := by simpa using hk
    by_cases h0 : ops.length = 0
    · have h0' : (((ops.length : Nat) : Int) == 0) = true := by simpa using h0
      go_wp2_with (go_at_call 19; refine (byteful_c _ _ _ (by assumption)).mono ?_; rintro e w1 ⟨rfl, rfl⟩)
      go_ret; exact ⟨by rw [← hr]; simp [hk, h0], by have := G.out; rw [h0] at this; exact this⟩
    · have h0' : (((ops.length : Nat) : Int) == 0) = false := by simpa using h0
      go_wp2_with (go_at_call 19; refine (byteful_c _ _ _ (by assumption)).mono ?_; rintro e w1 ⟨rfl, rfl⟩)
      go_ret; exact ⟨by rw [← hr]; simp [hk, h0], G.out⟩
end Go.Proofs.Ytmmgmdfhdhnmaaa
