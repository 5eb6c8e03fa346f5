/- The walk of the document's Lines. -/
import Derived.Test.YtihibljjbdjeoaaDoorLs
import Derived.Test.YtihibljjbdjeoaaDoorRo
namespace Go.Proofs.YtihibljjbdjeoaaDoor
open Go.RowKit
set_option linter.unusedVariables false
set_option linter.unusedSimpArgs false

theorem lines_ba {l : List POp} {k : Nat} (h : k < l.length) : (⟨(linesB (l.take (k + 1))).toArray⟩ : ByteArray) = ⟨(linesB (l.take k)).toArray⟩ ++ lineOf (l[k]'h) ++ ⟨#[10]⟩ := by
  rw [linesB_take h]
  apply ByteArray.ext
  simp
theorem lines_sz {l : List POp} (h : ∀ x ∈ l, OpWf x) (k : Nat) (hk : k ≤ l.length) : (⟨(linesB (l.take k)).toArray⟩ : ByteArray).size ≤ 61 * k := by
  show (linesB (l.take k)).toArray.size ≤ 61 * k
  rw [List.size_toArray]
  have := linesB_len (l.take k) (fun x hx => h x (List.mem_of_mem_take hx))
  rw [List.length_take, Nat.min_eq_left hk] at this
  exact this
set_option maxRecDepth 100000 in
set_option maxHeartbeats 12800000 in
theorem rlines_c (v : Value) (l : List POp) (w : World) (h : Arr OpE 5 w v l) (hwf : ∀ x ∈ l, OpWf x) (hk : ∀ x ∈ l, inR x.k 1 12 = true) (hl : l.length ≤ 1000) :
    Calls Tryd.prog 31 #[v] w fun e w' => e = .returned (.string ⟨(linesB l).toArray⟩) ∧ w.grownBy w' none := by
  obtain ⟨A, c, rfl⟩ := h.len
  have H := As.mk h
  have HWF := As.mk hwf
  have HKI := As.mk hk
  clear h hwf hk
  go_enter Tryd.func31, Tryd.ntmps31
  go_wp2_with fail
  have HNB := As.mk (Blk.new w 9 namesB)
  have HG0 := As.mk (gr_alloc (gr_refl w none) (.cells namesB 9))
  unfold namesB at HNB HG0
  generalize w.heap.size = nb at *
  go_loopw [4, 5] (fun s i wr => ∃ k : Nat, k ≤ l.length ∧ i = .int .i64 k ∧ s = .string ⟨(linesB (l.take k)).toArray⟩ ∧ As (w.grownBy wr none ∧ Blk wr nb 9 namesB)) (fun _ i _ => l.length - (intOf i).toNat)
  case atStart => exact ⟨0, Nat.zero_le _, rfl, by simp [linesB], ⟨HG0.out, HNB.out⟩⟩
  case round =>
    obtain ⟨k, hk, rfl, rfl, HL⟩ := hrel
    clear HNB HG0
    by_cases hlt : k < l.length
    · have hltI : (k : Int) < (l.length : Int) := by omega
      have hk0 : (0 : Int) ≤ (k : Int) := by omega
      obtain ⟨bb, o, cs, rfl, hE, hcs, hcell⟩ := H.out.at_ k l[k] (List.getElem?_eq_getElem hlt)
      obtain rfl := hE
      have c0 : wr.cell? ⟨bb, o + k * 5, none⟩ = _ := HL.out.1.cell (hcell 0 _ rfl) (by simp)
      have c1 := HL.out.1.cell (hcell 1 _ rfl) (by simp)
      have c2 := HL.out.1.cell (hcell 2 _ rfl) (by simp)
      have c3 := HL.out.1.cell (hcell 3 _ rfl) (by simp)
      have c4 := HL.out.1.cell (hcell 4 _ rfl) (by simp)
      have HT := As.mk (lines_ba hlt)
      have hsz := lines_sz HWF.out k (by omega)
      have hw := HWF.out l[k] (List.getElem_mem hlt)
      have hkk := inR_true (HKI.out l[k] (List.getElem_mem hlt))
      clear hcell hcs
      generalize l[k]'hlt = x at *
      obtain ⟨xk, xc, xr, xo, xn⟩ := x
      dsimp only at c0 c1 c2 c3 c4 HT hkk
      obtain ⟨wc, wr_, wo, wn⟩ := hw
      dsimp only at wc wr_ wo wn
      have ac := num_size xc wc.1 wc.2
      have ar := num_size xr wr_.1 wr_.2
      have ao := num_size xo wo.1 wo.2
      have an := num_size xn wn.1 wn.2
      have BN := As.mk (And.intro wc (And.intro wr_ (And.intro wo wn)))
      clear wc wr_ wo wn
      generalize (⟨(linesB (l.take k)).toArray⟩ : ByteArray) = s at *
      have G0 := As.mk HL.out.1
      have HN := As.mk HL.out.2
      clear HL
      have hs9 : s.size ≤ 61000 := by omega
      clear hsz
      rcases (show xk = 1 ∨ xk = 2 ∨ xk = 3 ∨ xk = 4 ∨ xk = 5 ∨ xk = 6 ∨ xk = 7 ∨ xk = 8 ∨ xk = 9 ∨ xk = 10 ∨ xk = 11 ∨ xk = 12 by omega) with rfl | rfl | rfl | rfl | rfl | rfl | rfl | rfl | rfl | rfl | rfl | rfl
      · have z0 : ¬ 9223372036854775807 < s.size + 4 := by omega
        have z1 : ¬ 9223372036854775807 < s.size + 4 + 2 := by omega
        have z2 : ¬ 9223372036854775807 < s.size + 4 + 2 + (num xr).size := by omega
        have z3 : ¬ 9223372036854775807 < s.size + 4 + 2 + (num xr).size + 2 := by omega
        have z4 : ¬ 9223372036854775807 < s.size + 4 + 2 + (num xr).size + 2 + (num xc).size := by omega
        have z5 : ¬ 9223372036854775807 < s.size + 4 + 2 + (num xr).size + 2 + (num xc).size + 1 := by omega
        have GA := As.mk (gr_alloc G0.out (.cells #[.int .i64 1, .int .i64 xc, .int .i64 xr, .int .i64 xo, .int .i64 xn] 51))
        have HB := As.mk (Blk.new wr 51 #[.int .i64 1, .int .i64 xc, .int .i64 xr, .int .i64 xo, .int .i64 xn])
        have HNA := As.mk (HN.out.alloc (.cells #[.int .i64 1, .int .i64 xc, .int .i64 xr, .int .i64 xo, .int .i64 xn] 51))
        clear ac ar ao an
        go_upto_region 7 with fail
        generalize wr.alloc (.cells #[.int .i64 1, .int .i64 xc, .int .i64 xr, .int .i64 xo, .int .i64 xn] 51) = WA at *
        generalize wr.heap.size = ob at *
        clear c0 c1 c2 c3 c4 G0 HN
        have b0 := HB.out.cell 0
        have b1 := HB.out.cell 1
        have b2 := HB.out.cell 2
        have b3 := HB.out.cell 3
        have b4 := HB.out.cell 4
        simp only [List.getElem?_toArray, List.getElem?_cons_zero, List.getElem?_cons_succ] at b0 b1 b2 b3 b4
        have d_ : WA.cell? ⟨nb, 1, none⟩ = some (.string ⟨#[114, 101, 97, 100]⟩) := HNA.out.cell 1
        go_wp2_with fail
        refine (has_c 1 2 _ true (by decide)).mono ?_
        rintro e wh2 ⟨rfl, rfl⟩
        go_wp2_with fail
        refine (digits_c xr BN.out.2.1.1 BN.out.2.1.2 _).mono ?_
        rintro e w1_ ⟨rfl, gN⟩
        replace HB := As.mk (HB.out.grown gN (by simp))
        replace HNA := As.mk (HNA.out.grown gN (by simp))
        replace GA := As.mk (gr_then GA.out gN (.inl rfl))
        clear gN b0 b1 b2 b3 b4 d_
        have b0 := HB.out.cell 0
        have b1 := HB.out.cell 1
        have b2 := HB.out.cell 2
        have b3 := HB.out.cell 3
        have b4 := HB.out.cell 4
        simp only [List.getElem?_toArray, List.getElem?_cons_zero, List.getElem?_cons_succ] at b0 b1 b2 b3 b4
        go_wp2_with fail
        refine (digits_c xc BN.out.1.1 BN.out.1.2 _).mono ?_
        rintro e w2_ ⟨rfl, gN⟩
        replace HB := As.mk (HB.out.grown gN (by simp))
        replace HNA := As.mk (HNA.out.grown gN (by simp))
        replace GA := As.mk (gr_then GA.out gN (.inl rfl))
        clear gN b0 b1 b2 b3 b4
        have b0 := HB.out.cell 0
        have b1 := HB.out.cell 1
        have b2 := HB.out.cell 2
        have b3 := HB.out.cell 3
        have b4 := HB.out.cell 4
        simp only [List.getElem?_toArray, List.getElem?_cons_zero, List.getElem?_cons_succ] at b0 b1 b2 b3 b4
        go_wp2_with fail
        refine (has_c 1 3 _ false (by decide)).mono ?_
        rintro e wh3 ⟨rfl, rfl⟩
        go_wp2_with fail
        exact ⟨⟨k + 1, by omega, by go_num, by rw [HT.out]; simp [lineOf, regS, celS, nameK, ByteArray.append_assoc], GA.out, HNA.out⟩, by simp [intOf]; omega⟩
      · have z0 : ¬ 9223372036854775807 < s.size + 5 := by omega
        have z1 : ¬ 9223372036854775807 < s.size + 5 + 2 := by omega
        have z2 : ¬ 9223372036854775807 < s.size + 5 + 2 + (num xc).size := by omega
        have z3 : ¬ 9223372036854775807 < s.size + 5 + 2 + (num xc).size + 2 := by omega
        have z4 : ¬ 9223372036854775807 < s.size + 5 + 2 + (num xc).size + 2 + (num xr).size := by omega
        have z5 : ¬ 9223372036854775807 < s.size + 5 + 2 + (num xc).size + 2 + (num xr).size + 1 := by omega
        have GA := As.mk (gr_alloc G0.out (.cells #[.int .i64 2, .int .i64 xc, .int .i64 xr, .int .i64 xo, .int .i64 xn] 51))
        have HB := As.mk (Blk.new wr 51 #[.int .i64 2, .int .i64 xc, .int .i64 xr, .int .i64 xo, .int .i64 xn])
        have HNA := As.mk (HN.out.alloc (.cells #[.int .i64 2, .int .i64 xc, .int .i64 xr, .int .i64 xo, .int .i64 xn] 51))
        clear ac ar ao an
        go_upto_region 7 with fail
        generalize wr.alloc (.cells #[.int .i64 2, .int .i64 xc, .int .i64 xr, .int .i64 xo, .int .i64 xn] 51) = WA at *
        generalize wr.heap.size = ob at *
        clear c0 c1 c2 c3 c4 G0 HN
        have b0 := HB.out.cell 0
        have b1 := HB.out.cell 1
        have b2 := HB.out.cell 2
        have b3 := HB.out.cell 3
        have b4 := HB.out.cell 4
        simp only [List.getElem?_toArray, List.getElem?_cons_zero, List.getElem?_cons_succ] at b0 b1 b2 b3 b4
        have d_ : WA.cell? ⟨nb, 2, none⟩ = some (.string ⟨#[119, 114, 105, 116, 101]⟩) := HNA.out.cell 2
        go_wp2_with fail
        refine (digits_c xc BN.out.1.1 BN.out.1.2 _).mono ?_
        rintro e w1_ ⟨rfl, gN⟩
        replace HB := As.mk (HB.out.grown gN (by simp))
        replace HNA := As.mk (HNA.out.grown gN (by simp))
        replace GA := As.mk (gr_then GA.out gN (.inl rfl))
        clear gN b0 b1 b2 b3 b4 d_
        have b0 := HB.out.cell 0
        have b1 := HB.out.cell 1
        have b2 := HB.out.cell 2
        have b3 := HB.out.cell 3
        have b4 := HB.out.cell 4
        simp only [List.getElem?_toArray, List.getElem?_cons_zero, List.getElem?_cons_succ] at b0 b1 b2 b3 b4
        go_wp2_with fail
        refine (has_c 2 2 _ true (by decide)).mono ?_
        rintro e wh2 ⟨rfl, rfl⟩
        go_wp2_with fail
        refine (digits_c xr BN.out.2.1.1 BN.out.2.1.2 _).mono ?_
        rintro e w2_ ⟨rfl, gN⟩
        replace HB := As.mk (HB.out.grown gN (by simp))
        replace HNA := As.mk (HNA.out.grown gN (by simp))
        replace GA := As.mk (gr_then GA.out gN (.inl rfl))
        clear gN b0 b1 b2 b3 b4
        have b0 := HB.out.cell 0
        have b1 := HB.out.cell 1
        have b2 := HB.out.cell 2
        have b3 := HB.out.cell 3
        have b4 := HB.out.cell 4
        simp only [List.getElem?_toArray, List.getElem?_cons_zero, List.getElem?_cons_succ] at b0 b1 b2 b3 b4
        go_wp2_with fail
        refine (has_c 2 3 _ false (by decide)).mono ?_
        rintro e wh3 ⟨rfl, rfl⟩
        go_wp2_with fail
        exact ⟨⟨k + 1, by omega, by go_num, by rw [HT.out]; simp [lineOf, regS, celS, nameK, ByteArray.append_assoc], GA.out, HNA.out⟩, by simp [intOf]; omega⟩
      · have z0 : ¬ 9223372036854775807 < s.size + 3 := by omega
        have z1 : ¬ 9223372036854775807 < s.size + 3 + 2 := by omega
        have z2 : ¬ 9223372036854775807 < s.size + 3 + 2 + (num xr).size := by omega
        have z3 : ¬ 9223372036854775807 < s.size + 3 + 2 + (num xr).size + 1 := by omega
        have z4 : ¬ 9223372036854775807 < s.size + 3 + 2 + (num xr).size + 1 + (num xn).size := by omega
        have z5 : ¬ 9223372036854775807 < s.size + 3 + 2 + (num xr).size + 1 + (num xn).size + 1 := by omega
        have GA := As.mk (gr_alloc G0.out (.cells #[.int .i64 3, .int .i64 xc, .int .i64 xr, .int .i64 xo, .int .i64 xn] 51))
        have HB := As.mk (Blk.new wr 51 #[.int .i64 3, .int .i64 xc, .int .i64 xr, .int .i64 xo, .int .i64 xn])
        have HNA := As.mk (HN.out.alloc (.cells #[.int .i64 3, .int .i64 xc, .int .i64 xr, .int .i64 xo, .int .i64 xn] 51))
        clear ac ar ao an
        go_upto_region 7 with fail
        generalize wr.alloc (.cells #[.int .i64 3, .int .i64 xc, .int .i64 xr, .int .i64 xo, .int .i64 xn] 51) = WA at *
        generalize wr.heap.size = ob at *
        clear c0 c1 c2 c3 c4 G0 HN
        have b0 := HB.out.cell 0
        have b1 := HB.out.cell 1
        have b2 := HB.out.cell 2
        have b3 := HB.out.cell 3
        have b4 := HB.out.cell 4
        simp only [List.getElem?_toArray, List.getElem?_cons_zero, List.getElem?_cons_succ] at b0 b1 b2 b3 b4
        have d_ : WA.cell? ⟨nb, 3, none⟩ = some (.string ⟨#[115, 101, 116]⟩) := HNA.out.cell 3
        go_wp2_with fail
        refine (has_c 3 2 _ true (by decide)).mono ?_
        rintro e wh2 ⟨rfl, rfl⟩
        go_wp2_with fail
        refine (digits_c xr BN.out.2.1.1 BN.out.2.1.2 _).mono ?_
        rintro e w1_ ⟨rfl, gN⟩
        replace HB := As.mk (HB.out.grown gN (by simp))
        replace HNA := As.mk (HNA.out.grown gN (by simp))
        replace GA := As.mk (gr_then GA.out gN (.inl rfl))
        clear gN b0 b1 b2 b3 b4 d_
        have b0 := HB.out.cell 0
        have b1 := HB.out.cell 1
        have b2 := HB.out.cell 2
        have b3 := HB.out.cell 3
        have b4 := HB.out.cell 4
        simp only [List.getElem?_toArray, List.getElem?_cons_zero, List.getElem?_cons_succ] at b0 b1 b2 b3 b4
        go_wp2_with fail
        refine (has_c 3 3 _ false (by decide)).mono ?_
        rintro e wh3 ⟨rfl, rfl⟩
        go_wp2_with fail
        refine (digits_c xn BN.out.2.2.2.1 BN.out.2.2.2.2 _).mono ?_
        rintro e w2_ ⟨rfl, gN⟩
        replace HB := As.mk (HB.out.grown gN (by simp))
        replace HNA := As.mk (HNA.out.grown gN (by simp))
        replace GA := As.mk (gr_then GA.out gN (.inl rfl))
        clear gN b0 b1 b2 b3 b4
        have b0 := HB.out.cell 0
        have b1 := HB.out.cell 1
        have b2 := HB.out.cell 2
        have b3 := HB.out.cell 3
        have b4 := HB.out.cell 4
        simp only [List.getElem?_toArray, List.getElem?_cons_zero, List.getElem?_cons_succ] at b0 b1 b2 b3 b4
        go_wp2_with fail
        exact ⟨⟨k + 1, by omega, by go_num, by rw [HT.out]; simp [lineOf, regS, celS, nameK, ByteArray.append_assoc], GA.out, HNA.out⟩, by simp [intOf]; omega⟩
      · have z0 : ¬ 9223372036854775807 < s.size + 3 := by omega
        have z1 : ¬ 9223372036854775807 < s.size + 3 + 2 := by omega
        have z2 : ¬ 9223372036854775807 < s.size + 3 + 2 + (num xr).size := by omega
        have z3 : ¬ 9223372036854775807 < s.size + 3 + 2 + (num xr).size + 2 := by omega
        have z4 : ¬ 9223372036854775807 < s.size + 3 + 2 + (num xr).size + 2 + (num xo).size := by omega
        have z5 : ¬ 9223372036854775807 < s.size + 3 + 2 + (num xr).size + 2 + (num xo).size + 1 := by omega
        have GA := As.mk (gr_alloc G0.out (.cells #[.int .i64 4, .int .i64 xc, .int .i64 xr, .int .i64 xo, .int .i64 xn] 51))
        have HB := As.mk (Blk.new wr 51 #[.int .i64 4, .int .i64 xc, .int .i64 xr, .int .i64 xo, .int .i64 xn])
        have HNA := As.mk (HN.out.alloc (.cells #[.int .i64 4, .int .i64 xc, .int .i64 xr, .int .i64 xo, .int .i64 xn] 51))
        clear ac ar ao an
        go_upto_region 7 with fail
        generalize wr.alloc (.cells #[.int .i64 4, .int .i64 xc, .int .i64 xr, .int .i64 xo, .int .i64 xn] 51) = WA at *
        generalize wr.heap.size = ob at *
        clear c0 c1 c2 c3 c4 G0 HN
        have b0 := HB.out.cell 0
        have b1 := HB.out.cell 1
        have b2 := HB.out.cell 2
        have b3 := HB.out.cell 3
        have b4 := HB.out.cell 4
        simp only [List.getElem?_toArray, List.getElem?_cons_zero, List.getElem?_cons_succ] at b0 b1 b2 b3 b4
        have d_ : WA.cell? ⟨nb, 4, none⟩ = some (.string ⟨#[97, 100, 100]⟩) := HNA.out.cell 4
        go_wp2_with fail
        refine (has_c 4 2 _ true (by decide)).mono ?_
        rintro e wh2 ⟨rfl, rfl⟩
        go_wp2_with fail
        refine (digits_c xr BN.out.2.1.1 BN.out.2.1.2 _).mono ?_
        rintro e w1_ ⟨rfl, gN⟩
        replace HB := As.mk (HB.out.grown gN (by simp))
        replace HNA := As.mk (HNA.out.grown gN (by simp))
        replace GA := As.mk (gr_then GA.out gN (.inl rfl))
        clear gN b0 b1 b2 b3 b4 d_
        have b0 := HB.out.cell 0
        have b1 := HB.out.cell 1
        have b2 := HB.out.cell 2
        have b3 := HB.out.cell 3
        have b4 := HB.out.cell 4
        simp only [List.getElem?_toArray, List.getElem?_cons_zero, List.getElem?_cons_succ] at b0 b1 b2 b3 b4
        go_wp2_with fail
        refine (has_c 4 3 _ true (by decide)).mono ?_
        rintro e wh3 ⟨rfl, rfl⟩
        go_wp2_with fail
        refine (digits_c xo BN.out.2.2.1.1 BN.out.2.2.1.2 _).mono ?_
        rintro e w2_ ⟨rfl, gN⟩
        replace HB := As.mk (HB.out.grown gN (by simp))
        replace HNA := As.mk (HNA.out.grown gN (by simp))
        replace GA := As.mk (gr_then GA.out gN (.inl rfl))
        clear gN b0 b1 b2 b3 b4
        have b0 := HB.out.cell 0
        have b1 := HB.out.cell 1
        have b2 := HB.out.cell 2
        have b3 := HB.out.cell 3
        have b4 := HB.out.cell 4
        simp only [List.getElem?_toArray, List.getElem?_cons_zero, List.getElem?_cons_succ] at b0 b1 b2 b3 b4
        go_wp2_with fail
        exact ⟨⟨k + 1, by omega, by go_num, by rw [HT.out]; simp [lineOf, regS, celS, nameK, ByteArray.append_assoc], GA.out, HNA.out⟩, by simp [intOf]; omega⟩
      · have z0 : ¬ 9223372036854775807 < s.size + 3 := by omega
        have z1 : ¬ 9223372036854775807 < s.size + 3 + 2 := by omega
        have z2 : ¬ 9223372036854775807 < s.size + 3 + 2 + (num xr).size := by omega
        have z3 : ¬ 9223372036854775807 < s.size + 3 + 2 + (num xr).size + 2 := by omega
        have z4 : ¬ 9223372036854775807 < s.size + 3 + 2 + (num xr).size + 2 + (num xo).size := by omega
        have z5 : ¬ 9223372036854775807 < s.size + 3 + 2 + (num xr).size + 2 + (num xo).size + 1 := by omega
        have GA := As.mk (gr_alloc G0.out (.cells #[.int .i64 5, .int .i64 xc, .int .i64 xr, .int .i64 xo, .int .i64 xn] 51))
        have HB := As.mk (Blk.new wr 51 #[.int .i64 5, .int .i64 xc, .int .i64 xr, .int .i64 xo, .int .i64 xn])
        have HNA := As.mk (HN.out.alloc (.cells #[.int .i64 5, .int .i64 xc, .int .i64 xr, .int .i64 xo, .int .i64 xn] 51))
        clear ac ar ao an
        go_upto_region 7 with fail
        generalize wr.alloc (.cells #[.int .i64 5, .int .i64 xc, .int .i64 xr, .int .i64 xo, .int .i64 xn] 51) = WA at *
        generalize wr.heap.size = ob at *
        clear c0 c1 c2 c3 c4 G0 HN
        have b0 := HB.out.cell 0
        have b1 := HB.out.cell 1
        have b2 := HB.out.cell 2
        have b3 := HB.out.cell 3
        have b4 := HB.out.cell 4
        simp only [List.getElem?_toArray, List.getElem?_cons_zero, List.getElem?_cons_succ] at b0 b1 b2 b3 b4
        have d_ : WA.cell? ⟨nb, 5, none⟩ = some (.string ⟨#[115, 117, 98]⟩) := HNA.out.cell 5
        go_wp2_with fail
        refine (has_c 5 2 _ true (by decide)).mono ?_
        rintro e wh2 ⟨rfl, rfl⟩
        go_wp2_with fail
        refine (digits_c xr BN.out.2.1.1 BN.out.2.1.2 _).mono ?_
        rintro e w1_ ⟨rfl, gN⟩
        replace HB := As.mk (HB.out.grown gN (by simp))
        replace HNA := As.mk (HNA.out.grown gN (by simp))
        replace GA := As.mk (gr_then GA.out gN (.inl rfl))
        clear gN b0 b1 b2 b3 b4 d_
        have b0 := HB.out.cell 0
        have b1 := HB.out.cell 1
        have b2 := HB.out.cell 2
        have b3 := HB.out.cell 3
        have b4 := HB.out.cell 4
        simp only [List.getElem?_toArray, List.getElem?_cons_zero, List.getElem?_cons_succ] at b0 b1 b2 b3 b4
        go_wp2_with fail
        refine (has_c 5 3 _ true (by decide)).mono ?_
        rintro e wh3 ⟨rfl, rfl⟩
        go_wp2_with fail
        refine (digits_c xo BN.out.2.2.1.1 BN.out.2.2.1.2 _).mono ?_
        rintro e w2_ ⟨rfl, gN⟩
        replace HB := As.mk (HB.out.grown gN (by simp))
        replace HNA := As.mk (HNA.out.grown gN (by simp))
        replace GA := As.mk (gr_then GA.out gN (.inl rfl))
        clear gN b0 b1 b2 b3 b4
        have b0 := HB.out.cell 0
        have b1 := HB.out.cell 1
        have b2 := HB.out.cell 2
        have b3 := HB.out.cell 3
        have b4 := HB.out.cell 4
        simp only [List.getElem?_toArray, List.getElem?_cons_zero, List.getElem?_cons_succ] at b0 b1 b2 b3 b4
        go_wp2_with fail
        exact ⟨⟨k + 1, by omega, by go_num, by rw [HT.out]; simp [lineOf, regS, celS, nameK, ByteArray.append_assoc], GA.out, HNA.out⟩, by simp [intOf]; omega⟩
      · have z0 : ¬ 9223372036854775807 < s.size + 4 := by omega
        have z1 : ¬ 9223372036854775807 < s.size + 4 + 2 := by omega
        have z2 : ¬ 9223372036854775807 < s.size + 4 + 2 + (num xr).size := by omega
        have z3 : ¬ 9223372036854775807 < s.size + 4 + 2 + (num xr).size + 1 := by omega
        have GA := As.mk (gr_alloc G0.out (.cells #[.int .i64 6, .int .i64 xc, .int .i64 xr, .int .i64 xo, .int .i64 xn] 51))
        have HB := As.mk (Blk.new wr 51 #[.int .i64 6, .int .i64 xc, .int .i64 xr, .int .i64 xo, .int .i64 xn])
        have HNA := As.mk (HN.out.alloc (.cells #[.int .i64 6, .int .i64 xc, .int .i64 xr, .int .i64 xo, .int .i64 xn] 51))
        clear ac ar ao an
        go_upto_region 7 with fail
        generalize wr.alloc (.cells #[.int .i64 6, .int .i64 xc, .int .i64 xr, .int .i64 xo, .int .i64 xn] 51) = WA at *
        generalize wr.heap.size = ob at *
        clear c0 c1 c2 c3 c4 G0 HN
        have b0 := HB.out.cell 0
        have b1 := HB.out.cell 1
        have b2 := HB.out.cell 2
        have b3 := HB.out.cell 3
        have b4 := HB.out.cell 4
        simp only [List.getElem?_toArray, List.getElem?_cons_zero, List.getElem?_cons_succ] at b0 b1 b2 b3 b4
        have d_ : WA.cell? ⟨nb, 6, none⟩ = some (.string ⟨#[110, 101, 101, 100]⟩) := HNA.out.cell 6
        go_wp2_with fail
        refine (has_c 6 2 _ true (by decide)).mono ?_
        rintro e wh2 ⟨rfl, rfl⟩
        go_wp2_with fail
        refine (digits_c xr BN.out.2.1.1 BN.out.2.1.2 _).mono ?_
        rintro e w1_ ⟨rfl, gN⟩
        replace HB := As.mk (HB.out.grown gN (by simp))
        replace HNA := As.mk (HNA.out.grown gN (by simp))
        replace GA := As.mk (gr_then GA.out gN (.inl rfl))
        clear gN b0 b1 b2 b3 b4 d_
        have b0 := HB.out.cell 0
        have b1 := HB.out.cell 1
        have b2 := HB.out.cell 2
        have b3 := HB.out.cell 3
        have b4 := HB.out.cell 4
        simp only [List.getElem?_toArray, List.getElem?_cons_zero, List.getElem?_cons_succ] at b0 b1 b2 b3 b4
        go_wp2_with fail
        refine (has_c 6 3 _ false (by decide)).mono ?_
        rintro e wh3 ⟨rfl, rfl⟩
        go_wp2_with fail
        exact ⟨⟨k + 1, by omega, by go_num, by rw [HT.out]; simp [lineOf, regS, celS, nameK, ByteArray.append_assoc], GA.out, HNA.out⟩, by simp [intOf]; omega⟩
      · have z0 : ¬ 9223372036854775807 < s.size + 5 := by omega
        have z1 : ¬ 9223372036854775807 < s.size + 5 + 1 := by omega
        have GA := As.mk (gr_alloc G0.out (.cells #[.int .i64 7, .int .i64 xc, .int .i64 xr, .int .i64 xo, .int .i64 xn] 51))
        have HB := As.mk (Blk.new wr 51 #[.int .i64 7, .int .i64 xc, .int .i64 xr, .int .i64 xo, .int .i64 xn])
        have HNA := As.mk (HN.out.alloc (.cells #[.int .i64 7, .int .i64 xc, .int .i64 xr, .int .i64 xo, .int .i64 xn] 51))
        clear ac ar ao an
        go_upto_region 7 with fail
        generalize wr.alloc (.cells #[.int .i64 7, .int .i64 xc, .int .i64 xr, .int .i64 xo, .int .i64 xn] 51) = WA at *
        generalize wr.heap.size = ob at *
        clear c0 c1 c2 c3 c4 G0 HN
        have b0 := HB.out.cell 0
        have b1 := HB.out.cell 1
        have b2 := HB.out.cell 2
        have b3 := HB.out.cell 3
        have b4 := HB.out.cell 4
        simp only [List.getElem?_toArray, List.getElem?_cons_zero, List.getElem?_cons_succ] at b0 b1 b2 b3 b4
        have d_ : WA.cell? ⟨nb, 7, none⟩ = some (.string ⟨#[114, 101, 116, 114, 121]⟩) := HNA.out.cell 7
        go_wp2_with fail
        refine (has_c 7 2 _ false (by decide)).mono ?_
        rintro e wh2 ⟨rfl, rfl⟩
        go_wp2_with fail
        refine (has_c 7 3 _ false (by decide)).mono ?_
        rintro e wh3 ⟨rfl, rfl⟩
        go_wp2_with fail
        exact ⟨⟨k + 1, by omega, by go_num, by rw [HT.out]; simp [lineOf, regS, celS, nameK, ByteArray.append_assoc], GA.out, HNA.out⟩, by simp [intOf]; omega⟩
      · have z0 : ¬ 9223372036854775807 < s.size + 5 := by omega
        have z1 : ¬ 9223372036854775807 < s.size + 5 + 1 := by omega
        have GA := As.mk (gr_alloc G0.out (.cells #[.int .i64 8, .int .i64 xc, .int .i64 xr, .int .i64 xo, .int .i64 xn] 51))
        have HB := As.mk (Blk.new wr 51 #[.int .i64 8, .int .i64 xc, .int .i64 xr, .int .i64 xo, .int .i64 xn])
        have HNA := As.mk (HN.out.alloc (.cells #[.int .i64 8, .int .i64 xc, .int .i64 xr, .int .i64 xo, .int .i64 xn] 51))
        clear ac ar ao an
        go_upto_region 7 with fail
        generalize wr.alloc (.cells #[.int .i64 8, .int .i64 xc, .int .i64 xr, .int .i64 xo, .int .i64 xn] 51) = WA at *
        generalize wr.heap.size = ob at *
        clear c0 c1 c2 c3 c4 G0 HN
        have b0 := HB.out.cell 0
        have b1 := HB.out.cell 1
        have b2 := HB.out.cell 2
        have b3 := HB.out.cell 3
        have b4 := HB.out.cell 4
        simp only [List.getElem?_toArray, List.getElem?_cons_zero, List.getElem?_cons_succ] at b0 b1 b2 b3 b4
        have d_ : WA.cell? ⟨nb, 8, none⟩ = some (.string ⟨#[97, 98, 111, 114, 116]⟩) := HNA.out.cell 8
        go_wp2_with fail
        refine (has_c 8 2 _ false (by decide)).mono ?_
        rintro e wh2 ⟨rfl, rfl⟩
        go_wp2_with fail
        refine (has_c 8 3 _ false (by decide)).mono ?_
        rintro e wh3 ⟨rfl, rfl⟩
        go_wp2_with fail
        exact ⟨⟨k + 1, by omega, by go_num, by rw [HT.out]; simp [lineOf, regS, celS, nameK, ByteArray.append_assoc], GA.out, HNA.out⟩, by simp [intOf]; omega⟩
      · have z0 : ¬ 9223372036854775807 < s.size + 4 := by omega
        have z1 : ¬ 9223372036854775807 < s.size + 4 + 2 := by omega
        have z2 : ¬ 9223372036854775807 < s.size + 4 + 2 + (num xc).size := by omega
        have z3 : ¬ 9223372036854775807 < s.size + 4 + 2 + (num xc).size + 1 := by omega
        have GA := As.mk (gr_alloc G0.out (.cells #[.int .i64 9, .int .i64 xc, .int .i64 xr, .int .i64 xo, .int .i64 xn] 51))
        have HB := As.mk (Blk.new wr 51 #[.int .i64 9, .int .i64 xc, .int .i64 xr, .int .i64 xo, .int .i64 xn])
        have HNA := As.mk (HN.out.alloc (.cells #[.int .i64 9, .int .i64 xc, .int .i64 xr, .int .i64 xo, .int .i64 xn] 51))
        clear ac ar ao an
        go_upto_region 7 with fail
        generalize wr.alloc (.cells #[.int .i64 9, .int .i64 xc, .int .i64 xr, .int .i64 xo, .int .i64 xn] 51) = WA at *
        generalize wr.heap.size = ob at *
        clear c0 c1 c2 c3 c4 G0 HN
        have b0 := HB.out.cell 0
        have b1 := HB.out.cell 1
        have b2 := HB.out.cell 2
        have b3 := HB.out.cell 3
        have b4 := HB.out.cell 4
        simp only [List.getElem?_toArray, List.getElem?_cons_zero, List.getElem?_cons_succ] at b0 b1 b2 b3 b4
        have d_ : WA.cell? ⟨nb, 9, none⟩ = some (.string ⟨#[116, 97, 107, 101]⟩) := HNA.out.cell 9
        go_wp2_with fail
        refine (digits_c xc BN.out.1.1 BN.out.1.2 _).mono ?_
        rintro e w1_ ⟨rfl, gN⟩
        replace HB := As.mk (HB.out.grown gN (by simp))
        replace HNA := As.mk (HNA.out.grown gN (by simp))
        replace GA := As.mk (gr_then GA.out gN (.inl rfl))
        clear gN b0 b1 b2 b3 b4 d_
        have b0 := HB.out.cell 0
        have b1 := HB.out.cell 1
        have b2 := HB.out.cell 2
        have b3 := HB.out.cell 3
        have b4 := HB.out.cell 4
        simp only [List.getElem?_toArray, List.getElem?_cons_zero, List.getElem?_cons_succ] at b0 b1 b2 b3 b4
        go_wp2_with fail
        refine (has_c 9 2 _ false (by decide)).mono ?_
        rintro e wh2 ⟨rfl, rfl⟩
        go_wp2_with fail
        refine (has_c 9 3 _ false (by decide)).mono ?_
        rintro e wh3 ⟨rfl, rfl⟩
        go_wp2_with fail
        exact ⟨⟨k + 1, by omega, by go_num, by rw [HT.out]; simp [lineOf, regS, celS, nameK, ByteArray.append_assoc], GA.out, HNA.out⟩, by simp [intOf]; omega⟩
      · have z0 : ¬ 9223372036854775807 < s.size + 6 := by omega
        have z1 : ¬ 9223372036854775807 < s.size + 6 + 1 := by omega
        have GA := As.mk (gr_alloc G0.out (.cells #[.int .i64 10, .int .i64 xc, .int .i64 xr, .int .i64 xo, .int .i64 xn] 51))
        have HB := As.mk (Blk.new wr 51 #[.int .i64 10, .int .i64 xc, .int .i64 xr, .int .i64 xo, .int .i64 xn])
        have HNA := As.mk (HN.out.alloc (.cells #[.int .i64 10, .int .i64 xc, .int .i64 xr, .int .i64 xo, .int .i64 xn] 51))
        clear ac ar ao an
        go_upto_region 7 with fail
        generalize wr.alloc (.cells #[.int .i64 10, .int .i64 xc, .int .i64 xr, .int .i64 xo, .int .i64 xn] 51) = WA at *
        generalize wr.heap.size = ob at *
        clear c0 c1 c2 c3 c4 G0 HN
        have b0 := HB.out.cell 0
        have b1 := HB.out.cell 1
        have b2 := HB.out.cell 2
        have b3 := HB.out.cell 3
        have b4 := HB.out.cell 4
        simp only [List.getElem?_toArray, List.getElem?_cons_zero, List.getElem?_cons_succ] at b0 b1 b2 b3 b4
        have d_ : WA.cell? ⟨nb, 10, none⟩ = some (.string ⟨#[101, 105, 116, 104, 101, 114]⟩) := HNA.out.cell 10
        go_wp2_with fail
        refine (has_c 10 2 _ false (by decide)).mono ?_
        rintro e wh2 ⟨rfl, rfl⟩
        go_wp2_with fail
        refine (has_c 10 3 _ false (by decide)).mono ?_
        rintro e wh3 ⟨rfl, rfl⟩
        go_wp2_with fail
        exact ⟨⟨k + 1, by omega, by go_num, by rw [HT.out]; simp [lineOf, regS, celS, nameK, ByteArray.append_assoc], GA.out, HNA.out⟩, by simp [intOf]; omega⟩
      · have z0 : ¬ 9223372036854775807 < s.size + 2 := by omega
        have z1 : ¬ 9223372036854775807 < s.size + 2 + 1 := by omega
        have GA := As.mk (gr_alloc G0.out (.cells #[.int .i64 11, .int .i64 xc, .int .i64 xr, .int .i64 xo, .int .i64 xn] 51))
        have HB := As.mk (Blk.new wr 51 #[.int .i64 11, .int .i64 xc, .int .i64 xr, .int .i64 xo, .int .i64 xn])
        have HNA := As.mk (HN.out.alloc (.cells #[.int .i64 11, .int .i64 xc, .int .i64 xr, .int .i64 xo, .int .i64 xn] 51))
        clear ac ar ao an
        go_upto_region 7 with fail
        generalize wr.alloc (.cells #[.int .i64 11, .int .i64 xc, .int .i64 xr, .int .i64 xo, .int .i64 xn] 51) = WA at *
        generalize wr.heap.size = ob at *
        clear c0 c1 c2 c3 c4 G0 HN
        have b0 := HB.out.cell 0
        have b1 := HB.out.cell 1
        have b2 := HB.out.cell 2
        have b3 := HB.out.cell 3
        have b4 := HB.out.cell 4
        simp only [List.getElem?_toArray, List.getElem?_cons_zero, List.getElem?_cons_succ] at b0 b1 b2 b3 b4
        have d_ : WA.cell? ⟨nb, 11, none⟩ = some (.string ⟨#[111, 114]⟩) := HNA.out.cell 11
        go_wp2_with fail
        refine (has_c 11 2 _ false (by decide)).mono ?_
        rintro e wh2 ⟨rfl, rfl⟩
        go_wp2_with fail
        refine (has_c 11 3 _ false (by decide)).mono ?_
        rintro e wh3 ⟨rfl, rfl⟩
        go_wp2_with fail
        exact ⟨⟨k + 1, by omega, by go_num, by rw [HT.out]; simp [lineOf, regS, celS, nameK, ByteArray.append_assoc], GA.out, HNA.out⟩, by simp [intOf]; omega⟩
      · have z0 : ¬ 9223372036854775807 < s.size + 3 := by omega
        have z1 : ¬ 9223372036854775807 < s.size + 3 + 1 := by omega
        have GA := As.mk (gr_alloc G0.out (.cells #[.int .i64 12, .int .i64 xc, .int .i64 xr, .int .i64 xo, .int .i64 xn] 51))
        have HB := As.mk (Blk.new wr 51 #[.int .i64 12, .int .i64 xc, .int .i64 xr, .int .i64 xo, .int .i64 xn])
        have HNA := As.mk (HN.out.alloc (.cells #[.int .i64 12, .int .i64 xc, .int .i64 xr, .int .i64 xo, .int .i64 xn] 51))
        clear ac ar ao an
        go_upto_region 7 with fail
        generalize wr.alloc (.cells #[.int .i64 12, .int .i64 xc, .int .i64 xr, .int .i64 xo, .int .i64 xn] 51) = WA at *
        generalize wr.heap.size = ob at *
        clear c0 c1 c2 c3 c4 G0 HN
        have b0 := HB.out.cell 0
        have b1 := HB.out.cell 1
        have b2 := HB.out.cell 2
        have b3 := HB.out.cell 3
        have b4 := HB.out.cell 4
        simp only [List.getElem?_toArray, List.getElem?_cons_zero, List.getElem?_cons_succ] at b0 b1 b2 b3 b4
        have d_ : WA.cell? ⟨nb, 12, none⟩ = some (.string ⟨#[101, 110, 100]⟩) := HNA.out.cell 12
        go_wp2_with fail
        refine (has_c 12 2 _ false (by decide)).mono ?_
        rintro e wh2 ⟨rfl, rfl⟩
        go_wp2_with fail
        refine (has_c 12 3 _ false (by decide)).mono ?_
        rintro e wh3 ⟨rfl, rfl⟩
        go_wp2_with fail
        exact ⟨⟨k + 1, by omega, by go_num, by rw [HT.out]; simp [lineOf, regS, celS, nameK, ByteArray.append_assoc], GA.out, HNA.out⟩, by simp [intOf]; omega⟩
    · obtain rfl : k = l.length := by omega
      rw [List.take_of_length_le (Nat.le_refl _)]
      have HS := As.mk (Eq.refl (linesB l))
      go_wp2_with fail
      go_ret
      exact ⟨rfl, HL.out.1⟩
end Go.Proofs.YtihibljjbdjeoaaDoor
