/- The walk of the law JournalKeeps. -/
import Derived.Test.YtmehohpboliibaaJm
import Derived.Deep.CutBlock
namespace Go.Proofs.Ytmehohpboliibaa
open Go.RowKit
set_option linter.unusedVariables false

theorem total_step5 (l : List DOp) (k : Nat) (h : k < l.length) : total l (k + 1) = total l k + sumN l[k].l l[k].l.length := by rw [total, List.getElem?_eq_getElem h]
theorem total_mono5 (l : List DOp) : ∀ k j, total l k ≤ total l (k + j) := by
  intro k j
  induction j with
  | zero => exact Nat.le_refl _
  | succ j ih => exact Nat.le_trans ih (Nat.le_add_right _ _)
/-- What is behind a step: not over, and right; or over, and broken off. -/
def JStep (over : Bool) (d : DK) (s m : List ByteArray) : Prop := (over = false ∧ JInv d s m) ∨ (over = true ∧ JEnd d s m)
theorem JStep.ends {over : Bool} {d : DK} {s m : List ByteArray} (h : JStep over d s m) : JEnd d s m := by
  rcases h with ⟨_, h⟩ | ⟨_, h⟩
  · exact h.ends
  · exact h
/-- How much there is. -/
def Much (l : List DOp) (k : Nat) (s m : List ByteArray) : Prop := s.length + m.length ≤ 20 * k ∧ (frL (s ++ m)).size ≤ total l k + 120 * k
theorem Much.app {l : List DOp} {k : Nat} {s m : List ByteArray} (h : Much l k s m) (hk : k < l.length) (h20 : l[k].l.length ≤ 20) : Much l (k + 1) s (m ++ l[k].l) := by
  obtain ⟨h1, h2⟩ := h
  have hf := frL_size l[k].l
  have ht := total_step5 l k hk
  refine ⟨by rw [List.length_append]; omega, ?_⟩
  rw [← List.append_assoc, frL_append (s ++ m), ByteArray.size_append]
  omega
theorem Much.move {l : List DOp} {k : Nat} {s m : List ByteArray} (h : Much l k s m) : Much l k (s ++ m) [] :=
  ⟨by have := h.1; rw [List.length_append]; simpa using this, by rw [List.append_nil]; exact h.2⟩
theorem Much.same {l : List DOp} {k : Nat} {s m : List ByteArray} (h : Much l k s m) : Much l (k + 1) s m :=
  ⟨by have := h.1; omega, by have := h.2; have := total_mono5 l k 1; omega⟩
theorem Much.new {l : List DOp} {k : Nat} (hk : k < l.length) (h20 : l[k].l.length ≤ 20) : Much l (k + 1) l[k].l [] := by
  have hf := frL_size l[k].l
  have ht := total_step5 l k hk
  refine ⟨by rw [List.length_nil]; omega, by rw [List.append_nil]; omega⟩
set_option maxRecDepth 100000 in
set_option maxHeartbeats 6400000 in
theorem jk_walk (v : Value) (l : List DOp) (keep : Int) (w : World) (h : Arr DOpE 3 w v l) (hb : ∀ o ∈ l, ∀ s ∈ o.l, s.size ≤ 140737488351232)
    (hw : ∀ o ∈ l, (Lit.int .i64 o.k).wf = true ∧ (Lit.int .i64 o.n).wf = true) :
    Calls Try.prog 11 #[v, .int .i64 keep] w fun e w' => e = .returned (.bool true) ∧ w.grownBy w' none := by
  obtain ⟨A, c, rfl⟩ := h.len
  have H := As.mk h
  have HB := As.mk hb
  have HWF := As.mk hw
  clear h hb hw
  go_enter Try.func11, Try.ntmps11
  go_wp2_with fail
  refine (awake5_walk _).mono ?_
  rintro e w1 ⟨rfl, hg⟩
  have G1 := As.mk hg
  clear hg
  go_wp2_with fail
  have hA : Arr DOpE 3 w1 (.slice A l.length c) l := H.out.below G1.out (fun x cs ⟨u, e, h⟩ => ⟨u, e, h.grown G1.out⟩)
  refine (great5_walk _ l w1 hA HB.out).mono ?_
  clear hA
  rintro e w2 ⟨⟨b, rfl, ht⟩, hg⟩
  have G2 := As.mk (gr_then G1.out hg (.inl rfl))
  clear hg G1
  cases b with
  | true =>
    clear ht
    go_wp2
    go_ret
    exact ⟨rfl, G2.out⟩
  | false =>
    have HT := As.mk (ht rfl)
    clear ht
    go_wp2_with fail
    refine (new_any 262144 _ (by decide)).mono ?_
    rintro e w3 ⟨rfl, hd, hg⟩
    have D3 := As.mk hd
    have G3 := As.mk (gr_then G2.out hg (.inl rfl))
    have HGD := As.mk (show w.heap.size ≤ w2.heap.size from G2.out.size)
    clear hd hg G2
    generalize w2.heap.size = gd at *
    go_wp2_with fail
    refine (jopen_c D3.out rfl (by decide)).mono ?_
    rintro e w4 ⟨gj, v4, rfl, hj, hd, hg, hle, ho⟩
    rw [jopen_new] at hd
    have M4 : As (JM w gj gd false ⟨false, false, 0, ⟨#[]⟩, 0, 262144⟩ (.slice none 0 0) [] (.slice none 0 0) [] w4) := ⟨⟨hj, hd, Two.step (Two.step (Two.refl w gj gd) G3.out (.inl rfl)) hg (.inr (.inr rfl))⟩, by have := G3.out.size; omega, HGD.out, World.ownsRow_nil _ _ _ _, World.ownsRow_nil _ _ _ _, .inl rfl⟩
    clear hj hd hg hle ho D3 G3
    go_upto_block 0 with fail
    go_cut [10, 11, 12, 13] (fun su ma an re wx => ∃ (s m la : List ByteArray) (b : Bool) (d : DK) (over : Bool), re = .bool b ∧ As (JEnd d s m) ∧ As (Strs w an la ∧ la.length ≤ 20) ∧ As (s.length + m.length ≤ 800 ∧ (frL (s ++ m)).size ≤ 13800) ∧ As (JM w gj gd over d su s ma m wx))
    case first =>
      go_wp2_with fail
      go_loopw [10, 11, 12, 13, 39] (fun su ma an re i wx => ∃ (k : Nat) (s m la : List ByteArray) (b : Bool) (d : DK), k ≤ l.length ∧ re = .bool b ∧ i = .int .i64 k ∧ As (JInv d s m) ∧ As (Strs w an la ∧ la.length ≤ 20) ∧ As (Much l k s m) ∧ As (JM w gj gd false d su s ma m wx)) (fun _ _ _ _ i _ => l.length - (intOf i).toNat)
      case atStart => exact ⟨0, [], [], [], false, _, Nat.zero_le _, rfl, rfl, ⟨jd0_inv 262144⟩, ⟨.inl ⟨rfl, _, _, rfl⟩, by decide⟩, ⟨by decide, by show (0 : Nat) ≤ _; exact Nat.zero_le _⟩, M4⟩
      case round =>
        clear M4
        obtain ⟨k, s, m, la, b, d, hk, rfl, rfl, HI, HL, HMU, HM⟩ := hrel
        by_cases hlt : k < l.length
        · have hltI : (k : Int) < (l.length : Int) := by omega
          have hk0 : (0 : Int) ≤ (k : Int) := by omega
          obtain ⟨b9, o9, cs, rfl, ⟨u, rfl, hu⟩, hcs, hcell⟩ := H.out.at_ k l[k] (List.getElem?_eq_getElem hlt)
          have hg := HM.out.gr
          have c0 : wr.cell? ⟨b9, o9 + k * 3, none⟩ = _ := hg.cell (hcell 0 _ rfl) (by simp)
          have c1 : wr.cell? ⟨b9, o9 + k * 3 + 1, none⟩ = _ := hg.cell (hcell 1 _ rfl) (by simp)
          have c2 : wr.cell? ⟨b9, o9 + k * 3 + 2, none⟩ = _ := hg.cell (hcell 2 _ rfl) (by simp)
          have hbw := World.block_lt_of_cell? wr _ c0
          have h20 : l[k].l.length ≤ 20 := HT.out.2.1 l[k] (List.getElem_mem hlt)
          have MA := As.mk (HMU.out.app hlt h20)
          have MN := As.mk (Much.new hlt h20)
          have MS := As.mk HMU.out.same
          have HZX := As.mk (HB.out _ (List.getElem_mem hlt))
          have WF := As.mk (HWF.out _ (List.getElem_mem hlt))
          have TT : total l (k + 1) ≤ 9000 := by
            have h1 := total_mono5 l (k + 1) (l.length - (k + 1))
            rw [Nat.add_sub_cancel' (by omega)] at h1
            have := HT.out.1
            omega
          have TT := As.mk TT
          have HJZ := As.mk (show (frL (s ++ m)).size + (frL l[k].l).size ≤ 1000000 by
            have h1 := MA.out.2
            have h2 := HT.out.2.2
            have h3 := TT.out
            rw [← List.append_assoc, frL_append (s ++ m), ByteArray.size_append] at h1
            omega)
          have BND := As.mk (show s.length + m.length ≤ 1000 ∧ l[k].l.length ≤ 20 from ⟨by have h1 := HMU.out.1; have h2 := HT.out.2.2; omega, h20⟩)
          have HU := As.mk hu
          obtain ⟨A2, c2', rfl⟩ := hu.len
          clear hcell hcs hu hg h20
          dsimp only at hbw
          generalize l[k] = x at *
          obtain ⟨xk, xn, xl⟩ := x
          dsimp only at *
          obtain ⟨A10, c10, rfl⟩ := own_shape HM.out.rs
          obtain ⟨A11, c11, rfl⟩ := own_shape HM.out.rm
          go_upto_block 2 with fail
          go_cut [10, 11, 12, 13] (fun su ma an re w' => ∃ (s' m' la' : List ByteArray) (b' : Bool) (d' : DK) (over : Bool), re = .bool b' ∧ As (JStep over d' s' m') ∧ As (Strs w an la' ∧ la'.length ≤ 20) ∧ As (Much l (k + 1) s' m') ∧ As (JM w gj gd over d' su s' ma m' w'))
          case first =>
            have M0 := As.mk (HM.out.grown (gr_alloc (gr_refl wr none) (.cells #[.int .i64 xk, .int .i64 xn, .slice A2 xl.length c2'] 74)))
            have X0 := As.mk (Blk.new wr 74 #[.int .i64 xk, .int .i64 xn, .slice A2 xl.length c2'])
            clear HM c0 c1 c2 hbw
            generalize wr.alloc (.cells #[.int .i64 xk, .int .i64 xn, .slice A2 xl.length c2'] 74) = wx at *
            generalize wr.heap.size = xo at *
            have x0 : wx.cell? ⟨xo, 0, none⟩ = some (.int .i64 xk) := X0.out.cell 0
            have x1 : wx.cell? ⟨xo, 1, none⟩ = some (.int .i64 xn) := X0.out.cell 1
            have x2 : wx.cell? ⟨xo, 2, none⟩ = some (.slice A2 xl.length c2') := X0.out.cell 2
            by_cases k0 : xk = 0
            · subst k0
              obtain ⟨mm, oo, dd, hv⟩ : ∃ a b c, japp d false xl = (a, b, c) := ⟨_, _, _, rfl⟩
              have SP := japp_spec HI.out false HJZ.out
              rw [hv] at SP
              dsimp only at SP
              have AC := As.mk (japp_c false hv HI.out.fit.1 (JS.mk M0.out.js.j M0.out.js.d (Two.refl _ _ _)) (HU.out.grown M0.out.gr) (by have := BND.out; omega) HZX.out (by have := HJZ.out; omega))
              clear hv
              go_wp2_with fail
              refine AC.out.mono ?_
              rintro e w7 ⟨rfl, hj⟩
              have M1 := As.mk (M0.out.call hj)
              have X1 := As.mk (hj.gr.blk X0.out (Blk.ne X0.out M0.out.js.j (by decide)) (Blk.ne X0.out M0.out.js.d (by decide)))
              have y0 : w7.cell? ⟨xo, 0, none⟩ = some (.int .i64 0) := X1.out.cell 0
              have y2 : w7.cell? ⟨xo, 2, none⟩ = some (.slice A2 xl.length c2') := X1.out.cell 2
              clear hj AC x0 x1 x2
              rcases SP with ⟨rfl, rfl, sp1, sp2⟩ | ⟨rfl, rfl, sp⟩ | ⟨h0, h7, rfl, sp⟩
              · have SPI := As.mk (sp2 trivial)
                clear sp1 sp2
                go_wp2_with (at_builtin; refine wpl_app _ (by rfl) _ _ (by rfl) w.heap.size (.slice A11 m.length c11) m (by rfl) M1.out.rm (.slice A2 xl.length c2') xl (by rfl) (HU.out.grown M1.out.gr) (by have := BND.out; omega) (M1.out.gr.size) ?_; intro ma' w8 ho hg hat; have X8 : Blk w8 xo 74 _ := X1.out.grown hg (own_ne X1.out M1.out.rm (by decide)); have z0 := X8.cell 0; have z2 := X8.cell 2; simp at z0 z2)
                go_meet
                case rel => exact ⟨s, m ++ xl, la, b, dd, false, rfl, ⟨.inl ⟨rfl, SPI.out⟩⟩, HL, MA, ⟨M1.out.app_ma ho hg hat⟩⟩
              · have SPI := As.mk sp
                clear sp
                go_wp2_with (at_builtin; refine wpl_app _ (by rfl) _ _ (by rfl) w.heap.size (.slice A11 m.length c11) m (by rfl) M1.out.rm (.slice A2 xl.length c2') xl (by rfl) (HU.out.grown M1.out.gr) (by have := BND.out; omega) (M1.out.gr.size) ?_; intro ma' w8 ho hg hat; have X8 : Blk w8 xo 74 _ := X1.out.grown hg (own_ne X1.out M1.out.rm (by decide)); have z0 := X8.cell 0; have z2 := X8.cell 2; simp at z0 z2)
                go_meet
                case rel => exact ⟨s, m ++ xl, la, b, dd, true, rfl, ⟨.inr ⟨rfl, SPI.out⟩⟩, HL, MA, ⟨M1.out.app_ma ho hg hat⟩⟩
              · have SPI := As.mk sp
                clear sp
                have q0 : (mm == 0) = false := beq_eq_false_iff_ne.2 h0
                have q7 : (mm == 7) = false := beq_eq_false_iff_ne.2 h7
                go_wp2_with fail
                go_meet
                case rel => exact ⟨s, m, la, b, dd, false, rfl, ⟨.inl ⟨rfl, SPI.out⟩⟩, HL, MS, M1⟩
            · by_cases k1 : xk = 1
              · subst k1
                clear k0
                obtain ⟨mm, oo, dd, hv⟩ : ∃ a b c, japp d true xl = (a, b, c) := ⟨_, _, _, rfl⟩
                have SP := japp_spec HI.out true HJZ.out
                rw [hv] at SP
                dsimp only at SP
                have AC := As.mk (japp_c true hv HI.out.fit.1 (JS.mk M0.out.js.j M0.out.js.d (Two.refl _ _ _)) (HU.out.grown M0.out.gr) (by have := BND.out; omega) HZX.out (by have := HJZ.out; omega))
                clear hv
                go_wp2_with fail
                refine AC.out.mono ?_
                rintro e w7 ⟨rfl, hj⟩
                have M1 := As.mk (M0.out.call hj)
                have X1 := As.mk (hj.gr.blk X0.out (Blk.ne X0.out M0.out.js.j (by decide)) (Blk.ne X0.out M0.out.js.d (by decide)))
                have y0 : w7.cell? ⟨xo, 0, none⟩ = some (.int .i64 1) := X1.out.cell 0
                have y2 : w7.cell? ⟨xo, 2, none⟩ = some (.slice A2 xl.length c2') := X1.out.cell 2
                clear hj AC x0 x1 x2
                rcases SP with ⟨rfl, rfl, sp1, sp2⟩ | ⟨rfl, rfl, sp⟩ | ⟨h0, h7, rfl, sp⟩
                · have SPI := As.mk (sp1 trivial)
                  clear sp1 sp2
                  go_wp2_with (first
                    | (at_builtin; refine wpl_app _ (by rfl) _ _ (by rfl) w.heap.size (.slice A11 m.length c11) m (by rfl) M1.out.rm (.slice A2 xl.length c2') xl (by rfl) (HU.out.grown M1.out.gr) (by have := BND.out; omega) (M1.out.gr.size) ?_; intro ma' w8 ho hg hat; have X8 : Blk w8 xo 74 _ := X1.out.grown hg (own_ne X1.out M1.out.rm (by decide)); have z0 := X8.cell 0; have z2 := X8.cell 2; simp at z0 z2)
                    | (at_builtin; refine wpl_app _ (by rfl) _ _ (by rfl) w.heap.size (.slice A10 s.length c10) s (by rfl) (M1.out.app_ma ho hg hat).rs ma' (m ++ xl) (by rfl) (own_strs (M1.out.app_ma ho hg hat).rm) (by have := BND.out; rw [List.length_append]; omega) ((M1.out.app_ma ho hg hat).gr.size) ?_; intro su' w9 ho9 hg9 hat9))
                  go_meet
                  case rel => exact ⟨s ++ (m ++ xl), [], la, b, dd, false, rfl, ⟨.inl ⟨rfl, SPI.out⟩⟩, HL, ⟨MA.out.move⟩, ⟨(M1.out.app_ma ho hg hat).app_su ho9 hg9⟩⟩
                · have SPI := As.mk sp
                  clear sp
                  go_wp2_with (at_builtin; refine wpl_app _ (by rfl) _ _ (by rfl) w.heap.size (.slice A11 m.length c11) m (by rfl) M1.out.rm (.slice A2 xl.length c2') xl (by rfl) (HU.out.grown M1.out.gr) (by have := BND.out; omega) (M1.out.gr.size) ?_; intro ma' w8 ho hg hat; have X8 : Blk w8 xo 74 _ := X1.out.grown hg (own_ne X1.out M1.out.rm (by decide)); have z0 := X8.cell 0; have z2 := X8.cell 2; simp at z0 z2)
                  go_meet
                  case rel => exact ⟨s, m ++ xl, la, b, dd, true, rfl, ⟨.inr ⟨rfl, SPI.out⟩⟩, HL, MA, ⟨M1.out.app_ma ho hg hat⟩⟩
                · have SPI := As.mk sp
                  clear sp
                  have q0 : (mm == 0) = false := beq_eq_false_iff_ne.2 h0
                  have q7 : (mm == 7) = false := beq_eq_false_iff_ne.2 h7
                  go_wp2_with fail
                  go_meet
                  case rel => exact ⟨s, m, la, b, dd, false, rfl, ⟨.inl ⟨rfl, SPI.out⟩⟩, HL, MS, M1⟩
              · by_cases k2 : xk = 2
                · subst k2
                  clear k0 k1
                  obtain ⟨mm, oo, dd, hv⟩ : ∃ a b c, jrenew d xl = (a, b, c) := ⟨_, _, _, rfl⟩
                  have SP := jrenew_spec HI.out HJZ.out
                  rw [hv] at SP
                  dsimp only at SP
                  have AC := As.mk (jrenew_c hv HI.out.fit (JS.mk M0.out.js.j M0.out.js.d (Two.refl _ _ _)) (HU.out.grown M0.out.gr) (by have := BND.out; omega) HZX.out (by have := HJZ.out; omega) (by rw [HI.out.b]; have := HJZ.out; omega))
                  clear hv
                  go_wp2_with fail
                  refine AC.out.mono ?_
                  rintro e w7 ⟨rfl, hj⟩
                  have M1 := As.mk (M0.out.call hj)
                  have X1 := As.mk (hj.gr.blk X0.out (Blk.ne X0.out M0.out.js.j (by decide)) (Blk.ne X0.out M0.out.js.d (by decide)))
                  have y0 : w7.cell? ⟨xo, 0, none⟩ = some (.int .i64 2) := X1.out.cell 0
                  have y2 : w7.cell? ⟨xo, 2, none⟩ = some (.slice A2 xl.length c2') := X1.out.cell 2
                  have xlt := X1.out.lt
                  clear hj AC x0 x1 x2
                  rcases SP with ⟨rfl, rfl, sp⟩ | ⟨rfl, rfl, sp⟩ | ⟨h0, h7, rfl, sp⟩
                  · have SPI := As.mk sp
                    clear sp
                    go_wp2_with (at_builtin; refine wpl_app _ (by rfl) _ _ (by rfl) w.heap.size (.slice (some ⟨w7.heap.size, 0, none⟩) 0 0) [] (by rfl) (World.ownsRow_lit w7 #[] 0 M1.out.gr.size (by decide) (by simp)) (.slice A2 xl.length c2') xl (by rfl) (HU.out.grown (gr_alloc M1.out.gr _)) (by have := BND.out; simp; omega) (by have := M1.out.gr.size; simp; omega) ?_; intro su' w8 ho hg hat)
                    rw [List.nil_append] at ho
                    go_meet
                    case rel => exact ⟨xl, [], la, b, dd, false, rfl, ⟨.inl ⟨rfl, SPI.out⟩⟩, HL, MN, ⟨M1.out.anew (row := none) ho (gr_then (gr_alloc (gr_refl _ _) _) hg (.inr (.inr fun k e => by simp [Value.ownBlock] at e; omega))) (fun k e => by cases e)⟩⟩
                  · have SPI := As.mk sp
                    clear sp
                    go_wp2_with (at_builtin; refine wpl_app _ (by rfl) _ _ (by rfl) w.heap.size (.slice A11 m.length c11) m (by rfl) M1.out.rm (.slice A2 xl.length c2') xl (by rfl) (HU.out.grown M1.out.gr) (by have := BND.out; omega) (M1.out.gr.size) ?_; intro ma' w8 ho hg hat; have X8 : Blk w8 xo 74 _ := X1.out.grown hg (own_ne X1.out M1.out.rm (by decide)); have z0 := X8.cell 0; have z2 := X8.cell 2; simp at z0 z2)
                    go_meet
                    case rel => exact ⟨s, m ++ xl, xl, true, dd, true, rfl, ⟨.inr ⟨rfl, SPI.out⟩⟩, ⟨HU.out, BND.out.2⟩, MA, ⟨M1.out.app_ma ho hg hat⟩⟩
                  · have SPI := As.mk sp
                    clear sp
                    have q0 : (mm == 0) = false := beq_eq_false_iff_ne.2 h0
                    have q7 : (mm == 7) = false := beq_eq_false_iff_ne.2 h7
                    go_wp2_with fail
                    go_meet
                    case rel => exact ⟨s, m, la, b, dd, false, rfl, ⟨.inl ⟨rfl, SPI.out⟩⟩, HL, MS, M1⟩
                · by_cases k3 : xk = 3
                  · subst k3
                    clear k0 k1 k2
                    have hn : xn ≤ 9223372036854775807 := by
                      have h9 := WF.out.2
                      have h8 : -9223372036854775808 ≤ xn ∧ xn ≤ 9223372036854775807 := by simpa [Lit.wf, IntKind.min, IntKind.max, IntKind.signed, IntKind.bits] using h9
                      exact h8.2
                    have SPI := As.mk (HI.out.set xn hn)
                    clear hn
                    go_wp2_with fail
                    refine (fuse_c xn WF.out.2 M0.out.js.d).mono ?_
                    rintro e w7 ⟨rfl, hd, hg⟩
                    have M1 := As.mk (M0.out.disk hd hg)
                    clear hd hg x0 x1 x2
                    go_wp2_with fail
                    go_meet
                    case rel => exact ⟨s, m, la, b, d.set xn, false, rfl, ⟨.inl ⟨rfl, SPI.out⟩⟩, HL, MS, M1⟩
                  · clear x1 x2
                    go_wp2_with fail
                    go_meet
                    case rel => exact ⟨s, m, la, b, d, false, rfl, ⟨.inl ⟨rfl, HI.out⟩⟩, HL, MS, M0⟩
          case rest =>
            clear HM c0 c1 c2 hbw MA MN MS HJZ BND
            obtain ⟨s', m', la', b', d', over, rfl, HS2, HL2, HMU2, HM2⟩ := hcut
            have ZB := As.mk (show s'.length + m'.length ≤ 800 ∧ (frL (s' ++ m')).size ≤ 13800 from by
              have h1 := HMU2.out.1
              have h2 := HMU2.out.2
              have h3 := HT.out.2.2
              have h4 := TT.out
              omega)
            go_wp2_with fail
            refine (over_c HM2.out.js.j).mono ?_
            rintro e w8 ⟨rfl, hw8⟩
            rw [← hw8] at HM2
            clear hw8
            cases over with
            | true =>
              go_wp2_with fail
              go_meet
              case rel => exact ⟨s', m', la', b', d', true, rfl, ⟨HS2.out.ends⟩, HL2, ZB, HM2⟩
            | false =>
              have HI2 : As (JInv d' s' m') := ⟨by
                rcases HS2.out with ⟨_, q⟩ | ⟨q, _⟩
                · exact q
                · cases q⟩
              have wk : IntKind.i64.wrap ((k : Int) + 1) = (k : Int) + 1 := by
                have h3 := HT.out.2.2
                rw [IntKind.wrap_i64]; omega
              go_wp2_with fail
              go_roundw
              case measure => simp [intOf]; omega
              case rel => exact ⟨k + 1, s', m', la', b', d', by omega, rfl, by go_num, HI2, HL2, HMU2, HM2⟩
        · obtain rfl : k = l.length := by omega
          go_wp2_with fail
          go_meet
          case rel => exact ⟨s, m, la, b, d, false, rfl, ⟨HI.out.ends⟩, HL, ⟨by have h1 := HMU.out; have h2 := HT.out; unfold Much at h1; omega⟩, HM⟩
    case rest =>
      clear M4
      obtain ⟨s, m, la, b, d, over, rfl, HE, HL, HZ, HM⟩ := hcut
      obtain ⟨⟨j, hj, el⟩, hdn, hz⟩ := HE.out.crash keep
      have CR := As.mk (And.intro hj (And.intro el (And.intro hdn hz)))
      clear hj el hdn hz
      go_wp2_with fail
      refine (crash_c keep HE.out.fit.1 HM.out.js.d).mono ?_
      rintro e w5 ⟨rfl, hd, hg⟩
      have M5 := As.mk (HM.out.disk hd hg)
      clear hd hg HM
      go_wp2_with fail
      refine (jopen_c M5.out.js.d CR.out.2.2.1 (by have := CR.out.2.2.2; have := HZ.out; omega)).mono ?_
      rintro e w6 ⟨gj2, v6, rfl, hj2, hd2, hg2, hle, ho⟩
      rw [CR.out.2.1] at ho
      have M6 := As.mk (M5.out.disk hd2 hg2)
      have SV := As.mk (own_strs ho)
      obtain ⟨A6, c6, rfl⟩ := own_shape ho
      have LJ : ∃ l6, l6 = s ++ m.take j := ⟨_, rfl⟩
      obtain ⟨l6, hl6⟩ := LJ
      rw [← hl6] at SV ⊢
      have L6 := As.mk hl6
      have LS := As.mk (show l6.length = s.length + min j m.length by rw [hl6, List.length_append, List.length_take])
      have M6' : As (JM w gj gd over (jopen (d.crash keep)) u10 s u11 m w6) := M6
      obtain ⟨A10, c10, rfl⟩ := own_shape M6'.out.rs
      obtain ⟨A11, c11, rfl⟩ := own_shape M6'.out.rm
      obtain ⟨A12, c12, rfl⟩ := HL.out.1.len
      have hge : ((s.length : Nat) : Int) ≤ ((l6.length : Nat) : Int) := by rw [LS.out]; omega
      clear hj2 hd2 hg2 hle ho M5 hl6 M6
      cases b with
      | false =>
        go_wp2_with fail
        refine (begins_c _ _ s l6 _ (own_strs M6'.out.rs) SV.out (by have := HZ.out; have := LS.out; omega)).mono ?_
        rintro e w8 ⟨rfl, nd8, hw8⟩
        have M8 : As (JM w gj gd over (jopen (d.crash keep)) (.slice A10 s.length c10) s (.slice A11 m.length c11) m w8) := ⟨by rw [hw8]; exact M6'.out.grown (gr_drewN (gr_refl _ _) nd8)⟩
        have S8 : As (Strs w8 (.slice A6 l6.length c6) l6) := ⟨by rw [hw8]; exact SV.out.grown (gr_drewN (gr_refl _ _) nd8)⟩
        clear hw8 M6' SV
        have hsz8 : w.heap.size ≤ w8.heap.size := M8.out.gr.size
        have D1 := As.mk (show decide (s = l6.take s.length) = true from decide_eq_true (by rw [L6.out, List.take_left]))
        have D2 := As.mk (show decide (l6 = (s ++ m).take l6.length) = true from decide_eq_true (by
          rw [LS.out, L6.out, List.take_length_add_append]
          congr 1
          by_cases q : j ≤ m.length
          · rw [Nat.min_eq_left q]
          · rw [Nat.min_eq_right (by omega), List.take_of_length_le (by omega), List.take_length]))
        rw [D1.out]
        have HS8 := As.mk hsz8
        clear hsz8
        go_wp2_with (first
          | (at_builtin; refine wpl_appg _ (by rfl) _ _ (by rfl) w.heap.size (.slice (some ⟨w8.heap.size, 0, none⟩) 0 0) [] (by rfl) (World.ownsRow_lit w8 #[] 0 HS8.out (by decide) (by simp)) (.slice A10 s.length c10) s (by rfl) (own_strs (M8.out.rs.alloc _)) (by have := HZ.out; simp; omega) (by have := HS8.out; simp; omega) ?_; intro v1 wa ho1 hg1 hat1)
          | (at_builtin; refine wpl_appg _ (by rfl) _ _ (by rfl) w.heap.size v1 ([] ++ s) (by rfl) ho1 (.slice A11 m.length c11) m (by rfl) (own_strs (M8.out.grown (gr_then (gr_alloc (gr_refl _ _) _) hg1 (.inr (.inr fun k e => by simp [Value.ownBlock] at e; omega)))).rm) (by have := HZ.out; simp; omega) ((M8.out.grown (gr_then (gr_alloc (gr_refl _ _) _) hg1 (.inr (.inr fun k e => by simp [Value.ownBlock] at e; omega)))).gr.size) ?_; intro v2 wb ho2 hg2 hat2))
        have g1 : w8.grownBy wa none := gr_then (gr_alloc (gr_refl _ _) _) hg1 (.inr (.inr fun k e => by simp [Value.ownBlock] at e; omega))
        have hv1 : ∀ k, v1.ownBlock = some k → w8.heap.size ≤ k := fun k e => by
          rcases hat1 with q | q
          · rw [q] at e; simp [Value.ownBlock] at e; omega
          · rw [q] at e; injection e with e; simp at e; omega
        have g2 : w8.grownBy wb none := gr_then g1 hg2 (.inr (.inr fun k e => hv1 k e))
        have GB := As.mk (gr_then M8.out.gr g2 (.inl rfl))
        rw [List.nil_append] at ho2
        have SB := As.mk (own_strs ho2)
        have S9 := As.mk (S8.out.grown g2)
        clear ho1 hg1 hat1 g1 ho2 hg2 hat2 hv1 g2 M8 S8
        refine (begins_c _ _ l6 (s ++ m) _ S9.out SB.out (by have := HZ.out; have := LS.out; rw [List.length_append]; omega)).mono ?_
        rintro e w9 ⟨rfl, nd9, hw9⟩
        have G9 : As (w.grownBy w9 none) := ⟨by rw [hw9]; exact gr_drewN GB.out nd9⟩
        rw [D2.out]
        clear hw9
        go_wp2
        go_ret
        exact ⟨rfl, G9.out⟩
      | true =>
        go_wp2_with fail
        refine (same_c _ _ l6 la _ SV.out (HL.out.1.grown M6'.out.gr) (by have := HZ.out; have := LS.out; have := HL.out.2; omega)).mono ?_
        rintro e w7 ⟨rfl, nd7, hw7⟩
        have M7 : As (JM w gj gd over (jopen (d.crash keep)) (.slice A10 s.length c10) s (.slice A11 m.length c11) m w7) := ⟨by rw [hw7]; exact M6'.out.grown (gr_drewN (gr_refl _ _) nd7)⟩
        have S7 : As (Strs w7 (.slice A6 l6.length c6) l6) := ⟨by rw [hw7]; exact SV.out.grown (gr_drewN (gr_refl _ _) nd7)⟩
        clear hw7 M6' SV
        by_cases hsame : l6 = la
        · rw [decide_eq_true hsame]
          have GG := As.mk M7.out.gr
          clear hsame hge
          go_wp2
          go_ret
          exact ⟨rfl, GG.out⟩
        · rw [decide_eq_false hsame]
          clear hsame
          go_wp2_with fail
          refine (begins_c _ _ s l6 _ (own_strs M7.out.rs) S7.out (by have := HZ.out; have := LS.out; omega)).mono ?_
          rintro e w8 ⟨rfl, nd8, hw8⟩
          have M8 : As (JM w gj gd over (jopen (d.crash keep)) (.slice A10 s.length c10) s (.slice A11 m.length c11) m w8) := ⟨by rw [hw8]; exact M7.out.grown (gr_drewN (gr_refl _ _) nd8)⟩
          have S8 : As (Strs w8 (.slice A6 l6.length c6) l6) := ⟨by rw [hw8]; exact S7.out.grown (gr_drewN (gr_refl _ _) nd8)⟩
          clear hw8 M7 S7
          have hsz8 : w.heap.size ≤ w8.heap.size := M8.out.gr.size
          have D1 := As.mk (show decide (s = l6.take s.length) = true from decide_eq_true (by rw [L6.out, List.take_left]))
          have D2 := As.mk (show decide (l6 = (s ++ m).take l6.length) = true from decide_eq_true (by
            rw [LS.out, L6.out, List.take_length_add_append]
            congr 1
            by_cases q : j ≤ m.length
            · rw [Nat.min_eq_left q]
            · rw [Nat.min_eq_right (by omega), List.take_of_length_le (by omega), List.take_length]))
          rw [D1.out]
          have HS8 := As.mk hsz8
          clear hsz8
          go_wp2_with (first
            | (at_builtin; refine wpl_appg _ (by rfl) _ _ (by rfl) w.heap.size (.slice (some ⟨w8.heap.size, 0, none⟩) 0 0) [] (by rfl) (World.ownsRow_lit w8 #[] 0 HS8.out (by decide) (by simp)) (.slice A10 s.length c10) s (by rfl) (own_strs (M8.out.rs.alloc _)) (by have := HZ.out; simp; omega) (by have := HS8.out; simp; omega) ?_; intro v1 wa ho1 hg1 hat1)
            | (at_builtin; refine wpl_appg _ (by rfl) _ _ (by rfl) w.heap.size v1 ([] ++ s) (by rfl) ho1 (.slice A11 m.length c11) m (by rfl) (own_strs (M8.out.grown (gr_then (gr_alloc (gr_refl _ _) _) hg1 (.inr (.inr fun k e => by simp [Value.ownBlock] at e; omega)))).rm) (by have := HZ.out; simp; omega) ((M8.out.grown (gr_then (gr_alloc (gr_refl _ _) _) hg1 (.inr (.inr fun k e => by simp [Value.ownBlock] at e; omega)))).gr.size) ?_; intro v2 wb ho2 hg2 hat2))
          have g1 : w8.grownBy wa none := gr_then (gr_alloc (gr_refl _ _) _) hg1 (.inr (.inr fun k e => by simp [Value.ownBlock] at e; omega))
          have hv1 : ∀ k, v1.ownBlock = some k → w8.heap.size ≤ k := fun k e => by
            rcases hat1 with q | q
            · rw [q] at e; simp [Value.ownBlock] at e; omega
            · rw [q] at e; injection e with e; simp at e; omega
          have g2 : w8.grownBy wb none := gr_then g1 hg2 (.inr (.inr fun k e => hv1 k e))
          have GB := As.mk (gr_then M8.out.gr g2 (.inl rfl))
          rw [List.nil_append] at ho2
          have SB := As.mk (own_strs ho2)
          have S9 := As.mk (S8.out.grown g2)
          clear ho1 hg1 hat1 g1 ho2 hg2 hat2 hv1 g2 M8 S8
          refine (begins_c _ _ l6 (s ++ m) _ S9.out SB.out (by have := HZ.out; have := LS.out; rw [List.length_append]; omega)).mono ?_
          rintro e w9 ⟨rfl, nd9, hw9⟩
          have G9 : As (w.grownBy w9 none) := ⟨by rw [hw9]; exact gr_drewN GB.out nd9⟩
          rw [D2.out]
          clear hw9
          go_wp2
          go_ret
          exact ⟨rfl, G9.out⟩
end Go.Proofs.Ytmehohpboliibaa
