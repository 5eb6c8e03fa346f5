/- The walk of the law DiskPlays. -/
import Derived.Test.YtmehohpboliibaaDpSim
import Derived.Test.YtmehohpboliibaaDaLaw
import Derived.Deep.CutBlock
namespace Go.Proofs.Ytmehohpboliibaa
open Go.RowKit
set_option linter.unusedVariables false

structure Dp (w : World) (g g2 : Nat) (d : DK) (r : RK) (wr : World) : Prop where
  at_ : DkAt wr g d
  rat : RkAt wr g2 r
  gr : w.grownBy wr none
  hg : w.heap.size ≤ g
  hg2 : w.heap.size ≤ g2
theorem Dp.ne {w : World} {g g2 : Nat} {d : DK} {r : RK} {wr : World} (h : Dp w g g2 d r wr) : g ≠ g2 := Blk.ne h.at_ h.rat (by decide)
theorem Dp.stepd {w : World} {g g2 : Nat} {d d' : DK} {r : RK} {w1 w2 : World} (h : Dp w g g2 d r w1) (hd : DkAt w2 g d') (hg : w1.grownBy w2 (some g)) : Dp w g g2 d' r w2 :=
  ⟨hd, h.rat.grown hg (fun e => h.ne (by injection e with e; exact e.symm)), gr_then h.gr hg (.inr (.inr fun k e => by injection e with e; have := h.hg; omega)), h.hg, h.hg2⟩
theorem Dp.stepr {w : World} {g g2 : Nat} {d : DK} {r r' : RK} {w1 w2 : World} (h : Dp w g g2 d r w1) (hd : RkAt w2 g2 r') (hg : w1.grownBy w2 (some g2)) : Dp w g g2 d r' w2 :=
  ⟨h.at_.grown hg (fun e => h.ne (by injection e)), hd, gr_then h.gr hg (.inr (.inr fun k e => by injection e with e; have := h.hg2; omega)), h.hg, h.hg2⟩
theorem Dp.grown {w : World} {g g2 : Nat} {d : DK} {r : RK} {w1 w2 : World} (h : Dp w g g2 d r w1) (hg : w1.grownBy w2 none) : Dp w g g2 d r w2 :=
  ⟨h.at_.grown hg (by simp), h.rat.grown hg (by simp), gr_then h.gr hg (.inl rfl), h.hg, h.hg2⟩
/-- With one call's own block. -/
structure Dpx (w : World) (g g2 xo : Nat) (x : DOp) (u : Value) (d : DK) (r : RK) (wr : World) : Prop where
  dp : Dp w g g2 d r wr
  x : Blk wr xo 42 #[.int .i64 x.k, .int .i64 x.n, u]
  n1 : xo ≠ g
  n2 : xo ≠ g2
theorem Dpx.stepd {w : World} {g g2 xo : Nat} {x : DOp} {u : Value} {d d' : DK} {r : RK} {w1 w2 : World} (h : Dpx w g g2 xo x u d r w1) (hd : DkAt w2 g d') (hg : w1.grownBy w2 (some g)) : Dpx w g g2 xo x u d' r w2 :=
  ⟨h.dp.stepd hd hg, h.x.grown hg (fun e => h.n1 (by injection e)), h.n1, h.n2⟩
theorem Dpx.stepr {w : World} {g g2 xo : Nat} {x : DOp} {u : Value} {d : DK} {r r' : RK} {w1 w2 : World} (h : Dpx w g g2 xo x u d r w1) (hd : RkAt w2 g2 r') (hg : w1.grownBy w2 (some g2)) : Dpx w g g2 xo x u d r' w2 :=
  ⟨h.dp.stepr hd hg, h.x.grown hg (fun e => h.n2 (by injection e)), h.n1, h.n2⟩
theorem Dpx.drewN {w : World} {g g2 xo : Nat} {x : DOp} {u : Value} {d : DK} {r : RK} {w1 : World} (h : Dpx w g g2 xo x u d r w1) (n : Nat) : Dpx w g g2 xo x u d r (w1.drewN n) :=
  ⟨⟨h.dp.at_.drewN n, h.dp.rat.drewN n, gr_drewN h.dp.gr n, h.dp.hg, h.dp.hg2⟩, h.x.drewN n, h.n1, h.n2⟩
theorem gr_ofdrew {w w' : World} {row : Option Nat} (h : w.drew.grownBy w' row) : w.grownBy w' row := ⟨h.os, h.tape, h.output, h.size, h.block⟩
theorem total_step (l : List DOp) (k : Nat) (h : k < l.length) : total l (k + 1) = total l k + sumN l[k].l l[k].l.length := by rw [total, List.getElem?_eq_getElem h]
theorem total_mono (l : List DOp) : ∀ k j, total l k ≤ total l (k + j) := by
  intro k j
  induction j with
  | zero => exact Nat.le_refl _
  | succ j ih => exact Nat.le_trans ih (Nat.le_add_right _ _)

set_option maxRecDepth 100000 in
set_option maxHeartbeats 3200000 in
theorem dp_walk (n : Int) (v : Value) (l : List DOp) (w : World) (hn : (Lit.int .i64 n).wf = true) (h : Arr DOpE 3 w v l) (hb : ∀ o ∈ l, ∀ s ∈ o.l, s.size ≤ 140737488351232)
    (hw : ∀ o ∈ l, (Lit.int .i64 o.k).wf = true ∧ (Lit.int .i64 o.n).wf = true) :
    Calls Try.prog 9 #[.int .i64 n, v] w fun e w' => e = .returned (.bool true) ∧ w.grownBy w' none := by
  obtain ⟨A, c, rfl⟩ := h.len
  have H := As.mk h
  have HB := As.mk hb
  have HWF := As.mk hw
  clear h hb hw
  by_cases hr : 0 ≤ n ∧ n ≤ 1048576
  · have HR := As.mk hr
    clear hr
    go_enter Try.func9, Try.ntmps9
    go_wp2_with fail
    refine (awake_walk _).mono ?_
    rintro e w1 ⟨rfl, g1⟩
    have G1 := As.mk g1
    clear g1
    go_wp2_with fail
    refine (new_any n _ HR.out).mono ?_
    rintro e w2 ⟨rfl, hd, hg⟩
    have hge : w.heap.size ≤ w1.heap.size := G1.out.size
    have HGE := As.mk hge
    have D2 := As.mk hd
    have G2 := As.mk (gr_then G1.out hg (.inl rfl))
    clear hge hd hg G1
    generalize w1.heap.size = g at *
    go_wp2_with fail
    refine (rnew_any n _ HR.out).mono ?_
    rintro e w3 ⟨rfl, hd, hg⟩
    have M := As.mk (Dp.mk (D2.out.grown hg (by simp)) hd (gr_then G2.out hg (.inl rfl)) HGE.out G2.out.size)
    clear hd hg D2 G2 HGE
    generalize w2.heap.size = g2 at *
    go_wp2_with fail
    have hA : Arr DOpE 3 w3 (.slice A l.length c) l := H.out.below M.out.gr (fun x cs ⟨u, e, h⟩ => ⟨u, e, h.grown M.out.gr⟩)
    refine (great_walk _ l w3 hA HB.out).mono ?_
    clear hA
    rintro e w4 ⟨⟨b, rfl, ht⟩, hg⟩
    have M4 := As.mk (M.out.grown hg)
    clear hg M
    cases b with
    | true =>
      clear ht
      go_wp2
      go_ret
      exact ⟨rfl, M4.out.gr⟩
    | false =>
      have HT := As.mk (ht rfl)
      clear ht
      have hl := H.out.le
      go_wp2_with fail
      go_loopw [39] (fun i wr => ∃ (k : Nat) (d : DK) (r : RK), k ≤ l.length ∧ i = .int .i64 k ∧ As (Sim d r (total l k)) ∧ As (d.size = n) ∧ As (Dp w g g2 d r wr)) (fun i _ => l.length - (intOf i).toNat)
      case atStart => exact ⟨0, _, _, Nat.zero_le _, rfl, ⟨Sim.new n HR.out⟩, ⟨rfl⟩, M4⟩
      case round =>
        obtain ⟨k, d, r, hk, rfl, HS, HZ, HG⟩ := hrel
        by_cases hlt : k < l.length
        · have hltI : (k : Int) < (l.length : Int) := by omega
          have hk0 : (0 : Int) ≤ (k : Int) := by omega
          obtain ⟨b, o, cs, rfl, ⟨u, rfl, hu⟩, hcs, hcell⟩ := H.out.at_ k l[k] (List.getElem?_eq_getElem hlt)
          have hg := HG.out.gr
          have c0 : wr.cell? ⟨b, o + k * 3, none⟩ = _ := hg.cell (hcell 0 _ rfl) (by simp)
          have c1 : wr.cell? ⟨b, o + k * 3 + 1, none⟩ = _ := hg.cell (hcell 1 _ rfl) (by simp)
          have c2 : wr.cell? ⟨b, o + k * 3 + 2, none⟩ = _ := hg.cell (hcell 2 _ rfl) (by simp)
          have hbw := World.block_lt_of_cell? wr _ c0
          have HM := As.mk (List.getElem_mem hlt : l[k] ∈ l)
          have ET := As.mk (total_step l k hlt)
          have HU := As.mk hu
          obtain ⟨A2, c2', rfl⟩ := hu.len
          have HTT : total l (k + 1) ≤ 3000 := by
            have h1 := total_mono l (k + 1) (l.length - (k + 1))
            rw [Nat.add_sub_cancel' (by omega)] at h1
            have := HT.out.1
            omega
          have HTT := As.mk HTT
          clear hcell hcs hu hg
          dsimp only at hbw
          generalize l[k] = x at *
          obtain ⟨xk, xn, xl⟩ := x
          dsimp only at *
          go_upto_block 2 with fail
          go_cut [10, 11] (fun got want w' => ∃ (d' : DK) (r' : RK) (m : Int), got = .int .i64 m ∧ want = .int .i64 m ∧ As (Sim d' r' (total l (k + 1))) ∧ As (d'.size = n) ∧ As (Dpx w g g2 wr.heap.size ⟨xk, xn, xl⟩ (.slice A2 xl.length c2') d' r' w'))
          case first =>
            have M0 : As (Dpx w g g2 wr.heap.size ⟨xk, xn, xl⟩ (.slice A2 xl.length c2') d r (wr.alloc (.cells #[.int .i64 xk, .int .i64 xn, .slice A2 xl.length c2'] 42))) := As.mk (Dpx.mk (HG.out.grown (gr_alloc (gr_refl wr none) (.cells #[.int .i64 xk, .int .i64 xn, .slice A2 xl.length c2'] 42))) (Blk.new wr 42 #[.int .i64 xk, .int .i64 xn, .slice A2 xl.length c2']) (by have := HG.out.at_.lt; omega) (by have := HG.out.rat.lt; omega))
            clear HG c0 c1 c2 hbw
            generalize wr.alloc (.cells #[.int .i64 xk, .int .i64 xn, .slice A2 xl.length c2'] 42) = wx at *
            generalize wr.heap.size = xo at *
            have x0 : wx.cell? ⟨xo, 0, none⟩ = some (.int .i64 xk) := M0.out.x.cell 0
            have x1 : wx.cell? ⟨xo, 1, none⟩ = some (.int .i64 xn) := M0.out.x.cell 1
            have x2 : wx.cell? ⟨xo, 2, none⟩ = some (.slice A2 xl.length c2') := M0.out.x.cell 2
            have hB : total l k ≤ total l (k + 1) := by have := ET.out; omega
            have hB9 : total l k ≤ 140737488351232 := by have := HTT.out; omega
            have hxn : -9223372036854775808 ≤ xn ∧ xn ≤ 9223372036854775807 := by
              have h9 := (HWF.out _ HM.out).2
              simpa [Lit.wf, IntKind.min, IntKind.max, IntKind.signed, IntKind.bits] using h9
            have B := As.mk (And.intro hB (And.intro hB9 hxn))
            have NW := As.mk (HWF.out _ HM.out).2
            clear hB hB9 hxn
            by_cases k0 : xk = 0
            · subst k0
              have hs1 : (joinC xl).size = sumN xl xl.length := joinC_size xl
              have hs2 : (joinC xl).size ≤ 3000 := by have := HTT.out; have := ET.out; omega
              have hs3 : xl.length ≤ 20 := HT.out.2 _ HM.out
              have S2 := HS.out.append (by have := HTT.out; have := B.out.1; omega) (joinC xl) (by omega)
              have hs4 : total l k + (joinC xl).size = total l (k + 1) := by rw [ET.out, hs1]
              rw [hs4] at S2
              have hz : (d.append (joinC xl)).2.size = n := by
                rw [← HZ.out]
                have h9 := S2.1.size
                have h8 := HS.out.size
                have h7 : (r.append (joinC xl)).2.size = r.size := by
                  unfold RK.append RK.run
                  split
                  · rfl
                  · split
                    · rfl
                    · split
                      · rfl
                      · split <;> rfl
                exact h9.symm.trans (h7.trans h8)
              have SS := As.mk (And.intro S2 hz)
              have HJ := As.mk (And.intro hs2 hs3)
              have hj := joinC_eq xl
              have J := As.mk hj
              clear hs1 hs2 hs3 hs4 S2 hz hj
              go_wp2_with fail
              go_region_held3 (fun w' => w'.cell? ⟨xo, 2, none⟩ = some (.slice A2 xl.length c2'))
                (first | exact M0.out.x.cell 2 | go_keep)
                (first
                  | (go_at_call 21; refine (append_c (xs := xl) (HS.out.dok B.out.2.1) ?hx (by have := HJ.out.2; omega) (by have := HJ.out.1; omega) ?hr).mono ?_
                     case hx => (first | exact HU.out.grown M0.out.dp.gr | exact HU.out.grown (gr_drew M0.out.dp.gr))
                     case hr => exact M0.out.dp.at_
                     rintro e w7 ⟨rfl, hd, hg⟩
                     have M1 : As (Dpx w g g2 xo ⟨0, xn, xl⟩ (.slice A2 xl.length c2') _ _ w7) := ⟨by first | exact M0.out.stepd hd hg | exact M0.out.stepd hd (gr_ofdrew hg)⟩; clear hd hg M0; have M0 := M1; clear M1)
                  | (go_at_call 14; refine (joined_walk _ xl _ ?hx (by have := HJ.out.2; omega) (fun k => by
                       rw [joinN_size]
                       have h1 := sumN_mono xl k
                       have h2 := joinC_size xl
                       have := HJ.out.1
                       omega)).mono ?_
                     case hx => (first | exact HU.out.grown M0.out.dp.gr | exact HU.out.grown (gr_drew M0.out.dp.gr))
                     rw [← J.out]
                     rintro e w8 ⟨rfl, nd, hw⟩
                     have M1 : As (Dpx w g g2 xo ⟨0, xn, xl⟩ (.slice A2 xl.length c2') _ _ w8) := ⟨by first | (rw [hw]; exact M0.out.drewN nd) | (rw [hw]; exact M0.out.drewN (nd + 1))⟩
                     clear hw M0; have M0 := M1; clear M1)
                  | (go_at_call 33; refine (rappend_c (joinC xl) (by have := HJ.out.1; omega) (HS.out.rok B.out.2.1) ?hr).mono ?_
                     case hr => exact M0.out.dp.rat
                     rintro e w9 ⟨rfl, hd, hg⟩
                     have M1 : As (Dpx w g g2 xo ⟨0, xn, xl⟩ (.slice A2 xl.length c2') _ _ w9) := ⟨by first | exact M0.out.stepr hd hg | exact M0.out.stepr hd (gr_ofdrew hg)⟩; clear hd hg M0; have M0 := M1; clear M1))
              all_goals
                go_wp2_with fail
                go_meet
                case rel => exact ⟨_, _, _, rfl, by rw [SS.out.1.2], ⟨SS.out.1.1⟩, ⟨SS.out.2⟩, M0⟩
            · by_cases k1 : xk = 1
              · subst k1
                clear k0
                have S2 := HS.out.sync
                have hz : d.sync.2.size = n := by
                  rw [← HZ.out]
                  unfold DK.sync
                  split
                  · exact d.step_b.2.2
                  · exact d.step_b.2.2
                have SS := As.mk (And.intro S2 hz)
                clear S2 hz
                go_wp2_with fail
                refine (sync_c M0.out.dp.at_).mono ?_
                rintro e w7 ⟨rfl, hd, hg⟩
                have M1 := As.mk (M0.out.stepd hd hg)
                clear hd hg M0 x0 x1 x2
                go_wp2_with fail
                refine (rsync_c HS.out.rtop M1.out.dp.rat).mono ?_
                rintro e w8 ⟨rfl, hd, hg⟩
                have M2 := As.mk (M1.out.stepr hd hg)
                clear hd hg M1
                go_wp2_with fail
                go_meet
                case rel => exact ⟨_, _, _, rfl, by rw [SS.out.1.2], ⟨SS.out.1.1.more B.out.1⟩, ⟨SS.out.2⟩, M2⟩
              · by_cases k2 : xk = 2
                · subst k2
                  clear k0 k1
                  have S2 := HS.out.drop xn
                  have hz : (d.drop xn).2.size = n := by
                    rw [← HZ.out]
                    unfold DK.drop
                    split
                    · rfl
                    · split
                      · exact d.step_b.2.2
                      · exact d.step_b.2.2
                  have SS := As.mk (And.intro S2 hz)
                  clear S2 hz
                  go_wp2_with fail
                  go_region_held3 (fun w' => w'.cell? ⟨xo, 1, none⟩ = some (.int .i64 xn))
                    (first | exact M0.out.x.cell 1 | go_keep)
                    (first
                      | (go_at_call 35; refine (drop_c xn (HS.out.dok B.out.2.1) ?hr).mono ?_
                         case hr => exact M0.out.dp.at_
                         rintro e w7 ⟨rfl, hd, hg⟩
                         have M1 : As (Dpx w g g2 xo ⟨2, xn, xl⟩ (.slice A2 xl.length c2') _ _ w7) := ⟨by first | exact M0.out.stepd hd hg | exact M0.out.stepd hd (gr_ofdrew hg)⟩
                         clear hd hg M0; have M0 := M1; clear M1)
                      | (go_at_call 36; refine (rdrop_c xn (HS.out.rok B.out.2.1) ?hr).mono ?_
                         case hr => exact M0.out.dp.rat
                         rintro e w9 ⟨rfl, hd, hg⟩
                         have M1 : As (Dpx w g g2 xo ⟨2, xn, xl⟩ (.slice A2 xl.length c2') _ _ w9) := ⟨by first | exact M0.out.stepr hd hg | exact M0.out.stepr hd (gr_ofdrew hg)⟩
                         clear hd hg M0; have M0 := M1; clear M1))
                  all_goals
                    go_wp2_with fail
                    go_meet
                    case rel => exact ⟨_, _, _, rfl, by rw [SS.out.1.2], ⟨SS.out.1.1.more B.out.1⟩, ⟨SS.out.2⟩, M0⟩
                · by_cases k3 : xk = 3
                  · subst k3
                    clear k0 k1 k2
                    have S2 := HS.out.cut xn
                    have hz : (d.cut xn).2.size = n := by
                      rw [← HZ.out]
                      unfold DK.cut
                      split
                      · rfl
                      · split <;> rfl
                    have SS := As.mk (And.intro S2 hz)
                    clear S2 hz
                    go_wp2_with fail
                    go_region_held3 (fun w' => w'.cell? ⟨xo, 1, none⟩ = some (.int .i64 xn))
                      (first | exact M0.out.x.cell 1 | go_keep)
                      (first
                        | (go_at_call 37; refine (cut_c (d := d) xn ?hr).mono ?_
                           case hr => exact M0.out.dp.at_
                           rintro e w7 ⟨rfl, hd, hg⟩
                           have M1 : As (Dpx w g g2 xo ⟨3, xn, xl⟩ (.slice A2 xl.length c2') _ _ w7) := ⟨by first | exact M0.out.stepd hd hg | exact M0.out.stepd hd (gr_ofdrew hg)⟩
                           clear hd hg M0; have M0 := M1; clear M1)
                        | (go_at_call 38; refine (rcut_c (r := r) xn ?hr).mono ?_
                           case hr => exact M0.out.dp.rat
                           rintro e w9 ⟨rfl, hd, hg⟩
                           have M1 : As (Dpx w g g2 xo ⟨3, xn, xl⟩ (.slice A2 xl.length c2') _ _ w9) := ⟨by first | exact M0.out.stepr hd hg | exact M0.out.stepr hd (gr_ofdrew hg)⟩
                           clear hd hg M0; have M0 := M1; clear M1))
                    all_goals
                      go_wp2_with fail
                      go_meet
                      case rel => exact ⟨_, _, _, rfl, by rw [SS.out.1.2], ⟨SS.out.1.1.more B.out.1⟩, ⟨SS.out.2⟩, M0⟩
                  · by_cases k4 : xk = 4
                    · subst k4
                      clear k0 k1 k2 k3 x2
                      go_wp2_with fail
                      refine (fuse_c xn NW.out M0.out.dp.at_).mono ?_
                      rintro e w7 ⟨rfl, hd, hg⟩
                      have M1 := As.mk (M0.out.stepd hd hg)
                      have y1 : w7.cell? ⟨xo, 1, none⟩ = some (.int .i64 xn) := M1.out.x.cell 1
                      clear hd hg M0 x0 x1
                      go_wp2_with fail
                      refine (rset_c xn M1.out.dp.rat).mono ?_
                      rintro e w8 ⟨rfl, hd, hg⟩
                      have M2 := As.mk (M1.out.stepr hd hg)
                      clear hd hg M1 y1
                      go_wp2_with fail
                      go_meet
                      case rel => exact ⟨_, _, 0, rfl, rfl, ⟨(HS.out.set xn B.out.2.2).more B.out.1⟩, ⟨HZ.out⟩, M2⟩
                    · by_cases k5 : xk = 5
                      · subst k5
                        clear k0 k1 k2 k3 k4 x2
                        go_wp2_with fail
                        refine (crash_c xn (HS.out.dok B.out.2.1) M0.out.dp.at_).mono ?_
                        rintro e w7 ⟨rfl, hd, hg⟩
                        have M1 := As.mk (M0.out.stepd hd hg)
                        have y1 : w7.cell? ⟨xo, 1, none⟩ = some (.int .i64 xn) := M1.out.x.cell 1
                        clear hd hg M0 x0 x1
                        go_wp2_with fail
                        refine (rcrash_c xn (HS.out.rok B.out.2.1) M1.out.dp.rat).mono ?_
                        rintro e w8 ⟨rfl, hd, hg⟩
                        have M2 := As.mk (M1.out.stepr hd hg)
                        clear hd hg M1 y1
                        go_wp2_with fail
                        go_meet
                        case rel => exact ⟨_, _, 0, rfl, rfl, ⟨(HS.out.crash B.out.2.1 xn).more B.out.1⟩, ⟨HZ.out⟩, M2⟩
                      · clear x1 x2
                        go_wp2_with fail
                        go_meet
                        case rel => exact ⟨_, _, 0, rfl, rfl, ⟨HS.out.more B.out.1⟩, HZ, M0⟩
          case rest =>
            obtain ⟨d', r', m, rfl, rfl, HS2, HZ2, HG2⟩ := hcut
            have y0 : wc.cell? ⟨g2, 0, none⟩ = some (.string d'.b) := by rw [← HS2.out.b]; exact HG2.out.dp.rat.cell 0
            have y1 : wc.cell? ⟨g2, 1, none⟩ = some (.int .i64 d'.safe) := by rw [← HS2.out.safe]; exact HG2.out.dp.rat.cell 1
            have y4 : wc.cell? ⟨g2, 4, none⟩ = some (.bool d'.down) := by rw [← HS2.out.down]; exact HG2.out.dp.rat.cell 4
            have Q : As (∀ j, DkAt (wc.drewN j) g d') := ⟨fun j => HG2.out.dp.at_⟩
            have QS : As (∀ j, Calls Try.prog 41 #[.pointer (some ⟨g, 0, none⟩)] (wc.drewN j) fun e w' => e = .returned (.int .i64 n) ∧ w' = wc.drewN j) := ⟨fun j => by rw [← HZ2.out]; exact size_c (Q.out j)⟩
            go_wp2_with fail
            go_quiet ((first
              | (go_at_call 24; exact Calls.quiet_of_same (bytes_c (Q.out _)))
              | (go_at_call 27; exact Calls.quiet_of_same (safe_c (Q.out _)))
              | (go_at_call 41; exact Calls.quiet_of_same (QS.out _))
              | (go_at_call 26; exact Calls.quiet_of_same (down_c (Q.out _)))))
            go_wp2_with fail
            go_roundw
            case measure => simp [intOf]; omega
            case rel => exact ⟨k + 1, d', r', by omega, by go_num, HS2, HZ2, ⟨(HG2.out.drewN _).dp⟩⟩
        · obtain rfl : k = l.length := by omega
          go_wp2
          go_ret
          exact ⟨rfl, HG.out.gr⟩
  · have hr : n < 0 ∨ 1048576 < n := by omega
    have HR := As.mk hr
    clear hr
    go_enter Try.func9, Try.ntmps9
    go_wp2_with fail
    refine (awake_walk _).mono ?_
    rintro e w1 ⟨rfl, g1⟩
    have G1 := As.mk g1
    clear g1
    go_wp2_with fail
    refine (new_not n _ HR.out).mono ?_
    rintro e w2 ⟨rfl, rfl⟩
    go_wp2_with fail
    refine (rnew_not n _ HR.out).mono ?_
    rintro e w3 ⟨rfl, rfl⟩
    go_wp2
    go_ret
    exact ⟨rfl, G1.out⟩
end Go.Proofs.Ytmehohpboliibaa
