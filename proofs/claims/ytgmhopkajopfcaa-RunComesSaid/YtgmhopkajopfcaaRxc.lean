/- The document's part of a program. -/
import Derived.Deep.WholeRow
import Derived.Test.YtgmhopkajopfcaaRxb
import Derived.Test.YtgmhopkajopfcaaRm
namespace Go.Proofs.Ytgmhopkajopfcaa
section
open Go.RowKit Go.Maps
set_option linter.unusedVariables false
set_option linter.unusedSimpArgs false
set_option maxRecDepth 100000

/-- A whole value into the block that was made last. -/
theorem wpList_store_new' {P : Program} {ops : Array Oper} {rest : List Oper} {op : Oper} {a : Act} {Q : Exit → Act → World → Prop} (w : World) (hgd : op.guard = none) (ty : TypeId) (x y : Operand) (ho : op.op = .store ty x y)
    (c c' : Array Value) (hx : a.eval x = .pointer (some ⟨w.heap.size, 0, none⟩)) (hy : a.eval y = .agg c') (hi : (P.info? ty).map (·.size) = some c'.size) (hc : c.size = c'.size) (h1 : c'.all (·.oneCell') = true)
    (h : wpList P ops Q rest (a.put op.dst undef) (w.alloc (.cells c' ty))) : wpList P ops Q (op :: rest) a (w.alloc (.cells c ty)) :=
  wpList_store_row hgd ty x y ho w.heap.size c' hx hy ty c (heap_alloc_new w _) hi hc h1 (by rw [World.setRow_alloc_new]; exact h)
section
variable {w wr : World} {b7 b9 : Nat} {W : RWd} (h : PW w wr b7 b9 W)
include h
theorem PW.rowFar {b : Nat} (h7 : b7 ≠ b) (h9 : b9 ≠ b) (hlo : w.heap.size ≤ b) (Y : RWd) : PW w (wr.setRow b (wC Y)) b7 b9 W :=
  ⟨Blk.setRow_far h.at_ h7 _, let ⟨o, a, c⟩ := h.z; ⟨o, a.setRow_far h9 _, c⟩, gr_setRow h.gr (.inr hlo) _, h.ne, h.lo⟩
theorem PW.cells {b : Nat} (h7 : b7 ≠ b) (h9 : b9 ≠ b) (hlo : w.heap.size ≤ b) (vs : List Value) (o : Nat) : PW w (wr.setCells b o vs) b7 b9 W :=
  ⟨Blk.setCells_far h7 vs o h.at_, let ⟨q, a, c⟩ := h.z; ⟨q, Blk.setCells_far h9 vs o a, c⟩, gr_setCells (w' := wr) hlo vs o h.gr, h.ne, h.lo⟩
end
theorem part7 (c r o n : Int) (k : Pg) (W : RWd) : partP (.op ⟨7, c, r, o, n⟩ k) W = ((3 : Int), W) := by
  have e : opP ⟨7, c, r, o, n⟩ W = (3, W) := by
    unfold opP
    rw [if_neg (show ¬ (7 : Int) = 1 by decide), if_neg (show ¬ (7 : Int) = 2 by decide), if_neg (show ¬ (7 : Int) = 3 by decide), if_neg (show ¬ (7 : Int) = 4 by decide), if_neg (show ¬ (7 : Int) = 5 by decide), if_pos (.inl rfl)]
  show (if (opP ⟨7, c, r, o, n⟩ W).1 = 0 then partP k (opP ⟨7, c, r, o, n⟩ W).2 else opP ⟨7, c, r, o, n⟩ W) = _
  rw [e]
  rfl
set_option maxHeartbeats 25600000 in
theorem part_c {v : Value} {l : List POp} (hr : pRight l = true) : ∀ (N : Nat) (P : Pg) (d : Nat) (T : List POp) (j : Nat) (W : RWd) (w : World), P.flat.length = N → l.drop j = P.flat ++ T → P.ok d → j ≤ l.length → Arr OpE 5 w v l → ∀ (ji ti : Int), ji = (j : Int) → ti = ((j + P.flat.length : Nat) : Int) →
    Calls Try.prog 31 #[v, .int .i64 ji, .int .i64 ti, .agg (wC W)] w fun e w' => e = .returned (.tuple #[.int .i64 (partP P W).1, .agg (wC (partP P W).2)]) ∧ w.grownBy w' none := by
  intro N
  induction N using Nat.strongRecOn with
  | _ N ih =>
  intro P d T j W w hN hd ho hj hl ji ti hji hti
  subst hji
  obtain ⟨A0, c0, rfl⟩ := hl.len
  have hlen : l.length ≤ 32 := (pRight_all hr).1
  have HL := As.mk hl
  have HP := As.mk hr
  have HN := As.mk hN
  have HD := As.mk hd
  have HO := As.mk ho
  have IH := As.mk (fun (P' : Pg) (d' : Nat) (T' : List POp) (j' : Nat) (W' : RWd) (w' : World) (hlt : P'.flat.length < N) => ih _ hlt P' d' T' j' W' w' rfl)
  clear ih hl hr hN hd ho
  generalize hto : j + P.flat.length = tt at *
  subst hti
  have HTO := As.mk hto
  clear hto
  generalize hres : partP P W = res at *
  have HRES := As.mk hres
  clear hres
  have hj32 : j ≤ 32 := by omega
  go_enter Try.func31, Try.ntmps31
  go_wp2_with fail
  have HX := As.mk (show PW w ((w.alloc (.cells (wC W) 47)).alloc (.cells Try.zeroCells47 47)) w.heap.size (w.heap.size + 1) W from ⟨(Blk.new w _ _).alloc _, ⟨_, Blk.new2 w _ 47 Try.zeroCells47, by kernel_rfl⟩, gr_alloc (gr_alloc (gr_refl w none) _) _, by omega, by omega, by omega⟩)
  generalize (w.alloc (.cells (wC W) 47)).alloc (.cells Try.zeroCells47 47) = W0 at *
  generalize hb9 : w.heap.size + 1 = b9 at HX ⊢
  clear hb9
  generalize hb7 : w.heap.size = b7 at HX ⊢
  clear hb7
  go_loopw [10] (fun i wr => ∃ k : Nat, i = .int .i64 k ∧ As (∃ P' W', l.drop k = P'.flat ++ T ∧ P'.ok d ∧ res = partP P' W' ∧ k + P'.flat.length = tt ∧ k ≤ l.length ∧ j ≤ k ∧ PW w wr b7 b9 W')) (fun i _ => tt - (intOf i).toNat)
  case atStart => exact ⟨j, rfl, ⟨P, W, HD.out, HO.out, HRES.out.symm, HTO.out, hj, Nat.le_refl _, HX.out⟩⟩
  case round =>
    clear HX HD HO HRES
    obtain ⟨k, rfl, HR⟩ := hrel
    obtain ⟨P', W', h1, h2, h3, h4, h5, hjk, h6⟩ := HR.out
    clear HR
    cases P' with
    | nil =>
      obtain rfl : k = tt := h4
      have HQ := As.mk h3
      have HX := As.mk h6
      have hk32 : k ≤ 32 := by omega
      clear h1 h2 h3 h6
      go_upto_region 32 with fail
      refine wp_region_noPanic ?_
      refine wp_region_held_drew (S := fun w' => PW w w' b7 b9 W' ∧ WAt w' b7 W') (by kernel_rfl) (⟨HX.out.drew, Blk.drew HX.out.at_⟩) (fun hS => ?_)
      refine wpAnyH_take (i := 1) (v := ?vz1) rfl (by kernel_rfl) (by kernel_rfl) (by kernel_rfl) (fun _ _ _ h => h) (Or.inl ⟨by rfl, ?yz1⟩) hS ?rz1
      case yz1 => (intro w0 _; go_simp; try with_reducible rfl)
      try simp only [yA, yB, yC, Act.put, yD, yE, yF]
      refine wpAnyH_ready (rs := [0]) (by kernel_rfl) (by simp) (AllReadyH.cons (i := 0) rfl (fun K hK => ?_) AllReadyH.nil)
      refine wp_load_row 47 _ rfl b7 rfl 47 (wC W') _ _ hS.2 Try.underlying47 rfl (sizeWC _) ?_
      refine hK.out _ _ (hS) (fun hS => ?_)
      clear hK K
      try simp only [yA, yB, yC, Act.put, yD, yE, yF]
      refine wpAnyH_ready (rs := [2]) (by kernel_rfl) (by simp) (AllReadyH.cons (i := 2) rfl (fun K hK => ?_) AllReadyH.nil)
      obtain ⟨old, hz1, hz2⟩ := PW.z hS.1
      refine wp_store_row 47 _ _ rfl b9 (wC W') rfl rfl 47 old hz1 (sizeWC _) (hz2.trans (wC_size _).symm) (wC_one _) ?_
      refine shut_gen hK (F := fun w' => As (Blk w' b9 47 (wC W') ∧ w.grownBy w' none)) (⟨hS.1.rowZ _, Blk.setRow_far hS.2 hS.1.ne _⟩) (⟨PW.ret hS.1 _⟩) (fun w9 hS HF => ?_)
      clear hK K
      try simp only [yA, yB, yC, Act.put, yD, yE, yF]
      refine wpAnyH_done (by kernel_rfl) ?_ _
      refine NoPanic.normal ?_
      try simp only [Exit.then]
      go_wp2_with fail
      refine bodyPost_ret (results_tmp_row (show Try.f31.results = #[.tmp 8, .cell 9 47] by kernel_rfl) _ _ b9 _ (wC W') (0, 0) _ rfl HF.out.1 Try.underlying47 rfl (sizeWC _)) rfl ⟨?_, HF.out.2⟩
      rw [HQ.out]
      rfl
    | op x r =>
      obtain ⟨hlt, hx, hd1⟩ := lt_of_drop (show l.drop k = x :: (r.flat ++ T) from h1)
      have HD1 := As.mk hd1
      have HOR := As.mk h2.2
      have HLEN := As.mk h4
      have HQ := As.mk h3
      have HX := As.mk h6
      have HK1 := As.mk (show k + 1 ≤ l.length by omega)
      have hto2 : (k : Int) < (tt : Int) := by simp only [Pg.flat, List.length_cons] at h4; omega
      have hk32 : k ≤ 32 := by omega
      have hk0 : (0 : Int) ≤ (k : Int) := by omega
      have hb := (pRight_all HP.out).2.1 x (List.mem_of_getElem? hx)
      obtain ⟨⟨hxk0, hxk1⟩, ⟨hxc0, hxc1⟩, ⟨hxr0, hxr1⟩, hxo0, hxo1⟩ := opRight_bd hb
      obtain ⟨bb, oo, cs, hA, hE, hcs, hcell⟩ := HL.out.at_ k x hx
      subst hA
      obtain rfl := hE
      have c0 : wr.cell? ⟨bb, oo + k * 5, none⟩ = _ := HX.out.gr.cell (hcell 0 _ rfl) (by simp)
      have c1 := HX.out.gr.cell (hcell 1 _ rfl) (by simp)
      have c2 := HX.out.gr.cell (hcell 2 _ rfl) (by simp)
      have c3 := HX.out.gr.cell (hcell 3 _ rfl) (by simp)
      have c4 := HX.out.gr.cell (hcell 4 _ rfl) (by simp)
      have h10 := h2.1
      clear hcell hcs hd1 h1 h2 h3 h4 h6 hx hb
      obtain ⟨xk, xc, xr, xo, xn⟩ := x
      dsimp only at *
      obtain ⟨kc, rfl⟩ : ∃ kc : Nat, xc = (kc : Int) := ⟨xc.toNat, by omega⟩
      obtain ⟨kr, rfl⟩ : ∃ kr : Nat, xr = (kr : Int) := ⟨xr.toNat, by omega⟩
      obtain ⟨ko, rfl⟩ : ∃ ko : Nat, xo = (ko : Int) := ⟨xo.toNat, by omega⟩
      have HKC := As.mk (show kc < 16 by omega)
      have HKR := As.mk (show kr < 8 by omega)
      have HKO := As.mk (show ko < 8 by omega)
      have hcI : (kc : Int) < 16 := by omega
      have hrI : (kr : Int) < 8 := by omega
      have hoI : (ko : Int) < 8 := by omega
      go_upto_region 4 with fail
      clear c0 c1 c2 c3 c4
      have HT := As.mk (Blk.new wr 67 #[.int .i64 xk, .int .i64 (kc : Int), .int .i64 (kr : Int), .int .i64 (ko : Int), .int .i64 xn])
      have HNB := As.mk (show wr.heap.size ≠ b7 from fun e => by have := Blk.lt HX.out.at_; omega)
      replace HX := As.mk (HX.out.grown (gr_alloc (gr_refl wr none) (.cells #[.int .i64 xk, .int .i64 (kc : Int), .int .i64 (kr : Int), .int .i64 (ko : Int), .int .i64 xn] 67)))
      generalize wr.alloc (.cells #[.int .i64 xk, .int .i64 (kc : Int), .int .i64 (kr : Int), .int .i64 (ko : Int), .int .i64 xn] 67) = W1 at *
      generalize wr.heap.size = tb at *
      have hkk : xk = 1 ∨ xk = 2 ∨ xk = 3 ∨ xk = 4 ∨ xk = 5 ∨ xk = 6 ∨ xk = 7 ∨ xk = 8 ∨ xk = 9 := by omega
      clear hxk0 hxk1 h10
      rcases hkk with rfl | rfl | rfl | rfl | rfl | rfl | rfl | rfl | rfl
      · clear hxc0 hxc1
        have q := WAt.rd HX.out.at_ HKC.out
        have f := Blk.free HX.out.at_ (40 + kc)
        obtain ⟨t0, t1, t2, t3, t4⟩ := (HT.out).c5
        go_upto_region 6 with fail
        clear q f
        clear t0 t1 t2 t3 t4
        replace HT := As.mk (Blk.far HT.out (a := ⟨b7, 40 + kc, none⟩) HNB.out (.bool true))
        replace HX := As.mk (HX.out.setRd HKC.out true)
        generalize W1.setCell ⟨b7, 40 + kc, none⟩ (.bool true) = W2 at *
        refine wp_region_noPanic ?_
        refine wp_region_held_drew (S := fun w' => Blk w' tb 67 #[.int .i64 1, .int .i64 (kc : Int), .int .i64 (kr : Int), .int .i64 (ko : Int), .int .i64 xn]) (by kernel_rfl) (HT.out.drew) (fun hS => ?_)
        refine wpAnyH_take (i := 0) (v := ?vk11) rfl (by kernel_rfl) (by kernel_rfl) (by kernel_rfl) (fun _ _ _ h => h) (Or.inl ⟨by rfl, ?yk11⟩) hS ?rk11
        case yk11 => (intro w0 _; go_simp; try with_reducible rfl)
        try simp only [yA, yB, yC, Act.put, yD, yE, yF]
        refine wpAnyH_take (i := 1) (v := ?vk12) rfl (by kernel_rfl) (by kernel_rfl) (by kernel_rfl) (fun _ _ _ h => h) (Or.inl ⟨by rfl, ?yk12⟩) hS ?rk12
        case yk12 => (intro w0 hS0; (try simp only [] at hS0); obtain ⟨t0, t1, t2, t3, t4⟩ := hS0.c5; go_simp; try with_reducible rfl)
        try simp only [yA, yB, yC, Act.put, yD, yE, yF]
        refine wpAnyH_take (i := 3) (v := ?vk13) rfl (by kernel_rfl) (by kernel_rfl) (by kernel_rfl) (fun _ _ _ h => h) (Or.inl ⟨by rfl, ?yk13⟩) hS ?rk13
        case yk13 => (intro w0 _; go_simp; try with_reducible rfl)
        try simp only [yA, yB, yC, Act.put, yD, yE, yF]
        refine wpAnyH_take (i := 4) (v := ?vk14) rfl (by kernel_rfl) (by kernel_rfl) (by kernel_rfl) (fun _ _ _ h => h) (Or.inl ⟨by rfl, ?yk14⟩) hS ?rk14
        case yk14 => (intro w0 hS0; (try simp only [] at hS0); obtain ⟨t0, t1, t2, t3, t4⟩ := hS0.c5; go_simp; try with_reducible rfl)
        try simp only [yA, yB, yC, Act.put, yD, yE, yF]
        refine wpAnyH_take (i := 6) (v := ?vk15) rfl (by kernel_rfl) (by kernel_rfl) (by kernel_rfl) (fun _ _ _ h => h) (Or.inl ⟨by rfl, ?yk15⟩) hS ?rk15
        case yk15 => (intro w0 _; go_simp; try with_reducible rfl)
        try simp only [yA, yB, yC, Act.put, yD, yE, yF]
        refine wpAnyH_ready (rs := [2]) (by kernel_rfl) (by simp) (AllReadyH.cons (i := 2) rfl (fun K hK => ?_) AllReadyH.nil)
        refine wp_load_row 47 _ rfl b7 rfl 47 (wC { W' with rd := updN W'.rd kc true }) _ _ (Blk.drew HX.out.at_) Try.underlying47 rfl (sizeWC _) ?_
        refine hK.out _ _ (hS) (fun hS => ?_)
        clear hK K
        try simp only [yA, yB, yC, Act.put, yD, yE, yF]
        refine wpAnyH_ready (rs := [5]) (by kernel_rfl) (by simp) (AllReadyH.cons (i := 5) rfl (fun K hK => ?_) AllReadyH.nil)
        go_simp
        refine (wvalue_c _ { W' with rd := updN W'.rd kc true } kc HKC.out).mono ?_
        rintro e0 w3 ⟨rfl, hg3⟩
        go_simp
        refine shut_gen hK (F := fun w' => As (PW w w' b7 b9 { W' with rd := updN W'.rd kc true })) ((HT.out.drew).grown hg3 (by simp)) (⟨HX.out.drew.grown hg3⟩) (fun w4 hS HF => ?_)
        clear hK K
        clear hg3
        try simp only [yA, yB, yC, Act.put, yD, yE, yF]
        refine wpAnyH_take (i := 7) (v := ?vk18) rfl (by kernel_rfl) (by kernel_rfl) (by kernel_rfl) (fun _ _ _ h => h) (Or.inl ⟨by rfl, ?yk18⟩) hS ?rk18
        case yk18 => (intro w0 _; go_simp; try with_reducible rfl)
        try simp only [yA, yB, yC, Act.put, yD, yE, yF]
        refine wpAnyH_ready (rs := [8]) (by kernel_rfl) (by simp) (AllReadyH.cons (i := 8) rfl (fun K hK => ?_) AllReadyH.nil)
        have q : w4.cell? ⟨b7, 32 + kr, none⟩ = some (.int .i64 (W'.rg kr)) := WAt.rg HF.out.at_ HKR.out
        have f : w4.frozen? ⟨b7, 32 + kr, none⟩ = false := Blk.free HF.out.at_ (32 + kr)
        go_simp
        refine shut_gen hK (F := fun w' => As (Blk w' tb 67 #[.int .i64 1, .int .i64 (kc : Int), .int .i64 (kr : Int), .int .i64 (ko : Int), .int .i64 xn] ∧ PW w w' b7 b9 { W' with rd := updN W'.rd kc true, rg := updN W'.rg kr (W'.val kc) })) (Blk.far hS (a := ⟨b7, 32 + kr, none⟩) HNB.out _) (⟨Blk.far hS (a := ⟨b7, 32 + kr, none⟩) HNB.out _, HF.out.setRg HKR.out _⟩) (fun w5 hS HF2 => ?_)
        clear hK K
        try simp only [yA, yB, yC, Act.put, yD, yE, yF]
        refine wpAnyH_done (by kernel_rfl) ?_ _
        refine NoPanic.normal ?_
        try simp only [Exit.then]
        replace HT := As.mk HF2.out.1
        replace HX := As.mk HF2.out.2
        clear HF HF2 hS
        obtain ⟨t0, t1, t2, t3, t4⟩ := (HT.out).c5
        go_upto_region 31 with fail
        clear t0 t1 t2 t3 t4
        have HQ2 := As.mk (HQ.out.trans (show _ = partP r { W' with rd := updN W'.rd kc true, rg := updN W'.rg kr (W'.val kc) } from by simp [partP, opP]))
        clear HQ
        go_wp2_with fail
        go_roundw
        case measure => have := HLEN.out; simp [intOf, Pg.flat] at *; omega
        case rel => exact ⟨k + 1, by go_num, ⟨r, _, HD1.out, HOR.out, HQ2.out, by have := HLEN.out; simp only [Pg.flat, List.length_cons] at this; omega, HK1.out, by omega, HX.out⟩⟩
      · clear hxc0 hxc1
        have q := WAt.rd HX.out.at_ HKC.out
        have f := Blk.free HX.out.at_ (40 + kc)
        obtain ⟨t0, t1, t2, t3, t4⟩ := (HT.out).c5
        go_upto_region 9 with fail
        clear q f
        clear t0 t1 t2 t3 t4
        replace HT := As.mk (Blk.far HT.out (a := ⟨b7, 40 + kc, none⟩) HNB.out (.bool true))
        replace HX := As.mk (HX.out.setRd HKC.out true)
        generalize W1.setCell ⟨b7, 40 + kc, none⟩ (.bool true) = W2 at *
        have q := WAt.wr HX.out.at_ HKC.out
        have f := Blk.free HX.out.at_ (56 + kc)
        obtain ⟨t0, t1, t2, t3, t4⟩ := (HT.out).c5
        go_upto_region 10 with fail
        clear q f
        clear t0 t1 t2 t3 t4
        replace HT := As.mk (Blk.far HT.out (a := ⟨b7, 56 + kc, none⟩) HNB.out (.bool true))
        replace HX := As.mk (HX.out.setWr HKC.out true)
        generalize W2.setCell ⟨b7, 56 + kc, none⟩ (.bool true) = W3 at *
        refine wp_region_noPanic ?_
        refine wp_region_D (S := fun w' => Blk w' tb 67 #[.int .i64 2, .int .i64 (kc : Int), .int .i64 (kr : Int), .int .i64 (ko : Int), .int .i64 xn] ∧ WAt w' b7 { W' with rd := updN W'.rd kc true, wr := updN W'.wr kc true }) 9 (by kernel_rfl) (⟨HT.out.drew, Blk.drew HX.out.at_⟩) (fun hS => ?_)
        refine wpAnyD_take (i := 0) (v := ?vk21) rfl rfl (by kernel_rfl) (by kernel_rfl) (by kernel_rfl) (by kernel_rfl) (fun _ _ _ h => h) (Or.inl ⟨by rfl, ?yk21⟩) hS ?rk21
        case yk21 => (intro w0 _; go_simp; try with_reducible rfl)
        try simp only [yA, yB, yC, Act.put, yD, yE, yF]
        refine wpAnyD_take (i := 1) (v := ?vk22) rfl rfl (by kernel_rfl) (by kernel_rfl) (by kernel_rfl) (by kernel_rfl) (fun _ _ _ h => h) (Or.inl ⟨by rfl, ?yk22⟩) hS ?rk22
        case yk22 => (intro w0 hS0; (try simp only [] at hS0); obtain ⟨hS0_0, hS0_1⟩ := hS0; obtain ⟨t0, t1, t2, t3, t4⟩ := hS0_0.c5; go_simp; try with_reducible rfl)
        try simp only [yA, yB, yC, Act.put, yD, yE, yF]
        refine wpAnyD_take (i := 2) (v := ?vk23) rfl rfl (by kernel_rfl) (by kernel_rfl) (by kernel_rfl) (by kernel_rfl) (fun _ _ _ h => h) (Or.inl ⟨by rfl, ?yk23⟩) hS ?rk23
        case yk23 => (intro w0 _; go_simp; try with_reducible rfl)
        try simp only [yA, yB, yC, Act.put, yD, yE, yF]
        refine wpAnyD_take (i := 3) (v := ?vk24) rfl rfl (by kernel_rfl) (by kernel_rfl) (by kernel_rfl) (by kernel_rfl) (fun _ _ _ h => h) (Or.inl ⟨by rfl, ?yk24⟩) hS ?rk24
        case yk24 => (intro w0 hS0; (try simp only [] at hS0); obtain ⟨hS0_0, hS0_1⟩ := hS0; obtain ⟨t0, t1, t2, t3, t4⟩ := hS0_0.c5; go_simp; try with_reducible rfl)
        try simp only [yA, yB, yC, Act.put, yD, yE, yF]
        refine wpAnyD_take (i := 4) (v := ?vk25) rfl rfl (by kernel_rfl) (by kernel_rfl) (by kernel_rfl) (by kernel_rfl) (fun _ _ _ h => h) (Or.inl ⟨by rfl, ?yk25⟩) hS ?rk25
        case yk25 => (intro w0 _; go_simp; try with_reducible rfl)
        try simp only [yA, yB, yC, Act.put, yD, yE, yF]
        refine wpAnyD_take (i := 5) (v := ?vk26) rfl rfl (by kernel_rfl) (by kernel_rfl) (by kernel_rfl) (by kernel_rfl) (fun _ _ _ h => h) (Or.inl ⟨by rfl, ?yk26⟩) hS ?rk26
        case yk26 => (intro w0 _; go_simp; try with_reducible rfl)
        try simp only [yA, yB, yC, Act.put, yD, yE, yF]
        refine wpAnyD_take (i := 6) (v := ?vk27) rfl rfl (by kernel_rfl) (by kernel_rfl) (by kernel_rfl) (by kernel_rfl) (fun _ _ _ h => h) (Or.inl ⟨by rfl, ?yk27⟩) hS ?rk27
        case yk27 => (intro w0 hS0; (try simp only [] at hS0); obtain ⟨hS0_0, hS0_1⟩ := hS0; have q : w0.cell? ⟨b7, 32 + kr, none⟩ = some (.int .i64 (({ W' with rd := updN W'.rd kc true, wr := updN W'.wr kc true } : RWd).rg kr)) := WAt.rg hS0_1 HKR.out; go_simp; try with_reducible rfl)
        try simp only [yA, yB, yC, Act.put, yD, yE, yF]
        refine wpAnyD_ready (rs := [7]) (by kernel_rfl) (by simp) (AllReadyD.cons (i := 7) rfl (fun K hK => ?_) AllReadyD.nil)
        go_simp
        refine hK.out _ _ (fun _ => hS) (fun hS' => ?_)
        replace hS := hS' (by decide)
        clear hS'
        clear hK K
        try simp only [yA, yB, yC, Act.put, yD, yE, yF]
        refine wpAnyD_take (i := 8) (v := ?vk29) rfl rfl (by kernel_rfl) (by kernel_rfl) (by kernel_rfl) (by kernel_rfl) (fun _ _ _ h => h) (Or.inl ⟨by rfl, ?yk29⟩) hS ?rk29
        case yk29 => (intro w0 _; go_simp; try with_reducible rfl)
        try simp only [yA, yB, yC, Act.put, yD, yE, yF]
        refine wpAnyD_ready (rs := [9]) (by kernel_rfl) (by simp) (AllReadyD.cons (i := 9) rfl (fun K hK => ?_) AllReadyD.nil)
        have q : W3.cell? ⟨b7, 72 + kc, none⟩ = some (.int .i64 (W'.nw kc)) := WAt.nw HX.out.at_ HKC.out
        have f : W3.frozen? ⟨b7, 72 + kc, none⟩ = false := Blk.free HX.out.at_ (72 + kc)
        go_simp
        refine shut_gen2 hK (F := fun w' => As (Blk w' tb 67 #[.int .i64 2, .int .i64 (kc : Int), .int .i64 (kr : Int), .int .i64 (ko : Int), .int .i64 xn] ∧ PW w w' b7 b9 { W' with rd := updN W'.rd kc true, wr := updN W'.wr kc true, nw := updN W'.nw kc (W'.rg kr) })) (fun h => absurd rfl h) (⟨by first | exact ⟨Blk.far HT.out (a := ⟨b7, 72 + kc, none⟩) HNB.out _ |>.drew, (HX.out.setNw HKC.out _).drew⟩ | exact ⟨Blk.far HT.out.drew (a := ⟨b7, 72 + kc, none⟩) HNB.out _, HX.out.drew.setNw HKC.out _⟩⟩) (fun w2 HF => ?_)
        clear hK K
        try simp only [yA, yB, yC, Act.put, yD, yE, yF]
        refine wpAnyD_done (by kernel_rfl) ?_ _
        refine NoPanic.normal ?_
        try simp only [Exit.then]
        replace HT := As.mk HF.out.1
        replace HX := As.mk HF.out.2
        clear HF
        obtain ⟨t0, t1, t2, t3, t4⟩ := (HT.out).c5
        go_upto_region 31 with fail
        clear t0 t1 t2 t3 t4
        have HQ2 := As.mk (HQ.out.trans (show _ = partP r { W' with rd := updN W'.rd kc true, wr := updN W'.wr kc true, nw := updN W'.nw kc (W'.rg kr) } from by simp [partP, opP]))
        clear HQ
        go_wp2_with fail
        go_roundw
        case measure => have := HLEN.out; simp [intOf, Pg.flat] at *; omega
        case rel => exact ⟨k + 1, by go_num, ⟨r, _, HD1.out, HOR.out, HQ2.out, by have := HLEN.out; simp only [Pg.flat, List.length_cons] at this; omega, HK1.out, by omega, HX.out⟩⟩
      · clear hxc0 hxc1
        obtain ⟨t0, t1, t2, t3, t4⟩ := (HT.out).c5
        have q := WAt.rg HX.out.at_ HKR.out
        have f := Blk.free HX.out.at_ (32 + kr)
        go_upto_region 12 with fail
        go_upto_region 13 with fail
        clear q f
        clear t0 t1 t2 t3 t4
        replace HT := As.mk (Blk.far HT.out (a := ⟨b7, 32 + kr, none⟩) HNB.out (.int .i64 xn))
        replace HX := As.mk (HX.out.setRg HKR.out xn)
        generalize W1.setCell ⟨b7, 32 + kr, none⟩ (.int .i64 xn) = W2 at *
        obtain ⟨t0, t1, t2, t3, t4⟩ := (HT.out).c5
        go_upto_region 31 with fail
        clear t0 t1 t2 t3 t4
        have HQ2 := As.mk (HQ.out.trans (show _ = partP r { W' with rg := updN W'.rg kr xn } from by simp [partP, opP]))
        clear HQ
        go_wp2_with fail
        go_roundw
        case measure => have := HLEN.out; simp [intOf, Pg.flat] at *; omega
        case rel => exact ⟨k + 1, by go_num, ⟨r, _, HD1.out, HOR.out, HQ2.out, by have := HLEN.out; simp only [Pg.flat, List.length_cons] at this; omega, HK1.out, by omega, HX.out⟩⟩
      · clear hxc0 hxc1
        obtain ⟨t0, t1, t2, t3, t4⟩ := (HT.out).c5
        go_upto_region 14 with fail
        clear t0 t1 t2 t3 t4
        refine wp_region_noPanic ?_
        refine wp_region_D (S := fun w' => Blk w' tb 67 #[.int .i64 4, .int .i64 (kc : Int), .int .i64 (kr : Int), .int .i64 (ko : Int), .int .i64 xn] ∧ WAt w' b7 W') 15 (by kernel_rfl) (⟨HT.out.drew, Blk.drew HX.out.at_⟩) (fun hS => ?_)
        refine wpAnyD_take (i := 0) (v := ?vk41) rfl rfl (by kernel_rfl) (by kernel_rfl) (by kernel_rfl) (by kernel_rfl) (fun _ _ _ h => h) (Or.inl ⟨by rfl, ?yk41⟩) hS ?rk41
        case yk41 => (intro w0 _; go_simp; try with_reducible rfl)
        try simp only [yA, yB, yC, Act.put, yD, yE, yF]
        refine wpAnyD_take (i := 1) (v := ?vk42) rfl rfl (by kernel_rfl) (by kernel_rfl) (by kernel_rfl) (by kernel_rfl) (fun _ _ _ h => h) (Or.inl ⟨by rfl, ?yk42⟩) hS ?rk42
        case yk42 => (intro w0 hS0; (try simp only [] at hS0); obtain ⟨hS0_0, hS0_1⟩ := hS0; obtain ⟨t0, t1, t2, t3, t4⟩ := hS0_0.c5; go_simp; try with_reducible rfl)
        try simp only [yA, yB, yC, Act.put, yD, yE, yF]
        refine wpAnyD_take (i := 2) (v := ?vk43) rfl rfl (by kernel_rfl) (by kernel_rfl) (by kernel_rfl) (by kernel_rfl) (fun _ _ _ h => h) (Or.inl ⟨by rfl, ?yk43⟩) hS ?rk43
        case yk43 => (intro w0 _; go_simp; try with_reducible rfl)
        try simp only [yA, yB, yC, Act.put, yD, yE, yF]
        refine wpAnyD_take (i := 3) (v := ?vk44) rfl rfl (by kernel_rfl) (by kernel_rfl) (by kernel_rfl) (by kernel_rfl) (fun _ _ _ h => h) (Or.inl ⟨by rfl, ?yk44⟩) hS ?rk44
        case yk44 => (intro w0 hS0; (try simp only [] at hS0); obtain ⟨hS0_0, hS0_1⟩ := hS0; obtain ⟨t0, t1, t2, t3, t4⟩ := hS0_0.c5; go_simp; try with_reducible rfl)
        try simp only [yA, yB, yC, Act.put, yD, yE, yF]
        refine wpAnyD_take (i := 4) (v := ?vk45) rfl rfl (by kernel_rfl) (by kernel_rfl) (by kernel_rfl) (by kernel_rfl) (fun _ _ _ h => h) (Or.inl ⟨by rfl, ?yk45⟩) hS ?rk45
        case yk45 => (intro w0 _; go_simp; try with_reducible rfl)
        try simp only [yA, yB, yC, Act.put, yD, yE, yF]
        refine wpAnyD_take (i := 5) (v := ?vk46) rfl rfl (by kernel_rfl) (by kernel_rfl) (by kernel_rfl) (by kernel_rfl) (fun _ _ _ h => h) (Or.inl ⟨by rfl, ?yk46⟩) hS ?rk46
        case yk46 => (intro w0 _; go_simp; try with_reducible rfl)
        try simp only [yA, yB, yC, Act.put, yD, yE, yF]
        refine wpAnyD_take (i := 6) (v := ?vk47) rfl rfl (by kernel_rfl) (by kernel_rfl) (by kernel_rfl) (by kernel_rfl) (fun _ _ _ h => h) (Or.inl ⟨by rfl, ?yk47⟩) hS ?rk47
        case yk47 => (intro w0 hS0; (try simp only [] at hS0); obtain ⟨hS0_0, hS0_1⟩ := hS0; have q : w0.cell? ⟨b7, 32 + kr, none⟩ = some (.int .i64 (W'.rg kr)) := WAt.rg hS0_1 HKR.out; go_simp; try with_reducible rfl)
        try simp only [yA, yB, yC, Act.put, yD, yE, yF]
        refine wpAnyD_take (i := 7) (v := ?vk48) rfl rfl (by kernel_rfl) (by kernel_rfl) (by kernel_rfl) (by kernel_rfl) (fun _ _ _ h => h) (Or.inl ⟨by rfl, ?yk48⟩) hS ?rk48
        case yk48 => (intro w0 _; go_simp; try with_reducible rfl)
        try simp only [yA, yB, yC, Act.put, yD, yE, yF]
        refine wpAnyD_take (i := 8) (v := ?vk49) rfl rfl (by kernel_rfl) (by kernel_rfl) (by kernel_rfl) (by kernel_rfl) (fun _ _ _ h => h) (Or.inl ⟨by rfl, ?yk49⟩) hS ?rk49
        case yk49 => (intro w0 hS0; (try simp only [] at hS0); obtain ⟨hS0_0, hS0_1⟩ := hS0; obtain ⟨t0, t1, t2, t3, t4⟩ := hS0_0.c5; go_simp; try with_reducible rfl)
        try simp only [yA, yB, yC, Act.put, yD, yE, yF]
        refine wpAnyD_take (i := 9) (v := ?vk410) rfl rfl (by kernel_rfl) (by kernel_rfl) (by kernel_rfl) (by kernel_rfl) (fun _ _ _ h => h) (Or.inl ⟨by rfl, ?yk410⟩) hS ?rk410
        case yk410 => (intro w0 _; go_simp; try with_reducible rfl)
        try simp only [yA, yB, yC, Act.put, yD, yE, yF]
        refine wpAnyD_take (i := 10) (v := ?vk411) rfl rfl (by kernel_rfl) (by kernel_rfl) (by kernel_rfl) (by kernel_rfl) (fun _ _ _ h => h) (Or.inl ⟨by rfl, ?yk411⟩) hS ?rk411
        case yk411 => (intro w0 _; go_simp; try with_reducible rfl)
        try simp only [yA, yB, yC, Act.put, yD, yE, yF]
        refine wpAnyD_take (i := 11) (v := ?vk412) rfl rfl (by kernel_rfl) (by kernel_rfl) (by kernel_rfl) (by kernel_rfl) (fun _ _ _ h => h) (Or.inl ⟨by rfl, ?yk412⟩) hS ?rk412
        case yk412 => (intro w0 hS0; (try simp only [] at hS0); obtain ⟨hS0_0, hS0_1⟩ := hS0; have q : w0.cell? ⟨b7, 32 + ko, none⟩ = some (.int .i64 (W'.rg ko)) := WAt.rg hS0_1 HKO.out; go_simp; try with_reducible rfl)
        try simp only [yA, yB, yC, Act.put, yD, yE, yF]
        refine wpAnyD_take (i := 12) (v := ?vk413) rfl rfl (by kernel_rfl) (by kernel_rfl) (by kernel_rfl) (by kernel_rfl) (fun _ _ _ h => h) (Or.inl ⟨by rfl, ?yk413⟩) hS ?rk413
        case yk413 => (intro w0 _; go_simp; try with_reducible rfl)
        try simp only [yA, yB, yC, Act.put, yD, yE, yF]
        refine wpAnyD_ready (rs := [13]) (by kernel_rfl) (by simp) (AllReadyD.cons (i := 13) rfl (fun K hK => ?_) AllReadyD.nil)
        go_simp
        refine hK.out _ _ (fun _ => hS) (fun hS' => ?_)
        replace hS := hS' (by decide)
        clear hS'
        clear hK K
        try simp only [yA, yB, yC, Act.put, yD, yE, yF]
        refine wpAnyD_take (i := 14) (v := ?vk415) rfl rfl (by kernel_rfl) (by kernel_rfl) (by kernel_rfl) (by kernel_rfl) (fun _ _ _ h => h) (Or.inl ⟨by rfl, ?yk415⟩) hS ?rk415
        case yk415 => (intro w0 _; go_simp; try with_reducible rfl)
        try simp only [yA, yB, yC, Act.put, yD, yE, yF]
        refine wpAnyD_ready (rs := [15]) (by kernel_rfl) (by simp) (AllReadyD.cons (i := 15) rfl (fun K hK => ?_) AllReadyD.nil)
        have q : W1.cell? ⟨b7, 32 + kr, none⟩ = some (.int .i64 (W'.rg kr)) := WAt.rg HX.out.at_ HKR.out
        have f : W1.frozen? ⟨b7, 32 + kr, none⟩ = false := Blk.free HX.out.at_ (32 + kr)
        go_simp
        refine shut_gen2 hK (F := fun w' => As (Blk w' tb 67 #[.int .i64 4, .int .i64 (kc : Int), .int .i64 (kr : Int), .int .i64 (ko : Int), .int .i64 xn] ∧ PW w w' b7 b9 { W' with rg := updN W'.rg kr (IntKind.i64.wrap (W'.rg kr + W'.rg ko)) })) (fun h => absurd rfl h) (⟨by first | exact ⟨Blk.far HT.out (a := ⟨b7, 32 + kr, none⟩) HNB.out _ |>.drew, (HX.out.setRg HKR.out _).drew⟩ | exact ⟨Blk.far HT.out.drew (a := ⟨b7, 32 + kr, none⟩) HNB.out _, HX.out.drew.setRg HKR.out _⟩⟩) (fun w2 HF => ?_)
        clear hK K
        try simp only [yA, yB, yC, Act.put, yD, yE, yF]
        refine wpAnyD_done (by kernel_rfl) ?_ _
        refine NoPanic.normal ?_
        try simp only [Exit.then]
        replace HT := As.mk HF.out.1
        replace HX := As.mk HF.out.2
        clear HF
        obtain ⟨t0, t1, t2, t3, t4⟩ := (HT.out).c5
        go_upto_region 31 with fail
        clear t0 t1 t2 t3 t4
        have HQ2 := As.mk (HQ.out.trans (show _ = partP r { W' with rg := updN W'.rg kr (IntKind.i64.wrap (W'.rg kr + W'.rg ko)) } from by simp [partP, opP]))
        clear HQ
        go_wp2_with fail
        go_roundw
        case measure => have := HLEN.out; simp [intOf, Pg.flat] at *; omega
        case rel => exact ⟨k + 1, by go_num, ⟨r, _, HD1.out, HOR.out, HQ2.out, by have := HLEN.out; simp only [Pg.flat, List.length_cons] at this; omega, HK1.out, by omega, HX.out⟩⟩
      · clear hxc0 hxc1
        obtain ⟨t0, t1, t2, t3, t4⟩ := (HT.out).c5
        go_upto_region 16 with fail
        clear t0 t1 t2 t3 t4
        refine wp_region_noPanic ?_
        refine wp_region_D (S := fun w' => Blk w' tb 67 #[.int .i64 5, .int .i64 (kc : Int), .int .i64 (kr : Int), .int .i64 (ko : Int), .int .i64 xn] ∧ WAt w' b7 W') 15 (by kernel_rfl) (⟨HT.out.drew, Blk.drew HX.out.at_⟩) (fun hS => ?_)
        refine wpAnyD_take (i := 0) (v := ?vk51) rfl rfl (by kernel_rfl) (by kernel_rfl) (by kernel_rfl) (by kernel_rfl) (fun _ _ _ h => h) (Or.inl ⟨by rfl, ?yk51⟩) hS ?rk51
        case yk51 => (intro w0 _; go_simp; try with_reducible rfl)
        try simp only [yA, yB, yC, Act.put, yD, yE, yF]
        refine wpAnyD_take (i := 1) (v := ?vk52) rfl rfl (by kernel_rfl) (by kernel_rfl) (by kernel_rfl) (by kernel_rfl) (fun _ _ _ h => h) (Or.inl ⟨by rfl, ?yk52⟩) hS ?rk52
        case yk52 => (intro w0 hS0; (try simp only [] at hS0); obtain ⟨hS0_0, hS0_1⟩ := hS0; obtain ⟨t0, t1, t2, t3, t4⟩ := hS0_0.c5; go_simp; try with_reducible rfl)
        try simp only [yA, yB, yC, Act.put, yD, yE, yF]
        refine wpAnyD_take (i := 2) (v := ?vk53) rfl rfl (by kernel_rfl) (by kernel_rfl) (by kernel_rfl) (by kernel_rfl) (fun _ _ _ h => h) (Or.inl ⟨by rfl, ?yk53⟩) hS ?rk53
        case yk53 => (intro w0 _; go_simp; try with_reducible rfl)
        try simp only [yA, yB, yC, Act.put, yD, yE, yF]
        refine wpAnyD_take (i := 3) (v := ?vk54) rfl rfl (by kernel_rfl) (by kernel_rfl) (by kernel_rfl) (by kernel_rfl) (fun _ _ _ h => h) (Or.inl ⟨by rfl, ?yk54⟩) hS ?rk54
        case yk54 => (intro w0 hS0; (try simp only [] at hS0); obtain ⟨hS0_0, hS0_1⟩ := hS0; obtain ⟨t0, t1, t2, t3, t4⟩ := hS0_0.c5; go_simp; try with_reducible rfl)
        try simp only [yA, yB, yC, Act.put, yD, yE, yF]
        refine wpAnyD_take (i := 4) (v := ?vk55) rfl rfl (by kernel_rfl) (by kernel_rfl) (by kernel_rfl) (by kernel_rfl) (fun _ _ _ h => h) (Or.inl ⟨by rfl, ?yk55⟩) hS ?rk55
        case yk55 => (intro w0 _; go_simp; try with_reducible rfl)
        try simp only [yA, yB, yC, Act.put, yD, yE, yF]
        refine wpAnyD_take (i := 5) (v := ?vk56) rfl rfl (by kernel_rfl) (by kernel_rfl) (by kernel_rfl) (by kernel_rfl) (fun _ _ _ h => h) (Or.inl ⟨by rfl, ?yk56⟩) hS ?rk56
        case yk56 => (intro w0 _; go_simp; try with_reducible rfl)
        try simp only [yA, yB, yC, Act.put, yD, yE, yF]
        refine wpAnyD_take (i := 6) (v := ?vk57) rfl rfl (by kernel_rfl) (by kernel_rfl) (by kernel_rfl) (by kernel_rfl) (fun _ _ _ h => h) (Or.inl ⟨by rfl, ?yk57⟩) hS ?rk57
        case yk57 => (intro w0 hS0; (try simp only [] at hS0); obtain ⟨hS0_0, hS0_1⟩ := hS0; have q : w0.cell? ⟨b7, 32 + kr, none⟩ = some (.int .i64 (W'.rg kr)) := WAt.rg hS0_1 HKR.out; go_simp; try with_reducible rfl)
        try simp only [yA, yB, yC, Act.put, yD, yE, yF]
        refine wpAnyD_take (i := 7) (v := ?vk58) rfl rfl (by kernel_rfl) (by kernel_rfl) (by kernel_rfl) (by kernel_rfl) (fun _ _ _ h => h) (Or.inl ⟨by rfl, ?yk58⟩) hS ?rk58
        case yk58 => (intro w0 _; go_simp; try with_reducible rfl)
        try simp only [yA, yB, yC, Act.put, yD, yE, yF]
        refine wpAnyD_take (i := 8) (v := ?vk59) rfl rfl (by kernel_rfl) (by kernel_rfl) (by kernel_rfl) (by kernel_rfl) (fun _ _ _ h => h) (Or.inl ⟨by rfl, ?yk59⟩) hS ?rk59
        case yk59 => (intro w0 hS0; (try simp only [] at hS0); obtain ⟨hS0_0, hS0_1⟩ := hS0; obtain ⟨t0, t1, t2, t3, t4⟩ := hS0_0.c5; go_simp; try with_reducible rfl)
        try simp only [yA, yB, yC, Act.put, yD, yE, yF]
        refine wpAnyD_take (i := 9) (v := ?vk510) rfl rfl (by kernel_rfl) (by kernel_rfl) (by kernel_rfl) (by kernel_rfl) (fun _ _ _ h => h) (Or.inl ⟨by rfl, ?yk510⟩) hS ?rk510
        case yk510 => (intro w0 _; go_simp; try with_reducible rfl)
        try simp only [yA, yB, yC, Act.put, yD, yE, yF]
        refine wpAnyD_take (i := 10) (v := ?vk511) rfl rfl (by kernel_rfl) (by kernel_rfl) (by kernel_rfl) (by kernel_rfl) (fun _ _ _ h => h) (Or.inl ⟨by rfl, ?yk511⟩) hS ?rk511
        case yk511 => (intro w0 _; go_simp; try with_reducible rfl)
        try simp only [yA, yB, yC, Act.put, yD, yE, yF]
        refine wpAnyD_take (i := 11) (v := ?vk512) rfl rfl (by kernel_rfl) (by kernel_rfl) (by kernel_rfl) (by kernel_rfl) (fun _ _ _ h => h) (Or.inl ⟨by rfl, ?yk512⟩) hS ?rk512
        case yk512 => (intro w0 hS0; (try simp only [] at hS0); obtain ⟨hS0_0, hS0_1⟩ := hS0; have q : w0.cell? ⟨b7, 32 + ko, none⟩ = some (.int .i64 (W'.rg ko)) := WAt.rg hS0_1 HKO.out; go_simp; try with_reducible rfl)
        try simp only [yA, yB, yC, Act.put, yD, yE, yF]
        refine wpAnyD_take (i := 12) (v := ?vk513) rfl rfl (by kernel_rfl) (by kernel_rfl) (by kernel_rfl) (by kernel_rfl) (fun _ _ _ h => h) (Or.inl ⟨by rfl, ?yk513⟩) hS ?rk513
        case yk513 => (intro w0 _; go_simp; try with_reducible rfl)
        try simp only [yA, yB, yC, Act.put, yD, yE, yF]
        refine wpAnyD_ready (rs := [13]) (by kernel_rfl) (by simp) (AllReadyD.cons (i := 13) rfl (fun K hK => ?_) AllReadyD.nil)
        go_simp
        refine hK.out _ _ (fun _ => hS) (fun hS' => ?_)
        replace hS := hS' (by decide)
        clear hS'
        clear hK K
        try simp only [yA, yB, yC, Act.put, yD, yE, yF]
        refine wpAnyD_take (i := 14) (v := ?vk515) rfl rfl (by kernel_rfl) (by kernel_rfl) (by kernel_rfl) (by kernel_rfl) (fun _ _ _ h => h) (Or.inl ⟨by rfl, ?yk515⟩) hS ?rk515
        case yk515 => (intro w0 _; go_simp; try with_reducible rfl)
        try simp only [yA, yB, yC, Act.put, yD, yE, yF]
        refine wpAnyD_ready (rs := [15]) (by kernel_rfl) (by simp) (AllReadyD.cons (i := 15) rfl (fun K hK => ?_) AllReadyD.nil)
        have q : W1.cell? ⟨b7, 32 + kr, none⟩ = some (.int .i64 (W'.rg kr)) := WAt.rg HX.out.at_ HKR.out
        have f : W1.frozen? ⟨b7, 32 + kr, none⟩ = false := Blk.free HX.out.at_ (32 + kr)
        go_simp
        refine shut_gen2 hK (F := fun w' => As (Blk w' tb 67 #[.int .i64 5, .int .i64 (kc : Int), .int .i64 (kr : Int), .int .i64 (ko : Int), .int .i64 xn] ∧ PW w w' b7 b9 { W' with rg := updN W'.rg kr (IntKind.i64.wrap (W'.rg kr - W'.rg ko)) })) (fun h => absurd rfl h) (⟨by first | exact ⟨Blk.far HT.out (a := ⟨b7, 32 + kr, none⟩) HNB.out _ |>.drew, (HX.out.setRg HKR.out _).drew⟩ | exact ⟨Blk.far HT.out.drew (a := ⟨b7, 32 + kr, none⟩) HNB.out _, HX.out.drew.setRg HKR.out _⟩⟩) (fun w2 HF => ?_)
        clear hK K
        try simp only [yA, yB, yC, Act.put, yD, yE, yF]
        refine wpAnyD_done (by kernel_rfl) ?_ _
        refine NoPanic.normal ?_
        try simp only [Exit.then]
        replace HT := As.mk HF.out.1
        replace HX := As.mk HF.out.2
        clear HF
        obtain ⟨t0, t1, t2, t3, t4⟩ := (HT.out).c5
        go_upto_region 31 with fail
        clear t0 t1 t2 t3 t4
        have HQ2 := As.mk (HQ.out.trans (show _ = partP r { W' with rg := updN W'.rg kr (IntKind.i64.wrap (W'.rg kr - W'.rg ko)) } from by simp [partP, opP]))
        clear HQ
        go_wp2_with fail
        go_roundw
        case measure => have := HLEN.out; simp [intOf, Pg.flat] at *; omega
        case rel => exact ⟨k + 1, by go_num, ⟨r, _, HD1.out, HOR.out, HQ2.out, by have := HLEN.out; simp only [Pg.flat, List.length_cons] at this; omega, HK1.out, by omega, HX.out⟩⟩
      · clear hxc0 hxc1
        obtain ⟨t0, t1, t2, t3, t4⟩ := (HT.out).c5
        have q := WAt.rg HX.out.at_ HKR.out
        rcases (by cases (W'.rg kr == 0) <;> simp : (W'.rg kr == 0) = true ∨ (W'.rg kr == 0) = false) with hz | hz
        · have hz2 : W'.rg kr = 0 := by simpa using hz
          rw [hz2] at q
          have HQ2 := As.mk (HQ.out.trans (show _ = ((3 : Int), W') from by simp [partP, opP, hz2]))
          clear HQ
          go_upto_region 18 with fail
          clear t0 t1 t2 t3 t4
          refine wp_region_noPanic ?_
          refine wp_region_held_drew (S := fun w' => PW w w' b7 b9 W' ∧ WAt w' b7 W') (by kernel_rfl) (⟨HX.out.drew, Blk.drew HX.out.at_⟩) (fun hS => ?_)
          refine wpAnyH_take (i := 1) (v := ?vw1) rfl (by kernel_rfl) (by kernel_rfl) (by kernel_rfl) (fun _ _ _ h => h) (Or.inl ⟨by rfl, ?yw1⟩) hS ?rw1
          case yw1 => (intro w0 _; go_simp; try with_reducible rfl)
          try simp only [yA, yB, yC, Act.put, yD, yE, yF]
          refine wpAnyH_ready (rs := [0]) (by kernel_rfl) (by simp) (AllReadyH.cons (i := 0) rfl (fun K hK => ?_) AllReadyH.nil)
          refine wp_load_row 47 _ rfl b7 rfl 47 (wC W') _ _ hS.2 Try.underlying47 rfl (sizeWC _) ?_
          refine hK.out _ _ (hS) (fun hS => ?_)
          clear hK K
          try simp only [yA, yB, yC, Act.put, yD, yE, yF]
          refine wpAnyH_ready (rs := [2]) (by kernel_rfl) (by simp) (AllReadyH.cons (i := 2) rfl (fun K hK => ?_) AllReadyH.nil)
          obtain ⟨old, hz1, hz2⟩ := PW.z hS.1
          refine wp_store_row 47 _ _ rfl b9 (wC W') rfl rfl 47 old hz1 (sizeWC _) (hz2.trans (wC_size _).symm) (wC_one _) ?_
          refine shut_gen hK (F := fun w' => As (Blk w' b9 47 (wC W') ∧ w.grownBy w' none)) (⟨hS.1.rowZ _, Blk.setRow_far hS.2 hS.1.ne _⟩) (⟨PW.ret hS.1 _⟩) (fun w9 hS HF => ?_)
          clear hK K
          try simp only [yA, yB, yC, Act.put, yD, yE, yF]
          refine wpAnyH_done (by kernel_rfl) ?_ _
          refine NoPanic.normal ?_
          try simp only [Exit.then]
          go_wp2_with fail
          refine bodyPost_ret (results_tmp_row (show Try.f31.results = #[.tmp 8, .cell 9 47] by kernel_rfl) _ _ b9 _ (wC W') (0, 0) _ rfl HF.out.1 Try.underlying47 rfl (sizeWC _)) rfl ⟨?_, HF.out.2⟩
          rw [HQ2.out]
          rfl
        · have hz2 : ¬ W'.rg kr = 0 := by simpa using hz
          go_upto_region 31 with fail
          clear t0 t1 t2 t3 t4
          have HQ2 := As.mk (HQ.out.trans (show _ = partP r W' from by simp [partP, opP, hz2]))
          clear HQ
          go_wp2_with fail
          go_roundw
          case measure => have := HLEN.out; simp [intOf, Pg.flat] at *; omega
          case rel => exact ⟨k + 1, by go_num, ⟨r, _, HD1.out, HOR.out, HQ2.out, by have := HLEN.out; simp only [Pg.flat, List.length_cons] at this; omega, HK1.out, by omega, HX.out⟩⟩
      · clear hxc0 hxc1
        obtain ⟨t0, t1, t2, t3, t4⟩ := (HT.out).c5
        have HQ2 := As.mk (HQ.out.trans (show _ = ((3 : Int), W') from by exact part7 _ _ _ _ _ _))
        clear HQ
        go_upto_region 18 with fail
        clear t0 t1 t2 t3 t4
        refine wp_region_noPanic ?_
        refine wp_region_held_drew (S := fun w' => PW w w' b7 b9 W' ∧ WAt w' b7 W') (by kernel_rfl) (⟨HX.out.drew, Blk.drew HX.out.at_⟩) (fun hS => ?_)
        refine wpAnyH_take (i := 1) (v := ?vv1) rfl (by kernel_rfl) (by kernel_rfl) (by kernel_rfl) (fun _ _ _ h => h) (Or.inl ⟨by rfl, ?yv1⟩) hS ?rv1
        case yv1 => (intro w0 _; go_simp; try with_reducible rfl)
        try simp only [yA, yB, yC, Act.put, yD, yE, yF]
        refine wpAnyH_ready (rs := [0]) (by kernel_rfl) (by simp) (AllReadyH.cons (i := 0) rfl (fun K hK => ?_) AllReadyH.nil)
        refine wp_load_row 47 _ rfl b7 rfl 47 (wC W') _ _ hS.2 Try.underlying47 rfl (sizeWC _) ?_
        refine hK.out _ _ (hS) (fun hS => ?_)
        clear hK K
        try simp only [yA, yB, yC, Act.put, yD, yE, yF]
        refine wpAnyH_ready (rs := [2]) (by kernel_rfl) (by simp) (AllReadyH.cons (i := 2) rfl (fun K hK => ?_) AllReadyH.nil)
        obtain ⟨old, hz1, hz2⟩ := PW.z hS.1
        refine wp_store_row 47 _ _ rfl b9 (wC W') rfl rfl 47 old hz1 (sizeWC _) (hz2.trans (wC_size _).symm) (wC_one _) ?_
        refine shut_gen hK (F := fun w' => As (Blk w' b9 47 (wC W') ∧ w.grownBy w' none)) (⟨hS.1.rowZ _, Blk.setRow_far hS.2 hS.1.ne _⟩) (⟨PW.ret hS.1 _⟩) (fun w9 hS HF => ?_)
        clear hK K
        try simp only [yA, yB, yC, Act.put, yD, yE, yF]
        refine wpAnyH_done (by kernel_rfl) ?_ _
        refine NoPanic.normal ?_
        try simp only [Exit.then]
        go_wp2_with fail
        refine bodyPost_ret (results_tmp_row (show Try.f31.results = #[.tmp 8, .cell 9 47] by kernel_rfl) _ _ b9 _ (wC W') (0, 0) _ rfl HF.out.1 Try.underlying47 rfl (sizeWC _)) rfl ⟨?_, HF.out.2⟩
        rw [HQ2.out]
        rfl
      · clear hxc0 hxc1
        obtain ⟨t0, t1, t2, t3, t4⟩ := (HT.out).c5
        have HQ2 := As.mk (HQ.out.trans (show _ = ((4 : Int), W') from by simp [partP, opP]))
        clear HQ
        go_upto_region 20 with fail
        clear t0 t1 t2 t3 t4
        refine wp_region_noPanic ?_
        refine wp_region_held_drew (S := fun w' => PW w w' b7 b9 W' ∧ WAt w' b7 W') (by kernel_rfl) (⟨HX.out.drew, Blk.drew HX.out.at_⟩) (fun hS => ?_)
        refine wpAnyH_take (i := 1) (v := ?vu1) rfl (by kernel_rfl) (by kernel_rfl) (by kernel_rfl) (fun _ _ _ h => h) (Or.inl ⟨by rfl, ?yu1⟩) hS ?ru1
        case yu1 => (intro w0 _; go_simp; try with_reducible rfl)
        try simp only [yA, yB, yC, Act.put, yD, yE, yF]
        refine wpAnyH_ready (rs := [0]) (by kernel_rfl) (by simp) (AllReadyH.cons (i := 0) rfl (fun K hK => ?_) AllReadyH.nil)
        refine wp_load_row 47 _ rfl b7 rfl 47 (wC W') _ _ hS.2 Try.underlying47 rfl (sizeWC _) ?_
        refine hK.out _ _ (hS) (fun hS => ?_)
        clear hK K
        try simp only [yA, yB, yC, Act.put, yD, yE, yF]
        refine wpAnyH_ready (rs := [2]) (by kernel_rfl) (by simp) (AllReadyH.cons (i := 2) rfl (fun K hK => ?_) AllReadyH.nil)
        obtain ⟨old, hz1, hz2⟩ := PW.z hS.1
        refine wp_store_row 47 _ _ rfl b9 (wC W') rfl rfl 47 old hz1 (sizeWC _) (hz2.trans (wC_size _).symm) (wC_one _) ?_
        refine shut_gen hK (F := fun w' => As (Blk w' b9 47 (wC W') ∧ w.grownBy w' none)) (⟨hS.1.rowZ _, Blk.setRow_far hS.2 hS.1.ne _⟩) (⟨PW.ret hS.1 _⟩) (fun w9 hS HF => ?_)
        clear hK K
        try simp only [yA, yB, yC, Act.put, yD, yE, yF]
        refine wpAnyH_done (by kernel_rfl) ?_ _
        refine NoPanic.normal ?_
        try simp only [Exit.then]
        go_wp2_with fail
        refine bodyPost_ret (results_tmp_row (show Try.f31.results = #[.tmp 8, .cell 9 47] by kernel_rfl) _ _ b9 _ (wC W') (0, 0) _ rfl HF.out.1 Try.underlying47 rfl (sizeWC _)) rfl ⟨?_, HF.out.2⟩
        rw [HQ2.out]
        rfl
      · clear hxc0 hxc1
        obtain ⟨t0, t1, t2, t3, t4⟩ := (HT.out).c5
        go_upto_region 31 with fail
        clear t0 t1 t2 t3 t4
        have HQ2 := As.mk (HQ.out.trans (show _ = partP r W' from by simp [partP, opP]))
        clear HQ
        go_wp2_with fail
        go_roundw
        case measure => have := HLEN.out; simp [intOf, Pg.flat] at *; omega
        case rel => exact ⟨k + 1, by go_num, ⟨r, _, HD1.out, HOR.out, HQ2.out, by have := HLEN.out; simp only [Pg.flat, List.length_cons] at this; omega, HK1.out, by omega, HX.out⟩⟩
    | ei x y z A B r =>
      obtain ⟨⟨hkx, hky, hkz⟩, hd4, hoA, hoB, hor⟩ := h2
      have h1' : l.drop k = x :: (A.flat ++ y :: (B.flat ++ z :: (r.flat ++ T))) := by rw [h1]; simp [Pg.flat]
      obtain ⟨hlt, hx, hd1⟩ := lt_of_drop h1'
      obtain ⟨_, p2, p3⟩ := pFind_at HP.out h1' hkx hoA hoB hky hkz
      have hm : mt 0 (-1) (k + 1) (l.drop (k + 1)) = (((k + 1 + A.flat.length : Nat) : Int), ((k + 1 + A.flat.length + 1 + B.flat.length : Nat) : Int), true) := by rw [hd1]; exact mt_or hoA hoB hky hkz
      have HNO := As.mk (show k + 1 + A.flat.length = k + 1 + A.flat.length from rfl)
      generalize hno : k + 1 + A.flat.length = no at hm p2 p3
      generalize hen : no + 1 + B.flat.length = en at hm p3
      obtain ⟨hnl, _, hdB⟩ := lt_of_drop p2
      obtain ⟨hel, _, hdr⟩ := lt_of_drop p3
      have HM := As.mk hm
      have HDA := As.mk hd1
      have HDB := As.mk hdB
      have HDR := As.mk hdr
      have HOA := As.mk hoA
      have HOB := As.mk hoB
      have HOR := As.mk hor
      have HNOE := As.mk hno
      have HEN := As.mk (show en = k + 1 + A.flat.length + 1 + B.flat.length by omega)
      have HENL := As.mk (show en + 1 ≤ l.length by omega)
      have HLEN := As.mk h4
      have HQ := As.mk h3
      have HX := As.mk h6
      have hA0 : A.flat.length < N := by have := HTO.out; have := HN.out; simp only [Pg.flat, List.length_cons, List.length_append] at h4; omega
      have hB0 : B.flat.length < N := by have := HTO.out; have := HN.out; simp only [Pg.flat, List.length_cons, List.length_append] at h4; omega
      have hto2 : (k : Int) < (tt : Int) := by simp only [Pg.flat, List.length_cons, List.length_append] at h4; omega
      have hk32 : k ≤ 32 := by omega
      have hno32 : no ≤ 32 := by omega
      have hen32 : en ≤ 32 := by omega
      have hk0 : (0 : Int) ≤ (k : Int) := by omega
      have hb := (pRight_all HP.out).2.1 x (List.mem_of_getElem? hx)
      obtain ⟨⟨hxk0, hxk1⟩, ⟨hxc0, hxc1⟩, ⟨hxr0, hxr1⟩, hxo0, hxo1⟩ := opRight_bd hb
      obtain ⟨bb, oo, cs, hA, hE, hcs, hcell⟩ := HL.out.at_ k x hx
      subst hA
      obtain rfl := hE
      have c0 : wr.cell? ⟨bb, oo + k * 5, none⟩ = _ := HX.out.gr.cell (hcell 0 _ rfl) (by simp)
      have c1 := HX.out.gr.cell (hcell 1 _ rfl) (by simp)
      have c2 := HX.out.gr.cell (hcell 2 _ rfl) (by simp)
      have c3 := HX.out.gr.cell (hcell 3 _ rfl) (by simp)
      have c4 := HX.out.gr.cell (hcell 4 _ rfl) (by simp)
      clear hcell hcs hm hd1 hdB hdr hoA hoB hor h1 h1' h3 h4 h6 p2 p3 hx hb
      obtain ⟨xk, xc, xr, xo, xn⟩ := x
      dsimp only at *
      subst hkx
      go_upto_region 22 with fail
      clear c0 c1 c2 c3 c4
      replace HX := As.mk (HX.out.grown (gr_alloc (gr_refl wr none) (.cells #[.int .i64 10, .int .i64 xc, .int .i64 xr, .int .i64 xo, .int .i64 xn] 67)))
      generalize wr.alloc (.cells #[.int .i64 10, .int .i64 xc, .int .i64 xr, .int .i64 xo, .int .i64 xn] 67) = W1 at *
      go_wp2_with fail
      refine (match_c _ l k W1 (HL.out.below HX.out.gr (fun _ _ h => h)) (by omega) (by omega) _ HM.out).mono ?_
      rintro e w1 ⟨rfl, rfl⟩
      dsimp only
      go_wp2_with (first | (refine wpList_load_row rfl 47 _ rfl b7 rfl 47 (wC W') _ _ HX.out.at_ Try.underlying47 rfl (sizeWC _) ?_))
      refine (IH.out A (d + 1) _ (k + 1) W' _ hA0 HDA.out HOA.out (by omega) (HL.out.below HX.out.gr (fun _ _ h => h)) _ _ (by omega) (by have := HNOE.out; omega)).mono ?_
      rintro e w3 ⟨rfl, hg3⟩
      replace HX := As.mk (HX.out.grown hg3)
      clear hg3
      obtain ⟨ph, X, hpa⟩ : ∃ ph X, partP A W' = (ph, X) := ⟨_, _, rfl⟩
      rw [hpa]
      dsimp only
      have HPA := As.mk hpa
      clear hpa
      go_upto_region 24 with (first | (refine wpList_store_new' w3 rfl 47 _ _ rfl Try.zeroCells47 (wC X) rfl rfl (sizeWC _) ((show Try.zeroCells47.size = 88 by kernel_rfl).trans (wC_size _).symm) (wC_one _) ?_))
      have HB16 := As.mk (Blk.new w3 47 (wC X))
      have HN167 := As.mk (show w3.heap.size ≠ b7 from fun e => by have := Blk.lt HX.out.at_; omega)
      have HN169 := As.mk (show w3.heap.size ≠ b9 from fun e => by obtain ⟨_, hz, _⟩ := HX.out.z; have := hz.lt; omega)
      have HL16 := As.mk (show w.heap.size ≤ w3.heap.size from HX.out.gr.size)
      replace HX := As.mk (HX.out.grown (gr_alloc (gr_refl w3 none) (.cells (wC X) 47)))
      generalize w3.alloc (.cells (wC X) 47) = w4 at *
      generalize w3.heap.size = b16 at *
      by_cases h3 : ph = 3
      · subst h3
        go_upto_region 26 with (first | (refine wpList_load_row rfl 47 _ rfl b7 rfl 47 (wC W') _ _ HX.out.at_ Try.underlying47 rfl (sizeWC _) ?_) | (refine wpList_store_new' w4 rfl 47 _ _ rfl Try.zeroCells47 (wC W') rfl rfl (sizeWC _) ((show Try.zeroCells47.size = 88 by kernel_rfl).trans (wC_size _).symm) (wC_one _) ?_))
        have HB17 := As.mk (Blk.new w4 47 (wC W'))
        have HN1716 := As.mk (show b16 ≠ w4.heap.size from fun e => by have := HB16.out.lt; omega)
        have HN177 := As.mk (show b7 ≠ w4.heap.size from fun e => by have := Blk.lt HX.out.at_; omega)
        have HN179 := As.mk (show b9 ≠ w4.heap.size from fun e => by obtain ⟨_, hz, _⟩ := HX.out.z; have := hz.lt; omega)
        have HG17 := As.mk (show w.heap.size ≤ w4.heap.size from HX.out.gr.size)
        replace HX := As.mk (HX.out.grown (gr_alloc (gr_refl w4 none) (.cells (wC W') 47)))
        replace HB16 := As.mk (HB16.out.alloc (.cells (wC W') 47))
        generalize w4.alloc (.cells (wC W') 47) = w5 at *
        generalize w4.heap.size = b17 at *
        go_upto_region 27 with (first | (refine wpList_load_mid rfl 45 _ rfl b16 40 rfl _ _ (WAt.rds HB16.out) Try.underlying45 rfl (sizeRd _) ?_) | (refine wpList_store_mid rfl 45 _ _ rfl b17 40 (rdsC X.rd) rfl rfl (by rw [rdsC_size]; exact WAt.there HB17.out 40 16 (by omega)) (sizeRd' _) (rdsC_one _) ?_))
        replace HB17 := As.mk (WAt.putRds HB17.out X.rd)
        replace HB16 := As.mk (Blk.setCells_far HN1716.out (rdsC X.rd).toList 40 HB16.out)
        replace HX := As.mk (HX.out.cells HN177.out HN179.out HG17.out (rdsC X.rd).toList 40)
        generalize w5.setCells b17 40 (rdsC X.rd).toList = w6 at *
        go_wp2_with (first | (refine wpList_load_row rfl 47 _ rfl b17 rfl 47 (wC { W' with rd := X.rd }) _ _ HB17.out Try.underlying47 rfl (sizeWC _) ?_))
        refine (IH.out B (d + 1) _ (no + 1) { W' with rd := X.rd } _ hB0 HDB.out HOB.out (by omega) (HL.out.below HX.out.gr (fun _ _ h => h)) _ _ (by omega) (by have := HNOE.out; have := HEN.out; omega)).mono ?_
        rintro e w7 ⟨rfl, hg7⟩
        replace HX := As.mk (HX.out.grown hg7)
        replace HB16 := As.mk (HB16.out.grown hg7 (by simp))
        clear hg7 HB17
        obtain ⟨qh, Y, hpb⟩ : ∃ qh Y, partP B { W' with rd := X.rd } = (qh, Y) := ⟨_, _, rfl⟩
        rw [hpb]
        dsimp only
        have HPB := As.mk hpb
        clear hpb
        go_upto_region 28 with (first | (refine wpList_store_row rfl 47 _ _ rfl b16 (wC Y) rfl rfl 47 (wC X) HB16.out (sizeWC _) ((wC_size _).trans (wC_size _).symm) (wC_one _) ?_))
        replace HX := As.mk (HX.out.rowFar (Ne.symm HN167.out) (Ne.symm HN169.out) HL16.out Y)
        replace HB16 := As.mk (HB16.out.setRow (wC Y))
        generalize w7.setRow b16 (wC Y) = w8 at *
        -- behind the first part, or the second
        have HQ2 := As.mk (HQ.out.trans (show _ = (if qh = 0 then partP r Y else (qh, Y)) from by simp [partP, HPA.out, HPB.out]))
        clear HQ
        have HN9 := As.mk (show b16 ≠ b9 from HN169.out)
        by_cases h0 : qh = 0
        · subst h0
          go_upto_region 31 with (first | (refine wpList_load_row rfl 47 _ rfl b16 rfl 47 (wC Y) _ _ HB16.out Try.underlying47 rfl (sizeWC _) ?_) | (refine wpList_store_row rfl 47 _ _ rfl b7 (wC Y) rfl rfl 47 (wC W') HX.out.at_ (sizeWC _) ((wC_size _).trans (wC_size _).symm) (wC_one _) ?_))
          replace HX := As.mk (HX.out.row Y)
          clear HB16
          generalize w8.setRow b7 (wC Y) = w9 at *
          have HQ3 := As.mk (HQ2.out.trans (if_pos rfl))
          clear HQ2
          go_wp2_with fail
          go_roundw
          case measure => have := HLEN.out; simp [intOf, Pg.flat] at *; omega
          case rel => exact ⟨en + 1, by go_num, ⟨r, _, HDR.out, HOR.out, HQ3.out, by have := HLEN.out; simp only [Pg.flat, List.length_cons, List.length_append] at this; have := HEN.out; omega, HENL.out, by have := HEN.out; omega, HX.out⟩⟩
        · have hz : (qh != 0) = true := by simpa using h0
          have HQ3 := As.mk (HQ2.out.trans (if_neg h0))
          clear HQ2
          go_upto_region 29 with fail
          refine wp_region_noPanic ?_
          refine wp_region_held_drew (S := fun w' => PW w w' b7 b9 W' ∧ WAt w' b16 Y) (by kernel_rfl) (⟨HX.out.drew, Blk.drew HB16.out⟩) (fun hS => ?_)
          refine wpAnyH_take (i := 0) (v := ?vp1) rfl (by kernel_rfl) (by kernel_rfl) (by kernel_rfl) (fun _ _ _ h => h) (Or.inl ⟨by rfl, ?yp1⟩) hS ?rp1
          case yp1 => (intro w0 _; go_simp; try with_reducible rfl)
          try simp only [yA, yB, yC, Act.put, yD, yE, yF]
          refine wpAnyH_take (i := 2) (v := ?vp2) rfl (by kernel_rfl) (by kernel_rfl) (by kernel_rfl) (fun _ _ _ h => h) (Or.inl ⟨by rfl, ?yp2⟩) hS ?rp2
          case yp2 => (intro w0 _; go_simp; try with_reducible rfl)
          try simp only [yA, yB, yC, Act.put, yD, yE, yF]
          refine wpAnyH_ready (rs := [1]) (by kernel_rfl) (by simp) (AllReadyH.cons (i := 1) rfl (fun K hK => ?_) AllReadyH.nil)
          refine wp_load_row 47 _ rfl b16 rfl 47 (wC Y) _ _ hS.2 Try.underlying47 rfl (sizeWC _) ?_
          refine hK.out _ _ (hS) (fun hS => ?_)
          clear hK K
          try simp only [yA, yB, yC, Act.put, yD, yE, yF]
          refine wpAnyH_ready (rs := [3]) (by kernel_rfl) (by simp) (AllReadyH.cons (i := 3) rfl (fun K hK => ?_) AllReadyH.nil)
          obtain ⟨old, hz1, hz2⟩ := PW.z hS.1
          refine wp_store_row 47 _ _ rfl b9 (wC Y) rfl rfl 47 old hz1 (sizeWC _) (hz2.trans (wC_size _).symm) (wC_one _) ?_
          refine shut_gen hK (F := fun w' => As (Blk w' b9 47 (wC Y) ∧ w.grownBy w' none)) (⟨hS.1.rowZ _, Blk.setRow_far hS.2 HN9.out _⟩) (⟨PW.ret hS.1 _⟩) (fun w9 hS HF => ?_)
          clear hK K
          try simp only [yA, yB, yC, Act.put, yD, yE, yF]
          refine wpAnyH_done (by kernel_rfl) ?_ _
          refine NoPanic.normal ?_
          try simp only [Exit.then]
          go_wp2_with fail
          refine bodyPost_ret (results_tmp_row (show Try.f31.results = #[.tmp 8, .cell 9 47] by kernel_rfl) _ _ b9 _ (wC Y) (0, 0) _ rfl HF.out.1 Try.underlying47 rfl (sizeWC _)) rfl ⟨?_, HF.out.2⟩
          rw [HQ3.out]
          rfl
      · have h3b : (ph == 3) = false := by simpa using h3
        go_upto_region 28 with fail
        -- behind the first part, or the second
        have HQ2 := As.mk (HQ.out.trans (show _ = (if ph = 0 then partP r X else (ph, X)) from by simp [partP, HPA.out, h3]))
        clear HQ
        have HN9 := As.mk (show b16 ≠ b9 from HN169.out)
        by_cases h0 : ph = 0
        · subst h0
          go_upto_region 31 with (first | (refine wpList_load_row rfl 47 _ rfl b16 rfl 47 (wC X) _ _ HB16.out Try.underlying47 rfl (sizeWC _) ?_) | (refine wpList_store_row rfl 47 _ _ rfl b7 (wC X) rfl rfl 47 (wC W') HX.out.at_ (sizeWC _) ((wC_size _).trans (wC_size _).symm) (wC_one _) ?_))
          replace HX := As.mk (HX.out.row X)
          clear HB16
          generalize w4.setRow b7 (wC X) = w9 at *
          have HQ3 := As.mk (HQ2.out.trans (if_pos rfl))
          clear HQ2
          go_wp2_with fail
          go_roundw
          case measure => have := HLEN.out; simp [intOf, Pg.flat] at *; omega
          case rel => exact ⟨en + 1, by go_num, ⟨r, _, HDR.out, HOR.out, HQ3.out, by have := HLEN.out; simp only [Pg.flat, List.length_cons, List.length_append] at this; have := HEN.out; omega, HENL.out, by have := HEN.out; omega, HX.out⟩⟩
        · have hz : (ph != 0) = true := by simpa using h0
          have HQ3 := As.mk (HQ2.out.trans (if_neg h0))
          clear HQ2
          go_upto_region 29 with fail
          refine wp_region_noPanic ?_
          refine wp_region_held_drew (S := fun w' => PW w w' b7 b9 W' ∧ WAt w' b16 X) (by kernel_rfl) (⟨HX.out.drew, Blk.drew HB16.out⟩) (fun hS => ?_)
          refine wpAnyH_take (i := 0) (v := ?vq1) rfl (by kernel_rfl) (by kernel_rfl) (by kernel_rfl) (fun _ _ _ h => h) (Or.inl ⟨by rfl, ?yq1⟩) hS ?rq1
          case yq1 => (intro w0 _; go_simp; try with_reducible rfl)
          try simp only [yA, yB, yC, Act.put, yD, yE, yF]
          refine wpAnyH_take (i := 2) (v := ?vq2) rfl (by kernel_rfl) (by kernel_rfl) (by kernel_rfl) (fun _ _ _ h => h) (Or.inl ⟨by rfl, ?yq2⟩) hS ?rq2
          case yq2 => (intro w0 _; go_simp; try with_reducible rfl)
          try simp only [yA, yB, yC, Act.put, yD, yE, yF]
          refine wpAnyH_ready (rs := [1]) (by kernel_rfl) (by simp) (AllReadyH.cons (i := 1) rfl (fun K hK => ?_) AllReadyH.nil)
          refine wp_load_row 47 _ rfl b16 rfl 47 (wC X) _ _ hS.2 Try.underlying47 rfl (sizeWC _) ?_
          refine hK.out _ _ (hS) (fun hS => ?_)
          clear hK K
          try simp only [yA, yB, yC, Act.put, yD, yE, yF]
          refine wpAnyH_ready (rs := [3]) (by kernel_rfl) (by simp) (AllReadyH.cons (i := 3) rfl (fun K hK => ?_) AllReadyH.nil)
          obtain ⟨old, hz1, hz2⟩ := PW.z hS.1
          refine wp_store_row 47 _ _ rfl b9 (wC X) rfl rfl 47 old hz1 (sizeWC _) (hz2.trans (wC_size _).symm) (wC_one _) ?_
          refine shut_gen hK (F := fun w' => As (Blk w' b9 47 (wC X) ∧ w.grownBy w' none)) (⟨hS.1.rowZ _, Blk.setRow_far hS.2 HN9.out _⟩) (⟨PW.ret hS.1 _⟩) (fun w9 hS HF => ?_)
          clear hK K
          try simp only [yA, yB, yC, Act.put, yD, yE, yF]
          refine wpAnyH_done (by kernel_rfl) ?_ _
          refine NoPanic.normal ?_
          try simp only [Exit.then]
          go_wp2_with fail
          refine bodyPost_ret (results_tmp_row (show Try.f31.results = #[.tmp 8, .cell 9 47] by kernel_rfl) _ _ b9 _ (wC X) (0, 0) _ rfl HF.out.1 Try.underlying47 rfl (sizeWC _)) rfl ⟨?_, HF.out.2⟩
          rw [HQ3.out]
          rfl
end
end Go.Proofs.Ytgmhopkajopfcaa
