/- A run's step as a whole; how it goes on. (Printed by wip/gen/gen_rw.py.) -/
import Derived.OpenShut
import Derived.Test.YtgmhopkajopfcaaRy
import Derived.Test.YtgmhopkajopfcaaRz
namespace Go.Proofs.Ytgmhopkajopfcaa
open Go.RowKit Go.Maps
set_option linter.unusedVariables false
set_option linter.unusedSimpArgs false
set_option maxRecDepth 100000

def atOf (w : World) (rb : Nat) : Nat := match w.cell? ⟨rb, 2, none⟩ with | some (.int _ n) => n.toNat | _ => 0
theorem atOf_eq {w0 w : World} {B nb rb : Nat} {F : Nat → Prop} {lv_ cv : Value} {l : List POp} {s : RS} {M : Nat} (h : RunW w0 w B nb rb F lv_ cv l s M) : atOf w rb = s.at_ := by
  unfold atOf
  rw [show w.cell? ⟨rb, 2, none⟩ = some (.int .i64 (s.at_ : Int)) from h.blk.cell 2]
  simp
theorem opRight_bd {x : POp} (h : opRight x = true) : (1 ≤ x.k ∧ x.k ≤ 12) ∧ (0 ≤ x.c ∧ x.c ≤ 15) ∧ (0 ≤ x.r ∧ x.r ≤ 7) ∧ (0 ≤ x.o ∧ x.o ≤ 7) := by
  unfold opRight at h
  simp only [Bool.and_eq_true] at h
  exact ⟨inR_true h.1, inR_true h.2.2.1, inR_true h.2.2.2.1, inR_true h.2.2.2.2⟩
theorem last_of {cho : List RCh} (h : cho ≠ []) : ∃ q, cho.getLast? = some q := ⟨_, List.getLast?_eq_some_getLast h⟩
set_option maxHeartbeats 3200000 in
theorem step_c {w0 w : World} {B nb rb : Nat} {F : Nat → Prop} {lv_ cv : Value} {l : List POp} {s : RS} {M : Nat} (h : RunW w0 w B nb rb F lv_ cv l s M) (hat : s.at_ ≤ 1000) (x : POp) (hx : opRight x = true) (hn : K64 x.n) (hK : M < 300000) (hl : s.cho.length ≤ 100) (hch : ∀ q ∈ s.cho, ∃ o e : Nat, q.o = o ∧ q.e = e ∧ o ≤ 1000 ∧ e ≤ 1000) (h11 : x.k = 11 → s.cho ≠ []) :
    Calls Try.prog 27 #[(.pointer (some ⟨rb, 0, none⟩)), opV x] w (SPost w0 w rb (fpR F rb lv_ cv) l M (stepR l x s).1 (stepR l x s).2.1 (stepR l x s).2.2) := by
  obtain ⟨⟨hk1, hk2⟩, ⟨hc1, hc2⟩, ⟨hr1, hr2⟩, ⟨ho1, ho2⟩⟩ := opRight_bd hx
  obtain ⟨k, c, r, o, n⟩ := x
  dsimp only at hk1 hk2 hc1 hc2 hr1 hr2 ho1 ho2 hn h11
  obtain ⟨kc, rfl⟩ : ∃ kc : Nat, c = (kc : Int) := ⟨c.toNat, by omega⟩
  obtain ⟨kr, rfl⟩ : ∃ kr : Nat, r = (kr : Int) := ⟨r.toNat, by omega⟩
  obtain ⟨ko, rfl⟩ : ∃ ko : Nat, o = (ko : Int) := ⟨o.toNat, by omega⟩
  have hk : k = 1 ∨ k = 2 ∨ k = 3 ∨ k = 4 ∨ k = 5 ∨ k = 6 ∨ k = 7 ∨ k = 8 ∨ k = 9 ∨ k = 10 ∨ k = 11 ∨ k = 12 := by omega
  have hlast : ∀ q, s.cho.getLast? = some q → ∃ o e : Nat, q.o = o ∧ q.e = e ∧ o ≤ 1000 ∧ e ≤ 1000 ∧ s.cho = s.cho.dropLast ++ [q] ∧ s.cho.dropLast.length ≤ 100 := fun q hq => by
    obtain ⟨e1, _⟩ := cho_rev hq
    obtain ⟨o, e, g1, g2, g3, g4⟩ := hch q (by rw [e1]; simp)
    exact ⟨o, e, g1, g2, g3, g4, e1, by rw [List.length_dropLast]; omega⟩
  rcases hk with rfl | rfl | rfl | rfl | rfl | rfl | rfl | rfl | rfl | rfl | rfl | rfl
  · cases hv : valF s.rd s.lv (kc : Int) with
    | none =>
      have hh : (s.rd.2 (kc : Int)).isSome = false := by rw [← valF_some s.rd s.lv, hv]; rfl
      have e : stepR l ⟨1, (kc : Int), (kr : Int), (ko : Int), n⟩ s = (1, (kc : Int), s) := by simp [stepR, hv]
      rw [e]
      exact step_ask1 h hat kc kr ko n (by omega) (by omega) (by omega) hn hh
    | some v =>
      have e : stepR l ⟨1, (kc : Int), (kr : Int), (ko : Int), n⟩ s = (0, 0, { s with rg := updN s.rg kr v, at_ := s.at_ + 1 }) := by simp [stepR, hv]
      rw [e]
      exact step_read h hat kc kr ko n (by omega) (by omega) (by omega) hn v hv
  · cases hv : (s.rd.2 (kc : Int)).isSome with
    | false =>
      have e : stepR l ⟨2, (kc : Int), (kr : Int), (ko : Int), n⟩ s = (1, (kc : Int), s) := by simp [stepR, hv]
      rw [e]
      exact step_ask2 h hat kc kr ko n (by omega) (by omega) (by omega) hn hv
    | true =>
      have e : stepR l ⟨2, (kc : Int), (kr : Int), (ko : Int), n⟩ s = (0, 0, { s with lv := wriL s.rd s.lv (kc : Int) (s.rg kr), at_ := s.at_ + 1 }) := by simp [stepR, hv]
      rw [e]
      exact step_write h hat kc kr ko n (by omega) (by omega) (by omega) hn hv hK
  · have e : stepR l ⟨3, (kc : Int), (kr : Int), (ko : Int), n⟩ s = (0, 0, { s with rg := updN s.rg kr n, at_ := s.at_ + 1 }) := by simp [stepR]
    rw [e]
    exact step_set h hat kc kr ko n (by omega) (by omega) (by omega) hn
  · have e : stepR l ⟨4, (kc : Int), (kr : Int), (ko : Int), n⟩ s = (0, 0, { s with rg := updN s.rg kr (IntKind.i64.wrap (s.rg kr + s.rg ko)), at_ := s.at_ + 1 }) := by simp [stepR]
    rw [e]
    exact step_add h hat kc kr ko n (by omega) (by omega) (by omega) hn
  · have e : stepR l ⟨5, (kc : Int), (kr : Int), (ko : Int), n⟩ s = (0, 0, { s with rg := updN s.rg kr (IntKind.i64.wrap (s.rg kr - s.rg ko)), at_ := s.at_ + 1 }) := by simp [stepR]
    rw [e]
    exact step_sub h hat kc kr ko n (by omega) (by omega) (by omega) hn
  · by_cases hz : s.rg kr = 0
    · cases hq : s.cho.getLast? with
      | none =>
        have e : stepR l ⟨6, (kc : Int), (kr : Int), (ko : Int), n⟩ s = (3, 0, s) := by simp [stepR, hz, hq]
        rw [e]
        exact step_waitn h hat kc kr ko n (by omega) (by omega) (by omega) hn hz (List.getLast?_eq_none_iff.1 hq)
      | some q =>
        obtain ⟨o, e, g1, g2, g3, g4, g5, g6⟩ := hlast q hq
        have e : stepR l ⟨6, (kc : Int), (kr : Int), (ko : Int), n⟩ s = (0, 0, { s with rg := q.r, cho := s.cho.dropLast, lv := undL s.lv, at_ := o + 1 }) := by simp [stepR, hz, hq, g1]
        rw [e]
        exact step_backn h hat kc kr ko n (by omega) (by omega) (by omega) hn hz s.cho.dropLast q g5 o g1 g3 g6
    · have e : stepR l ⟨6, (kc : Int), (kr : Int), (ko : Int), n⟩ s = (0, 0, { s with at_ := s.at_ + 1 }) := by simp [stepR, hz]
      rw [e]
      exact step_need h hat kc kr ko n (by omega) (by omega) (by omega) hn hz
  · cases hq : s.cho.getLast? with
    | none =>
      have e : stepR l ⟨7, (kc : Int), (kr : Int), (ko : Int), n⟩ s = (3, 0, s) := by simp [stepR, hq]
      rw [e]
      exact step_waitr h hat kc kr ko n (by omega) (by omega) (by omega) hn (List.getLast?_eq_none_iff.1 hq)
    | some q =>
      obtain ⟨o, e, g1, g2, g3, g4, g5, g6⟩ := hlast q hq
      have e : stepR l ⟨7, (kc : Int), (kr : Int), (ko : Int), n⟩ s = (0, 0, { s with rg := q.r, cho := s.cho.dropLast, lv := undL s.lv, at_ := o + 1 }) := by simp [stepR, hq, g1]
      rw [e]
      exact step_backr h hat kc kr ko n (by omega) (by omega) (by omega) hn s.cho.dropLast q g5 o g1 g3 g6
  · have e : stepR l ⟨8, (kc : Int), (kr : Int), (ko : Int), n⟩ s = (4, 0, s) := by simp [stepR]
    rw [e]
    exact step_abort h hat kc kr ko n (by omega) (by omega) (by omega) hn
  · cases hv : s.tk kc with
    | false =>
      have e : stepR l ⟨9, (kc : Int), (kr : Int), (ko : Int), n⟩ s = (2, (kc : Int), s) := by simp [stepR, hv]
      rw [e]
      exact step_take h hat kc kr ko n (by omega) (by omega) (by omega) hn hv
    | true =>
      have e : stepR l ⟨9, (kc : Int), (kr : Int), (ko : Int), n⟩ s = (0, 0, { s with at_ := s.at_ + 1 }) := by simp [stepR, hv]
      rw [e]
      exact step_took h hat kc kr ko n (by omega) (by omega) (by omega) hn hv
  · have e : stepR l ⟨10, (kc : Int), (kr : Int), (ko : Int), n⟩ s = (0, 0, { s with cho := s.cho ++ [⟨(s.at_ : Int), (pFind l s.at_).1, (pFind l s.at_).2, s.rg⟩], lv := begL s.lv, at_ := s.at_ + 1 }) := by simp [stepR]
    rw [e]
    exact step_either h hat kc kr ko n (by omega) (by omega) (by omega) hn hl
  · obtain ⟨q, hq⟩ := last_of (h11 rfl)
    obtain ⟨o, e, g1, g2, g3, g4, g5, g6⟩ := hlast q hq
    have e' : stepR l ⟨11, (kc : Int), (kr : Int), (ko : Int), n⟩ s = (0, 0, { s with cho := s.cho.dropLast, lv := merL s.lv, at_ := e + 1 }) := by simp [stepR, hq, g2]
    rw [e']
    exact step_or h hat kc kr ko n (by omega) (by omega) (by omega) hn s.cho.dropLast q g5 e g2 g4 g6 (by omega)
  · have e : stepR l ⟨12, (kc : Int), (kr : Int), (ko : Int), n⟩ s = (0, 0, { s with at_ := s.at_ + 1 }) := by simp [stepR]
    rw [e]
    exact step_end h hat kc kr ko n (by omega) (by omega) (by omega) hn
/-- What Go leaves. -/
def GPost (w0 w : World) (rb : Nat) (G : Nat → Prop) (l : List POp) (M : Nat) (a b : Int) (s' : RS) (e : Ending) (w' : World) : Prop := e = .returned (.tuple #[.int .i64 a, .int .i64 b]) ∧ ∃ G', RunAt w0 w' rb G' l s' (M + 40) ∧ NG w w' G G' ∧ RIv l s'
set_option maxHeartbeats 6400000 in
theorem gon_c {w0 w : World} {rb : Nat} {G : Nat → Prop} {l : List POp} {s : RS} {M : Nat} (h : RunAt w0 w rb G l s M) (hr : pRight l = true) (hw : ∀ x ∈ l, K64 x.n) (hi : RIv l s) (hK : M ≤ 200000) :
    Calls Try.prog 13 #[(.pointer (some ⟨rb, 0, none⟩))] w (GPost w0 w rb G l M (goR l 40 s).1 (goR l 40 s).2.1 (goR l 40 s).2.2) := by
  have hlen := (pRight_all hr).1
  have HR0 := As.mk h
  have HP := As.mk hr
  have HW := As.mk hw
  have HI0 := As.mk hi
  have HA0 := As.mk (show s.at_ ≤ l.length from hi.le)
  clear h hr hw hi
  go_enter Try.func13, Try.ntmps13
  go_wp2_with fail
  go_loopw [4] (fun _ wr => As (∃ s1 G1 K1, RunAt w0 wr rb G1 l s1 K1 ∧ NG w wr G G1 ∧ RIv l s1 ∧ K1 + s.at_ ≤ M + s1.at_ ∧ goR l 40 s1 = goR l 40 s)) (fun _ wr => l.length - atOf wr rb)
  case atStart => exact ⟨s, G, M, HR0.out, NG.ofgr (gr_refl w none) (fun k e => by cases e), HI0.out, Nat.le_refl _, rfl⟩
  case round =>
    obtain ⟨s1, G1, K1, hra, hng, hri, hk1, hgo⟩ := hrel.out
    clear hrel
    obtain ⟨B, nb, F, lv_, cv, hG1, hR⟩ := hra
    obtain ⟨AL, cL, rfl⟩ := own_shape hR.lrow
    have HR := As.mk hR
    have HNG := As.mk hng
    have HRI := As.mk hri
    have HGO := As.mk hgo
    have HG1 := As.mk hG1
    have HMS := As.mk (atOf_eq hR)
    have hle1 := hri.le
    have hcl := (Arr.of_ops hR.lrow).cap
    have hcl2 := (Arr.of_ops hR.lrow).le
    have c1 : wr.cell? ⟨rb, 1, none⟩ = some (.slice (AL) l.length cL) := hR.blk.cell 1
    have c2 : wr.cell? ⟨rb, 2, none⟩ = some (.int .i64 (s1.at_ : Int)) := hR.blk.cell 2
    have ha0 : (0 : Int) ≤ (s1.at_ : Int) := by omega
    clear hR hng hri hgo hG1
    by_cases hlt : s1.at_ < l.length
    · have hltI : (s1.at_ : Int) < (l.length : Int) := by omega
      obtain ⟨x, hx⟩ : ∃ x, l[s1.at_]? = some x := ⟨_, List.getElem?_eq_getElem hlt⟩
      obtain ⟨b, off, cs0, hv0, hcs0, _, hcs⟩ := (Arr.of_ops HR.out.lrow).at_ s1.at_ x hx
      subst hcs0
      subst hv0
      have HXJ := As.mk hx
      go_upto_region 3 with fail
      go_quiet (fail)
      have hsz := HNG.out.size
      replace HR := As.mk (HR.out.grown (gr_drewN (gr_refl wr none) nq))
      replace HNG := As.mk (HNG.out.trans (ng_none (gr_drewN (gr_refl wr none) nq)))
      have e0 := hcs 0 _ rfl
      have e1 := hcs 1 _ rfl
      have e2 := hcs 2 _ rfl
      have e3 := hcs 3 _ rfl
      have e4 := hcs 4 _ rfl
      simp only [Nat.add_zero] at e0
      have e0 : (wr.drewN nq).cell? ⟨b, off + s1.at_ * 5, none⟩ = _ := e0
      replace e1 : (wr.drewN nq).cell? ⟨b, off + s1.at_ * 5 + 1, none⟩ = _ := e1
      replace e2 : (wr.drewN nq).cell? ⟨b, off + s1.at_ * 5 + 2, none⟩ = _ := e2
      replace e3 : (wr.drewN nq).cell? ⟨b, off + s1.at_ * 5 + 3, none⟩ = _ := e3
      replace e4 : (wr.drewN nq).cell? ⟨b, off + s1.at_ * 5 + 4, none⟩ = _ := e4
      replace c1 : (wr.drewN nq).cell? ⟨rb, 1, none⟩ = _ := c1
      replace c2 : (wr.drewN nq).cell? ⟨rb, 2, none⟩ = _ := c2
      clear hx hcs hsz
      generalize wr.drewN nq = W at *
      have HX := As.mk (show opRight x = true from (pRight_all HP.out).2.1 x (List.mem_of_getElem? HXJ.out))
      have HXN := As.mk (HW.out x (List.mem_of_getElem? HXJ.out))
      have HCL := As.mk (show s1.cho.length ≤ 100 from by have := HRI.out.lv; have := HR.out.inv.five; omega)
      have HCB := As.mk (show ∀ q ∈ s1.cho, ∃ o e : Nat, q.o = o ∧ q.e = e ∧ o ≤ 1000 ∧ e ≤ 1000 from fun q hq => by
        obtain ⟨o, e, g1, g2, g3, g4⟩ := HRI.out.bd q hq
        exact ⟨o, e, g1, g2, by omega, by omega⟩)
      have H11 := As.mk (fun hk : x.k = 11 => HRI.out.or_cho HXJ.out hk)
      go_upto_region 4 with fail
      go_cut [4, 5] from 18 to 32 (fun a b wx => a = .int .i64 (stepR l x s1).1 ∧ b = .int .i64 (stepR l x s1).2.1 ∧ As (∃ G3, RunAt w0 wx rb G3 l (stepR l x s1).2.2 (K1 + 1) ∧ NG W wx G1 G3))
      case first =>
        refine wp_region_noPanic ?_
        refine wp_region_held_drew (S := fun w' => True) (by kernel_rfl) (trivial) (fun hS => ?_)
        refine wpAnyH_take (i := 0) (v := ?va1) rfl (by kernel_rfl) (by kernel_rfl) (by kernel_rfl) (fun _ _ _ h => h) (Or.inl ⟨by rfl, ?ya1⟩) hS ?ra1
        case ya1 => (intro w0 _; go_simp; try with_reducible rfl)
        try simp only [yA, yB, yC, Act.put, yD, yE, yF]
        refine wpAnyH_take (i := 1) (v := ?va2) rfl (by kernel_rfl) (by kernel_rfl) (by kernel_rfl) (fun _ _ _ h => h) (Or.inl ⟨by rfl, ?ya2⟩) hS ?ra2
        case ya2 => (intro w0 _; go_simp; try with_reducible rfl)
        try simp only [yA, yB, yC, Act.put, yD, yE, yF]
        refine wpAnyH_take (i := 2) (v := ?va3) rfl (by kernel_rfl) (by kernel_rfl) (by kernel_rfl) (fun _ _ _ h => h) (Or.inl ⟨by rfl, ?ya3⟩) hS ?ra3
        case ya3 => (intro w0 _; go_simp; try with_reducible rfl)
        try simp only [yA, yB, yC, Act.put, yD, yE, yF]
        refine wpAnyH_take (i := 3) (v := ?va4) rfl (by kernel_rfl) (by kernel_rfl) (by kernel_rfl) (fun _ _ _ h => h) (Or.inl ⟨by rfl, ?ya4⟩) hS ?ra4
        case ya4 => (intro w0 _; go_simp; try with_reducible rfl)
        try simp only [yA, yB, yC, Act.put, yD, yE, yF]
        refine wpAnyH_take (i := 5) (v := ?va5) rfl (by kernel_rfl) (by kernel_rfl) (by kernel_rfl) (fun _ _ _ h => h) (Or.inl ⟨by rfl, ?ya5⟩) hS ?ra5
        case ya5 => (intro w0 _; go_simp; try with_reducible rfl)
        try simp only [yA, yB, yC, Act.put, yD, yE, yF]
        refine wpAnyH_take (i := 6) (v := ?va6) rfl (by kernel_rfl) (by kernel_rfl) (by kernel_rfl) (fun _ _ _ h => h) (Or.inl ⟨by rfl, ?ya6⟩) hS ?ra6
        case ya6 => (intro w0 _; go_simp; try with_reducible rfl)
        try simp only [yA, yB, yC, Act.put, yD, yE, yF]
        refine wpAnyH_take (i := 7) (v := ?va7) rfl (by kernel_rfl) (by kernel_rfl) (by kernel_rfl) (fun _ _ _ h => h) (Or.inl ⟨by rfl, ?ya7⟩) hS ?ra7
        case ya7 => (intro w0 _; go_simp; try with_reducible rfl)
        try simp only [yA, yB, yC, Act.put, yD, yE, yF]
        refine wpAnyH_ready (rs := [4, 8]) (by kernel_rfl) (by simp) (AllReadyH.cons (i := 4) rfl (fun K hK => ?f4_a8) (AllReadyH.cons (i := 8) rfl (fun K hK => ?f8_a8) AllReadyH.nil))
        case f4_a8 =>
          go_simp
          refine hK.out _ _ (trivial) (fun hS => ?_)
          clear hK K
          try simp only [yA, yB, yC, Act.put, yD, yE, yF]
          refine wpAnyH_ready (rs := [8]) (by kernel_rfl) (by simp) (AllReadyH.cons (i := 8) rfl (fun K hK => ?_) AllReadyH.nil)
          go_simp
          refine hK.out _ _ (trivial) (fun hS => ?_)
          clear hK K
          try simp only [yA, yB, yC, Act.put, yD, yE, yF]
          refine wpAnyH_take (i := 9) (v := ?va10) rfl (by kernel_rfl) (by kernel_rfl) (by kernel_rfl) (fun _ _ _ h => h) (Or.inl ⟨by rfl, ?ya10⟩) hS ?ra10
          case ya10 => (intro w0 _; go_simp; try with_reducible rfl)
          try simp only [yA, yB, yC, Act.put, yD, yE, yF]
          refine wpAnyH_ready (rs := [10]) (by kernel_rfl) (by simp) (AllReadyH.cons (i := 10) rfl (fun K hK => ?_) AllReadyH.nil)
          go_simp
          refine hK.out _ _ (trivial) (fun hS => ?_)
          clear hK K
          try simp only [yA, yB, yC, Act.put, yD, yE, yF]
          refine wpAnyH_ready (rs := [11]) (by kernel_rfl) (by simp) (AllReadyH.cons (i := 11) rfl (fun K hK => ?_) AllReadyH.nil)
          go_simp
          refine (step_c HR.out.drew (by omega) x HX.out HXN.out (by have := HA0.out; omega) HCL.out HCB.out H11.out).mono ?_
          rintro e9 w3 ⟨rfl, G3, hra, hng⟩
          go_simp
          refine hK.out _ _ (trivial) (fun hS => ?_)
          clear hK K
          try simp only [yA, yB, yC, Act.put, yD, yE, yF]
          have HRA := As.mk hra
          have HN3 := As.mk hng
          clear hra hng
          refine wpAnyH_take (i := 12) (v := ?va13) rfl (by kernel_rfl) (by kernel_rfl) (by kernel_rfl) (fun _ _ _ h => h) (Or.inl ⟨by rfl, ?ya13⟩) hS ?ra13
          case ya13 => (intro w0 _; go_simp; try with_reducible rfl)
          try simp only [yA, yB, yC, Act.put, yD, yE, yF]
          refine wpAnyH_take (i := 13) (v := ?va14) rfl (by kernel_rfl) (by kernel_rfl) (by kernel_rfl) (fun _ _ _ h => h) (Or.inl ⟨by rfl, ?ya14⟩) hS ?ra14
          case ya14 => (intro w0 _; go_simp; try with_reducible rfl)
          try simp only [yA, yB, yC, Act.put, yD, yE, yF]
          refine wpAnyH_take (i := 14) (v := ?va15) rfl (by kernel_rfl) (by kernel_rfl) (by kernel_rfl) (fun _ _ _ h => h) (Or.inl ⟨by rfl, ?ya15⟩) hS ?ra15
          case ya15 => (intro w0 _; go_simp; try with_reducible rfl)
          try simp only [yA, yB, yC, Act.put, yD, yE, yF]
          refine wpAnyH_take (i := 15) (v := ?va16) rfl (by kernel_rfl) (by kernel_rfl) (by kernel_rfl) (fun _ _ _ h => h) (Or.inl ⟨by rfl, ?ya16⟩) hS ?ra16
          case ya16 => (intro w0 _; go_simp; try with_reducible rfl)
          try simp only [yA, yB, yC, Act.put, yD, yE, yF]
          refine wpAnyH_take (i := 16) (v := ?va17) rfl (by kernel_rfl) (by kernel_rfl) (by kernel_rfl) (fun _ _ _ h => h) (Or.inl ⟨by rfl, ?ya17⟩) hS ?ra17
          case ya17 => (intro w0 _; go_simp; try with_reducible rfl)
          try simp only [yA, yB, yC, Act.put, yD, yE, yF]
          refine wpAnyH_done (by kernel_rfl) ?_ _
          refine NoPanic.normal ?_
          try simp only [Exit.then]
          go_wp2_with fail
          go_meet
          case rel => exact ⟨rfl, rfl, ⟨G3, HRA.out, by rw [HG1.out]; exact (ng_drew W).trans HN3.out⟩⟩
        case f8_a8 =>
          go_simp
          refine hK.out _ _ (trivial) (fun hS => ?_)
          clear hK K
          try simp only [yA, yB, yC, Act.put, yD, yE, yF]
          refine wpAnyH_ready (rs := [4]) (by kernel_rfl) (by simp) (AllReadyH.cons (i := 4) rfl (fun K hK => ?_) AllReadyH.nil)
          go_simp
          refine hK.out _ _ (trivial) (fun hS => ?_)
          clear hK K
          try simp only [yA, yB, yC, Act.put, yD, yE, yF]
          refine wpAnyH_take (i := 9) (v := ?va19) rfl (by kernel_rfl) (by kernel_rfl) (by kernel_rfl) (fun _ _ _ h => h) (Or.inl ⟨by rfl, ?ya19⟩) hS ?ra19
          case ya19 => (intro w0 _; go_simp; try with_reducible rfl)
          try simp only [yA, yB, yC, Act.put, yD, yE, yF]
          refine wpAnyH_ready (rs := [10]) (by kernel_rfl) (by simp) (AllReadyH.cons (i := 10) rfl (fun K hK => ?_) AllReadyH.nil)
          go_simp
          refine hK.out _ _ (trivial) (fun hS => ?_)
          clear hK K
          try simp only [yA, yB, yC, Act.put, yD, yE, yF]
          refine wpAnyH_ready (rs := [11]) (by kernel_rfl) (by simp) (AllReadyH.cons (i := 11) rfl (fun K hK => ?_) AllReadyH.nil)
          go_simp
          refine (step_c HR.out.drew (by omega) x HX.out HXN.out (by have := HA0.out; omega) HCL.out HCB.out H11.out).mono ?_
          rintro e9 w3 ⟨rfl, G3, hra, hng⟩
          go_simp
          refine hK.out _ _ (trivial) (fun hS => ?_)
          clear hK K
          try simp only [yA, yB, yC, Act.put, yD, yE, yF]
          have HRA := As.mk hra
          have HN3 := As.mk hng
          clear hra hng
          refine wpAnyH_take (i := 12) (v := ?va22) rfl (by kernel_rfl) (by kernel_rfl) (by kernel_rfl) (fun _ _ _ h => h) (Or.inl ⟨by rfl, ?ya22⟩) hS ?ra22
          case ya22 => (intro w0 _; go_simp; try with_reducible rfl)
          try simp only [yA, yB, yC, Act.put, yD, yE, yF]
          refine wpAnyH_take (i := 13) (v := ?va23) rfl (by kernel_rfl) (by kernel_rfl) (by kernel_rfl) (fun _ _ _ h => h) (Or.inl ⟨by rfl, ?ya23⟩) hS ?ra23
          case ya23 => (intro w0 _; go_simp; try with_reducible rfl)
          try simp only [yA, yB, yC, Act.put, yD, yE, yF]
          refine wpAnyH_take (i := 14) (v := ?va24) rfl (by kernel_rfl) (by kernel_rfl) (by kernel_rfl) (fun _ _ _ h => h) (Or.inl ⟨by rfl, ?ya24⟩) hS ?ra24
          case ya24 => (intro w0 _; go_simp; try with_reducible rfl)
          try simp only [yA, yB, yC, Act.put, yD, yE, yF]
          refine wpAnyH_take (i := 15) (v := ?va25) rfl (by kernel_rfl) (by kernel_rfl) (by kernel_rfl) (fun _ _ _ h => h) (Or.inl ⟨by rfl, ?ya25⟩) hS ?ra25
          case ya25 => (intro w0 _; go_simp; try with_reducible rfl)
          try simp only [yA, yB, yC, Act.put, yD, yE, yF]
          refine wpAnyH_take (i := 16) (v := ?va26) rfl (by kernel_rfl) (by kernel_rfl) (by kernel_rfl) (fun _ _ _ h => h) (Or.inl ⟨by rfl, ?ya26⟩) hS ?ra26
          case ya26 => (intro w0 _; go_simp; try with_reducible rfl)
          try simp only [yA, yB, yC, Act.put, yD, yE, yF]
          refine wpAnyH_done (by kernel_rfl) ?_ _
          refine NoPanic.normal ?_
          try simp only [Exit.then]
          go_wp2_with fail
          go_meet
          case rel => exact ⟨rfl, rfl, ⟨G3, HRA.out, by rw [HG1.out]; exact (ng_drew W).trans HN3.out⟩⟩
      case rest =>
        obtain ⟨rfl, rfl, HC⟩ := hcut
        obtain ⟨G3, hra, hng⟩ := HC.out
        have HRA := As.mk hra
        have HN3 := As.mk (HNG.out.trans hng)
        clear HC hra hng c1 c2 e0 e1 e2 e3 e4
        by_cases h0 : (stepR l x s1).1 = 0
        · have hst := HRI.out.step HP.out HXJ.out h0
          have HRI2 := As.mk hst.1
          have hat2 := hst.2
          have HGO2 := As.mk ((goR_step HP.out HRI.out HXJ.out h0).symm.trans HGO.out)
          clear hst
          have hz : ((stepR l x s1).1 != 0) = false := by rw [h0]; rfl
          clear h0
          generalize (stepR l x s1).1 = z1 at *
          generalize (stepR l x s1).2.1 = z2 at *
          generalize (stepR l x s1).2.2 = s2 at *
          have hle2 := HRI2.out.le
          go_wp2_with fail
          go_roundw
          case measure =>
            rw [HMS.out]
            obtain ⟨B2, nb2, F2, lv2, cv2, _, hR2⟩ := HRA.out
            rw [atOf_eq hR2]
            omega
          case rel => exact ⟨_, G3, K1 + 1, HRA.out, HN3.out, HRI2.out, by omega, HGO2.out⟩
        · have hz : ((stepR l x s1).1 != 0) = true := by simpa using h0
          have HST := As.mk (stepR_stay h0).1
          have HGS := As.mk ((goR_stop HXJ.out h0).symm.trans HGO.out)
          clear h0
          have HA1 := As.mk (show (goR l 40 s).1 = (stepR l x s1).1 by rw [← HGS.out])
          have HA2 := As.mk (show (goR l 40 s).2.1 = (stepR l x s1).2.1 by rw [← HGS.out])
          have HA3 := As.mk (show (goR l 40 s).2.2 = s1 by rw [← HGS.out]; exact HST.out)
          rw [HST.out] at HRA
          generalize (stepR l x s1).1 = z1 at *
          generalize (stepR l x s1).2.1 = z2 at *
          clear HGS HST HGO
          go_wp2_with fail
          go_ret2
          refine ⟨by rw [HA1.out, HA2.out]; rfl, ?_⟩
          rw [HA3.out]
          exact ⟨G3, HRA.out.mono (by have := HA0.out; omega), HN3.out, HRI.out⟩
    · have hx : l[s1.at_]? = none := List.getElem?_eq_none_iff.2 (by omega)
      have HXJ := As.mk hx
      clear hx
      go_upto_region 3 with fail
      go_quiet (fail)
      clear c1 c2
      go_wp2_with fail
      go_ret2
      have hd := goR_done HXJ.out
      rw [hd] at HGO
      refine ⟨by rw [← HGO.out]; rfl, ?_⟩
      rw [← HGO.out]
      exact ⟨_, ⟨_, _, _, _, _, rfl, (HR.out.grown (gr_drewN (gr_refl _ none) _)).mono' (by have := HA0.out; omega)⟩, by rw [← HG1.out]; exact HNG.out.trans (ng_none (gr_drewN (gr_refl _ none) _)), HRI.out⟩
end Go.Proofs.Ytgmhopkajopfcaa
