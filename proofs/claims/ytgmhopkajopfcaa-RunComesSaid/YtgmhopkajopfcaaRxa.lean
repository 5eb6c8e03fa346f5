/- A run's step as a whole; how it goes on. append of whatever slice onto a row of the call's own. Rows of structs: sources, copies. The keys of what was read, sorted, by the library's contracts (the shelf). The walk of a nest's Items. A run begun, given, asked. What the laws about a run ask besides: a map of bools, no registers, the example. == of two arrays of eight ints. The walk of RunStays. An argument that is a slice of structs, opened as Arr; structs of ints, bools. Operations, opened out of an argument. -/
import Derived.OpenShut
import Derived.Test.YtgmhopkajopfcaaRy
import Derived.Test.YtgmhopkajopfcaaRz
import Derived.Test.YtgmhopkajopfcaaOw
import Derived.Deep.AppendLies
import Derived.Deep.AppendSrc
import Derived.Test.YtgmhopkajopfcaaAr
import Derived.Test.YtgmhopkajopfcaaAp1
import Derived.Laws.CopyRow
import Derived.Laws.CopyOwn
import Derived.Lib.AppendZerosOnto
import Derived.Lib.Overlaps
import Derived.Lib.SliceRun
import Derived.Deep.Slices
import Derived.Deep.Strs
import Derived.Test.YtgmhopkajopfcaaShelf
import Derived.Test.YtgmhopkajopfcaaNy
import Derived.Test.YtgmhopkajopfcaaNj
import Derived.Laws.ResultCell
import Derived.SliceStrings
import Derived.SizedLaws
import Derived.Carry
import Derived.Lib.SmallJoins
namespace Go.Proofs.Ytgmhopkajopfcaa
section
open Go.RowKit Go.Maps
set_option linter.unusedVariables false
set_option linter.unusedSimpArgs false
set_option maxRecDepth 100000

def atOf (w : World) (rb : Nat) : Nat := match w.cell? ⟨rb, 2, none⟩ with | some (.int _ n) => n.toNat | _ => 0
theorem atOf_eq {w0 w : World} {B nb rb : Nat} {F : Nat → Prop} {lv_ cv : Value} {l : List POp} {s : RS} {M : Nat} (h : RunW w0 w B nb rb F lv_ cv l s M) : atOf w rb = s.at_ := by
  unfold atOf
  rw [show w.cell? ⟨rb, 2, none⟩ = some (.int .i64 (s.at_ : Int)) from h.blk.cell 2]
  simp
theorem opRight_bd {x : POp} (h : opRight x = true) : (1 ≤ x.k ∧ x.k ≤ 12) ∧ (0 ≤ x.c ∧ x.c ≤ 15) ∧ (0 ≤ x.r ∧ x.r ≤ 7) ∧ (0 ≤ x.o ∧ x.o ≤ 7) := by
  unfold opRight at h
  simp only [Bool.and_eq_true] at h
  exact ⟨inR_true h.1, inR_true h.2.2.1, inR_true h.2.2.2.1, inR_true h.2.2.2.2⟩
theorem last_of {cho : List RCh} (h : cho ≠ []) : ∃ q, cho.getLast? = some q := ⟨_, List.getLast?_eq_some_getLast h⟩
set_option maxHeartbeats 3200000 in
theorem step_c {w0 w : World} {B nb rb : Nat} {F : Nat → Prop} {lv_ cv : Value} {l : List POp} {s : RS} {M : Nat} (h : RunW w0 w B nb rb F lv_ cv l s M) (hat : s.at_ ≤ 1000) (x : POp) (hx : opRight x = true) (hn : K64 x.n) (hK : M < 300000) (hl : s.cho.length ≤ 100) (hch : ∀ q ∈ s.cho, ∃ o e : Nat, q.o = o ∧ q.e = e ∧ o ≤ 1000 ∧ e ≤ 1000) (h11 : x.k = 11 → s.cho ≠ []) :
    Calls Try.prog 27 #[(.pointer (some ⟨rb, 0, none⟩)), opV x] w (SPost w0 w rb (fpR F rb lv_ cv) l M (stepR l x s).1 (stepR l x s).2.1 (stepR l x s).2.2) := by
  obtain ⟨⟨hk1, hk2⟩, ⟨hc1, hc2⟩, ⟨hr1, hr2⟩, ⟨ho1, ho2⟩⟩ := opRight_bd hx
  obtain ⟨k, c, r, o, n⟩ := x
  dsimp only at hk1 hk2 hc1 hc2 hr1 hr2 ho1 ho2 hn h11
  obtain ⟨kc, rfl⟩ : ∃ kc : Nat, c = (kc : Int) := ⟨c.toNat, by omega⟩
  obtain ⟨kr, rfl⟩ : ∃ kr : Nat, r = (kr : Int) := ⟨r.toNat, by omega⟩
  obtain ⟨ko, rfl⟩ : ∃ ko : Nat, o = (ko : Int) := ⟨o.toNat, by omega⟩
  have hk : k = 1 ∨ k = 2 ∨ k = 3 ∨ k = 4 ∨ k = 5 ∨ k = 6 ∨ k = 7 ∨ k = 8 ∨ k = 9 ∨ k = 10 ∨ k = 11 ∨ k = 12 := by omega
  have hlast : ∀ q, s.cho.getLast? = some q → ∃ o e : Nat, q.o = o ∧ q.e = e ∧ o ≤ 1000 ∧ e ≤ 1000 ∧ s.cho = s.cho.dropLast ++ [q] ∧ s.cho.dropLast.length ≤ 100 := fun q hq => by
    obtain ⟨e1, _⟩ := cho_rev hq
    obtain ⟨o, e, g1, g2, g3, g4⟩ := hch q (by rw [e1]; simp)
    exact ⟨o, e, g1, g2, g3, g4, e1, by rw [List.length_dropLast]; omega⟩
  rcases hk with rfl | rfl | rfl | rfl | rfl | rfl | rfl | rfl | rfl | rfl | rfl | rfl
  · cases hv : valF s.rd s.lv (kc : Int) with
    | none =>
      have hh : (s.rd.2 (kc : Int)).isSome = false := by rw [← valF_some s.rd s.lv, hv]; rfl
      have e : stepR l ⟨1, (kc : Int), (kr : Int), (ko : Int), n⟩ s = (1, (kc : Int), s) := by simp [stepR, hv]
      rw [e]
      exact step_ask1 h hat kc kr ko n (by omega) (by omega) (by omega) hn hh
    | some v =>
      have e : stepR l ⟨1, (kc : Int), (kr : Int), (ko : Int), n⟩ s = (0, 0, { s with rg := updN s.rg kr v, at_ := s.at_ + 1 }) := by simp [stepR, hv]
      rw [e]
      exact step_read h hat kc kr ko n (by omega) (by omega) (by omega) hn v hv
  · cases hv : (s.rd.2 (kc : Int)).isSome with
    | false =>
      have e : stepR l ⟨2, (kc : Int), (kr : Int), (ko : Int), n⟩ s = (1, (kc : Int), s) := by simp [stepR, hv]
      rw [e]
      exact step_ask2 h hat kc kr ko n (by omega) (by omega) (by omega) hn hv
    | true =>
      have e : stepR l ⟨2, (kc : Int), (kr : Int), (ko : Int), n⟩ s = (0, 0, { s with lv := wriL s.rd s.lv (kc : Int) (s.rg kr), at_ := s.at_ + 1 }) := by simp [stepR, hv]
      rw [e]
      exact step_write h hat kc kr ko n (by omega) (by omega) (by omega) hn hv hK
  · have e : stepR l ⟨3, (kc : Int), (kr : Int), (ko : Int), n⟩ s = (0, 0, { s with rg := updN s.rg kr n, at_ := s.at_ + 1 }) := by simp [stepR]
    rw [e]
    exact step_set h hat kc kr ko n (by omega) (by omega) (by omega) hn
  · have e : stepR l ⟨4, (kc : Int), (kr : Int), (ko : Int), n⟩ s = (0, 0, { s with rg := updN s.rg kr (IntKind.i64.wrap (s.rg kr + s.rg ko)), at_ := s.at_ + 1 }) := by simp [stepR]
    rw [e]
    exact step_add h hat kc kr ko n (by omega) (by omega) (by omega) hn
  · have e : stepR l ⟨5, (kc : Int), (kr : Int), (ko : Int), n⟩ s = (0, 0, { s with rg := updN s.rg kr (IntKind.i64.wrap (s.rg kr - s.rg ko)), at_ := s.at_ + 1 }) := by simp [stepR]
    rw [e]
    exact step_sub h hat kc kr ko n (by omega) (by omega) (by omega) hn
  · by_cases hz : s.rg kr = 0
    · cases hq : s.cho.getLast? with
      | none =>
        have e : stepR l ⟨6, (kc : Int), (kr : Int), (ko : Int), n⟩ s = (3, 0, s) := by simp [stepR, hz, hq]
        rw [e]
        exact step_waitn h hat kc kr ko n (by omega) (by omega) (by omega) hn hz (List.getLast?_eq_none_iff.1 hq)
      | some q =>
        obtain ⟨o, e, g1, g2, g3, g4, g5, g6⟩ := hlast q hq
        have e : stepR l ⟨6, (kc : Int), (kr : Int), (ko : Int), n⟩ s = (0, 0, { s with rg := q.r, cho := s.cho.dropLast, lv := undL s.lv, at_ := o + 1 }) := by simp [stepR, hz, hq, g1]
        rw [e]
        exact step_backn h hat kc kr ko n (by omega) (by omega) (by omega) hn hz s.cho.dropLast q g5 o g1 g3 g6
    · have e : stepR l ⟨6, (kc : Int), (kr : Int), (ko : Int), n⟩ s = (0, 0, { s with at_ := s.at_ + 1 }) := by simp [stepR, hz]
      rw [e]
      exact step_need h hat kc kr ko n (by omega) (by omega) (by omega) hn hz
  · cases hq : s.cho.getLast? with
    | none =>
      have e : stepR l ⟨7, (kc : Int), (kr : Int), (ko : Int), n⟩ s = (3, 0, s) := by simp [stepR, hq]
      rw [e]
      exact step_waitr h hat kc kr ko n (by omega) (by omega) (by omega) hn (List.getLast?_eq_none_iff.1 hq)
    | some q =>
      obtain ⟨o, e, g1, g2, g3, g4, g5, g6⟩ := hlast q hq
      have e : stepR l ⟨7, (kc : Int), (kr : Int), (ko : Int), n⟩ s = (0, 0, { s with rg := q.r, cho := s.cho.dropLast, lv := undL s.lv, at_ := o + 1 }) := by simp [stepR, hq, g1]
      rw [e]
      exact step_backr h hat kc kr ko n (by omega) (by omega) (by omega) hn s.cho.dropLast q g5 o g1 g3 g6
  · have e : stepR l ⟨8, (kc : Int), (kr : Int), (ko : Int), n⟩ s = (4, 0, s) := by simp [stepR]
    rw [e]
    exact step_abort h hat kc kr ko n (by omega) (by omega) (by omega) hn
  · cases hv : s.tk kc with
    | false =>
      have e : stepR l ⟨9, (kc : Int), (kr : Int), (ko : Int), n⟩ s = (2, (kc : Int), s) := by simp [stepR, hv]
      rw [e]
      exact step_take h hat kc kr ko n (by omega) (by omega) (by omega) hn hv
    | true =>
      have e : stepR l ⟨9, (kc : Int), (kr : Int), (ko : Int), n⟩ s = (0, 0, { s with at_ := s.at_ + 1 }) := by simp [stepR, hv]
      rw [e]
      exact step_took h hat kc kr ko n (by omega) (by omega) (by omega) hn hv
  · have e : stepR l ⟨10, (kc : Int), (kr : Int), (ko : Int), n⟩ s = (0, 0, { s with cho := s.cho ++ [⟨(s.at_ : Int), (pFind l s.at_).1, (pFind l s.at_).2, s.rg⟩], lv := begL s.lv, at_ := s.at_ + 1 }) := by simp [stepR]
    rw [e]
    exact step_either h hat kc kr ko n (by omega) (by omega) (by omega) hn hl
  · obtain ⟨q, hq⟩ := last_of (h11 rfl)
    obtain ⟨o, e, g1, g2, g3, g4, g5, g6⟩ := hlast q hq
    have e' : stepR l ⟨11, (kc : Int), (kr : Int), (ko : Int), n⟩ s = (0, 0, { s with cho := s.cho.dropLast, lv := merL s.lv, at_ := e + 1 }) := by simp [stepR, hq, g2]
    rw [e']
    exact step_or h hat kc kr ko n (by omega) (by omega) (by omega) hn s.cho.dropLast q g5 e g2 g4 g6 (by omega)
  · have e : stepR l ⟨12, (kc : Int), (kr : Int), (ko : Int), n⟩ s = (0, 0, { s with at_ := s.at_ + 1 }) := by simp [stepR]
    rw [e]
    exact step_end h hat kc kr ko n (by omega) (by omega) (by omega) hn
/-- What Go leaves. -/
def GPost (w0 w : World) (rb : Nat) (G : Nat → Prop) (l : List POp) (M : Nat) (a b : Int) (s' : RS) (e : Ending) (w' : World) : Prop := e = .returned (.tuple #[.int .i64 a, .int .i64 b]) ∧ ∃ G', RunAt w0 w' rb G' l s' (M + 40) ∧ NG w w' G G' ∧ RIv l s'
set_option maxHeartbeats 6400000 in
theorem gon_c {w0 w : World} {rb : Nat} {G : Nat → Prop} {l : List POp} {s : RS} {M : Nat} (h : RunAt w0 w rb G l s M) (hr : pRight l = true) (hw : ∀ x ∈ l, K64 x.n) (hi : RIv l s) (hK : M ≤ 200000) :
    Calls Try.prog 13 #[(.pointer (some ⟨rb, 0, none⟩))] w (GPost w0 w rb G l M (goR l 40 s).1 (goR l 40 s).2.1 (goR l 40 s).2.2) := by
  have hlen := (pRight_all hr).1
  have HR0 := As.mk h
  have HP := As.mk hr
  have HW := As.mk hw
  have HI0 := As.mk hi
  have HA0 := As.mk (show s.at_ ≤ l.length from hi.le)
  clear h hr hw hi
  go_enter Try.func13, Try.ntmps13
  go_wp2_with fail
  go_loopw [4] (fun _ wr => As (∃ s1 G1 K1, RunAt w0 wr rb G1 l s1 K1 ∧ NG w wr G G1 ∧ RIv l s1 ∧ K1 + s.at_ ≤ M + s1.at_ ∧ goR l 40 s1 = goR l 40 s)) (fun _ wr => l.length - atOf wr rb)
  case atStart => exact ⟨s, G, M, HR0.out, NG.ofgr (gr_refl w none) (fun k e => by cases e), HI0.out, Nat.le_refl _, rfl⟩
  case round =>
    obtain ⟨s1, G1, K1, hra, hng, hri, hk1, hgo⟩ := hrel.out
    clear hrel
    obtain ⟨B, nb, F, lv_, cv, hG1, hR⟩ := hra
    obtain ⟨AL, cL, rfl⟩ := own_shape hR.lrow
    have HR := As.mk hR
    have HNG := As.mk hng
    have HRI := As.mk hri
    have HGO := As.mk hgo
    have HG1 := As.mk hG1
    have HMS := As.mk (atOf_eq hR)
    have hle1 := hri.le
    have hcl := (Arr.of_ops hR.lrow).cap
    have hcl2 := (Arr.of_ops hR.lrow).le
    have c1 : wr.cell? ⟨rb, 1, none⟩ = some (.slice (AL) l.length cL) := hR.blk.cell 1
    have c2 : wr.cell? ⟨rb, 2, none⟩ = some (.int .i64 (s1.at_ : Int)) := hR.blk.cell 2
    have ha0 : (0 : Int) ≤ (s1.at_ : Int) := by omega
    clear hR hng hri hgo hG1
    by_cases hlt : s1.at_ < l.length
    · have hltI : (s1.at_ : Int) < (l.length : Int) := by omega
      obtain ⟨x, hx⟩ : ∃ x, l[s1.at_]? = some x := ⟨_, List.getElem?_eq_getElem hlt⟩
      obtain ⟨b, off, cs0, hv0, hcs0, _, hcs⟩ := (Arr.of_ops HR.out.lrow).at_ s1.at_ x hx
      subst hcs0
      subst hv0
      have HXJ := As.mk hx
      go_upto_region 3 with fail
      go_quiet (fail)
      have hsz := HNG.out.size
      replace HR := As.mk (HR.out.grown (gr_drewN (gr_refl wr none) nq))
      replace HNG := As.mk (HNG.out.trans (ng_none (gr_drewN (gr_refl wr none) nq)))
      have e0 := hcs 0 _ rfl
      have e1 := hcs 1 _ rfl
      have e2 := hcs 2 _ rfl
      have e3 := hcs 3 _ rfl
      have e4 := hcs 4 _ rfl
      simp only [Nat.add_zero] at e0
      have e0 : (wr.drewN nq).cell? ⟨b, off + s1.at_ * 5, none⟩ = _ := e0
      replace e1 : (wr.drewN nq).cell? ⟨b, off + s1.at_ * 5 + 1, none⟩ = _ := e1
      replace e2 : (wr.drewN nq).cell? ⟨b, off + s1.at_ * 5 + 2, none⟩ = _ := e2
      replace e3 : (wr.drewN nq).cell? ⟨b, off + s1.at_ * 5 + 3, none⟩ = _ := e3
      replace e4 : (wr.drewN nq).cell? ⟨b, off + s1.at_ * 5 + 4, none⟩ = _ := e4
      replace c1 : (wr.drewN nq).cell? ⟨rb, 1, none⟩ = _ := c1
      replace c2 : (wr.drewN nq).cell? ⟨rb, 2, none⟩ = _ := c2
      clear hx hcs hsz
      generalize wr.drewN nq = W at *
      have HX := As.mk (show opRight x = true from (pRight_all HP.out).2.1 x (List.mem_of_getElem? HXJ.out))
      have HXN := As.mk (HW.out x (List.mem_of_getElem? HXJ.out))
      have HCL := As.mk (show s1.cho.length ≤ 100 from by have := HRI.out.lv; have := HR.out.inv.five; omega)
      have HCB := As.mk (show ∀ q ∈ s1.cho, ∃ o e : Nat, q.o = o ∧ q.e = e ∧ o ≤ 1000 ∧ e ≤ 1000 from fun q hq => by
        obtain ⟨o, e, g1, g2, g3, g4⟩ := HRI.out.bd q hq
        exact ⟨o, e, g1, g2, by omega, by omega⟩)
      have H11 := As.mk (fun hk : x.k = 11 => HRI.out.or_cho HXJ.out hk)
      go_upto_region 4 with fail
      go_cut [4, 5] from 18 to 32 (fun a b wx => a = .int .i64 (stepR l x s1).1 ∧ b = .int .i64 (stepR l x s1).2.1 ∧ As (∃ G3, RunAt w0 wx rb G3 l (stepR l x s1).2.2 (K1 + 1) ∧ NG W wx G1 G3))
      case first =>
        refine wp_region_noPanic ?_
        refine wp_region_held_drew (S := fun w' => True) (by kernel_rfl) (trivial) (fun hS => ?_)
        refine wpAnyH_take (i := 0) (v := ?va1) rfl (by kernel_rfl) (by kernel_rfl) (by kernel_rfl) (fun _ _ _ h => h) (Or.inl ⟨by rfl, ?ya1⟩) hS ?ra1
        case ya1 => (intro w0 _; go_simp; try with_reducible rfl)
        try simp only [yA, yB, yC, Act.put, yD, yE, yF]
        refine wpAnyH_take (i := 1) (v := ?va2) rfl (by kernel_rfl) (by kernel_rfl) (by kernel_rfl) (fun _ _ _ h => h) (Or.inl ⟨by rfl, ?ya2⟩) hS ?ra2
        case ya2 => (intro w0 _; go_simp; try with_reducible rfl)
        try simp only [yA, yB, yC, Act.put, yD, yE, yF]
        refine wpAnyH_take (i := 2) (v := ?va3) rfl (by kernel_rfl) (by kernel_rfl) (by kernel_rfl) (fun _ _ _ h => h) (Or.inl ⟨by rfl, ?ya3⟩) hS ?ra3
        case ya3 => (intro w0 _; go_simp; try with_reducible rfl)
        try simp only [yA, yB, yC, Act.put, yD, yE, yF]
        refine wpAnyH_take (i := 3) (v := ?va4) rfl (by kernel_rfl) (by kernel_rfl) (by kernel_rfl) (fun _ _ _ h => h) (Or.inl ⟨by rfl, ?ya4⟩) hS ?ra4
        case ya4 => (intro w0 _; go_simp; try with_reducible rfl)
        try simp only [yA, yB, yC, Act.put, yD, yE, yF]
        refine wpAnyH_take (i := 5) (v := ?va5) rfl (by kernel_rfl) (by kernel_rfl) (by kernel_rfl) (fun _ _ _ h => h) (Or.inl ⟨by rfl, ?ya5⟩) hS ?ra5
        case ya5 => (intro w0 _; go_simp; try with_reducible rfl)
        try simp only [yA, yB, yC, Act.put, yD, yE, yF]
        refine wpAnyH_take (i := 6) (v := ?va6) rfl (by kernel_rfl) (by kernel_rfl) (by kernel_rfl) (fun _ _ _ h => h) (Or.inl ⟨by rfl, ?ya6⟩) hS ?ra6
        case ya6 => (intro w0 _; go_simp; try with_reducible rfl)
        try simp only [yA, yB, yC, Act.put, yD, yE, yF]
        refine wpAnyH_take (i := 7) (v := ?va7) rfl (by kernel_rfl) (by kernel_rfl) (by kernel_rfl) (fun _ _ _ h => h) (Or.inl ⟨by rfl, ?ya7⟩) hS ?ra7
        case ya7 => (intro w0 _; go_simp; try with_reducible rfl)
        try simp only [yA, yB, yC, Act.put, yD, yE, yF]
        refine wpAnyH_ready (rs := [4, 8]) (by kernel_rfl) (by simp) (AllReadyH.cons (i := 4) rfl (fun K hK => ?f4_a8) (AllReadyH.cons (i := 8) rfl (fun K hK => ?f8_a8) AllReadyH.nil))
        case f4_a8 =>
          go_simp
          refine hK.out _ _ (trivial) (fun hS => ?_)
          clear hK K
          try simp only [yA, yB, yC, Act.put, yD, yE, yF]
          refine wpAnyH_ready (rs := [8]) (by kernel_rfl) (by simp) (AllReadyH.cons (i := 8) rfl (fun K hK => ?_) AllReadyH.nil)
          go_simp
          refine hK.out _ _ (trivial) (fun hS => ?_)
          clear hK K
          try simp only [yA, yB, yC, Act.put, yD, yE, yF]
          refine wpAnyH_take (i := 9) (v := ?va10) rfl (by kernel_rfl) (by kernel_rfl) (by kernel_rfl) (fun _ _ _ h => h) (Or.inl ⟨by rfl, ?ya10⟩) hS ?ra10
          case ya10 => (intro w0 _; go_simp; try with_reducible rfl)
          try simp only [yA, yB, yC, Act.put, yD, yE, yF]
          refine wpAnyH_ready (rs := [10]) (by kernel_rfl) (by simp) (AllReadyH.cons (i := 10) rfl (fun K hK => ?_) AllReadyH.nil)
          go_simp
          refine hK.out _ _ (trivial) (fun hS => ?_)
          clear hK K
          try simp only [yA, yB, yC, Act.put, yD, yE, yF]
          refine wpAnyH_ready (rs := [11]) (by kernel_rfl) (by simp) (AllReadyH.cons (i := 11) rfl (fun K hK => ?_) AllReadyH.nil)
          go_simp
          refine (step_c HR.out.drew (by omega) x HX.out HXN.out (by have := HA0.out; omega) HCL.out HCB.out H11.out).mono ?_
          rintro e9 w3 ⟨rfl, G3, hra, hng⟩
          go_simp
          refine hK.out _ _ (trivial) (fun hS => ?_)
          clear hK K
          try simp only [yA, yB, yC, Act.put, yD, yE, yF]
          have HRA := As.mk hra
          have HN3 := As.mk hng
          clear hra hng
          refine wpAnyH_take (i := 12) (v := ?va13) rfl (by kernel_rfl) (by kernel_rfl) (by kernel_rfl) (fun _ _ _ h => h) (Or.inl ⟨by rfl, ?ya13⟩) hS ?ra13
          case ya13 => (intro w0 _; go_simp; try with_reducible rfl)
          try simp only [yA, yB, yC, Act.put, yD, yE, yF]
          refine wpAnyH_take (i := 13) (v := ?va14) rfl (by kernel_rfl) (by kernel_rfl) (by kernel_rfl) (fun _ _ _ h => h) (Or.inl ⟨by rfl, ?ya14⟩) hS ?ra14
          case ya14 => (intro w0 _; go_simp; try with_reducible rfl)
          try simp only [yA, yB, yC, Act.put, yD, yE, yF]
          refine wpAnyH_take (i := 14) (v := ?va15) rfl (by kernel_rfl) (by kernel_rfl) (by kernel_rfl) (fun _ _ _ h => h) (Or.inl ⟨by rfl, ?ya15⟩) hS ?ra15
          case ya15 => (intro w0 _; go_simp; try with_reducible rfl)
          try simp only [yA, yB, yC, Act.put, yD, yE, yF]
          refine wpAnyH_take (i := 15) (v := ?va16) rfl (by kernel_rfl) (by kernel_rfl) (by kernel_rfl) (fun _ _ _ h => h) (Or.inl ⟨by rfl, ?ya16⟩) hS ?ra16
          case ya16 => (intro w0 _; go_simp; try with_reducible rfl)
          try simp only [yA, yB, yC, Act.put, yD, yE, yF]
          refine wpAnyH_take (i := 16) (v := ?va17) rfl (by kernel_rfl) (by kernel_rfl) (by kernel_rfl) (fun _ _ _ h => h) (Or.inl ⟨by rfl, ?ya17⟩) hS ?ra17
          case ya17 => (intro w0 _; go_simp; try with_reducible rfl)
          try simp only [yA, yB, yC, Act.put, yD, yE, yF]
          refine wpAnyH_done (by kernel_rfl) ?_ _
          refine NoPanic.normal ?_
          try simp only [Exit.then]
          go_wp2_with fail
          go_meet
          case rel => exact ⟨rfl, rfl, ⟨G3, HRA.out, by rw [HG1.out]; exact (ng_drew W).trans HN3.out⟩⟩
        case f8_a8 =>
          go_simp
          refine hK.out _ _ (trivial) (fun hS => ?_)
          clear hK K
          try simp only [yA, yB, yC, Act.put, yD, yE, yF]
          refine wpAnyH_ready (rs := [4]) (by kernel_rfl) (by simp) (AllReadyH.cons (i := 4) rfl (fun K hK => ?_) AllReadyH.nil)
          go_simp
          refine hK.out _ _ (trivial) (fun hS => ?_)
          clear hK K
          try simp only [yA, yB, yC, Act.put, yD, yE, yF]
          refine wpAnyH_take (i := 9) (v := ?va19) rfl (by kernel_rfl) (by kernel_rfl) (by kernel_rfl) (fun _ _ _ h => h) (Or.inl ⟨by rfl, ?ya19⟩) hS ?ra19
          case ya19 => (intro w0 _; go_simp; try with_reducible rfl)
          try simp only [yA, yB, yC, Act.put, yD, yE, yF]
          refine wpAnyH_ready (rs := [10]) (by kernel_rfl) (by simp) (AllReadyH.cons (i := 10) rfl (fun K hK => ?_) AllReadyH.nil)
          go_simp
          refine hK.out _ _ (trivial) (fun hS => ?_)
          clear hK K
          try simp only [yA, yB, yC, Act.put, yD, yE, yF]
          refine wpAnyH_ready (rs := [11]) (by kernel_rfl) (by simp) (AllReadyH.cons (i := 11) rfl (fun K hK => ?_) AllReadyH.nil)
          go_simp
          refine (step_c HR.out.drew (by omega) x HX.out HXN.out (by have := HA0.out; omega) HCL.out HCB.out H11.out).mono ?_
          rintro e9 w3 ⟨rfl, G3, hra, hng⟩
          go_simp
          refine hK.out _ _ (trivial) (fun hS => ?_)
          clear hK K
          try simp only [yA, yB, yC, Act.put, yD, yE, yF]
          have HRA := As.mk hra
          have HN3 := As.mk hng
          clear hra hng
          refine wpAnyH_take (i := 12) (v := ?va22) rfl (by kernel_rfl) (by kernel_rfl) (by kernel_rfl) (fun _ _ _ h => h) (Or.inl ⟨by rfl, ?ya22⟩) hS ?ra22
          case ya22 => (intro w0 _; go_simp; try with_reducible rfl)
          try simp only [yA, yB, yC, Act.put, yD, yE, yF]
          refine wpAnyH_take (i := 13) (v := ?va23) rfl (by kernel_rfl) (by kernel_rfl) (by kernel_rfl) (fun _ _ _ h => h) (Or.inl ⟨by rfl, ?ya23⟩) hS ?ra23
          case ya23 => (intro w0 _; go_simp; try with_reducible rfl)
          try simp only [yA, yB, yC, Act.put, yD, yE, yF]
          refine wpAnyH_take (i := 14) (v := ?va24) rfl (by kernel_rfl) (by kernel_rfl) (by kernel_rfl) (fun _ _ _ h => h) (Or.inl ⟨by rfl, ?ya24⟩) hS ?ra24
          case ya24 => (intro w0 _; go_simp; try with_reducible rfl)
          try simp only [yA, yB, yC, Act.put, yD, yE, yF]
          refine wpAnyH_take (i := 15) (v := ?va25) rfl (by kernel_rfl) (by kernel_rfl) (by kernel_rfl) (fun _ _ _ h => h) (Or.inl ⟨by rfl, ?ya25⟩) hS ?ra25
          case ya25 => (intro w0 _; go_simp; try with_reducible rfl)
          try simp only [yA, yB, yC, Act.put, yD, yE, yF]
          refine wpAnyH_take (i := 16) (v := ?va26) rfl (by kernel_rfl) (by kernel_rfl) (by kernel_rfl) (fun _ _ _ h => h) (Or.inl ⟨by rfl, ?ya26⟩) hS ?ra26
          case ya26 => (intro w0 _; go_simp; try with_reducible rfl)
          try simp only [yA, yB, yC, Act.put, yD, yE, yF]
          refine wpAnyH_done (by kernel_rfl) ?_ _
          refine NoPanic.normal ?_
          try simp only [Exit.then]
          go_wp2_with fail
          go_meet
          case rel => exact ⟨rfl, rfl, ⟨G3, HRA.out, by rw [HG1.out]; exact (ng_drew W).trans HN3.out⟩⟩
      case rest =>
        obtain ⟨rfl, rfl, HC⟩ := hcut
        obtain ⟨G3, hra, hng⟩ := HC.out
        have HRA := As.mk hra
        have HN3 := As.mk (HNG.out.trans hng)
        clear HC hra hng c1 c2 e0 e1 e2 e3 e4
        by_cases h0 : (stepR l x s1).1 = 0
        · have hst := HRI.out.step HP.out HXJ.out h0
          have HRI2 := As.mk hst.1
          have hat2 := hst.2
          have HGO2 := As.mk ((goR_step HP.out HRI.out HXJ.out h0).symm.trans HGO.out)
          clear hst
          have hz : ((stepR l x s1).1 != 0) = false := by rw [h0]; rfl
          clear h0
          generalize (stepR l x s1).1 = z1 at *
          generalize (stepR l x s1).2.1 = z2 at *
          generalize (stepR l x s1).2.2 = s2 at *
          have hle2 := HRI2.out.le
          go_wp2_with fail
          go_roundw
          case measure =>
            rw [HMS.out]
            obtain ⟨B2, nb2, F2, lv2, cv2, _, hR2⟩ := HRA.out
            rw [atOf_eq hR2]
            omega
          case rel => exact ⟨_, G3, K1 + 1, HRA.out, HN3.out, HRI2.out, by omega, HGO2.out⟩
        · have hz : ((stepR l x s1).1 != 0) = true := by simpa using h0
          have HST := As.mk (stepR_stay h0).1
          have HGS := As.mk ((goR_stop HXJ.out h0).symm.trans HGO.out)
          clear h0
          have HA1 := As.mk (show (goR l 40 s).1 = (stepR l x s1).1 by rw [← HGS.out])
          have HA2 := As.mk (show (goR l 40 s).2.1 = (stepR l x s1).2.1 by rw [← HGS.out])
          have HA3 := As.mk (show (goR l 40 s).2.2 = s1 by rw [← HGS.out]; exact HST.out)
          rw [HST.out] at HRA
          generalize (stepR l x s1).1 = z1 at *
          generalize (stepR l x s1).2.1 = z2 at *
          clear HGS HST HGO
          go_wp2_with fail
          go_ret2
          refine ⟨by rw [HA1.out, HA2.out]; rfl, ?_⟩
          rw [HA3.out]
          exact ⟨G3, HRA.out.mono (by have := HA0.out; omega), HN3.out, HRI.out⟩
    · have hx : l[s1.at_]? = none := List.getElem?_eq_none_iff.2 (by omega)
      have HXJ := As.mk hx
      clear hx
      go_upto_region 3 with fail
      go_quiet (fail)
      clear c1 c2
      go_wp2_with fail
      go_ret2
      have hd := goR_done HXJ.out
      rw [hd] at HGO
      refine ⟨by rw [← HGO.out]; rfl, ?_⟩
      rw [← HGO.out]
      exact ⟨_, ⟨_, _, _, _, _, rfl, (HR.out.grown (gr_drewN (gr_refl _ none) _)).mono' (by have := HA0.out; omega)⟩, by rw [← HG1.out]; exact HNG.out.trans (ng_none (gr_drewN (gr_refl _ none) _)), HRI.out⟩
end
section
open Go.RowKit
set_option linter.unusedVariables false

/-- A slice that reads as the cells news: n elements; nil too. -/
def SrcV (w : World) (size : Nat) (x : Value) (m : Nat) (news : List Value) : Prop :=
  (x = .slice none 0 0 ∧ m = 0 ∧ news = []) ∨ ∃ ad c, x = .slice (some ad) m c ∧ news.length = m * size ∧ (∀ j u, news[j]? = some u → w.cell? (ad.add j) = some u) ∧ ∀ u ∈ news, u.oneCell' = true
theorem run_append_any (P : Program) (w : World) (t ty : TypeId) (base : Nat) (e : TypeId) (i : TypeInfo) (z : Value) (size bytes : Nat) (ht : P.underlying t = some (.slice e)) (hi : P.info? e = some i) (hz : i.zero = some z)
    (hsize : i.size = size) (hby : i.bytes = bytes) (hzs : z.cells.size = size) (hsz : 0 < size)
    (v : Value) (n : Nat) (xs : List Value) (hown : w.ownsRow base e size v n xs) (x : Value) (m : Nat) (news : List Value) (hx : SrcV w size x m news) (hv : ∃ g cap, v = .slice (some ⟨g, 0, none⟩) n cap)
    (h63 : n + m ≤ maxLen) (hbytes : (n + m) * bytes ≤ 140737488355328) (hbase : base ≤ w.heap.size) :
    ∃ v' w', (Builtin.append_ #[t, t] ty #[v, x]).run P w = .ok v' w' ∧ w'.ownsRow base e size v' (n + m) (xs ++ news) ∧ w.grownBy w' v.ownBlock ∧ (v'.ownBlock = v.ownBlock ∨ v'.ownBlock = some w.heap.size) ∧ ∃ g cap, v' = .slice (some ⟨g, 0, none⟩) (n + m) cap := by
  rcases hx with ⟨rfl, rfl, rfl⟩ | ⟨ad, c, rfl, h1, h2, h3⟩
  · obtain ⟨g, cap, rfl⟩ := hv
    refine ⟨_, w, ?_, by simpa using hown, gr_refl _ _, .inl rfl, _, _, rfl⟩
    have hle : n ≤ cap := by
      rcases hown.2 with ⟨q, _⟩ | ⟨g', cap', cur, q, _, _, h1, _⟩
      · cases q
      · injection q with _ _ q
        subst q
        exact h1
    have := run_append_room_src (P := P) w t t ty e i ht hi g 0 n cap (.slice none 0 0) 0 [] (Src.ofNil w ht 0) (by omega) (by simp) (by simp)
    simpa [World.setCells] using this
  · obtain ⟨v', w', hr, h4, h5, h7, h6⟩ := run_append_own_at (P := P) w base t ty e i z size bytes ht hi hz hsize hby hzs hsz v n xs hown ad m c news h1 h2 h3 h63 hbytes hbase
    refine ⟨v', w', hr, h4, h5, h6, ?_⟩
    rcases h4.2 with ⟨q, _⟩ | ⟨g', cap', cur, q, _⟩
    · obtain ⟨g, cap, rfl⟩ := hv
      have := (h7.1 q).1
      cases this
    · exact ⟨g', cap', q⟩
theorem step_append_any {P : Program} {w : World} {ops : Array Oper} {o : Oper} {a : Act} {K : Act → World → Prop} {Q : Exit → Act → World → Prop} {E : Prop} (hgd : o.guard = none) (s y : Operand) (t : TypeId)
    (ho : o.op = .call { callee := .builtin .append, args := #[s, y], argTypes := #[t, t] })
    (base : Nat) (e : TypeId) (i : TypeInfo) (z : Value) (size bytes : Nat) (ht : P.underlying t = some (.slice e)) (hi : P.info? e = some i) (hz : i.zero = some z)
    (hsize : i.size = size) (hby : i.bytes = bytes) (hzs : z.cells.size = size) (hsz : 0 < size)
    (v : Value) (n : Nat) (xs : List Value) (hs : a.eval s = v) (hown : w.ownsRow base e size v n xs) (x : Value) (m : Nat) (news : List Value) (hy : a.eval y = x) (hx : SrcV w size x m news) (hv : ∃ g cap, v = .slice (some ⟨g, 0, none⟩) n cap)
    (h63 : n + m ≤ maxLen) (hbytes : (n + m) * bytes ≤ 140737488355328) (hbase : base ≤ w.heap.size)
    (hk : ∀ v' w', w'.ownsRow base e size v' (n + m) (xs ++ news) → w.grownBy w' v.ownBlock → (v'.ownBlock = v.ownBlock ∨ v'.ownBlock = some w.heap.size) → (∃ g cap, v' = .slice (some ⟨g, 0, none⟩) (n + m) cap) → K (a.put o.dst v') w') :
    if Region.wanted o (yielded ops a.tmps) = true then Oper.wp P o a w K Q else E := by
  have hw : Region.wanted o (yielded ops a.tmps) = true := by simp [Region.wanted, hgd]
  rw [if_pos hw]
  obtain ⟨v', w', hr, h1, h2, h3, h4⟩ := run_append_any P w t o.type base e i z size bytes ht hi hz hsize hby hzs hsz v n xs hown x m news hx hv h63 hbytes hbase
  unfold Oper.wp execOp
  simp only [ho, resolve, invoke, builtin, Sem.run_bind, Sem.run_pure, Result.andThen_ok, List.map_toArray, List.map_cons, List.map_nil, hs, hy, hr]
  exact hk _ _ h1 h2 h3 h4
theorem wpList_append_any {P : Program} {w : World} {ops : Array Oper} {rest : List Oper} {o : Oper} {a : Act} {Q : Exit → Act → World → Prop} (hgd : o.guard = none) (s y : Operand) (t : TypeId)
    (ho : o.op = .call { callee := .builtin .append, args := #[s, y], argTypes := #[t, t] })
    (base : Nat) (e : TypeId) (i : TypeInfo) (z : Value) (size bytes : Nat) (ht : P.underlying t = some (.slice e)) (hi : P.info? e = some i) (hz : i.zero = some z)
    (hsize : i.size = size) (hby : i.bytes = bytes) (hzs : z.cells.size = size) (hsz : 0 < size)
    (v : Value) (n : Nat) (xs : List Value) (hs : a.eval s = v) (hown : w.ownsRow base e size v n xs) (x : Value) (m : Nat) (news : List Value) (hy : a.eval y = x) (hx : SrcV w size x m news) (hv : ∃ g cap, v = .slice (some ⟨g, 0, none⟩) n cap)
    (h63 : n + m ≤ maxLen) (hbytes : (n + m) * bytes ≤ 140737488355328) (hbase : base ≤ w.heap.size)
    (hk : ∀ v' w', w'.ownsRow base e size v' (n + m) (xs ++ news) → w.grownBy w' v.ownBlock → (v'.ownBlock = v.ownBlock ∨ v'.ownBlock = some w.heap.size) → (∃ g cap, v' = .slice (some ⟨g, 0, none⟩) (n + m) cap) → wpList P ops Q rest (a.put o.dst v') w') : wpList P ops Q (o :: rest) a w := by
  refine wpList_plain hgd fun K' hK' => ?_
  obtain ⟨v', w', hr, h1, h2, h3, h4⟩ := run_append_any P w t o.type base e i z size bytes ht hi hz hsize hby hzs hsz v n xs hown x m news hx hv h63 hbytes hbase
  unfold Oper.wp execOp
  simp only [ho, resolve, invoke, builtin, Sem.run_bind, Sem.run_pure, Result.andThen_ok, List.map_toArray, List.map_cons, List.map_nil, hs, hy, hr]
  exact hK' _ _ (hk _ _ h1 h2 h3 h4)
/-- A row of the call's own, as a source; and parts of it. -/
theorem own_src {w : World} {base : Nat} {e : TypeId} {size n : Nat} {v : Value} {xs : List Value} (h : w.ownsRow base e size v n xs) (h1 : ∀ u ∈ xs, u.oneCell' = true) : SrcV w size v n xs := by
  rcases h.2 with ⟨rfl, h0⟩ | ⟨g, cap, cur, rfl, hb, hh, r1, r2, r3, r4⟩
  · refine .inl ⟨rfl, h0, ?_⟩
    have := h.1
    rw [h0] at this
    exact List.eq_nil_of_length_eq_zero (by simpa using this)
  · exact .inr ⟨_, _, rfl, h.1, fun j u hj => h.cells (g := g) rfl j u hj, h1⟩
end
section
open Go.RowKit
set_option linter.unusedVariables false

/-- What Clone leaves. -/
def ClonePost (w : World) (t : TypeId) (s n : Nat) (xs : List Value) (e : Ending) (w' : World) : Prop := ∃ v, e = .returned v ∧ w'.ownsRow w.heap.size t s v n xs ∧ w.grownBy w' none
theorem SrcV.grown {w w' : World} {s : Nat} {v : Value} {n : Nat} {xs : List Value} (h : SrcV w s v n xs) (hg : w.grownBy w' none) : SrcV w' s v n xs := by
  rcases h with h | ⟨ad, c, h0, h1, h2, h3⟩
  · exact .inl h
  · exact .inr ⟨ad, c, h0, h1, fun j u hu => hg.cell (h2 j u hu) (by simp), h3⟩
theorem own_srcV {w : World} {base : Nat} {e : TypeId} {size n : Nat} {v : Value} {xs : List Value} (h : w.ownsRow base e size v n xs) (h1 : ∀ u ∈ xs, u.oneCell' = true) : SrcV w size v n xs := by
  rcases h.2 with ⟨rfl, rfl⟩ | ⟨g, cap, cur, rfl, _⟩
  · exact .inl ⟨rfl, rfl, by have := h.1; simpa using this⟩
  · exact .inr ⟨_, cap, rfl, h.1, fun j u hu => h.cells (g := g) rfl j u hu, h1⟩
/-- .. nil with whatever room, too. -/
def SrcA (w : World) (size : Nat) (x : Value) (m : Nat) (news : List Value) : Prop :=
  (∃ c, x = .slice none 0 c ∧ m = 0 ∧ news = []) ∨ ∃ ad c, x = .slice (some ad) m c ∧ news.length = m * size ∧ (∀ j u, news[j]? = some u → w.cell? (ad.add j) = some u) ∧ ∀ u ∈ news, u.oneCell' = true
theorem SrcV.srcA {w : World} {s : Nat} {v : Value} {n : Nat} {xs : List Value} (h : SrcV w s v n xs) : SrcA w s v n xs := by
  rcases h with ⟨h1, h2, h3⟩ | h
  · exact .inl ⟨0, h1, h2, h3⟩
  · exact .inr h
theorem SrcA.grown {w w' : World} {s : Nat} {v : Value} {n : Nat} {xs : List Value} (h : SrcA w s v n xs) (hg : w.grownBy w' none) : SrcA w' s v n xs := by
  rcases h with h | ⟨ad, c, h0, h1, h2, h3⟩
  · exact .inl h
  · exact .inr ⟨ad, c, h0, h1, fun j u hu => hg.cell (h2 j u hu) (by simp), h3⟩
/-- The cells of a slice that reads as a list. -/
theorem Arr.cellsOf {α : Type} {E : World → α → List Value → Prop} {sz : Nat} {w : World} {v : Value} {xs : List α} (h : Arr E sz w v xs) (hz : 0 < sz) (h1 : ∀ x cs, E w x cs → ∀ u ∈ cs, u.oneCell' = true) :
    ∃ css : List (List Value), css.length = xs.length ∧ (∀ (j : Nat) (x : α), xs[j]? = some x → ∃ cs, css[j]? = some cs ∧ E w x cs ∧ cs.length = sz) ∧ (∀ cs ∈ css, cs.length = sz) ∧ SrcA w sz v xs.length css.flatten := by
  obtain ⟨A, c, rfl, ⟨hm, hc⟩, hh⟩ := h
  by_cases h0 : 0 < xs.length
  · obtain ⟨ad, rfl, hs, hall⟩ := hh h0
    obtain ⟨b, o, sp⟩ := ad
    dsimp only at hs
    subst hs
    have hch : ∀ j, j < xs.length → ∃ cs : List Value, (∃ x, xs[j]? = some x ∧ E w x cs) ∧ cs.length = sz ∧ ∀ i u, cs[i]? = some u → w.cell? ⟨b, o + j * sz + i, none⟩ = some u := fun j hj => by
      obtain ⟨cs, q1, q2, q3⟩ := hall j xs[j] (List.getElem?_eq_getElem hj)
      exact ⟨cs, ⟨_, List.getElem?_eq_getElem hj, q1⟩, q2, q3⟩
    obtain ⟨X, hX⟩ := Go.Deep.choose_lt (α := List Value) (n := xs.length) hch
    refine ⟨(List.range xs.length).map X, by simp, fun j x hx => ?_, fun cs hcs => ?_, .inr ⟨_, c, rfl, ?_, fun j u hu => ?_, fun u hu => ?_⟩⟩
    · have hj : j < xs.length := (List.getElem?_eq_some_iff.1 hx).1
      obtain ⟨⟨y, hy, q1⟩, q2, _⟩ := hX j hj
      rw [hx] at hy
      cases hy
      exact ⟨X j, by simp [hj], q1, q2⟩
    · obtain ⟨j, hj, rfl⟩ := List.mem_map.1 hcs
      exact (hX j (List.mem_range.1 hj)).2.1
    · rw [List.length_flatten, List.map_map]
      have : (List.range xs.length).map (List.length ∘ X) = List.replicate xs.length sz := by
        apply List.ext_getElem
        · simp
        · intro i q1 q2
          simp at q1
          simp [(hX i q1).2.1]
      rw [this]; simp
    · have hfl : ∀ (m : Nat), m ≤ xs.length → ∀ j u, (((List.range m).map X).flatten)[j]? = some u → ∃ i k, i < m ∧ k < sz ∧ j = i * sz + k ∧ (X i)[k]? = some u := by
        intro m
        induction m with
        | zero => intro _ j u q; simp at q
        | succ m ih =>
          intro hm' j u q
          have hlen : ((List.range m).map X).flatten.length = m * sz := by
            rw [List.length_flatten, List.map_map]
            have : (List.range m).map (List.length ∘ X) = List.replicate m sz := by
              apply List.ext_getElem
              · simp
              · intro i q1 q2
                simp at q1
                simp [(hX i (by omega)).2.1]
            rw [this]; simp
          rw [List.range_succ, List.map_append, List.flatten_append] at q
          by_cases hj : j < m * sz
          · rw [List.getElem?_append_left (by omega)] at q
            obtain ⟨i, k, e1, e2, e3, e4⟩ := ih (by omega) j u q
            exact ⟨i, k, by omega, e2, e3, e4⟩
          · rw [List.getElem?_append_right (by omega), hlen] at q
            simp only [List.map_cons, List.map_nil, List.flatten_cons, List.flatten_nil, List.append_nil] at q
            have hk := (List.getElem?_eq_some_iff.1 q).1
            rw [(hX m (by omega)).2.1] at hk
            exact ⟨m, j - m * sz, by omega, hk, by omega, q⟩
      obtain ⟨i, k, e1, e2, e3, e4⟩ := hfl xs.length (Nat.le_refl _) j u hu
      have := (hX i e1).2.2 k u e4
      rw [e3]
      rw [← this]
      congr 1
      unfold Addr.add
      split <;> simp_all
      omega
    · obtain ⟨cs, hcs, hu2⟩ := List.mem_flatten.1 hu
      obtain ⟨j, hj, rfl⟩ := List.mem_map.1 hcs
      obtain ⟨⟨y, hy, q1⟩, _, _⟩ := hX j (List.mem_range.1 hj)
      exact h1 y _ q1 u hu2
  · obtain rfl : xs = [] := List.eq_nil_of_length_eq_zero (by omega)
    refine ⟨[], rfl, fun j x hx => absurd hx (by simp), fun cs hcs => absurd hcs (by simp), ?_⟩
    rcases A with _ | ad
    · exact .inl ⟨c, rfl, rfl, rfl⟩
    · exact .inr ⟨ad, c, rfl, by simp, fun j u hu => by simp at hu, fun u hu => by simp at hu⟩
end
section
open Go.RowKit Go.Maps Go.Sort Go.Shelf
set_option linter.unusedVariables false

def ivs (l : List Int) : List Value := l.map (Value.int .i64)
theorem sortsA (m : Nat) : AnyZI.SortsIn Try.prog Try.sortedA_ren Fence.wide m :=
  ⟨fun blk off cap ss W hH hblk hsz => callsIn_wide.2 (Try.slices_Sort_int blk off cap ss W hH hblk hsz),
   fun p cap W => callsIn_wide.2 (Try.slices_Sort_int_none p cap W)⟩
theorem keysF_sort {α : Type} {f : Int → Option α} {ss : List Int} (h : (keysF f).Perm ss) : ss.mergeSort (fun x y => decide (x ≤ y)) = keysF f := by
  have h1 : ss.mergeSort leI = (keysF f).mergeSort leI := (mergeSort_of_perm_i h).symm
  have h2 : (keysF f).mergeSort leI = keysF f := List.mergeSort_of_pairwise ((keysF_sorted f).imp (fun {a b} hab => by simp only [leI, decide_eq_true_eq]; omega))
  exact h1.trans h2
theorem keys_c (b : Nat) (w : World) : Calls Try.prog 45 #[.map (some b)] w fun e w' => e = .returned (.func (.func 62) #[] #[.pointer (some ⟨w.heap.size, 0, none⟩)]) ∧ w' = w.alloc (.cells #[.map (some b)] 79) :=
  (callsIn_wide (n := 5)).1 (AnyZI.keys_in Try.keysA Fence.wide 5 trivial rfl (some b) w)
theorem sorted_c {w : World} {b n : Nat} {f : Int → Option (Int × Int)} (h : MapF elSeen w b n f) (hf : ∀ c, (f c).isSome = true → 0 ≤ c ∧ c < 16) :
    Calls Try.prog 44 #[.func (.func 62) #[] #[.pointer (some ⟨w.heap.size, 0, none⟩)]] (w.alloc (.cells #[.map (some b)] 79)) fun e w' =>
      (∃ v, e = .returned v ∧ w'.ownsRow w.heap.size 3 1 v (keysF f).length (ivs (keysF f))) ∧ w.grownBy w' none := by
  have hb := h.lt
  obtain ⟨D, hown, hD⟩ := h
  have hp := perm_F hown hD hf
  have hsz := size_F hown hD hf
  have hlen : (keysF f).length ≤ 16 := by
    unfold keysF
    refine Nat.le_trans (List.length_filter_le _ _) ?_
    simp
  refine (callsIn_wide (n := 5)).1 ?_
  have hseq : SeqGives Fence.wide 2 Try.prog 62 #[.pointer (some ⟨w.heap.size, 0, none⟩)] encZ (fun ss => ss.Perm (intKeys D)) (Maps.size D) (w.alloc (.cells #[.map (some b)] 79)) :=
    AnyZI.keys_gives (ρ := Try.keysA_ren) { Try.keysA with } Fence.wide _ trivial rfl (by omega) w.heap.size b n D _ (by simp) (by simp) (by
      obtain ⟨es, clock, hb, Ft, hs, hD⟩ := hown
      exact ⟨es, clock, (Below.heap_alloc _ _ b (by assumption)).trans hb, Ft, hs, hD⟩)
  have cS := AnyZI.sorted_in Try.sortedA Fence.wide 5 trivial trivial trivial trivial rfl (by omega) (sortsA _) (enters_of Try.func32 (by kernel_rfl) rfl) 62 #[.pointer (some ⟨w.heap.size, 0, none⟩)] trivial (enters_of Try.func62 (by kernel_rfl) rfl) _ (Maps.size D) (by rw [hsz]; unfold maxLen; omega) (by rw [hsz]; omega) _ hseq
  change CallsIn _ _ Try.prog 44 _ _ _ at cS
  refine cS.mono ?_
  rintro e w' ⟨v, ss, rfl, hS, hrow, -, hbl⟩
  have e1 := keysF_sort (hp.trans hS.symm)
  have e2 : ss.length = (keysF f).length := (hp.trans hS.symm).length_eq.symm
  rw [e1, e2] at hrow
  refine ⟨⟨v, rfl, ownsRow_base_a hrow (by simp)⟩, (gr_alloc (gr_refl w none) _).trans (below_gr hbl none)⟩
end
section
open Go.RowKit Go.Maps
set_option linter.unusedVariables false
set_option linter.unusedSimpArgs false

structure PIt where
  c : Int
  v : Int
  a : Int
  wr : Bool
  nw : Int
def ItE (w : World) (x : PIt) (cs : List Value) : Prop := cs = [.int .i64 x.c, .int .i64 x.v, .int .i64 x.a, .bool x.wr, .int .i64 x.nw]
theorem ItE.any {w w' : World} (x : PIt) (cs : List Value) (h : ItE w x cs) : ItE w' x cs := h
def itCells (l : List PIt) : List Value := l.flatMap fun x => [.int .i64 x.c, .int .i64 x.v, .int .i64 x.a, .bool x.wr, .int .i64 x.nw]
theorem itCells_snoc (l : List PIt) (x : PIt) : itCells (l ++ [x]) = itCells l ++ [.int .i64 x.c, .int .i64 x.v, .int .i64 x.a, .bool x.wr, .int .i64 x.nw] := by
  simp [itCells]
theorem itCells_at (l : List PIt) (j : Nat) (x : PIt) (hx : l[j]? = some x) : ∀ i u, [Value.int .i64 x.c, .int .i64 x.v, .int .i64 x.a, .bool x.wr, .int .i64 x.nw][i]? = some u → (itCells l)[j * 5 + i]? = some u := by
  induction l generalizing j with
  | nil => simp at hx
  | cons y l ih =>
    intro i u hu
    have hi : i < 5 := by have := (List.getElem?_eq_some_iff.1 hu).1; simpa using this
    have e : itCells (y :: l) = [.int .i64 y.c, .int .i64 y.v, .int .i64 y.a, .bool y.wr, .int .i64 y.nw] ++ itCells l := rfl
    cases j with
    | zero =>
      simp at hx
      subst hx
      rw [e, List.getElem?_append_left (by simp; omega)]
      simpa using hu
    | succ j =>
      simp at hx
      rw [e, List.getElem?_append_right (by simp; omega)]
      have := ih j hx i u hu
      simp only [List.length_cons, List.length_nil]
      rw [← this]
      congr 1
      omega
theorem Arr.of_its {w : World} {base : Nat} {e : TypeId} {v : Value} {l : List PIt} (h : w.ownsRow base e 5 v l.length (itCells l)) : Arr ItE 5 w v l := by
  rcases h.2 with ⟨rfl, h0⟩ | ⟨g, cap, cur, rfl, hb, hh, h1, h2, h3, h4⟩
  · obtain rfl : l = [] := List.eq_nil_of_length_eq_zero h0
    exact ⟨none, 0, rfl, by simp, fun h => by simp at h⟩
  · refine ⟨some ⟨g, 0, none⟩, cap, rfl, ⟨by simp only [maxLen] at h2; omega, h1⟩, fun _ => ⟨_, rfl, rfl, fun j x hx => ⟨_, rfl, rfl, fun i u hu => ?_⟩⟩⟩
    have := own_cellAt h (j * 5 + i) u (itCells_at l j x hx i u hu)
    rw [← this]
    congr 1
    simp
theorem own_gr0 {w w' : World} {base : Nat} {e : TypeId} {size n : Nat} {v : Value} {xs : List Value} (h : w.ownsRow base e size v n xs) (hg : w.grownBy w' none) : w'.ownsRow base e size v n xs :=
  own_grown h hg (by rcases hv : v.ownBlock with _ | x; exact .inl rfl; exact .inr (by simp))
theorem size2 (w : World) (a b : Addr) (u v : Value) : ((w.setCell a u).setCell b v).heap.size = w.heap.size := by simp [World.setCell]
theorem infoItem : (Try.prog.info? 40).map (fun i => (i.zero, i.size, i.bytes)) = some (some (.agg #[.int .i64 0, .int .i64 0, .int .i64 0, .bool false, .int .i64 0]), 5, 40) := by kernel_rfl
/-- What Items has of a cell. -/
def itN (rd : Rd) (lv : Lv) (c : Int) : PIt := ⟨c, ((rd.2 c).getD (0, 0)).1, ((rd.2 c).getD (0, 0)).2, (wrF lv c).isSome, (wrF lv c).getD 0⟩
def itsN (rd : Rd) (lv : Lv) : List PIt := (keysF rd.2).map (itN rd lv)
theorem NVal.dom {rd : Rd} {lv : Lv} (h : NVal rd lv) : ∀ c, (rd.2 c).isSome = true → 0 ≤ c ∧ c < 16 := fun c hc => by
  obtain ⟨p, hp⟩ := Option.isSome_iff_exists.1 hc
  have := h.cell c p hp
  unfold cellOk at this
  simp at this
  omega
set_option maxRecDepth 100000 in
set_option maxHeartbeats 6400000 in
theorem items_c {w : World} {B nb : Nat} {F : Nat → Prop} {rd : Rd} {lv : Lv} (h : NestAt w B nb F rd lv) (hl : lv.length ≤ 1000000) (h0 : 0 < lv.length) (hv : NVal rd lv) :
    Calls Try.prog 28 #[NP nb] w fun e w' => (∃ v, e = .returned v ∧ w'.ownsRow w.heap.size 40 5 v (itsN rd lv).length (itCells (itsN rd lv))) ∧ w.grownBy w' none := by
  obtain ⟨i0, hi, hz0, hz1, hz2⟩ := info_parts infoItem
  have HI := As.mk (And.intro hi (And.intro hz0 (And.intro hz1 hz2)))
  clear hi hz0 hz1 hz2
  have hn16 : (keysF rd.2).length ≤ 16 := by
    unfold keysF
    refine Nat.le_trans (List.length_filter_le _ _) ?_
    simp
  have HN := As.mk (And.intro h (And.intro hl (And.intro h0 hv)))
  obtain ⟨rb, v, bs, hF, hW⟩ := h
  have c0 := hW.blk.cell 0
  have HR := As.mk hW.rmap
  have HBk := As.mk hW.blk
  clear hF hW hl h0 hv
  unfold NP
  go_enter Try.func28, Try.ntmps28
  go_wp2_with fail
  refine (keys_c rb w).mono ?_
  rintro e w1 ⟨rfl, rfl⟩
  go_wp2_with fail
  refine (sorted_c HR.out HN.out.2.2.2.dom).mono ?_
  rintro e w1 ⟨⟨sv, rfl, hown⟩, g1⟩
  obtain ⟨A, cap, rfl⟩ := own_shape hown
  have H1 := As.mk (And.intro hown g1)
  clear hown g1 c0
  obtain ⟨base, hbase⟩ : ∃ b, b = w1.heap.size := ⟨_, rfl⟩
  have HB := As.mk hbase
  clear hbase
  go_wp2_with fail
  go_loopw [3, 16] (fun o i wr => ∃ k : Nat, k ≤ (keysF rd.2).length ∧ i = .int .i64 k ∧ (∃ A' c', o = .slice A' k c') ∧ As (wr.ownsRow base 40 5 o k (itCells ((itsN rd lv).take k)) ∧ w1.grownBy wr none)) (fun _ i _ => (keysF rd.2).length - (Go.RowKit.intOf i).toNat)
  case atStart => exact ⟨0, Nat.zero_le _, rfl, ⟨_, _, rfl⟩, ⟨⟨by simp [itCells], .inl ⟨rfl, rfl⟩⟩, gr_refl _ _⟩⟩
  case round =>
    obtain ⟨k, hk, rfl, ⟨A', c', rfl⟩, HL⟩ := hrel
    by_cases hlt : k < (keysF rd.2).length
    · have hltI : (k : Int) < ((keysF rd.2).length : Int) := by omega
      have hk0 : (0 : Int) ≤ (k : Int) := by omega
      obtain ⟨ga, cap', hv⟩ := own_some H1.out.1 (by omega)
      injection hv with hv1 _ hv3
      subst hv1 hv3
      have hcI : (ivs (keysF rd.2))[k]? = some (.int .i64 (keysF rd.2)[k]) := by simp [ivs, List.getElem?_eq_getElem hlt]
      have d0 : wr.cell? ⟨ga, k, none⟩ = _ := HL.out.2.cell (own_cellAt H1.out.1 k _ hcI) (by simp)
      have hmem := mem_keysF.1 (List.getElem_mem hlt)
      have htk : (itsN rd lv).take (k + 1) = (itsN rd lv).take k ++ [itN rd lv (keysF rd.2)[k]] := by
        have hl2 : k < (itsN rd lv).length := by unfold itsN; simpa using hlt
        rw [List.take_succ_eq_append_getElem hl2]
        simp [itsN]
      generalize hc : (keysF rd.2)[k] = c at *
      obtain ⟨⟨hc0, hc1⟩, hc2⟩ := hmem
      obtain ⟨p, hp⟩ := Option.isSome_iff_exists.1 hc2
      obtain ⟨p1, p2⟩ := p
      have HG := As.mk (show w.grownBy wr none from H1.out.2.trans HL.out.2)
      have hrow := HG.out
      have e0 := hrow.cell (HBk.out.cell 0) (by simp)
      have HMr := As.mk (HR.out.kept hrow (by simp))
      have HP := As.mk (And.intro hp (show K64 c from ⟨by omega, by omega⟩))
      have HTK := As.mk htk
      clear hrow hc hp hc2 htk hcI
      go_wp2_with fail
      refine wp_region_noPanic ?_
      have HOd := As.mk (show wr.drew.ownsRow base 40 5 (.slice A' k c') k (itCells ((itsN rd lv).take k)) from HL.out.1)
      have HGd := As.mk (show w.grownBy wr.drew none from gr_drew HG.out)
      have HG1d := As.mk (show w1.grownBy wr.drew none from gr_drew HL.out.2)
      have HMd := As.mk (HR.out.kept HGd.out (by simp))
      have E0d := As.mk (HGd.out.cell (HBk.out.cell 0) (by simp))
      clear HL HG HMr e0
      have hfd0 : ∀ w : World, (Instr.field 87 (.agg #[.int .i64 p1, .int .i64 p2]) 0).run Try.prog w = .ok (.int .i64 p1) w := fun _ => by kernel_rfl
      have hfd1 : ∀ w : World, (Instr.field 87 (.agg #[.int .i64 p1, .int .i64 p2]) 1).run Try.prog w = .ok (.int .i64 p2) w := fun _ => by kernel_rfl
      refine wp_region_held_drew (S := fun w' => w'.cell? ⟨nb, 0, none⟩ = some (.map (some rb)) ∧ MapF elSeen w' rb rd.1 rd.2) (by kernel_rfl) ⟨E0d.out, HMd.out⟩ (fun _ => ?_)
      generalize wr.drew = W2 at *
      refine wpAnyH_take (i := 0) (v := ?v0) rfl (by kernel_rfl) (by kernel_rfl) (by kernel_rfl) (fun _ _ _ h => h) (Or.inl ⟨by rfl, ?y0⟩) ⟨E0d.out, HMd.out⟩ ?r0
      case y0 => (intro w0_ _; go_simp; try with_reducible rfl)
      try simp only [Act.put, List.setIfInBounds_toArray, List.set_cons_zero, List.set_cons_succ]
      refine wpAnyH_take (i := 1) (v := ?v1) rfl (by kernel_rfl) (by kernel_rfl) (by kernel_rfl) (fun _ _ _ h => h) (Or.inl ⟨by rfl, ?y1⟩) ⟨E0d.out, HMd.out⟩ ?r1
      case y1 => (intro w0_ _; go_simp; try with_reducible rfl)
      try simp only [Act.put, List.setIfInBounds_toArray, List.set_cons_zero, List.set_cons_succ]
      refine wpAnyH_take (i := 2) (v := ?v2) rfl (by kernel_rfl) (by kernel_rfl) (by kernel_rfl) (fun _ _ _ h => h) (Or.inl ⟨by rfl, ?y2⟩) ⟨E0d.out, HMd.out⟩ ?r2
      case y2 => (intro w0_ _; go_simp; try with_reducible rfl)
      try simp only [Act.put, List.setIfInBounds_toArray, List.set_cons_zero, List.set_cons_succ]
      refine wpAnyH_take (i := 3) (v := ?v3) rfl (by kernel_rfl) (by kernel_rfl) (by kernel_rfl) (fun _ _ _ h => h) (Or.inl ⟨by rfl, ?y3⟩) ⟨E0d.out, HMd.out⟩ ?r3
      case y3 => (intro w0_ _; go_simp; try with_reducible rfl)
      try simp only [Act.put, List.setIfInBounds_toArray, List.set_cons_zero, List.set_cons_succ]
      refine wpAnyH_take (i := 4) (v := ?v4) rfl (by kernel_rfl) (by kernel_rfl) (by kernel_rfl) (fun _ _ _ h => h) (Or.inl ⟨by rfl, ?y4⟩) ⟨E0d.out, HMd.out⟩ ?r4
      case y4 => (intro w0_ hs_; have hs1_ := hs_.1; go_simp; try with_reducible rfl)
      try simp only [Act.put, List.setIfInBounds_toArray, List.set_cons_zero, List.set_cons_succ]
      refine wpAnyH_take (i := 5) (v := ?v5) rfl (by kernel_rfl) (by kernel_rfl) (by kernel_rfl) (fun _ _ _ h => h) (Or.inl ⟨by rfl, ?y5⟩) ⟨E0d.out, HMd.out⟩ ?r5
      case y5 => (intro w0_ _; go_simp; try with_reducible rfl)
      try simp only [Act.put, List.setIfInBounds_toArray, List.set_cons_zero, List.set_cons_succ]
      refine wpAnyH_take (i := 6) (v := ?v6) rfl (by kernel_rfl) (by kernel_rfl) (by kernel_rfl) (fun _ _ _ h => h) (Or.inl ⟨by rfl, ?y6⟩) ⟨E0d.out, HMd.out⟩ ?r6
      case y6 => (intro w0_ hs_; have hrun_ : (Instr.lookup 79 (.map (some rb)) (.int .i64 c) false).run Try.prog w0_ = .ok (.agg #[.int .i64 p1, .int .i64 p2]) w0_ := hs_.2.run1 HP.out.2 HP.out.1; go_simp; try with_reducible rfl)
      try simp only [Act.put, List.setIfInBounds_toArray, List.set_cons_zero, List.set_cons_succ]
      refine wpAnyH_take (i := 7) (v := ?v7) rfl (by kernel_rfl) (by kernel_rfl) (by kernel_rfl) (fun _ _ _ h => h) (Or.inl ⟨by rfl, ?y7⟩) ⟨E0d.out, HMd.out⟩ ?r7
      case y7 => (intro w0_ _; go_simp; try with_reducible rfl)
      try simp only [Act.put, List.setIfInBounds_toArray, List.set_cons_zero, List.set_cons_succ]
      refine wpAnyH_take (i := 8) (v := ?v8) rfl (by kernel_rfl) (by kernel_rfl) (by kernel_rfl) (fun _ _ _ h => h) (Or.inl ⟨by rfl, ?y8⟩) ⟨E0d.out, HMd.out⟩ ?r8
      case y8 => (intro w0_ _; go_simp; try with_reducible rfl)
      try simp only [Act.put, List.setIfInBounds_toArray, List.set_cons_zero, List.set_cons_succ]
      refine wpAnyH_take (i := 9) (v := ?v9) rfl (by kernel_rfl) (by kernel_rfl) (by kernel_rfl) (fun _ _ _ h => h) (Or.inl ⟨by rfl, ?y9⟩) ⟨E0d.out, HMd.out⟩ ?r9
      case y9 => (intro w0_ _; go_simp; try with_reducible rfl)
      try simp only [Act.put, List.setIfInBounds_toArray, List.set_cons_zero, List.set_cons_succ]
      refine wpAnyH_take (i := 10) (v := ?v10) rfl (by kernel_rfl) (by kernel_rfl) (by kernel_rfl) (fun _ _ _ h => h) (Or.inl ⟨by rfl, ?y10⟩) ⟨E0d.out, HMd.out⟩ ?r10
      case y10 => (intro w0_ _; go_simp; try with_reducible rfl)
      try simp only [Act.put, List.setIfInBounds_toArray, List.set_cons_zero, List.set_cons_succ]
      refine wpAnyH_take (i := 11) (v := ?v11) rfl (by kernel_rfl) (by kernel_rfl) (by kernel_rfl) (fun _ _ _ h => h) (Or.inl ⟨by rfl, ?y11⟩) ⟨E0d.out, HMd.out⟩ ?r11
      case y11 => (intro w0_ hs_; have hs1_ := hs_.1; go_simp; try with_reducible rfl)
      try simp only [Act.put, List.setIfInBounds_toArray, List.set_cons_zero, List.set_cons_succ]
      refine wpAnyH_take (i := 12) (v := ?v12) rfl (by kernel_rfl) (by kernel_rfl) (by kernel_rfl) (fun _ _ _ h => h) (Or.inl ⟨by rfl, ?y12⟩) ⟨E0d.out, HMd.out⟩ ?r12
      case y12 => (intro w0_ _; go_simp; try with_reducible rfl)
      try simp only [Act.put, List.setIfInBounds_toArray, List.set_cons_zero, List.set_cons_succ]
      refine wpAnyH_take (i := 13) (v := ?v13) rfl (by kernel_rfl) (by kernel_rfl) (by kernel_rfl) (fun _ _ _ h => h) (Or.inl ⟨by rfl, ?y13⟩) ⟨E0d.out, HMd.out⟩ ?r13
      case y13 => (intro w0_ hs_; have hrun_ : (Instr.lookup 79 (.map (some rb)) (.int .i64 c) false).run Try.prog w0_ = .ok (.agg #[.int .i64 p1, .int .i64 p2]) w0_ := hs_.2.run1 HP.out.2 HP.out.1; go_simp; try with_reducible rfl)
      try simp only [Act.put, List.setIfInBounds_toArray, List.set_cons_zero, List.set_cons_succ]
      refine wpAnyH_take (i := 14) (v := ?v14) rfl (by kernel_rfl) (by kernel_rfl) (by kernel_rfl) (fun _ _ _ h => h) (Or.inl ⟨by rfl, ?y14⟩) ⟨E0d.out, HMd.out⟩ ?r14
      case y14 => (intro w0_ _; go_simp; try with_reducible rfl)
      try simp only [Act.put, List.setIfInBounds_toArray, List.set_cons_zero, List.set_cons_succ]
      refine wpAnyH_take (i := 15) (v := ?v15) rfl (by kernel_rfl) (by kernel_rfl) (by kernel_rfl) (fun _ _ _ h => h) (Or.inl ⟨by rfl, ?y15⟩) ⟨E0d.out, HMd.out⟩ ?r15
      case y15 => (intro w0_ _; go_simp; try with_reducible rfl)
      try simp only [Act.put, List.setIfInBounds_toArray, List.set_cons_zero, List.set_cons_succ]
      refine wpAnyH_ready (rs := [16]) (by kernel_rfl) (by simp) (AllReadyH.cons (i := 16) rfl (fun K hK => ?_) AllReadyH.nil)
      go_simp
      have hw2 : W2.heap.size < (W2.alloc (.cells #[.int .i64 0, .int .i64 0, .int .i64 0, .bool false, .int .i64 0] 40)).heap.size := by simp
      refine hK.out _ _ ⟨(((HBk.out.grown HGd.out (by simp)).alloc _).cell 0), HMd.out.alloc _⟩ (fun _ => ?_)
      clear hK K
      try simp only [Act.put, List.setIfInBounds_toArray, List.set_cons_zero, List.set_cons_succ]
      refine wpAnyH_ready (rs := [17]) (by kernel_rfl) (by simp) (AllReadyH.cons (i := 17) rfl (fun K hK => ?_) AllReadyH.nil)
      go_simp
      refine hK.out _ _ ⟨(((HBk.out.grown HGd.out (by simp)).alloc _).cell 0), HMd.out.alloc _⟩ (fun _ => ?_)
      clear hK K
      try simp only [Act.put, List.setIfInBounds_toArray, List.set_cons_zero, List.set_cons_succ]
      refine wpAnyH_done (by kernel_rfl) ?_ _
      refine NoPanic.normal ?_
      have HX := As.mk (And.intro (Blk.new W2 40 #[.int .i64 c, .int .i64 p1, .int .i64 p2, .bool false, .int .i64 0]) (And.intro (gr_alloc HGd.out (.cells #[.int .i64 c, .int .i64 p1, .int .i64 p2, .bool false, .int .i64 0] 40)) (And.intro (gr_alloc HG1d.out (.cells #[.int .i64 c, .int .i64 p1, .int .i64 p2, .bool false, .int .i64 0] 40)) (own_alloc' HOd.out (.cells #[.int .i64 c, .int .i64 p1, .int .i64 p2, .bool false, .int .i64 0] 40)))))
      have hbx : base ≤ W2.heap.size := by have := HG1d.out.size; have := HB.out; omega
      have hbo : ∀ q, (Value.slice A' k c').ownBlock = some q → q < W2.heap.size := fun q hq => (HOd.out.lt q hq).2
      have HBX := As.mk (And.intro hbx hbo)
      clear HOd HGd HG1d HMd E0d hw2 hbx hbo hfd0 hfd1
      generalize W2.alloc (.cells #[.int .i64 c, .int .i64 p1, .int .i64 p2, .bool false, .int .i64 0] 40) = W3 at *
      generalize W2.heap.size = gx at *
      go_wp2_with fail
      refine (written_c (HN.out.1.gr HX.out.2.1 (by simp)) HN.out.2.1 HN.out.2.2.1 c HP.out.2).mono ?_
      rintro e w5 ⟨rfl, g5⟩
      have H5 := As.mk (And.intro (HX.out.1.grown g5 (by simp)) (And.intro (HX.out.2.1.trans g5) (And.intro (HX.out.2.2.1.trans g5) (own_gr0 HX.out.2.2.2 g5))))
      clear g5 HX
      unfold wrV
      generalize hnw : (wrF lv c).getD 0 = nw at *
      generalize hws : (wrF lv c).isSome = ws at *
      have HIT : As (itN rd lv c = ⟨c, p1, p2, ws, nw⟩) := ⟨by unfold itN; rw [HP.out.1, hnw, hws]; rfl⟩
      clear hnw hws
      have f0 := H5.out.1.cell 0
      have f1 := H5.out.1.cell 1
      have f2 := H5.out.1.cell 2
      have f3 := H5.out.1.cell 3
      have f4 := H5.out.1.cell 4
      have r3 := H5.out.1.free 3
      have r4 := H5.out.1.free 4
      have hne5 : some gx ≠ (Value.slice A' k c').ownBlock := fun q => by have := HBX.out.2 gx q.symm; omega
      have hlt5 := H5.out.1.lt
      have H6 := As.mk (And.intro (own_far (own_far H5.out.2.2.2 (a := ⟨gx, 4, none⟩) hne5 (.int .i64 nw)) (a := ⟨gx, 3, none⟩) hne5 (.bool ws)) (And.intro (gr_set (gr_set H5.out.2.2.1 (a := ⟨gx, 4, none⟩) (.inr (show w1.heap.size ≤ gx by have := HBX.out.1; have := HB.out; omega)) (.int .i64 nw)) (a := ⟨gx, 3, none⟩) (.inr (show w1.heap.size ≤ gx by have := HBX.out.1; have := HB.out; omega)) (.bool ws)) (size2 w5 ⟨gx, 4, none⟩ ⟨gx, 3, none⟩ (.int .i64 nw) (.bool ws))))
      have HBW := As.mk (show base ≤ w5.heap.size by have := H5.out.2.2.1.size; have := HB.out; omega)
      go_wp2_with (at_builtin; refine wpList_append_lies _ (by rfl) _ _ _ (by rfl) base 40 i0 _ 5 40 Try.underlying37 HI.out.1 HI.out.2.1 HI.out.2.2.1 HI.out.2.2.2 rfl (by omega) _ k _ (by rfl) (own_alloc' H6.out.1 _) ⟨w5.heap.size, 0, none⟩ 1 1 [.int .i64 c, .int .i64 p1, .int .i64 p2, .bool ws, .int .i64 nw] (by rfl) (by rfl) (World.news_of_block (cs := #[.int .i64 c, .int .i64 p1, .int .i64 p2, .bool ws, .int .i64 nw]) (t := 40) (fr := (0, 0)) (by have := heap_alloc_new ((w5.setCell ⟨gx, 4, none⟩ (.int .i64 nw)).setCell ⟨gx, 3, none⟩ (.bool ws)) (.cells #[.int .i64 c, .int .i64 p1, .int .i64 p2, .bool ws, .int .i64 nw] 40); rw [H6.out.2.2] at this; exact this)) (by simp [Value.oneCell']) (by omega) (by simp only [maxLen]; omega) (by omega) (by have := HBW.out; simp; omega) (w5.heap.size + 1) (by simp) ?_; intro gg cap w8 hown1 hgrow hat hlt2)
      have H8 := As.mk (And.intro hown1 (gr_then (gr_alloc H6.out.2.1 _) hgrow (.inr (.inr (fun q hq => by have := (H6.out.1.lt q hq).1; have := HB.out; omega)))))
      clear hown1 hgrow hat hlt2
      go_wp2_with fail
      go_roundw
      case measure => simp [Go.RowKit.intOf]; omega
      case rel => exact ⟨k + 1, by omega, by simp, ⟨_, _, rfl⟩, ⟨by rw [HTK.out, HIT.out, itCells_snoc]; exact H8.out.1, H8.out.2⟩⟩
    · obtain rfl : k = (keysF rd.2).length := by omega
      have hl3 : (itsN rd lv).length = (keysF rd.2).length := by unfold itsN; simp
      have HO := HL.out.1
      rw [List.take_of_length_le (by omega)] at HO
      have HE := As.mk (And.intro (ownsRow_base_a HO (show w.heap.size ≤ base by have := H1.out.2.size; have := HB.out; omega)) (And.intro (H1.out.2.trans HL.out.2) hl3))
      clear HL HO
      go_wp2_with fail
      go_ret
      exact ⟨⟨_, rfl, by rw [HE.out.2.2]; exact HE.out.1⟩, HE.out.2.1⟩
end
section
open Go.RowKit Go.Maps
set_option linter.unusedVariables false
set_option linter.unusedSimpArgs false
set_option maxRecDepth 100000

theorem infoOp : (Try.prog.info? 57).map (fun i => (i.zero, i.size, i.bytes)) = some (some (.agg #[.int .i64 0, .int .i64 0, .int .i64 0, .int .i64 0, .int .i64 0]), 5, 40) := by kernel_rfl
set_option maxHeartbeats 1600000 in
theorem cloneOp_c (w : World) (v : Value) (n : Nat) (xs : List Value) (hs : SrcA w 5 v n xs) (hn : n ≤ 1000000) :
    Calls Try.prog 25 #[v] w (ClonePost w 57 5 n xs) := by
  have hq := fun (w : World) (a : Option Addr) (m c : Nat) => Lib.run_eql_slice_nil (P := Try.prog) w 22 _ a m c 0 0 Try.underlying22
  rcases hs with ⟨c0, rfl, rfl, rfl⟩ | ⟨ad, c, rfl, h1, h2, h3⟩
  · go_enter Try.func25, Try.ntmps25
    go_wp2_with fail
    go_ret
    exact ⟨_, rfl, World.ownsRow_nil _ _ _ _, gr_refl _ _⟩
  · obtain ⟨i0, hi, hz0, hz1, hz2⟩ := info_parts infoOp
    have HI := As.mk (And.intro hi (And.intro hz0 (And.intro hz1 hz2)))
    have HS := As.mk (show SrcV (w.alloc (.cells #[] 57)) 5 (.slice (some ad) n c) n xs from .inr ⟨ad, c, rfl, h1, fun j u hu => (gr_alloc (gr_refl w none) _).cell (h2 j u hu) (by simp), h3⟩)
    have HO := As.mk (World.ownsRow_made w (e := 57) (size := 5) #[] 0 (Nat.le_refl w.heap.size) (by simp [maxLen]) (by simp))
    have HG := As.mk (gr_alloc (gr_refl w none) (.cells #[] 57))
    clear hi hz0 hz1 hz2 h1 h2 h3
    go_enter Try.func25, Try.ntmps25
    go_wp2_with (at_builtin; refine wpList_append_any (by rfl) _ _ _ (by rfl) w.heap.size 57 i0 _ 5 40 Try.underlying22 HI.out.1 HI.out.2.1 HI.out.2.2.1 HI.out.2.2.2 rfl (by omega) _ 0 [] (by rfl) HO.out _ n xs (by rfl) HS.out ⟨_, _, rfl⟩ (by simp only [maxLen]; omega) (by omega) (by simp) ?_; intro v' w' ho hg _ _; rw [Nat.zero_add, List.nil_append] at ho; have HN := As.mk (And.intro ho (gr_then HG.out hg (.inr (.inr (fun q hq => (HO.out.lt q hq).1))))); clear ho hg)
    go_ret
    exact ⟨_, rfl, HN.out.1, HN.out.2⟩
def rdZ : Rd := (0, fun _ => none)
def lvZ : Lv := [(0, fun _ => none)]
/-- A run at its beginning. -/
def startR : RS := ⟨0, fun _ => 0, [], fun _ => false, rdZ, lvZ⟩
theorem start_inv : NInv 0 rdZ lvZ := ⟨by decide, by decide, by decide, by decide⟩
theorem start_val : NVal rdZ lvZ := by
  refine ⟨fun c p h => ?_, fun c p h => ?_, fun p hp c u h => ?_⟩
  · cases h
  · cases h
  · obtain rfl : p = (0, fun _ => none) := by simpa [lvZ] using hp
    cases h
theorem start_riv {l : List POp} (h : pRight l = true) : RIv l startR := by
  obtain ⟨c, h1, h2⟩ := parse0 h
  exact ⟨⟨c, [], by rw [← h1]; simp [ktail, startR], h2, trivial, trivial⟩, Nat.zero_le _, rfl⟩
theorem own_base {w : World} {B B' : Nat} {e : TypeId} {size n : Nat} {v : Value} {xs : List Value} (h : w.ownsRow B e size v n xs) (hB : B' ≤ B) : w.ownsRow B' e size v n xs := by
  refine ⟨h.1, ?_⟩
  rcases h.2 with q | ⟨g, cap, cur, q, hb, r⟩
  · exact .inl q
  · exact .inr ⟨g, cap, cur, q, Nat.le_trans hB hb, r⟩
theorem opsSrc {w : World} {v : Value} {l : List POp} (h : Arr OpE 5 w v l) : SrcA w 5 v l.length (opsCells l) := by
  obtain ⟨css, h1, h2, h3, h4⟩ := h.cellsOf (by decide) (fun x cs hx u hu => by
    have hx : cs = _ := hx
    subst hx
    simp only [List.mem_cons, List.not_mem_nil, or_false] at hu
    rcases hu with rfl | rfl | rfl | rfl | rfl <;> rfl)
  have : css = l.map POp.cells := by
    apply List.ext_getElem?
    intro j
    cases hx : l[j]? with
    | none => rw [List.getElem?_eq_none_iff.2 (by rw [h1]; exact List.getElem?_eq_none_iff.1 hx), List.getElem?_map, hx]; rfl
    | some x =>
      obtain ⟨cs, g1, g2, _⟩ := h2 j x hx
      have g2 : cs = _ := g2
      rw [g1, List.getElem?_map, hx, g2]; rfl
  rw [this] at h4
  rw [show opsCells l = (l.map POp.cells).flatten from by rw [opsCells, List.flatMap_def]]
  exact h4
theorem rnew_no {w : World} {v : Value} {l : List POp} (hl : Arr OpE 5 w v l) (hp : pRight l = false) : Calls Try.prog 9 #[v] w fun e w' => e = .returned (.tuple #[.pointer none, .int .i64 1]) ∧ w.grownBy w' none := by
  go_enter Try.func9, Try.ntmps9
  go_wp2_with fail
  refine (pRight_c v l w hl _ hp).mono ?_
  rintro e w1 ⟨rfl, hg⟩
  have HG := As.mk hg
  clear hg
  go_wp2_with fail
  go_ret2
  exact ⟨rfl, HG.out⟩
/-- What New leaves. -/
def NewPost (w0 w : World) (l : List POp) (e : Ending) (w' : World) : Prop := ∃ rb G, e = .returned (.tuple #[.pointer (some ⟨rb, 0, none⟩), .int .i64 0]) ∧ RunAt w0 w' rb G l startR 0 ∧ w.grownBy w' none ∧ ∀ k, G k → w.heap.size ≤ k
theorem NestAt.base {w : World} {B B' nb : Nat} {F : Nat → Prop} {rd : Rd} {lv : Lv} (h : NestAt w B nb F rd lv) (hB : B' ≤ B) : NestAt w B' nb F rd lv := by
  obtain ⟨rb, v, bs, e, h⟩ := h
  exact ⟨rb, v, bs, e, h.blk, h.rmap, own_base h.row hB, h.len, h.maps, h.nodup, h.rbn, ⟨Nat.le_trans hB h.lo.1, Nat.le_trans hB h.lo.2.1, fun b hb => Nat.le_trans hB (h.lo.2.2 b hb)⟩⟩
set_option maxHeartbeats 3200000 in
theorem rnew_c {w0 w : World} {v : Value} {l : List POp} (hg0 : w0.grownBy w none) (hl : Arr OpE 5 w v l) (hp : pRight l = true) : Calls Try.prog 9 #[v] w (NewPost w0 w l) := by
  have HL := As.mk hl
  have HG0 := As.mk hg0
  have hlen := (pRight_all hp).1
  clear hl hg0
  go_enter Try.func9, Try.ntmps9
  go_wp2_with fail
  refine (pRight_c v l w HL.out _ hp).mono ?_
  rintro e w1 ⟨rfl, hg⟩
  have HG1 := As.mk hg
  clear hg
  go_wp2_with fail
  refine (new_c w1).mono ?_
  rintro e w2 ⟨⟨nb, F, rfl, hn⟩, hg⟩
  have HN := As.mk hn
  have HG2 := As.mk (gr_then HG1.out hg (.inl rfl))
  have HS2 := As.mk (show w1.heap.size ≤ w2.heap.size from hg.size)
  clear hn hg
  go_wp2_with fail
  refine (cloneOp_c w2 v l.length (opsCells l) (opsSrc (HL.out.below HG2.out (fun _ _ h => h))) (by omega)).mono ?_
  rintro e w3 ⟨v1, rfl, ho, hg⟩
  obtain ⟨A1, c1, rfl⟩ := own_shape ho
  have HO := As.mk ho
  have HN3 := As.mk (HN.out.gr hg (by simp))
  have HG3 := As.mk (gr_then HG2.out hg (.inl rfl))
  have HS3 := As.mk (show w2.heap.size ≤ w3.heap.size from hg.size)
  have HFP := As.mk HN.out.fp
  clear ho hg
  go_wp2_with fail
  go_ret2
  have hw1 : w.heap.size ≤ w1.heap.size := HG1.out.size
  have hga := gr_alloc (gr_refl w3 none) (.cells #[.pointer (some ⟨nb, 0, none⟩), .slice A1 l.length c1, .int .i64 0, .int .i64 0, .int .i64 0, .int .i64 0, .int .i64 0, .int .i64 0, .int .i64 0, .int .i64 0, .int .i64 0, .slice none 0 0, .bool false, .bool false, .bool false, .bool false, .bool false, .bool false, .bool false, .bool false, .bool false, .bool false, .bool false, .bool false, .bool false, .bool false, .bool false, .bool false] 65)
  have hs2 := HS2.out
  have hs3 := HS3.out
  have hgo := gr_then HG3.out hga (.inl rfl)
  have hlr : ∀ k, (Value.slice A1 l.length c1).ownBlock = some k → w2.heap.size ≤ k := fun k hk => (HO.out.lt k hk).1
  refine ⟨w3.heap.size, _, rfl, ⟨w.heap.size, nb, F, .slice A1 l.length c1, .slice none 0 0, rfl, (HN3.out.base hw1).gr hga (by simp), start_inv, start_val, Blk.new w3 65 #[.pointer (some ⟨nb, 0, none⟩), .slice A1 l.length c1, .int .i64 0, .int .i64 0, .int .i64 0, .int .i64 0, .int .i64 0, .int .i64 0, .int .i64 0, .int .i64 0, .int .i64 0, .slice none 0 0, .bool false, .bool false, .bool false, .bool false, .bool false, .bool false, .bool false, .bool false, .bool false, .bool false, .bool false, .bool false, .bool false, .bool false, .bool false, .bool false], own_grown (own_base HO.out (by omega)) hga (by rcases hv : (Value.slice A1 l.length c1).ownBlock with _ | x; exact .inl rfl; exact .inr (by simp)), World.ownsRow_nil _ _ _ _,
    ⟨fun q => by have := (HFP.out _ q).2; omega, fun k hk q => by have := (HFP.out _ q).2; have := hlr k hk; omega, fun k hk => by cases hk⟩, ⟨HG0.out.size, by omega, by have := hga.size; omega⟩, HG0.out.trans hgo, fun k _ => (show K64 0 from ⟨by omega, by omega⟩), fun q hq => by cases hq⟩, hgo, ?_⟩
  rintro k (q | q | q | q)
  · have := (HFP.out k q).1; omega
  · omega
  · have := hlr k q; omega
  · cases q
section
variable {w0 w : World} {B nb rb : Nat} {F : Nat → Prop} {lv_ cv : Value} {l : List POp} {s : RS} {M : Nat} {G : Nat → Prop}
/-- What a method that turns the run leaves. -/
def VPost (w0 w : World) (rb : Nat) (G : Nat → Prop) (l : List POp) (M : Nat) (v : Value) (s' : RS) (e : Ending) (w' : World) : Prop := e = .returned v ∧ ∃ G', RunAt w0 w' rb G' l s' M ∧ NG w w' G G'
theorem NInv.saw {rd : Rd} {lv : Lv} {M : Nat} (h : NInv M rd lv) (c v a : Int) : NInv (M + 1) (sawR rd c v a) lv := by
  unfold sawR
  split
  · exact ⟨h.pos, h.five, Nat.succ_le_succ h.reads, Nat.le_succ_of_le h.sum⟩
  · exact h.mono (Nat.le_succ M)
theorem give_c (h : RunAt w0 w rb G l s M) (c v a : Int) (hc : K64 c) (hv : K64 v) (ha : K64 a) (hK : M < 300000) :
    Calls Try.prog 10 #[(.pointer (some ⟨rb, 0, none⟩)), .int .i64 c, .int .i64 v, .int .i64 a] w (VPost w0 w rb G l (M + 1) (.int .i64 (sawE s.rd c v)) { s with rd := sawR s.rd c v a }) := by
  obtain ⟨B, nb, F, lv_, cv, rfl, h⟩ := h
  have HR := As.mk h
  have HC := As.mk hc
  have HV := As.mk hv
  have HA := As.mk ha
  have cn : w.cell? ⟨rb, 0, none⟩ = some (.pointer (some ⟨nb, 0, none⟩)) := h.blk.cell 0
  clear h hc hv ha
  go_enter Try.func10, Try.ntmps10
  go_wp2_with fail
  clear cn
  refine (saw_c HR.out.nest c v a HC.out (by have := HR.out.inv.reads; omega)).mono ?_
  rintro e w1 ⟨rfl, hn, hg⟩
  have HN := As.mk (HR.out.nested (s' := { s with rd := sawR s.rd c v a }) (K' := M + 1) hg hn (HR.out.inv.saw c v a) (HR.out.val.saw HV.out HA.out) rfl rfl rfl rfl)
  clear hn hg
  go_wp2_with fail
  go_ret
  exact ⟨rfl, _, ⟨_, _, _, _, _, rfl, HN.out.1⟩, HN.out.2⟩
theorem give_n (w : World) (c v a : Int) : Calls Try.prog 10 #[.pointer none, .int .i64 c, .int .i64 v, .int .i64 a] w fun e w' => e = .returned (.int .i64 1) ∧ w' = w := by
  go_enter Try.func10, Try.ntmps10
  go_wp2_with fail
  go_ret
  exact ⟨rfl, rfl⟩
theorem took_c (h : RunAt w0 w rb G l s M) (kc : Nat) (hc : kc < 16) :
    Calls Try.prog 11 #[(.pointer (some ⟨rb, 0, none⟩)), .int .i64 (kc : Int)] w (VPost w0 w rb G l M (.int .i64 0) { s with tk := updN s.tk kc true }) := by
  obtain ⟨B, nb, F, lv_, cv, rfl, h⟩ := h
  have HR := As.mk h
  have HKC := As.mk hc
  have q := (h.blk.cell (12 + kc)).trans (runC_tk _ _ _ _ _ _ kc hc)
  have f := h.blk.free (12 + kc)
  have hc0 : (0 : Int) ≤ (kc : Int) := by omega
  have hc1 : (kc : Int) < 16 := by omega
  clear h hc
  go_enter Try.func11, Try.ntmps11
  go_wp2_with fail
  go_ret
  exact ⟨rfl, _, ⟨_, _, _, _, _, rfl, (HR.out.setT kc HKC.out true).1⟩, (HR.out.setT kc HKC.out true).2⟩
theorem took_no (w : World) (v : Value) (hv : v = .pointer none ∨ ∃ b, v = .pointer (some ⟨b, 0, none⟩)) (c : Int) (hc : v = .pointer none ∨ c < 0 ∨ 16 ≤ c) : Calls Try.prog 11 #[v, .int .i64 c] w fun e w' => e = .returned (.int .i64 1) ∧ w' = w := by
  rcases hv with rfl | ⟨b, rfl⟩
  · go_enter Try.func11, Try.ntmps11
    go_wp2_with fail
    go_ret
    exact ⟨rfl, rfl⟩
  · rcases hc with hc | hc | hc
    · cases hc
    · go_enter Try.func11, Try.ntmps11
      go_wp2_with fail
      go_ret
      exact ⟨rfl, rfl⟩
    · have h0 : ¬ c < 0 := by omega
      go_enter Try.func11, Try.ntmps11
      go_wp2_with fail
      go_ret
      exact ⟨rfl, rfl⟩
theorem ritems_c (h : RunAt w0 w rb G l s M) : Calls Try.prog 15 #[(.pointer (some ⟨rb, 0, none⟩))] w fun e w' => (∃ v, e = .returned v ∧ w'.ownsRow w.heap.size 40 5 v (itsN s.rd s.lv).length (itCells (itsN s.rd s.lv))) ∧ w.grownBy w' none := by
  obtain ⟨B, nb, F, lv_, cv, rfl, h⟩ := h
  have HR := As.mk h
  have cn : w.cell? ⟨rb, 0, none⟩ = some (.pointer (some ⟨nb, 0, none⟩)) := h.blk.cell 0
  clear h
  go_enter Try.func15, Try.ntmps15
  go_wp2_with fail
  clear cn
  refine (items_c HR.out.nest (by have := HR.out.inv.five; omega) HR.out.inv.pos HR.out.val).mono ?_
  rintro e w1 ⟨⟨v, rfl, ho⟩, hg⟩
  have HO := As.mk ho
  have HG := As.mk hg
  clear ho hg
  go_wp2_with fail
  go_ret
  exact ⟨⟨v, rfl, HO.out⟩, HG.out⟩
theorem ritems_n (w : World) : Calls Try.prog 15 #[.pointer none] w fun e w' => e = .returned (.slice none 0 0) ∧ w' = w := by
  go_enter Try.func15, Try.ntmps15
  go_wp2_with fail
  go_ret
  exact ⟨rfl, rfl⟩
theorem gon_n (w : World) : Calls Try.prog 13 #[.pointer none] w fun e w' => e = .returned (.tuple #[.int .i64 4, .int .i64 0]) ∧ w' = w := by
  go_enter Try.func13, Try.ntmps13
  go_wp2_with fail
  go_ret2
  exact ⟨rfl, rfl⟩
theorem again_n (w : World) : Calls Try.prog 21 #[.pointer none] w fun e w' => e = .returned (.tuple #[]) ∧ w' = w := by
  go_enter Try.func21, Try.ntmps21
  go_wp2_with fail
  go_end0
  exact ⟨rfl, rfl⟩
end
end
section
open Go.RowKit Go.Maps
set_option linter.unusedVariables false
set_option linter.unusedSimpArgs false
set_option maxRecDepth 100000

theorem boolv_inv {v : Value} {a : Bool} {ps : List MemPlace} (h : plainElem (H := Unit) Try.prog 4 v = some (.lit (.bool a), ps)) : v = .bool a := by
  unfold plainElem at h
  rw [Try.underlying4] at h
  cases v <;> simp at h
  obtain ⟨rfl, _⟩ := h
  rfl
noncomputable def elB : El Bool where
  t := 53
  e := 4
  R := plainElem Try.prog 4
  E := fun a => .lit (.bool a)
  V := fun a => .bool a
  W := fun _ => True
  z := .bool false
  zd := .lit (.bool false)
  okz := plainElem_bool Try.underlying4 false
  ok := fun a _ => plainElem_bool Try.underlying4 a
  inv := fun v a ps h => boolv_inv h
  invz := fun v ps h => boolv_inv h
  ut := Try.underlying53
  uz := fun w => by kernel_rfl
theorem results_row {P : Program} {fn : Func} {p : Tmp} {ty : TypeId} (h : fn.results = #[.cell p ty]) (tmps : Array Value) (w : World) (g : Nat) (t : TypeId) (cs : Array Value) (fr : Nat × Nat) (d : TypeDesc)
    (hp : tmps.getD p undef = .pointer (some ⟨g, 0, none⟩)) (hg : w.heap[g]? = some (.cells cs t fr))
    (hu : P.underlying ty = some d) (hd : (match d with | .struct _ | .array _ _ => true | _ => false) = true) (hi : (P.info? ty).map (·.size) = some cs.size) :
    (results fn tmps).run P w = .ok (.agg cs) w := by
  have HL := run_loadVar_row (P := P) w g t ty cs fr d hg hu hd hi
  have hp2 := hp
  simp only [Array.getD_eq_getD_getElem?] at hp2
  simp only [results, h]
  simp [Sem.run_bind, hp2, asAddr, Result.andThen] at HL ⊢
  rw [HL]
theorem regs_n (w : World) : Calls Try.prog 14 #[.pointer none] w fun e w' => e = .returned (.agg #[.int .i64 0, .int .i64 0, .int .i64 0, .int .i64 0, .int .i64 0, .int .i64 0, .int .i64 0, .int .i64 0]) ∧ w.grownBy w' none := by
  have HB := As.mk (Blk.new w 35 #[.int .i64 0, .int .i64 0, .int .i64 0, .int .i64 0, .int .i64 0, .int .i64 0, .int .i64 0, .int .i64 0])
  have HG := As.mk (gr_alloc (gr_refl w none) (.cells #[.int .i64 0, .int .i64 0, .int .i64 0, .int .i64 0, .int .i64 0, .int .i64 0, .int .i64 0, .int .i64 0] 35))
  go_enter Try.func14, Try.ntmps14
  go_wp2_with fail
  refine bodyPost_ret (results_row (P := Try.prog) rfl _ _ w.heap.size 35 _ (0, 0) _ rfl HB.out Try.underlying35 rfl (by kernel_rfl)) rfl ?_
  exact ⟨rfl, HG.out⟩
def exA : List POp := [⟨1, 3, 0, 0, 0⟩, ⟨6, 0, 0, 0, 0⟩, ⟨2, 3, 1, 0, 0⟩]
theorem exA_right : pRight exA = true := by decide
theorem exA_n : ∀ x ∈ exA, K64 x.n := by
  intro x hx
  simp only [exA, List.mem_cons, List.not_mem_nil, or_false] at hx
  rcases hx with rfl | rfl | rfl <;> exact ⟨by decide, by decide⟩
def exS2 : RS := { startR with rd := sawR rdZ 3 0 0 }
theorem exA_1 : (goR exA 40 startR).1 = 1 ∧ (goR exA 40 startR).2.1 = 3 ∧ (goR exA 40 startR).2.2 = startR := ⟨rfl, rfl, rfl⟩
theorem exA_2 : (goR exA 40 exS2).1 = 3 := by
  have h : (goR exA 40 exS2).1 = 3 := by kernel_rfl
  exact h
theorem exA_3 : sawE startR.rd 3 0 = 0 := by decide
set_option maxHeartbeats 3200000 in
theorem awake22 (w : World) : Calls Try.prog 7 #[] w fun e w' => e = .returned (.bool true) ∧ w.grownBy w' none := by
  have HOB := As.mk (show Arr OpE 5 (w.alloc (.cells (opsCells exA).toArray 57)) (.slice (some ⟨w.heap.size, 0, none⟩) 3 3) exA from ops_block (xs := exA) (Blk.new w 57 (opsCells exA).toArray) (by decide))
  have HG := As.mk (gr_alloc (gr_refl w none) (.cells (opsCells exA).toArray 57))
  go_enter Try.func7, Try.ntmps7
  go_wp2_with fail
  refine (rnew_c HG.out HOB.out exA_right).mono ?_
  rintro e w1 ⟨rb, G, rfl, hra, hg, _⟩
  have HR := As.mk hra
  clear hra hg
  go_wp2_with fail
  refine (gon_c HR.out exA_right exA_n (start_riv exA_right) (by omega)).mono ?_
  rintro e w2 ⟨rfl, G2, hra, _, hri⟩
  have HR2 := As.mk hra
  have HRI := As.mk hri
  clear hra hri
  rw [exA_1.1, exA_1.2.1]
  rw [exA_1.2.2] at HR2
  go_wp2_with fail
  refine (give_c HR2.out 3 0 0 ⟨by omega, by omega⟩ ⟨by omega, by omega⟩ ⟨by omega, by omega⟩ (by omega)).mono ?_
  rintro e w3 ⟨rfl, G3, hra, _⟩
  have HR3 := As.mk hra
  clear hra
  rw [exA_3]
  go_wp2_with fail
  refine (gon_c HR3.out exA_right exA_n (show RIv exA exS2 from ⟨(start_riv exA_right).ex, (start_riv exA_right).le, (start_riv exA_right).lv⟩) (by omega)).mono ?_
  rintro e w4 ⟨rfl, G4, hra, _, _⟩
  have HR4 := As.mk hra
  clear hra
  rw [show (goR exA 40 { startR with rd := sawR startR.rd 3 0 0 }).1 = 3 from exA_2]
  go_wp2_with fail
  go_ret
  exact ⟨rfl, HR4.out.gr⟩
end
section
open Go.RowKit
set_option linter.unusedVariables false
set_option linter.unusedSimpArgs false
set_option maxRecDepth 100000

set_option maxHeartbeats 3200000 in
theorem eqA8 (a0 a1 a2 a3 a4 a5 a6 a7 b0 b1 b2 b3 b4 b5 b6 b7 : Int) (w : World) : (Op.equalIn 10000 35 (.agg #[.int .i64 a0, .int .i64 a1, .int .i64 a2, .int .i64 a3, .int .i64 a4, .int .i64 a5, .int .i64 a6, .int .i64 a7]) (.agg #[.int .i64 b0, .int .i64 b1, .int .i64 b2, .int .i64 b3, .int .i64 b4, .int .i64 b5, .int .i64 b6, .int .i64 b7])).run Try.prog w = .ok (a0 == b0 && (a1 == b1 && (a2 == b2 && (a3 == b3 && (a4 == b4 && (a5 == b5 && (a6 == b6 && (a7 == b7)))))))) w := by
  have un := Try.underlying3
  have ag := Try.isAgg3
  have sz := Try.sizeOf3
  rw [show (10000 : Nat) = 9999 + 1 from rfl, Op.equalIn]
  simp only [Sem.run_bind, run_underlying Try.underlying35, Result.andThen_ok]
  simp only [Std.Legacy.Range.forIn_eq_forIn_range', Std.Legacy.Range.size, Nat.sub_zero, Nat.add_sub_cancel, Nat.div_one, List.range'_succ, List.range'_zero, List.forIn_cons, List.forIn_nil]
  go_simp
  by_cases h0 : a0 = b0
  · by_cases h1 : a1 = b1
    · by_cases h2 : a2 = b2
      · by_cases h3 : a3 = b3
        · by_cases h4 : a4 = b4
          · by_cases h5 : a5 = b5
            · by_cases h6 : a6 = b6
              · by_cases h7 : a7 = b7
                · simp [h0, h1, h2, h3, h4, h5, h6, h7]
                · simp [h0, h1, h2, h3, h4, h5, h6, h7]
              · simp [h0, h1, h2, h3, h4, h5, h6]
            · simp [h0, h1, h2, h3, h4, h5]
          · simp [h0, h1, h2, h3, h4]
        · simp [h0, h1, h2, h3]
      · simp [h0, h1, h2]
    · simp [h0, h1]
  · simp [h0]
end
section
open Go.RowKit Go.Maps
set_option linter.unusedVariables false
set_option linter.unusedSimpArgs false
set_option maxRecDepth 100000

def IE1 (w : World) (x : Int) (cs : List Value) : Prop := cs = [.int .i64 x]
/-- What was given is what the law has seen. -/
def Linked (f : Int → Option Bool) (rd : Rd) : Prop := ∀ c, cellOk c = true → ((f c).getD false = (rd.2 c).isSome)
theorem Linked.start : Linked (fun _ => none) rdZ := fun c _ => rfl
theorem Linked.give {f : Int → Option Bool} {rd : Rd} (h : Linked f rd) (c v a : Int) (hv : 0 ≤ v ∧ v ≤ 1000) : Linked (updF f c true) (sawR rd c v a) := by
  intro x hx
  unfold sawR
  by_cases e : x = c
  · subst e
    have h1 : updF f x true x = some true := by simp [updF]
    rw [h1]
    split
    · simp [updF]
    · rename_i hs
      unfold sawE at hs
      rw [if_neg (by rw [hx]; simp; omega)] at hs
      cases hp : (rd.2 x).isSome with
      | true => rfl
      | false => rw [hp] at hs; exact absurd rfl hs
  · have h1 : updF f c true x = f x := by simp [updF, e]
    rw [h1]
    split
    · have h2 : updF rd.2 c (v, a) x = rd.2 x := by simp [updF, e]
      show _ = (updF rd.2 c (v, a) x).isSome
      rw [h2]
      exact h x hx
    · exact h x hx
theorem sawE_out {rd : Rd} {c v : Int} (h : c < 0 ∨ 15 < c) : sawE rd c v = 1 := by
  unfold sawE
  rw [if_pos (.inl (by unfold cellOk; rcases h with h | h <;> simp <;> omega))]
theorem sawE_in {rd : Rd} {c v : Int} (hc : 0 ≤ c ∧ c ≤ 15) (hv : 0 ≤ v ∧ v ≤ 1000) : sawE rd c v = if (rd.2 c).isSome = true then 9 else 0 := by
  unfold sawE
  rw [if_neg (by
    have : cellOk c = true := by unfold cellOk; simp; omega
    rw [this]; simp; omega)]
theorem cellOk_in {c : Int} (hc : 0 ≤ c ∧ c ≤ 15) : cellOk c = true := by unfold cellOk; simp; omega
theorem RIv.rd {l : List POp} {s : RS} (h : RIv l s) (rd : Rd) : RIv l { s with rd := rd } := ⟨h.ex, h.le, h.lv⟩
theorem RIv.tk {l : List POp} {s : RS} (h : RIv l s) (tk : Nat → Bool) : RIv l { s with tk := tk } := ⟨h.ex, h.le, h.lv⟩
set_option maxHeartbeats 12800000 in
theorem rstays_walk (w : World) (v0 v1 v2 : Value) (l : List POp) (cs vs : List Int) (hl : Arr OpE 5 w v0 l) (hc : Arr IE1 1 w v1 cs) (hv : Arr IE1 1 w v2 vs) (wl : ∀ x ∈ l, K64 x.n) (wc : ∀ x ∈ cs, K64 x) (wv : ∀ x ∈ vs, K64 x) :
    Calls Try.prog 5 #[v0, v1, v2] w fun e w' => e = .returned (.bool true) ∧ w.grownBy w' none := by
  obtain ⟨A0, c0, rfl⟩ := hl.len
  obtain ⟨A1, c1, rfl⟩ := hc.len
  obtain ⟨A2, c2, rfl⟩ := hv.len
  have HL := As.mk hl
  have HC := As.mk hc
  have HV := As.mk hv
  have HWL := As.mk wl
  have HWC := As.mk wc
  have HWV := As.mk wv
  have hl1 := hl.le
  have hc1 := hc.le
  have hc2 := hc.cap
  have hv1 := hv.le
  have hv2 := hv.cap
  have hmm := @run_makeMap Try.prog
  clear hl hc hv wl wc wv
  go_enter Try.func5, Try.ntmps5
  go_wp2_with fail
  refine (awake22 w).mono ?_
  rintro e w1 ⟨rfl, hg⟩
  have HG1 := As.mk hg
  clear hg
  by_cases h80 : (80 : Int) < (l.length : Int)
  · go_wp2_with fail
    go_ret
    exact ⟨rfl, HG1.out⟩
  by_cases h60 : (60 : Int) < (cs.length : Int)
  · go_wp2_with fail
    go_ret
    exact ⟨rfl, HG1.out⟩
  go_wp2_with fail
  cases hp : pRight l with
  | false =>
    refine (rnew_no (HL.out.below HG1.out (fun _ _ h => h)) hp).mono ?_
    rintro e w2 ⟨rfl, hg⟩
    have HG2 := As.mk (gr_then HG1.out hg (.inl rfl))
    clear hg hp
    go_wp2_with fail
    go_ret
    exact ⟨rfl, HG2.out⟩
  | true =>
    refine (rnew_c HG1.out (HL.out.below HG1.out (fun _ _ h => h)) hp).mono ?_
    rintro e w2 ⟨rb, G, rfl, hra, _, _⟩
    have HP := As.mk hp
    have HRA := As.mk hra
    clear hra hp
    go_wp2_with fail
    have HM0 := As.mk (show MapF elB (w2.alloc (.map #[] 0)) w2.heap.size 0 (fun _ => none) from MapF.new elB w2)
    have HGM := As.mk (show ¬ G w2.heap.size from fun q => absurd (HRA.out.fp _ q).2 (Nat.lt_irrefl _))
    have HLO := As.mk (show w.heap.size ≤ w2.heap.size from HRA.out.gr.size)
    replace HRA := As.mk (HRA.out.grown (gr_alloc (gr_refl w2 none) (.map #[] 0)))
    clear hmm
    generalize w2.alloc (.map #[] 0) = W at *
    generalize w2.heap.size = mb at *
    go_loopw [43] (fun i wr => ∃ k : Nat, k ≤ cs.length ∧ i = .int .i64 k ∧ As (∃ s G1 f, RunAt w wr rb G1 l s (k * 100) ∧ RIv l s ∧ MapF elB wr mb k f ∧ ¬ G1 mb ∧ Linked f s.rd)) (fun i _ => cs.length - (intOf i).toNat)
    case atStart => exact ⟨0, Nat.zero_le _, rfl, ⟨startR, G, fun _ => none, HRA.out, start_riv HP.out, HM0.out, HGM.out, Linked.start⟩⟩
    case round =>
      obtain ⟨k, hk, rfl, HX⟩ := hrel
      obtain ⟨s, G1, f, hra, hri, hm, hgm, hlk⟩ := HX.out
      clear HX HRA HM0 HGM
      have HRA := As.mk hra
      have HRI := As.mk hri
      have HM := As.mk hm
      have HGM := As.mk hgm
      have HLK := As.mk hlk
      clear hra hri hm hgm hlk
      by_cases hlt : k < cs.length
      · have hltI : (k : Int) < (cs.length : Int) := by omega
        have hk0 : (0 : Int) ≤ (k : Int) := by omega
        have hk1 : (k : Int) ≤ 60 := by omega
        obtain ⟨c, hc⟩ : ∃ c, cs[k]? = some c := ⟨_, List.getElem?_eq_getElem hlt⟩
        obtain ⟨b, off, ds, rfl, rfl, _, hcs⟩ := HC.out.at_ k c hc
        have e0 := HRA.out.gr.cell (hcs 0 _ rfl) (by simp)
        simp only [Nat.add_zero, Nat.mul_one] at e0
        have HKC := As.mk (HWC.out c (List.mem_of_getElem? hc))
        clear hcs hc
        go_wp2_with fail
        clear e0
        refine (gon_c HRA.out HP.out HWL.out HRI.out (by omega)).mono ?_
        rintro e w3 ⟨rfl, G2, hra, hng, hri2⟩
        have HTW := As.mk (goR_twice HP.out HRI.out)
        have HAN := As.mk (goR_ans l 40 s)
        have HRD := As.mk (goR_rd l 40 s).1
        have HM2 := As.mk (HM.out.ng (hng) HGM.out)
        have HRA2 := As.mk hra
        have HRI2 := As.mk hri2
        clear hra hng hri2 HRA HRI HM HGM
        generalize goR l 40 s = r at *
        obtain ⟨r1, r2, s2⟩ := r
        dsimp only at HTW HAN HRD HRA2 HRI2 ⊢
        go_wp2_with fail
        refine (gon_c HRA2.out HP.out HWL.out HRI2.out (by omega)).mono ?_
        rintro e w4 ⟨rfl, G3, hra, hng, hri3⟩
        rw [HTW.out] at hra hri3 ⊢
        dsimp only at hra hri3 ⊢
        have HM3 := As.mk (HM2.out.1.ng hng HM2.out.2)
        have HRA3 := As.mk hra
        have HRI3 := As.mk hri3
        clear hra hng hri3 HRA2 HRI2 HM2 HTW
        obtain ⟨ha1, ha2, ha3⟩ := HAN.out
        have hne1 : (r1 != r1) = false := by simp
        have hne2 : (r2 != r2) = false := by simp
        clear HAN
        go_upto_region 14 with fail
        go_cut [81] from 58 to 81 (fun v wx => v = .bool false ∧ wx = w4)
        case first =>
          by_cases h2 : 2 < r1
          · obtain rfl : r2 = 0 := ha3 h2
            go_wp2_with fail
            go_meet
            case rel => exact ⟨by rw [decide_eq_false (show ¬ r1 < 1 by omega), decide_eq_false (show ¬ 5 < r1 by omega)]; rfl, rfl⟩
          · go_wp2_with fail
            go_meet
            case rel => exact ⟨by rw [decide_eq_false (show ¬ r1 < 1 by omega), decide_eq_false (show ¬ 5 < r1 by omega)]; rfl, rfl⟩
        case rest =>
          obtain ⟨rfl, rfl⟩ := hcut
          clear hne1 hne2 ha1 ha2 ha3
          go_upto_if 86 with fail
          go_cut [16] from 83 to 90 (fun v wx => ∃ x : Int, v = .int .i64 x ∧ As (K64 x) ∧ wx = wc)
          case first =>
            by_cases hlv : k < vs.length
            · have hlvI : (k : Int) < (vs.length : Int) := by omega
              obtain ⟨x, hx⟩ : ∃ x, vs[k]? = some x := ⟨_, List.getElem?_eq_getElem hlv⟩
              obtain ⟨b', off', ds', hA2, rfl, _, hcs⟩ := HV.out.at_ k x hx
              subst hA2
              have e0 := HRA3.out.gr.cell (hcs 0 _ rfl) (by simp)
              simp only [Nat.add_zero, Nat.mul_one] at e0
              have HXK := As.mk (HWV.out x (List.mem_of_getElem? hx))
              clear hcs hx
              go_wp2_with fail
              go_meet
              case rel => exact ⟨x, rfl, HXK, rfl⟩
            · have hlvI : ¬ ((k : Int) < (vs.length : Int)) := by omega
              go_wp2_with fail
              go_meet
              case rel => exact ⟨(k : Int), rfl, ⟨by omega, by omega⟩, rfl⟩
          case rest =>
            obtain ⟨x, rfl, HXK, hww⟩ := hcut
            rename World => w5
            subst hww
            by_cases h3 : (k : Int) % 3 = 2
            · have h3' : ((k : Int) % 3 == 2) = true := by simpa using h3
              by_cases hcr : 0 ≤ c ∧ c ≤ 15
              · obtain ⟨kc, rfl⟩ : ∃ kc : Nat, c = (kc : Int) := ⟨c.toNat, by omega⟩
                have h16 : (kc : Int) < 16 := by omega
                have h00 : (0 : Int) ≤ (kc : Int) := by omega
                clear hcr h3
                go_wp2_with fail
                refine (took_c HRA3.out kc (by omega)).mono ?_
                rintro e w6 ⟨rfl, G4, hra, hng⟩
                have HRA4 := As.mk hra
                have HM4 := As.mk (HM3.out.1.ng hng HM3.out.2)
                clear hra hng
                go_wp2_with fail
                go_roundw
                case measure => simp [intOf]; omega
                case rel => exact ⟨k + 1, by omega, by go_num, ⟨_, G4, f, HRA4.out.mono (by omega), HRI3.out.tk _, HM4.out.1.mono (by omega), HM4.out.2, by show Linked f s2.rd; rw [HRD.out]; exact HLK.out⟩⟩
              · have hcr' : c < 0 ∨ 16 ≤ c := by omega
                have HCR := As.mk hcr'
                clear hcr h3
                go_upto_region 20 with fail
                rcases hcr' with hcr' | hcr'
                · go_wp2_with fail
                  refine (took_no _ _ (.inr ⟨rb, rfl⟩) c (.inr HCR.out)).mono ?_
                  rintro e w6 ⟨rfl, rfl⟩
                  go_wp2_with fail
                  go_roundw
                  case measure => simp [intOf]; omega
                  case rel => exact ⟨k + 1, by omega, by go_num, ⟨_, G3, f, HRA3.out.mono (by omega), HRI3.out, HM3.out.1.mono (by omega), HM3.out.2, by rw [HRD.out]; exact HLK.out⟩⟩
                · have h00 : 0 ≤ c := by omega
                  have h16 : ¬ c < 16 := by omega
                  go_wp2_with fail
                  refine (took_no _ _ (.inr ⟨rb, rfl⟩) c (.inr HCR.out)).mono ?_
                  rintro e w6 ⟨rfl, rfl⟩
                  go_wp2_with fail
                  go_roundw
                  case measure => simp [intOf]; omega
                  case rel => exact ⟨k + 1, by omega, by go_num, ⟨_, G3, f, HRA3.out.mono (by omega), HRI3.out, HM3.out.1.mono (by omega), HM3.out.2, by rw [HRD.out]; exact HLK.out⟩⟩
            · have h3' : ((k : Int) % 3 == 2) = false := by simpa using h3
              clear h3
              by_cases hcn : c < 0
              · have HS := As.mk (sawE_out (rd := s2.rd) (v := (k : Int)) (.inl hcn))
                go_wp2_with fail
                refine (give_c HRA3.out c (k : Int) x HKC.out ⟨by omega, by omega⟩ HXK.out (by omega)).mono ?_
                rintro e w6 ⟨rfl, G4, hra, hng⟩
                rw [HS.out]
                have HRA4 := As.mk hra
                have HM4 := As.mk (HM3.out.1.ng hng HM3.out.2)
                have HLK4 := As.mk (show Linked (updF f c true) (sawR s2.rd c (k : Int) x) from by rw [HRD.out]; exact HLK.out.give c (k : Int) x ⟨hk0, by omega⟩)
                clear hra hng
                go_wp2_with (at_mapUpdate; refine wpList_put_F elB _ rfl _ _ _ rfl mb k f rfl HM4.out.1 (by omega) c true rfl rfl HKC.out trivial ?_; intro w7 hm7 hg7; have HM7 := As.mk hm7; have HG7 := As.mk hg7; clear hm7 hg7)
                have HO7 := As.mk (HRA4.out.other (NG.ofgr (F := fun q => q = mb) HG7.out (fun q e => .inl (by injection e with e; exact e.symm))) (fun q hq => by rw [hq]; exact HLO.out) (fun q hq e => HM4.out.2 (e ▸ hq)))
                go_roundw
                case measure => simp [intOf]; omega
                case rel => exact ⟨k + 1, by omega, by go_num, ⟨_, G4, updF f c true, HO7.out.1.mono (by omega), HRI3.out.rd _, HM7.out, HM4.out.2, HLK4.out⟩⟩
              by_cases hcp : 15 < c
              · have HS := As.mk (sawE_out (rd := s2.rd) (v := (k : Int)) (.inr hcp))
                go_wp2_with fail
                refine (give_c HRA3.out c (k : Int) x HKC.out ⟨by omega, by omega⟩ HXK.out (by omega)).mono ?_
                rintro e w6 ⟨rfl, G4, hra, hng⟩
                rw [HS.out]
                have HRA4 := As.mk hra
                have HM4 := As.mk (HM3.out.1.ng hng HM3.out.2)
                have HLK4 := As.mk (show Linked (updF f c true) (sawR s2.rd c (k : Int) x) from by rw [HRD.out]; exact HLK.out.give c (k : Int) x ⟨hk0, by omega⟩)
                clear hra hng
                go_wp2_with (at_mapUpdate; refine wpList_put_F elB _ rfl _ _ _ rfl mb k f rfl HM4.out.1 (by omega) c true rfl rfl HKC.out trivial ?_; intro w7 hm7 hg7; have HM7 := As.mk hm7; have HG7 := As.mk hg7; clear hm7 hg7)
                have HO7 := As.mk (HRA4.out.other (NG.ofgr (F := fun q => q = mb) HG7.out (fun q e => .inl (by injection e with e; exact e.symm))) (fun q hq => by rw [hq]; exact HLO.out) (fun q hq e => HM4.out.2 (e ▸ hq)))
                go_roundw
                case measure => simp [intOf]; omega
                case rel => exact ⟨k + 1, by omega, by go_num, ⟨_, G4, updF f c true, HO7.out.1.mono (by omega), HRI3.out.rd _, HM7.out, HM4.out.2, HLK4.out⟩⟩
              have HS := As.mk (sawE_in (rd := s2.rd) (c := c) (v := (k : Int)) ⟨by omega, by omega⟩ ⟨hk0, by omega⟩)
              have HLC := As.mk (show (f c).getD false = (s2.rd.2 c).isSome by rw [HRD.out]; exact HLK.out c (cellOk_in ⟨by omega, by omega⟩))
              cases hf : f c with
              | none =>
                have HF := As.mk hf
                have HS2 := As.mk (show sawE s2.rd c (k : Int) = 0 by rw [HS.out, ← HLC.out, hf]; rfl)
                clear hf
                go_wp2_with (at_lookup; refine wpList_look1_F elB _ rfl _ _ rfl mb k f rfl HM3.out.1 c rfl HKC.out none HF.out ?_)
                refine (give_c HRA3.out c (k : Int) x HKC.out ⟨by omega, by omega⟩ HXK.out (by omega)).mono ?_
                rintro e w6 ⟨rfl, G4, hra, hng⟩
                rw [HS2.out]
                have HRA4 := As.mk hra
                have HM4 := As.mk (HM3.out.1.ng hng HM3.out.2)
                have HLK4 := As.mk (show Linked (updF f c true) (sawR s2.rd c (k : Int) x) from by rw [HRD.out]; exact HLK.out.give c (k : Int) x ⟨hk0, by omega⟩)
                clear hra hng
                go_wp2_with (at_mapUpdate; refine wpList_put_F elB _ rfl _ _ _ rfl mb k f rfl HM4.out.1 (by omega) c true rfl rfl HKC.out trivial ?_; intro w7 hm7 hg7; have HM7 := As.mk hm7; have HG7 := As.mk hg7; clear hm7 hg7)
                have HO7 := As.mk (HRA4.out.other (NG.ofgr (F := fun q => q = mb) HG7.out (fun q e => .inl (by injection e with e; exact e.symm))) (fun q hq => by rw [hq]; exact HLO.out) (fun q hq e => HM4.out.2 (e ▸ hq)))
                go_roundw
                case measure => simp [intOf]; omega
                case rel => exact ⟨k + 1, by omega, by go_num, ⟨_, G4, updF f c true, HO7.out.1.mono (by omega), HRI3.out.rd _, HM7.out, HM4.out.2, HLK4.out⟩⟩
              | some bb =>
                cases bb with
                | false =>
                  have HF := As.mk hf
                  have HS2 := As.mk (show sawE s2.rd c (k : Int) = 0 by rw [HS.out, ← HLC.out, hf]; rfl)
                  clear hf
                  go_wp2_with (at_lookup; refine wpList_look1_F elB _ rfl _ _ rfl mb k f rfl HM3.out.1 c rfl HKC.out (some false) HF.out ?_)
                  refine (give_c HRA3.out c (k : Int) x HKC.out ⟨by omega, by omega⟩ HXK.out (by omega)).mono ?_
                  rintro e w6 ⟨rfl, G4, hra, hng⟩
                  rw [HS2.out]
                  have HRA4 := As.mk hra
                  have HM4 := As.mk (HM3.out.1.ng hng HM3.out.2)
                  have HLK4 := As.mk (show Linked (updF f c true) (sawR s2.rd c (k : Int) x) from by rw [HRD.out]; exact HLK.out.give c (k : Int) x ⟨hk0, by omega⟩)
                  clear hra hng
                  go_wp2_with (at_mapUpdate; refine wpList_put_F elB _ rfl _ _ _ rfl mb k f rfl HM4.out.1 (by omega) c true rfl rfl HKC.out trivial ?_; intro w7 hm7 hg7; have HM7 := As.mk hm7; have HG7 := As.mk hg7; clear hm7 hg7)
                  have HO7 := As.mk (HRA4.out.other (NG.ofgr (F := fun q => q = mb) HG7.out (fun q e => .inl (by injection e with e; exact e.symm))) (fun q hq => by rw [hq]; exact HLO.out) (fun q hq e => HM4.out.2 (e ▸ hq)))
                  go_roundw
                  case measure => simp [intOf]; omega
                  case rel => exact ⟨k + 1, by omega, by go_num, ⟨_, G4, updF f c true, HO7.out.1.mono (by omega), HRI3.out.rd _, HM7.out, HM4.out.2, HLK4.out⟩⟩
                | true =>
                  have HF := As.mk hf
                  have HS2 := As.mk (show sawE s2.rd c (k : Int) = 9 by rw [HS.out, ← HLC.out, hf]; rfl)
                  clear hf
                  go_wp2_with (at_lookup; refine wpList_look1_F elB _ rfl _ _ rfl mb k f rfl HM3.out.1 c rfl HKC.out (some true) HF.out ?_)
                  refine (give_c HRA3.out c (k : Int) x HKC.out ⟨by omega, by omega⟩ HXK.out (by omega)).mono ?_
                  rintro e w6 ⟨rfl, G4, hra, hng⟩
                  rw [HS2.out]
                  have HRA4 := As.mk hra
                  have HM4 := As.mk (HM3.out.1.ng hng HM3.out.2)
                  have HLK4 := As.mk (show Linked (updF f c true) (sawR s2.rd c (k : Int) x) from by rw [HRD.out]; exact HLK.out.give c (k : Int) x ⟨hk0, by omega⟩)
                  clear hra hng
                  go_wp2_with (at_mapUpdate; refine wpList_put_F elB _ rfl _ _ _ rfl mb k f rfl HM4.out.1 (by omega) c true rfl rfl HKC.out trivial ?_; intro w7 hm7 hg7; have HM7 := As.mk hm7; have HG7 := As.mk hg7; clear hm7 hg7)
                  have HO7 := As.mk (HRA4.out.other (NG.ofgr (F := fun q => q = mb) HG7.out (fun q e => .inl (by injection e with e; exact e.symm))) (fun q hq => by rw [hq]; exact HLO.out) (fun q hq e => HM4.out.2 (e ▸ hq)))
                  go_roundw
                  case measure => simp [intOf]; omega
                  case rel => exact ⟨k + 1, by omega, by go_num, ⟨_, G4, updF f c true, HO7.out.1.mono (by omega), HRI3.out.rd _, HM7.out, HM4.out.2, HLK4.out⟩⟩
      · obtain rfl : k = cs.length := by omega
        have hq8 := eqA8
        have HGR := As.mk HRA.out.gr
        go_wp2_with fail
        refine (again_n _).mono ?_
        rintro e w3 ⟨rfl, rfl⟩
        go_wp2_with fail
        refine (gon_n _).mono ?_
        rintro e w4 ⟨rfl, rfl⟩
        go_wp2_with fail
        refine (give_n _ _ _ _).mono ?_
        rintro e w5 ⟨rfl, rfl⟩
        go_wp2_with fail
        refine (took_no _ _ (.inl rfl) _ (.inl rfl)).mono ?_
        rintro e w6 ⟨rfl, rfl⟩
        go_wp2_with fail
        refine (regs_n _).mono ?_
        rintro e w7 ⟨rfl, hg⟩
        replace HGR := As.mk (gr_then HGR.out hg (.inl rfl))
        clear hg
        go_wp2_with fail
        refine (ritems_n _).mono ?_
        rintro e w8 ⟨rfl, rfl⟩
        go_wp2_with fail
        go_ret
        exact ⟨rfl, HGR.out⟩
end
section
open Go.RowKit Go.ChangeShapes Go.WideShapes
set_option linter.unusedVariables false

theorem weightsAll_mem {H : Type} {P : Program} {e : TypeId} : ∀ {l : List (DataW H)} {d : DataW H}, d ∈ l → ∀ n ∈ d.weights P e, n ∈ DataW.weightsAll P e l
  | [], _, h, _, _ => by cases h
  | x :: xs, d, h, n, hn => by
    simp only [DataW.weightsAll]
    rcases List.mem_cons.1 h with rfl | h
    · exact List.mem_append.2 (.inl hn)
    · exact List.mem_append.2 (.inr (weightsAll_mem h n hn))
theorem arr_of {α : Type} [Inhabited α] {E : World → α → List Value → Prop} {Q : α → Prop} {sz : Nat} {H : Type} {enc : TypeId × Value → H} {P : Program} {W : World} {base : Nat} {held : Bool} {t e : TypeId}
    (ht : P.underlying t = some (.slice e)) (hc : P.cellsOf e = sz) (hz : 0 < sz) {fuel : Nat} {v : Value} {d : DataW H} {p : List MemPlace}
    (h : DataW.trod enc P W base (fun _ => true) held fuel t [v] = some (d, p)) (hsz : ∀ m ∈ d.weights P t, m ≤ reachBytes)
    (hel : ∀ (cs : List Value) (n : Nat) (D : DataW H) (pl : List MemPlace), DataW.trod enc P W base (fun _ => true) held n e cs = some (D, pl) → (∀ m ∈ D.weights P e, m ≤ reachBytes) → ∃ x, E W x cs ∧ Q x) :
    ∃ xs, Arr E sz W v xs ∧ ∀ x ∈ xs, Q x := by
  rcases Go.Deep.open_slice ht h with ⟨hcs, hx⟩ | ⟨a, len, cap, m, n, D, Pl, hcs, _, hl, hm, hmm, hx, hall⟩
  · injection hcs with hcs
    exact ⟨[], ⟨none, 0, hcs, ⟨by simp, by simp⟩, fun h0 => absurd h0 (by simp)⟩, fun x hx => by cases hx⟩
  · injection hcs with hcs
    subst hcs
    injection hx with hx hp
    subst hx
    have hm2 : m = cap := hmm
    subst hm2
    have hw : ∀ i, i < len → ∀ k ∈ (D i).weights P e, k ≤ reachBytes := fun i hi k hk => hsz k (by
      simp only [DataW.weights, ht]
      refine List.mem_cons.2 (.inr (List.mem_append.2 (.inl (weightsAll_mem (d := D i) ?_ k hk))))
      exact List.mem_map.2 ⟨i, List.mem_range.2 hi, rfl⟩)
    obtain ⟨X, hX⟩ := Go.Deep.choose_lt (α := α) (n := len) (p := fun i x => ∃ cs, E W x cs ∧ Q x ∧ cs.length = sz ∧ ∀ k, k < sz → W.cell? (a.add (i * sz + k)) = cs[k]?) (fun i hi => by
      obtain ⟨cs, h1, h2⟩ := hall i (by omega)
      obtain ⟨_, h3, h4⟩ := World.cells?_some h1
      obtain ⟨x, h5, h6⟩ := hel cs n (D i) (Pl i) h2 (hw i hi)
      refine ⟨x, cs, h5, h6, by rw [h3, hc], fun k hk => ?_⟩
      rw [← h4 k (by omega), Go.Deep.add_add, hc])
    have hsp : 0 < len → a.spot = none := fun h0 => by
      obtain ⟨cs, _, _, h3, h4⟩ := hX 0 h0
      have h5 := h4 0 hz
      rw [List.getElem?_eq_getElem (by omega)] at h5
      simpa [Addr.add] using World.cell?_spot h5
    refine ⟨(List.range len).map X, ⟨some a, m, by simp, ⟨by simp; unfold maxLen at hm; omega, by simpa using hl⟩, fun h0 => ⟨a, rfl, ?_, fun j x hj => ?_⟩⟩, fun x hx => ?_⟩
    · exact hsp (by simpa using h0)
    · have hj2 : j < len := by
        have := (List.getElem?_eq_some_iff.1 hj).1
        simpa using this
      have hx : X j = x := by simpa [hj2] using hj
      obtain ⟨cs, h1, h2, h3, h4⟩ := hX j hj2
      rw [hx] at h1
      refine ⟨cs, h1, h3, fun i u hu => ?_⟩
      have hi : i < cs.length := (List.getElem?_eq_some_iff.1 hu).1
      have h5 := h4 i (by omega)
      rw [hu] at h5
      have hs : a.spot = none := hsp (by omega)
      obtain ⟨b, o, sp⟩ := a
      dsimp only at hs
      subst hs
      rw [add_plain, ← Nat.add_assoc] at h5
      exact h5
    · obtain ⟨i, hi, rfl⟩ := List.mem_map.1 hx
      obtain ⟨cs, _, h2, _, _⟩ := hX i (List.mem_range.1 hi)
      exact h2
theorem weights_each {H : Type} {P : Program} {ts : List TypeId} {ds : List (DataW H)} (hsz : (DataW.weightsEach P ts ds).all (· ≤ reachBytes) = true) {j : Nat} {t : TypeId} {d : DataW H} (ht : ts[j]? = some t) (hd : ds[j]? = some d) : ∀ m ∈ d.weights P t, m ≤ reachBytes := fun m hm => by
  have := List.all_eq_true.1 hsz _ (DataW.weights_mem_each ht hd m hm)
  simpa using this
theorem field_int {H : Type} {enc : TypeId × Value → H} {P : Program} {W : World} {base : Nat} {held : Bool} {f : Field} {cs : List Value} {i n : Nat} {y : DataW H × List MemPlace} (hf : f.offset = i ∧ P.underlying f.type = some (.int .i64) ∧ P.cellsOf f.type = 1)
    (h : DataW.trod enc P W base (fun _ => true) held n f.type ((cs.drop f.offset).take (P.cellsOf f.type)) = some y) : ∃ k, cs[i]? = some (.int .i64 k) ∧ (Lit.int .i64 k).wf = true := by
  obtain ⟨h1, h2, h3⟩ := hf
  obtain ⟨k, k1, k2, k3⟩ := DataW.trod_int h2 h
  refine ⟨k, ?_, k3⟩
  rw [h1, h3] at k1
  have := congrArg (fun l => l[0]?) k1
  simpa using this
def IntF (P : Program) (f : Field) (i : Nat) : Prop := f.offset = i ∧ P.underlying f.type = some (.int .i64) ∧ P.cellsOf f.type = 1
theorem field_bool {H : Type} {enc : TypeId × Value → H} {P : Program} {W : World} {base : Nat} {held : Bool} {f : Field} {cs : List Value} {i n : Nat} {y : DataW H × List MemPlace} (hf : f.offset = i ∧ P.underlying f.type = some .bool ∧ P.cellsOf f.type = 1)
    (h : DataW.trod enc P W base (fun _ => true) held n f.type ((cs.drop f.offset).take (P.cellsOf f.type)) = some y) : ∃ k, cs[i]? = some (.bool k) := by
  obtain ⟨h1, h2, h3⟩ := hf
  obtain ⟨k, k1, k2⟩ := DataW.trod_bool h2 h
  refine ⟨k, ?_⟩
  rw [h1, h3] at k1
  have := congrArg (fun l => l[0]?) k1
  simpa using this
def BoolF (P : Program) (f : Field) (i : Nat) : Prop := f.offset = i ∧ P.underlying f.type = some .bool ∧ P.cellsOf f.type = 1
theorem wf64 {n : Int} (h : (Lit.int .i64 n).wf = true) : -9223372036854775808 ≤ n ∧ n ≤ 9223372036854775807 := by simpa [Lit.wf, IntKind.min, IntKind.max, IntKind.signed, IntKind.bits] using h
/-- A struct of three ints, as an argument. -/
theorem agg3_ints {H : Type} {enc : TypeId × Value → H} {P : Program} {W : World} {base : Nat} {held : Bool} {r : Reach} {b0 : Nat} {t : TypeId} {f0 f1 f2 : Field} {v : Value} {d : DataW H} {p : List MemPlace} (he : P.underlying t = some (.struct #[f0, f1, f2])) (hc : P.cellsOf t = 3)
    (h0 : IntF P f0 0) (h1 : IntF P f1 1) (h2 : IntF P f2 2) (hv : Value.okWide P W r b0 t v) (h : DataW.Trod enc P W base (fun _ => true) held t v d p) :
    ∃ a b c, v = .agg #[.int .i64 a, .int .i64 b, .int .i64 c] ∧ (Lit.int .i64 a).wf = true ∧ (Lit.int .i64 b).wf = true ∧ (Lit.int .i64 c).wf = true := by
  obtain ⟨cs, rfl, hsz⟩ := okWide_struct he hv
  obtain ⟨fuel, hf⟩ := h
  obtain ⟨xs, m, _, hx, hl, hxl, hf⟩ := DataW.trod_struct he hf
  rw [hc] at hl
  obtain ⟨l⟩ := cs
  match xs, hxl with
  | [y0, y1, y2], _ =>
    obtain ⟨k0, q0, r0⟩ := field_int h0 (hf 0 f0 rfl)
    obtain ⟨k1, q1, r1⟩ := field_int h1 (hf 1 f1 rfl)
    obtain ⟨k2, q2, r2⟩ := field_int h2 (hf 2 f2 rfl)
    match l, hl with
    | [c0, c1, c2], _ =>
      refine ⟨k0, k1, k2, ?_, r0, r1, r2⟩
      have e0 : c0 = .int .i64 k0 := by injection q0
      have e1 : c1 = .int .i64 k1 := by injection q1
      have e2 : c2 = .int .i64 k2 := by injection q2
      rw [e0, e1, e2]
end
section
open Go.RowKit Go.ChangeShapes Go.WideShapes
set_option linter.unusedVariables false

instance : Inhabited POp := ⟨⟨0, 0, 0, 0, 0⟩⟩
theorem rop_trod {H : Type} {enc : TypeId × Value → H} {P : Program} {W : World} {base : Nat} {held : Bool} {e : TypeId} {f0 f1 f2 f3 f4 : Field} (he : P.underlying e = some (.struct #[f0, f1, f2, f3, f4])) (hc : P.cellsOf e = 5)
    (h0 : IntF P f0 0) (h1 : IntF P f1 1) (h2 : IntF P f2 2) (h3 : IntF P f3 3) (h4 : IntF P f4 4)
    (cs : List Value) (n : Nat) (D : DataW H) (pl : List MemPlace) (h : DataW.trod enc P W base (fun _ => true) held n e cs = some (D, pl)) (hsz : ∀ m ∈ D.weights P e, m ≤ reachBytes) :
    ∃ x, OpE W x cs ∧ K64 x.n := by
  obtain ⟨xs, m, _, hx, hl, hxl, hf⟩ := DataW.trod_struct he h
  rw [hc] at hl
  match cs, hl, xs, hxl with
  | [c0, c1, c2, c3, c4], _, [y0, y1, y2, y3, y4], _ =>
    obtain ⟨k0, q0, r0⟩ := field_int h0 (hf 0 f0 rfl)
    obtain ⟨k1, q1, r1⟩ := field_int h1 (hf 1 f1 rfl)
    obtain ⟨k2, q2, r2⟩ := field_int h2 (hf 2 f2 rfl)
    obtain ⟨k3, q3, r3⟩ := field_int h3 (hf 3 f3 rfl)
    obtain ⟨k4, q4, r4⟩ := field_int h4 (hf 4 f4 rfl)
    simp only [List.getElem?_cons_zero, List.getElem?_cons_succ, Option.some.injEq] at q0 q1 q2 q3 q4
    subst q0 q1 q2 q3 q4
    exact ⟨⟨k0, k1, k2, k3, k4⟩, rfl, wf64 r4⟩
theorem ie_trod {H : Type} {enc : TypeId × Value → H} {P : Program} {W : World} {base : Nat} {held : Bool} {e : TypeId} (he : P.underlying e = some (.int .i64))
    (cs : List Value) (n : Nat) (D : DataW H) (pl : List MemPlace) (h : DataW.trod enc P W base (fun _ => true) held n e cs = some (D, pl)) (hsz : ∀ m ∈ D.weights P e, m ≤ reachBytes) : ∃ x, IE1 W x cs ∧ K64 x := by
  obtain ⟨k, k1, _, k3⟩ := DataW.trod_int he h
  exact ⟨k, k1, wf64 k3⟩
end
end Go.Proofs.Ytgmhopkajopfcaa
