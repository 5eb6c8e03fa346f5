/- The walks of maps.Copy over levels, and of a nest's Merge. -/
import Derived.Test.YtgmhopkajopfcaaNk
import Derived.Lib.SlMapMerge
import Derived.Maps.RangeWalk
import Derived.Laws.IdiomRangeMap
namespace Go.Proofs.Ytgmhopkajopfcaa
open Go.RowKit Go.Maps
set_option linter.unusedVariables false

def orF (fs fd : Int → Option Int) : Int → Option Int := fun x => match fs x with | some u => some u | none => fd x
theorem merged_F {fs fd : Int → Option Int} {Dd Ds Dout : DataW Unit} {left : Lit → Bool} (hM : Merged Dout Dd Ds left) (hl : ∀ k, left k = false)
    (hd : HoldsF elLev Dd fd)
    (hs : HoldsF elLev Ds fs) :
    HoldsF elLev Dout (orF fs fd) := by
  intro c hc
  obtain ⟨d1, d2⟩ := hd c hc
  obtain ⟨s1, s2⟩ := hs c hc
  obtain ⟨m1, m2⟩ := hM
  have e1 := m1 (.int .i64 c)
  rw [hl, d2, s2] at e1
  refine ⟨fun z => ?_, ?_⟩
  · have e2 := m2 (.int .i64 c) z
    rw [hl, s2, d1, s1] at e2
    rw [e2]
    unfold orF
    cases fs c <;> simp
  · rw [e1]
    unfold orF
    cases fs c <;> cases fd c <;> rfl
set_option maxHeartbeats 4000000 in
set_option maxRecDepth 100000 in
theorem copy_c {w : World} {bd bs nd ns : Nat} {fd fs : Int → Option Int} (Hd : MapF elLev w bd nd fd) (Hs : MapF elLev w bs ns fs) (hne : bd ≠ bs) (hroom : nd + ns < 1000000) :
    Calls Try.prog 77 #[.map (some bd), .map (some bs)] w fun e w' => e = .returned (.tuple #[]) ∧ MapF elLev w' bd (nd + ns) (orF fs fd) ∧ w.grownBy w' (some bd) := by
  obtain ⟨Dd, hd, hd2⟩ := Hd
  obtain ⟨Ds, hs, hs2⟩ := Hs
  have hbd := hd.lt
  have hbs := hs.lt
  have hsz := hs.size_le
  have HD2 := As.mk (And.intro hd2 hs2)
  clear hd2 hs2
  have hd : w.ownsMap Try.prog 3 elLev.R bd nd Dd := hd
  go_enter Try.func77, Try.ntmps77
  go_wp2_with (first
    | (at_range; refine wpList_range_own _ rfl _ 81 rfl 3 3 keyInt Try.underlying81 elLev.R bs ns _ rfl hs ?_; intro w0 hrg0 hg0 hs0)
    | go_in)
  go_frame
  go_loopw [8] (fun _ wr => ∃ (left : Lit → Bool) (cnt : Nat) (Dout : DataW Unit), wr.ranges Try.prog 3 elLev.R bs w.heap.size ns Ds left cnt ∧ cnt ≤ Maps.size Ds ∧
      wr.ownsMap Try.prog 3 elLev.R bd (nd + (Maps.size Ds - cnt)) Dout ∧ Merged Dout Dd Ds left ∧ w.grownBy wr (some bd))
    (fun _ wr => wr.rangeLeft bs w.heap.size)
  case atStart =>
    exact ⟨_, _, Dd, hrg0, Nat.le_refl _, (hd.kept hg0 (by simp)).mono (by omega), merged_start Dd Ds, hg0.but _⟩
  case round =>
    obtain ⟨left, cnt, Dout, hrg, hcs, hout, hM, hgw⟩ := hrel
    go_wp2_with (first
      | (at_next; refine wpList_next_ranges _ rfl _ rfl 3 keyInt elLev.R id id (fun key _ _ => ⟨key, rfl⟩) (fun v _ _ => ⟨v, rfl⟩) bs w.heap.size ns _ _ _ rfl hrg ?_ ?_)
      | go_in)
    · intro hc0 hl0
      go_wp2
      go_end0
      subst hc0
      exact ⟨rfl, ⟨Dout, hout.mono (by omega), merged_F hM hl0 HD2.out.1 HD2.out.2⟩, hgw⟩
    · intro x c kl yd yp w1 cnt1 hkey hlx hv hat hrg1 hlt hg1 hs1 hen
      have hout1 := hout.kept hg1 (fun e => by have := Option.some.inj e; omega)
      go_wp2_with (first
        | (at_mapUpdate; refine wpList_mapUpdate_own _ rfl _ _ _ 81 rfl 3 3 keyInt Try.underlying81 elLev.R bd _ _ rfl hout1 (by unfold maxLen; omega) _ _ _ rfl rfl hkey yd yp hv ?_; intro w2 hout2 hg2; go_frame)
        | go_in)
      have hrg2 := hrg1.kept hg2 (fun e => hne (Option.some.inj e).symm) (fun e => by have := Option.some.inj e; omega)
      go_roundw
      case rel =>
        exact ⟨_, cnt1, _, hrg2, by omega, hout2.mono (by omega), merged_step hM hout.isMap (keyInt.key hkey) hat, (hgw.andThen hg1 (fun j hj => .inl (by cases hj; exact Nat.le_refl _))).andThen hg2 (fun j hj => .inr hj)⟩
      case measure => rw [hrg2.left_eq, hrg.left_eq]; exact hlt
def merL (lv : Lv) : Lv := match lv.getLast?, lv.dropLast.getLast? with | some p, some q => lv.dropLast.dropLast ++ [(q.1 + p.1, orF p.2 q.2)] | _, _ => lv
set_option maxRecDepth 100000 in
set_option maxHeartbeats 3200000 in
theorem merge_c {w : World} {B nb : Nat} {F : Nat → Prop} {rd : Rd} {lv : Lv} (h : NestAt w B nb F rd lv) (h0 : 0 < lv.length) (hl : lv.length ≤ 1000000) (hn : ∀ p ∈ lv, p.1 < 400000) :
    Calls Try.prog 59 #[NP nb] w fun e w' => e = .returned (.int .i64 (undE lv)) ∧ ∃ F', NestAt w' B nb F' rd (merL lv) ∧ NG w w' F F' := by
  have HN := As.mk h
  have HD := As.mk (And.intro (show undE lv = (if lv.length = 1 then 8 else 0) from rfl) hn)
  generalize undE lv = se at *
  clear h hn
  by_cases h1 : lv.length = 1
  · have hse : se = 8 := by rw [HD.out.1, if_pos h1]
    have hlv : merL lv = lv := by
      obtain ⟨x, rfl⟩ := List.length_eq_one_iff.1 h1
      rfl
    subst hse
    have H1 := As.mk (And.intro h1 hlv)
    clear h1 HD h0 hl hlv
    go_enter Try.func59, Try.ntmps59
    go_wp2_with fail
    refine (pop_one HN.out H1.out.1).mono ?_
    rintro e w1 ⟨rfl, rfl⟩
    go_wp2_with fail
    go_ret
    exact ⟨rfl, F, by rw [H1.out.2]; exact HN.out, NG.ofgr (gr_refl _ none) (by simp)⟩
  · have hse : se = 0 := by rw [HD.out.1, if_neg h1]
    have H2 := As.mk (And.intro (show 2 ≤ lv.length by omega) hl)
    have HP := As.mk HD.out.2
    subst hse
    clear h1 HD h0 hl
    go_enter Try.func59, Try.ntmps59
    go_wp2_with fail
    refine (pop_c HN.out H2.out.1 H2.out.2).mono ?_
    rintro e w1 ⟨mp, ini, p, F', he, rfl, hN, hG, hmp, hFp, hFn⟩
    rcases List.eq_nil_or_concat ini with e0 | ⟨ini2, q, e0⟩
    · exfalso
      have := H2.out.1
      rw [he, e0] at this
      simp at this
    · rw [List.concat_eq_append] at e0
      have hL : merL lv = ini2 ++ [(q.1 + p.1, orF p.2 q.2)] := by
        unfold merL
        rw [he, List.getLast?_concat, List.dropLast_concat, e0, List.getLast?_concat, List.dropLast_concat]
      have hpq : p.1 < 400000 ∧ q.1 < 400000 := ⟨HP.out p (by rw [he]; simp), HP.out q (by rw [he, e0]; simp)⟩
      have hle : ini2.length ≤ 1000000 := by have := H2.out.2; rw [he, e0] at this; simp at this; omega
      subst e0
      obtain ⟨rb, v, bs, hF, N⟩ := hN
      obtain ⟨g, cp, rfl⟩ := own_some N.row (by rw [N.len]; simp)
      rcases List.eq_nil_or_concat bs with eb | ⟨bi, mb, eb⟩
      · have := N.len; rw [eb] at this; simp at this
      · rw [List.concat_eq_append] at eb
        subst eb
        have hil : bi.length = ini2.length := by have := N.len; simpa using this
        have hil9 : bi.length ≤ 1000000 := by omega
        have q0 : w1.cell? ⟨nb, 1, none⟩ = some (.slice (some ⟨g, 0, none⟩) (bi.length + 1) cp) := by rw [N.blk.cell 1]; simp
        have q1 : w1.cell? ⟨g, bi.length, none⟩ = some (.map (some mb)) := own_cellAt N.row bi.length _ (by simp)
        have hm : MapF elLev w1 mb q.1 q.2 := N.maps bi.length mb q (by simp) (by rw [List.getElem?_append_right (by omega), show bi.length - ini2.length = 0 by omega]; rfl)
        have hnm : mb ≠ mp := fun e => hFn (by rw [hF, ← e]; exact .inr (.inr (.inl (by simp))))
        have HX := As.mk (And.intro hL (And.intro hpq (And.intro hF (And.intro N (And.intro hm (And.intro hmp (And.intro hnm hG)))))))
        clear hL hpq hF N hm hmp hnm hG hFp hFn he hil HN H2 HP hle
        go_wp2_with fail
        refine wp_region_still_tail 13 (by kernel_rfl) (by kernel_rfl) ?_
        simp only [List.take_succ_cons, List.take_zero, List.drop_succ_cons, List.drop_zero]
        have r0 : w1.drew.cell? ⟨nb, 1, none⟩ = some (.slice (some ⟨g, 0, none⟩) (bi.length + 1) cp) := q0
        have r1 : w1.drew.cell? ⟨g, bi.length, none⟩ = some (.map (some mb)) := q1
        have HY := As.mk (show MapF elLev w1.drew mb q.1 q.2 ∧ MapF elLev w1.drew mp p.1 p.2 ∧ NestW w1.drew B nb rb (.slice (some ⟨g, 0, none⟩) (bi ++ [mb]).length cp) (bi ++ [mb]) rd (ini2 ++ [q]) ∧ NG w w1.drew F F' from
          ⟨HX.out.2.2.2.2.1.drew, HX.out.2.2.2.2.2.1.drew, HX.out.2.2.2.1.same (Nat.le_refl _) (fun k _ => rfl), HX.out.2.2.2.2.2.2.2.trans (show NG w1 w1.drew F' F' from ⟨rfl, rfl, rfl, Nat.le_refl _, fun k _ hf => ⟨rfl, hf⟩⟩)⟩)
        have HZ := As.mk (And.intro HX.out.1 (And.intro HX.out.2.1 (And.intro HX.out.2.2.1 HX.out.2.2.2.2.2.2.1)))
        clear q0 q1 HX
        change wpStill _ _ w1.drew (fun a' => wpList _ _ _ _ a' w1.drew) _ _
        generalize w1.drew = w3 at *
        have wl_ : IntKind.i64.wrap (bi.length : Int) = (bi.length : Int) := by simp [IntKind.wrap, IntKind.bits, IntKind.signed]; omega
        have bl_ : (bi.length : Int) < (bi.length : Int) + 1 := by omega
        repeat still_step
        refine wpStill_nil ?_
        go_wp2_with fail
        refine (copy_c HY.out.1 HY.out.2.1 HZ.out.2.2.2 (by have := HZ.out.2.1; omega)).mono ?_
        rintro e w4 ⟨rfl, hm4, g4⟩
        have HW := As.mk (And.intro (HY.out.2.2.1.put g4 (q := (q.1 + p.1, orF p.2 q.2)) hm4) (HY.out.2.2.2.trans (NG.ofgr g4 (fun k e => by injection e with e; subst e; rw [HZ.out.2.2.1]; exact .inl (.inr (.inr (.inl (by simp))))))))
        clear hm4 g4 HY r0 r1
        go_wp2_with fail
        go_ret
        exact ⟨rfl, F', by rw [HZ.out.1]; exact ⟨rb, _, _, HZ.out.2.2.1, HW.out.1⟩, HW.out.2⟩
set_option maxRecDepth 100000 in
theorem merge_n (w : World) : Calls Try.prog 59 #[.pointer none] w fun e w' => e = .returned (.int .i64 1) ∧ w' = w := by
  go_enter Try.func59, Try.ntmps59
  go_wp2_with fail
  refine (pop_n w).mono ?_
  rintro e w1 ⟨rfl, rfl⟩
  go_wp2_with fail
  go_ret
  exact ⟨rfl, rfl⟩
end Go.Proofs.Ytgmhopkajopfcaa
