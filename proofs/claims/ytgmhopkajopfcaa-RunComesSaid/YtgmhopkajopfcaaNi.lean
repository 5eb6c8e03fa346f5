/- The walks of a nest's Value, Write. -/
import Derived.Test.YtgmhopkajopfcaaNh
namespace Go.Proofs.Ytgmhopkajopfcaa
open Go.RowKit Go.Maps
set_option linter.unusedVariables false

/-- A cell's value. -/
def valF (rd : Rd) (lv : Lv) (c : Int) : Option Int := match rd.2 c with | none => none | some p => some ((wrF lv c).getD p.2)
set_option maxRecDepth 100000 in
set_option maxHeartbeats 3200000 in
theorem value_c {w : World} {B nb : Nat} {F : Nat → Prop} {rd : Rd} {lv : Lv} (h : NestAt w B nb F rd lv) (hl : lv.length ≤ 1000000) (h0 : 0 < lv.length) (c : Int) (hc : K64 c) (r : Option Int) (hr : valF rd lv c = r) :
    Calls Try.prog 54 #[NP nb, .int .i64 c] w fun e w' => e = .returned (.tuple #[.int .i64 (r.getD 0), .bool r.isSome]) ∧ w.grownBy w' none := by
  have HN := As.mk h
  have HC := As.mk hc
  have HR := As.mk hr
  clear h hc hr
  unfold NP
  cases ho : rd.2 c with
  | none =>
    have hrn : r = none := by rw [← HR.out]; unfold valF; rw [ho]
    subst hrn
    have HO := As.mk (show (rd.2 c).isSome = false by rw [ho]; rfl)
    clear ho
    go_enter Try.func54, Try.ntmps54
    go_wp2_with fail
    refine (has_c HN.out c HC.out _ HO.out).mono ?_
    rintro e w1 ⟨rfl, g1⟩
    have G1 := As.mk g1
    clear g1
    go_wp2_with fail
    go_ret2
    exact ⟨rfl, G1.out⟩
  | some p =>
    obtain ⟨p1, p2⟩ := p
    have hrn : r = some ((wrF lv c).getD p2) := by rw [← HR.out]; unfold valF; rw [ho]
    have HO := As.mk (show (rd.2 c).isSome = true by rw [ho]; rfl)
    have HP := As.mk ho
    have HRN := As.mk hrn
    clear ho hrn
    go_enter Try.func54, Try.ntmps54
    go_wp2_with fail
    refine (has_c HN.out c HC.out _ HO.out).mono ?_
    rintro e w1 ⟨rfl, g1⟩
    have N1 := As.mk (HN.out.gr g1 (by simp))
    have G1 := As.mk g1
    clear g1 HN
    go_wp2_with fail
    refine (written_c N1.out hl h0 c HC.out).mono ?_
    rintro e w2 ⟨rfl, g2⟩
    have N2 := N1.out.gr g2 (by simp)
    have G2 := As.mk (gr_then G1.out g2 (.inl rfl))
    clear g2 N1 G1
    obtain ⟨rb, v, bs, rfl, N2⟩ := N2
    have c0 := N2.blk.cell 0
    have HM := As.mk N2.rmap
    clear N2
    cases hw : wrF lv c with
    | none =>
      have HF := As.mk (show r = some p2 by rw [HRN.out, hw]; rfl)
      clear hw HRN
      unfold wrV
      simp only [Option.getD_none, Option.isSome_none]
      have hrun : (Instr.lookup 79 (.map (some rb)) (.int .i64 c) false).run Try.prog w2 = .ok (.agg #[.int .i64 p1, .int .i64 p2]) w2 := HM.out.run1 HC.out HP.out
      have hfd : ∀ w : World, (Instr.field 87 (.agg #[.int .i64 p1, .int .i64 p2]) 1).run Try.prog w = .ok (.int .i64 p2) w := fun _ => by kernel_rfl
      go_wp2_with fail
      go_ret2
      exact ⟨by rw [HF.out]; rfl, G2.out⟩
    | some u =>
      have HF := As.mk (show r = some u by rw [HRN.out, hw]; rfl)
      clear hw HRN
      unfold wrV
      simp only [Option.getD_some, Option.isSome_some]
      go_wp2_with fail
      go_ret2
      exact ⟨by rw [HF.out]; rfl, G2.out⟩
set_option maxRecDepth 100000 in
theorem value_n (w : World) (c : Int) : Calls Try.prog 54 #[.pointer none, .int .i64 c] w fun e w' => e = .returned (.tuple #[.int .i64 0, .bool false]) ∧ w' = w := by
  go_enter Try.func54, Try.ntmps54
  go_wp2_with fail
  refine (has_n _ c).mono ?_
  rintro e w1 ⟨rfl, rfl⟩
  go_wp2_with fail
  go_ret2
  exact ⟨rfl, rfl⟩
/-- What Write answers, and the levels then. -/
def wriE (rd : Rd) (c : Int) : Int := if cellOk c = false then 1 else if (rd.2 c).isSome = false then 16 else 0
def updLast (lv : Lv) (c a : Int) : Lv := match lv.getLast? with | none => lv | some p => lv.dropLast ++ [(p.1 + 1, updF p.2 c a)]
def wriL (rd : Rd) (lv : Lv) (c a : Int) : Lv := if wriE rd c = 0 then updLast lv c a else lv
theorem NestW.put {w w' : World} {B nb rb g cp : Nat} {bi : List Nat} {mb : Nat} {rd : Rd} {ini : Lv} {p q : Nat × (Int → Option Int)}
    (h : NestW w B nb rb (.slice (some ⟨g, 0, none⟩) (bi ++ [mb]).length cp) (bi ++ [mb]) rd (ini ++ [p])) (hg : w.grownBy w' (some mb)) (hm : MapF elLev w' mb q.1 q.2) :
    NestW w' B nb rb (.slice (some ⟨g, 0, none⟩) (bi ++ [mb]).length cp) (bi ++ [mb]) rd (ini ++ [q]) := by
  have hmb : MapF elLev w mb p.1 p.2 := h.maps bi.length mb p (by simp) (by
    have := h.len
    simp only [List.length_append, List.length_singleton] at this
    rw [List.getElem?_append_right (by omega), show bi.length - ini.length = 0 by omega]
    rfl)
  have hil : bi.length = ini.length := by have := h.len; simpa using this
  have hnd := h.nodup
  rw [List.nodup_append] at hnd
  refine ⟨h.blk.grown hg (fun e => hmb.ne h.blk (by injection e with e; exact e.symm)), h.rmap.kept hg (fun e => h.rbn (by injection e with e; rw [e]; simp)), own_grown h.row hg (.inr (hmb.ne_own h.row).symm), by simpa using hil, fun i b r h1 h2 => ?_, h.nodup, h.rbn, h.lo⟩
  by_cases hi : i < bi.length
  · rw [List.getElem?_append_left hi] at h1
    rw [List.getElem?_append_left (by omega)] at h2
    refine (h.maps i b r (by rw [List.getElem?_append_left hi]; exact h1) (by rw [List.getElem?_append_left (by omega)]; exact h2)).kept hg (fun e => ?_)
    injection e with e
    exact hnd.2.2 b (List.mem_of_getElem? h1) mb (List.mem_singleton.2 rfl) e
  · have hi2 : i = bi.length := by
      have := (List.getElem?_eq_some_iff.1 h1).1
      simp at this
      omega
    subst hi2
    rw [List.getElem?_append_right (Nat.le_refl _), Nat.sub_self] at h1
    rw [List.getElem?_append_right (by omega), show bi.length - ini.length = 0 by omega] at h2
    simp at h1 h2
    subst h1 h2
    exact hm
set_option maxRecDepth 100000 in
set_option maxHeartbeats 3200000 in
theorem write_c {w : World} {B nb : Nat} {F : Nat → Prop} {rd : Rd} {lv : Lv} (h : NestAt w B nb F rd lv) (hl : lv.length ≤ 1000000) (h0 : 0 < lv.length) (hn : ∀ p ∈ lv, p.1 < 1000000) (c a : Int) (hc : K64 c) (ha : K64 a) :
    Calls Try.prog 55 #[NP nb, .int .i64 c, .int .i64 a] w fun e w' => e = .returned (.int .i64 (wriE rd c)) ∧ NestAt w' B nb F rd (wriL rd lv c a) ∧ NG w w' F F := by
  have HN := As.mk h
  have HC := As.mk hc
  have HA := As.mk ha
  have HD := As.mk (show wriE rd c = (if cellOk c = false then 1 else if (rd.2 c).isSome = false then 16 else 0) from rfl)
  have HR := As.mk (show wriL rd lv c a = (if wriE rd c = 0 then updLast lv c a else lv) from rfl)
  generalize wriL rd lv c a = lv' at *
  generalize wriE rd c = se at *
  clear h hc ha
  unfold NP
  cases hck : cellOk c
  · have hse : se = 1 := by rw [HD.out, hck]; simp
    have hrd : lv' = lv := by rw [HR.out, hse]; simp
    subst hse hrd
    have HK := As.mk hck
    clear hck HR HD
    go_enter Try.func55, Try.ntmps55
    go_wp2_with (go_at_call 38; refine (right_c _ c _ HK.out).mono ?_; rintro e w1 ⟨rfl, rfl⟩)
    go_ret
    exact ⟨rfl, HN.out, NG.ofgr (gr_refl _ none) (by simp)⟩
  · have HK := As.mk hck
    cases ho : (rd.2 c).isSome
    · have hse : se = 16 := by rw [HD.out, hck, ho]; simp
      have hrd : lv' = lv := by rw [HR.out, hse]; simp
      subst hse hrd
      have HO := As.mk ho
      clear hck HR HD ho
      go_enter Try.func55, Try.ntmps55
      go_wp2_with (first | (go_at_call 38; refine (right_c _ c _ HK.out).mono ?_; rintro e w1 ⟨rfl, rfl⟩))
      refine (has_c HN.out c HC.out _ HO.out).mono ?_
      rintro e w2 ⟨rfl, g2⟩
      have N2 := As.mk (HN.out.gr g2 (by simp))
      have G2 := As.mk (NG.ofgr (F := F) g2 (by simp))
      clear g2
      go_wp2_with fail
      go_ret
      exact ⟨rfl, N2.out, G2.out⟩
    · have hse : se = 0 := by rw [HD.out, hck, ho]; simp
      have hrd : lv' = updLast lv c a := by rw [HR.out, hse]; simp
      subst hse
      rcases List.eq_nil_or_concat lv with e0 | ⟨ini, p, e0⟩
      · subst e0; simp at h0
      · rw [List.concat_eq_append] at e0
        have hpn := hn p (by rw [e0]; simp)
        have hlu : lv' = ini ++ [(p.1 + 1, updF p.2 c a)] := by rw [hrd, e0]; simp [updLast]
        subst hlu
        have HO := As.mk ho
        clear hck HR HD ho hrd hn
        go_enter Try.func55, Try.ntmps55
        go_wp2_with (first | (go_at_call 38; refine (right_c _ c _ HK.out).mono ?_; rintro e w1 ⟨rfl, rfl⟩))
        refine (has_c HN.out c HC.out _ HO.out).mono ?_
        rintro e w2 ⟨rfl, g2⟩
        have N2 := HN.out.gr g2 (by simp)
        have HG2 := As.mk (NG.ofgr (F := F) g2 (by simp))
        obtain ⟨rb, v, bs, hF, N2⟩ := N2
        subst e0
        obtain ⟨g, cp, rfl⟩ := own_some N2.row (by rw [N2.len]; exact h0)
        rcases List.eq_nil_or_concat bs with eb | ⟨bi, mb, eb⟩
        · have := N2.len; rw [eb] at this; simp at this
        · rw [List.concat_eq_append] at eb
          subst eb
          have hil : bi.length = ini.length := by have := N2.len; simpa using this
          have hil9 : bi.length ≤ 1000000 := by simp at hl; omega
          have q0 : w2.cell? ⟨nb, 1, none⟩ = some (.slice (some ⟨g, 0, none⟩) (bi.length + 1) cp) := by rw [N2.blk.cell 1]; simp
          have q1 : w2.cell? ⟨g, bi.length, none⟩ = some (.map (some mb)) := own_cellAt N2.row bi.length _ (by simp)
          have hm : MapF elLev w2 mb p.1 p.2 := N2.maps bi.length mb p (by simp) (by rw [List.getElem?_append_right (by omega), show bi.length - ini.length = 0 by omega]; rfl)
          have HM := As.mk hm
          have HN2 := As.mk N2
          have HF := As.mk hF
          clear hm N2 hF g2 HN hil h0 hl
          go_wp2_with fail
          refine wp_region_still_tail 14 (by kernel_rfl) (by kernel_rfl) ?_
          simp only [List.take_succ_cons, List.take_zero, List.drop_succ_cons, List.drop_zero]
          have HM3 := As.mk (show MapF elLev w2.drew mb p.1 p.2 from HM.out.drew)
          have HN3 := As.mk (show NestW w2.drew B nb rb (.slice (some ⟨g, 0, none⟩) (bi ++ [mb]).length cp) (bi ++ [mb]) rd (ini ++ [p]) from HN2.out.same (Nat.le_refl _) (fun k _ => rfl))
          have HG3 := As.mk (HG2.out.trans (show NG w2 w2.drew F F from ⟨rfl, rfl, rfl, Nat.le_refl _, fun k _ hf => ⟨rfl, hf⟩⟩))
          have r0 : w2.drew.cell? ⟨nb, 1, none⟩ = some (.slice (some ⟨g, 0, none⟩) (bi.length + 1) cp) := q0
          have r1 : w2.drew.cell? ⟨g, bi.length, none⟩ = some (.map (some mb)) := q1
          clear q0 q1 HM HN2 HG2
          change wpStill _ _ w2.drew (fun a' => wpList _ _ _ _ a' w2.drew) _ _
          generalize w2.drew = w3 at *
          have wl_ : IntKind.i64.wrap (bi.length : Int) = (bi.length : Int) := by simp [IntKind.wrap, IntKind.bits, IntKind.signed]; omega
          have bl_ : (bi.length : Int) < (bi.length : Int) + 1 := by omega
          repeat still_step
          refine wpStill_nil ?_
          go_wp2_with (at_mapUpdate; refine wpList_put_F elLev _ rfl _ _ _ rfl mb p.1 p.2 rfl HM3.out (by omega) c a rfl rfl HC.out HA.out ?_; intro w4 hm4 g4)
          have HX := As.mk (And.intro (HN3.out.put g4 (q := (p.1 + 1, updF p.2 c a)) hm4) (HG3.out.trans (NG.ofgr g4 (fun k e => by injection e with e; subst e; rw [HF.out]; exact .inl (.inr (.inr (.inl (by simp))))))))
          clear hm4 g4
          go_wp2_with fail
          go_ret
          exact ⟨rfl, ⟨rb, _, _, HF.out, HX.out.1⟩, HX.out.2⟩
set_option maxRecDepth 100000 in
theorem write_n (w : World) (c a : Int) : Calls Try.prog 55 #[.pointer none, .int .i64 c, .int .i64 a] w fun e w' => e = .returned (.int .i64 1) ∧ w' = w := by
  go_enter Try.func55, Try.ntmps55
  go_wp2_with fail
  go_ret
  exact ⟨rfl, rfl⟩
end Go.Proofs.Ytgmhopkajopfcaa
