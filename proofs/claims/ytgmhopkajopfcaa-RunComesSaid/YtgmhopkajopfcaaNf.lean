/- The walks of a nest's Levels, Has, Saw. -/
import Derived.Test.YtgmhopkajopfcaaNe
namespace Go.Proofs.Ytgmhopkajopfcaa
open Go.RowKit Go.Maps
set_option linter.unusedVariables false

abbrev NP (nb : Nat) : Value := .pointer (some ⟨nb, 0, none⟩)
theorem NestW.parts {w : World} {B nb rb : Nat} {v : Value} {bs : List Nat} {rd : Rd} {lv : Lv} (h : NestW w B nb rb v bs rd lv) : w.cell? ⟨nb, 0, none⟩ = some (.map (some rb)) ∧ w.cell? ⟨nb, 1, none⟩ = some v ∧ w.frozen? ⟨nb, 1, none⟩ = false ∧ ∃ A c, v = .slice A lv.length c := by
  refine ⟨h.blk.cell 0, h.blk.cell 1, h.blk.free 1, ?_⟩
  rw [← h.len]
  exact own_shape h.row
def cellOk (c : Int) : Bool := decide (0 ≤ c) && decide (c < 16)
set_option maxRecDepth 100000 in
theorem right_c (w : World) (c : Int) (r : Bool) (hr : cellOk c = r) : Calls Try.prog 38 #[.int .i64 c] w fun e w' => e = .returned (.bool r) ∧ w' = w := by
  subst hr
  unfold cellOk
  by_cases h0 : 0 ≤ c
  · by_cases h1 : c < 16
    · go_enter Try.func38, Try.ntmps38
      go_wp2_with fail
      go_ret
      exact ⟨by simp [h0, h1], rfl⟩
    · go_enter Try.func38, Try.ntmps38
      go_wp2_with fail
      go_ret
      exact ⟨by simp [h1], rfl⟩
  · go_enter Try.func38, Try.ntmps38
    go_wp2_with fail
    go_ret
    exact ⟨by simp; omega, rfl⟩
set_option maxRecDepth 100000 in
set_option maxHeartbeats 1600000 in
theorem has_c {w : World} {B nb : Nat} {F : Nat → Prop} {rd : Rd} {lv : Lv} (h : NestAt w B nb F rd lv) (c : Int) (hc : K64 c) (r : Bool) (hr : (rd.2 c).isSome = r) : Calls Try.prog 39 #[NP nb, .int .i64 c] w fun e w' => e = .returned (.bool r) ∧ w.grownBy w' none := by
  subst hr
  obtain ⟨rb, v, bs, rfl, h⟩ := h
  have c0 := h.blk.cell 0
  have HM := As.mk h.rmap
  have HC := As.mk hc
  clear h hc
  unfold NP
  cases ho : rd.2 c with
  | none =>
    have HO := As.mk ho
    clear ho
    go_enter Try.func39, Try.ntmps39
    go_wp2_with (at_lookup; refine seen_none _ rfl _ _ rfl rb rd.1 rd.2 rfl HM.out c rfl HC.out HO.out ?_)
    go_ret
    exact ⟨rfl, gr_alloc (gr_refl _ _) _⟩
  | some u =>
    have HO := As.mk ho
    clear ho
    obtain ⟨u1, u2⟩ := u
    go_enter Try.func39, Try.ntmps39
    go_wp2_with (at_lookup; refine seen_some _ rfl _ _ rfl rb rd.1 rd.2 rfl HM.out c rfl HC.out u1 u2 HO.out ?_)
    go_ret
    exact ⟨rfl, gr_alloc (gr_refl _ _) _⟩
set_option maxRecDepth 100000 in
theorem has_n (w : World) (c : Int) : Calls Try.prog 39 #[.pointer none, .int .i64 c] w fun e w' => e = .returned (.bool false) ∧ w' = w := by
  go_enter Try.func39, Try.ntmps39
  go_wp2_with fail
  go_ret
  exact ⟨rfl, rfl⟩
/-- What Saw answers, and what was read then. -/
def sawE (rd : Rd) (c ver : Int) : Int := if cellOk c = false ∨ ver < 0 ∨ 1099511627776 < ver then 1 else if (rd.2 c).isSome then 9 else 0
def sawR (rd : Rd) (c ver a : Int) : Rd := if sawE rd c ver = 0 then (rd.1 + 1, updF rd.2 c (ver, a)) else rd
set_option maxRecDepth 100000 in
set_option maxHeartbeats 3200000 in
theorem saw_c {w : World} {B nb : Nat} {F : Nat → Prop} {rd : Rd} {lv : Lv} (h : NestAt w B nb F rd lv) (c ver a : Int) (hc : K64 c) (hn : rd.1 < 1000000) : Calls Try.prog 26 #[NP nb, .int .i64 c, .int .i64 ver, .int .i64 a] w fun e w' =>
    e = .returned (.int .i64 (sawE rd c ver)) ∧ NestAt w' B nb F (sawR rd c ver a) lv ∧ NG w w' F F := by
  have HN := As.mk h
  have HC := As.mk hc
  have HD := As.mk (show sawE rd c ver = (if cellOk c = false ∨ ver < 0 ∨ 1099511627776 < ver then 1 else if (rd.2 c).isSome then 9 else 0) from rfl)
  have HR := As.mk (show sawR rd c ver a = (if sawE rd c ver = 0 then (rd.1 + 1, updF rd.2 c (ver, a)) else rd) from rfl)
  generalize sawR rd c ver a = rd' at *
  generalize sawE rd c ver = se at *
  clear h hc
  unfold NP
  cases hck : cellOk c
  · have hse : se = 1 := by rw [HD.out, hck]; simp
    have hrd : rd' = rd := by rw [HR.out, hse]; simp
    subst hse hrd
    have HK := As.mk hck
    clear hck HR HD
    go_enter Try.func26, Try.ntmps26
    go_wp2_with (go_at_call 38; refine (right_c _ c _ HK.out).mono ?_; rintro e w1 ⟨rfl, rfl⟩)
    go_ret
    exact ⟨rfl, HN.out, NG.ofgr (gr_refl _ none) (by simp)⟩
  · have HK := As.mk hck
    by_cases hv0 : ver < 0
    · have hse : se = 1 := by rw [HD.out]; simp [hv0]
      have hrd : rd' = rd := by rw [HR.out, hse]; simp
      subst hse hrd
      clear hck HR HD
      go_enter Try.func26, Try.ntmps26
      go_wp2_with (go_at_call 38; refine (right_c _ c _ HK.out).mono ?_; rintro e w1 ⟨rfl, rfl⟩)
      go_ret
      exact ⟨rfl, HN.out, NG.ofgr (gr_refl _ none) (by simp)⟩
    · by_cases hv1 : 1099511627776 < ver
      · have hse : se = 1 := by rw [HD.out]; simp [hv1]
        have hrd : rd' = rd := by rw [HR.out, hse]; simp
        subst hse hrd
        clear hck HR HD
        go_enter Try.func26, Try.ntmps26
        go_wp2_with (go_at_call 38; refine (right_c _ c _ HK.out).mono ?_; rintro e w1 ⟨rfl, rfl⟩)
        go_ret
        exact ⟨rfl, HN.out, NG.ofgr (gr_refl _ none) (by simp)⟩
      · cases ho : (rd.2 c).isSome
        · have hse : se = 0 := by rw [HD.out, hck, ho]; simp [hv0, hv1]
          have hrd : rd' = (rd.1 + 1, updF rd.2 c (ver, a)) := by rw [HR.out, hse]; simp
          subst hse hrd
          have HO := As.mk ho
          clear hck HR HD ho
          go_enter Try.func26, Try.ntmps26
          go_wp2_with (first | (go_at_call 38; refine (right_c _ c _ HK.out).mono ?_; rintro e w1 ⟨rfl, rfl⟩))
          refine (has_c HN.out c HC.out _ HO.out).mono ?_
          rintro e w2 ⟨rfl, g2⟩
          have N2 := HN.out.gr g2 (by simp)
          obtain ⟨rb, v, bs, rfl, N2⟩ := N2
          have c0 := N2.blk.cell 0
          have HN2 := As.mk N2
          have HG2 := As.mk g2
          clear N2 g2 HN
          go_wp2_with (at_mapUpdate; refine wpList_put_F elSeen _ rfl _ _ _ rfl rb rd.1 rd.2 rfl HN2.out.rmap (by omega) c (ver, a) rfl rfl HC.out trivial ?_; intro w3 hm3 g3)
          have H3 := As.mk (show NestW w3 B nb rb v bs (rd.1 + 1, updF rd.2 c (ver, a)) lv from ⟨HN2.out.blk.grown g3 (fun e => HN2.out.rmap.ne HN2.out.blk (by injection e with e; exact e.symm)), hm3, own_grown HN2.out.row g3 (.inr (HN2.out.rmap.ne_own HN2.out.row).symm), HN2.out.len, fun i b p h1 h2 => (HN2.out.maps i b p h1 h2).kept g3 (fun e => by injection e with e; subst e; exact HN2.out.rbn (List.mem_of_getElem? h1)), HN2.out.nodup, HN2.out.rbn, HN2.out.lo⟩)
          have G3 := As.mk (show NG _ w3 _ _ from (NG.ofgr (F := fpN nb rb v bs) HG2.out (by simp)).trans (NG.ofgr g3 (fun k e => by injection e with e; subst e; exact .inl (.inr (.inl rfl)))))
          clear hm3 g3
          go_wp2_with fail
          go_ret
          exact ⟨rfl, ⟨rb, v, bs, rfl, H3.out⟩, G3.out⟩
        · have hse : se = 9 := by rw [HD.out, hck, ho]; simp [hv0, hv1]
          have hrd : rd' = rd := by rw [HR.out, hse]; simp
          subst hse hrd
          have HO := As.mk ho
          clear hck HR HD ho
          go_enter Try.func26, Try.ntmps26
          go_wp2_with (first | (go_at_call 38; refine (right_c _ c _ HK.out).mono ?_; rintro e w1 ⟨rfl, rfl⟩))
          refine (has_c HN.out c HC.out _ HO.out).mono ?_
          rintro e w2 ⟨rfl, g2⟩
          have N2 := As.mk (HN.out.gr g2 (by simp))
          have G2 := As.mk (NG.ofgr (F := F) g2 (by simp))
          clear g2
          go_wp2_with fail
          go_ret
          exact ⟨rfl, N2.out, G2.out⟩
set_option maxRecDepth 100000 in
theorem saw_n (w : World) (c ver a : Int) : Calls Try.prog 26 #[.pointer none, .int .i64 c, .int .i64 ver, .int .i64 a] w fun e w' => e = .returned (.int .i64 1) ∧ w' = w := by
  go_enter Try.func26, Try.ntmps26
  go_wp2_with fail
  go_ret
  exact ⟨rfl, rfl⟩
end Go.Proofs.Ytgmhopkajopfcaa
