/- The walks of a nest's pop, Undo. -/
import Derived.Test.YtgmhopkajopfcaaNj
namespace Go.Proofs.Ytgmhopkajopfcaa
open Go.RowKit Go.Maps
set_option linter.unusedVariables false

set_option maxRecDepth 100000 in
theorem pop_n (w : World) : Calls Try.prog 76 #[.pointer none] w fun e w' => e = .returned (.tuple #[.map none, .int .i64 1]) ∧ w' = w := by
  go_enter Try.func76, Try.ntmps76
  go_wp2_with fail
  go_ret2
  exact ⟨rfl, rfl⟩
set_option maxRecDepth 100000 in
set_option maxHeartbeats 1600000 in
theorem pop_one {w : World} {B nb : Nat} {F : Nat → Prop} {rd : Rd} {lv : Lv} (h : NestAt w B nb F rd lv) (h1 : lv.length = 1) :
    Calls Try.prog 76 #[NP nb] w fun e w' => e = .returned (.tuple #[.map none, .int .i64 8]) ∧ w' = w := by
  obtain ⟨rb, v, bs, rfl, N⟩ := h
  have hlen := N.len
  obtain ⟨A, c, rfl⟩ := own_shape N.row
  have c1 : w.cell? ⟨nb, 1, none⟩ = some (.slice A 1 c) := by rw [N.blk.cell 1, hlen, h1]; rfl
  clear N hlen h1
  unfold NP
  go_enter Try.func76, Try.ntmps76
  go_wp2_with fail
  go_ret2
  exact ⟨rfl, rfl⟩
def PopPost (w : World) (B nb : Nat) (F : Nat → Prop) (rd : Rd) (lv : Lv) (e : Ending) (w' : World) : Prop :=
  ∃ mb ini p F', lv = ini ++ [p] ∧ e = .returned (.tuple #[.map (some mb), .int .i64 0]) ∧ NestAt w' B nb F' rd ini ∧ NG w w' F F' ∧ MapF elLev w' mb p.1 p.2 ∧ F mb ∧ ¬ F' mb
theorem NestW.cut {w : World} {B nb rb g cp : Nat} {bi : List Nat} {mb : Nat} {rd : Rd} {ini : Lv} {p : Nat × (Int → Option Int)}
    (h : NestW w B nb rb (.slice (some ⟨g, 0, none⟩) (bi ++ [mb]).length cp) (bi ++ [mb]) rd (ini ++ [p])) :
    NestW (w.setCell ⟨nb, 1, none⟩ (.slice (some ⟨g, 0, none⟩) bi.length cp)) B nb rb (.slice (some ⟨g, 0, none⟩) bi.length cp) bi rd ini ∧ MapF elLev w mb p.1 p.2 := by
  have hil : bi.length = ini.length := by have := h.len; simpa using this
  have hnd := h.nodup
  rw [List.nodup_append] at hnd
  have hmb : MapF elLev w mb p.1 p.2 := h.maps bi.length mb p (by simp) (by rw [List.getElem?_append_right (by omega), show bi.length - ini.length = 0 by omega]; rfl)
  have hnb : ∀ {α : Type} {L : El α} {b n : Nat} {f : Int → Option α}, MapF L w b n f → b ≠ nb := fun q => q.ne h.blk
  refine ⟨⟨by simpa using h.blk.set 1 _, h.rmap.set (hnb h.rmap) _, ?_, hil, fun i b q h1 h2 => ?_, hnd.1, fun q => h.rbn (List.mem_append_left _ q), h.lo.1, h.lo.2.1, fun b hb => h.lo.2.2 b (List.mem_append_left _ hb)⟩, hmb⟩
  · have h1 := own_cut h.row bi.length (by simp)
    rw [Nat.mul_one, List.map_append, List.take_left' (by simp)] at h1
    exact own_far h1 (a := ⟨nb, 1, none⟩) (own_ne h.blk h1 (by decide)) _
  · have hi : i < bi.length := (List.getElem?_eq_some_iff.1 h1).1
    have m := h.maps i b q (by rw [List.getElem?_append_left hi]; exact h1) (by rw [List.getElem?_append_left (by omega)]; exact h2)
    exact m.set (hnb m) _
set_option maxRecDepth 100000 in
set_option maxHeartbeats 3200000 in
theorem pop_c {w : World} {B nb : Nat} {F : Nat → Prop} {rd : Rd} {lv : Lv} (h : NestAt w B nb F rd lv) (h2 : 2 ≤ lv.length) (hl : lv.length ≤ 1000000) :
    Calls Try.prog 76 #[NP nb] w (PopPost w B nb F rd lv) := by
  obtain ⟨rb, v, bs, hF, N⟩ := h
  obtain ⟨g, cp, rfl⟩ := own_some N.row (by rw [N.len]; omega)
  rcases List.eq_nil_or_concat lv with e0 | ⟨ini, p, e0⟩
  · subst e0; simp at h2
  · rw [List.concat_eq_append] at e0
    rcases List.eq_nil_or_concat bs with eb | ⟨bi, mb, eb⟩
    · have := N.len; rw [eb] at this; simp at this; omega
    · rw [List.concat_eq_append] at eb
      subst eb
      have hil : bi.length = ini.length := by have := N.len; rw [e0] at this; simpa using this
      have hb1 : 1 ≤ bi.length := by rw [e0] at h2; simp at h2; omega
      have hb9 : bi.length ≤ 1000000 := by rw [e0] at hl; simp at hl; omega
      have q0 : w.cell? ⟨nb, 1, none⟩ = some (.slice (some ⟨g, 0, none⟩) (bi.length + 1) cp) := by rw [N.blk.cell 1]; simp
      have f0 := N.blk.free 1
      have q1 : w.cell? ⟨g, bi.length, none⟩ = some (.map (some mb)) := own_cellAt N.row bi.length _ (by simp)
      have hcap : bi.length + 1 ≤ cp := by
        rcases N.row.2 with ⟨hv, _⟩ | ⟨g', cap', cur, hv, _, _, hn, _⟩
        · cases hv
        · injection hv with _ _ hv3
          simp at hn
          omega
      have HN := As.mk N
      have HF := As.mk hF
      have HE := As.mk e0
      clear N hF e0 hil h2 hl
      have b1 : (1 : Int) ≤ (bi.length : Int) := by omega
      have b2 : (bi.length : Int) ≤ 1000000 := by omega
      have b3 : (bi.length : Int) < (bi.length : Int) + 1 := by omega
      have b4 : (bi.length : Int) ≤ (cp : Int) := by omega
      have b5 : (bi.length == 0) = false := by rw [beq_eq_false_iff_ne]; omega
      have b6 : ((bi.length : Int) == 0) = false := by rw [beq_eq_false_iff_ne]; omega
      unfold NP
      go_enter Try.func76, Try.ntmps76
      go_wp2_with fail
      have HX := As.mk (show PopPost w B nb F rd lv (.returned (.tuple #[.map (some mb), .int .i64 0])) (w.setCell ⟨nb, 1, none⟩ (.slice (some ⟨g, 0, none⟩) bi.length cp)) from by
        have hN := HN.out
        rw [HE.out] at hN
        obtain ⟨c1, c2⟩ := hN.cut
        have hnd := hN.nodup
        rw [List.nodup_append] at hnd
        refine ⟨mb, ini, p, _, HE.out, rfl, ⟨rb, _, _, rfl, c1⟩, ?_, c2.set (c2.ne hN.blk) _, by rw [HF.out]; exact .inr (.inr (.inl (by simp))), ?_⟩
        · refine (NG.ofgr (F := F) (gr_set (gr_refl w (some nb)) (a := ⟨nb, 1, none⟩) (.inl rfl) (.slice (some ⟨g, 0, none⟩) bi.length cp)) (fun k e => .inl (by injection e with e; rw [HF.out, ← e]; exact .inl rfl))).weaken fun k hk hf => ?_
          rw [HF.out]
          rcases hf with hf | hf | hf | hf
          · exact .inl hf
          · exact .inr (.inl hf)
          · exact .inr (.inr (.inl (List.mem_append_left _ hf)))
          · exact .inr (.inr (.inr hf))
        · rintro (e | e | e | e)
          · exact c2.ne hN.blk e
          · exact hN.rbn (by rw [← e]; simp)
          · exact hnd.2.2 mb e mb (List.mem_singleton.2 rfl) rfl
          · exact c2.ne_own hN.row (by rw [← e]; rfl))
      clear q0 q1 f0
      go_ret2
      exact HX.out
def undE (lv : Lv) : Int := if lv.length = 1 then 8 else 0
def undL (lv : Lv) : Lv := if lv.length = 1 then lv else lv.dropLast
set_option maxRecDepth 100000 in
theorem undo_c {w : World} {B nb : Nat} {F : Nat → Prop} {rd : Rd} {lv : Lv} (h : NestAt w B nb F rd lv) (h0 : 0 < lv.length) (hl : lv.length ≤ 1000000) :
    Calls Try.prog 60 #[NP nb] w fun e w' => e = .returned (.int .i64 (undE lv)) ∧ ∃ F', NestAt w' B nb F' rd (undL lv) ∧ NG w w' F F' := by
  have HN := As.mk h
  have HD := As.mk (And.intro (show undE lv = (if lv.length = 1 then 8 else 0) from rfl) (show undL lv = (if lv.length = 1 then lv else lv.dropLast) from rfl))
  generalize undE lv = se at *
  generalize undL lv = lv' at *
  clear h
  by_cases h1 : lv.length = 1
  · have hse : se = 8 := by rw [HD.out.1, if_pos h1]
    have hlv : lv' = lv := by rw [HD.out.2, if_pos h1]
    subst hse hlv
    have H1 := As.mk h1
    clear h1 HD h0 hl
    go_enter Try.func60, Try.ntmps60
    go_wp2_with fail
    refine (pop_one HN.out H1.out).mono ?_
    rintro e w1 ⟨rfl, rfl⟩
    go_wp2_with fail
    go_ret
    exact ⟨rfl, F, HN.out, NG.ofgr (gr_refl _ none) (by simp)⟩
  · have hse : se = 0 := by rw [HD.out.1, if_neg h1]
    have hlv : lv' = lv.dropLast := by rw [HD.out.2, if_neg h1]
    have HL := As.mk hlv
    have H2 := As.mk (And.intro (show 2 ≤ lv.length by omega) hl)
    subst hse
    clear h1 HD h0 hl hlv
    go_enter Try.func60, Try.ntmps60
    go_wp2_with fail
    refine (pop_c HN.out H2.out.1 H2.out.2).mono ?_
    rintro e w1 ⟨mb, ini, p, F', he, rfl, hN, hG, -, -, -⟩
    have HX := As.mk (And.intro hN hG)
    have HE := As.mk he
    clear hN hG he
    go_wp2_with fail
    go_ret
    exact ⟨rfl, F', by rw [HL.out, HE.out, List.dropLast_concat]; exact HX.out.1, HX.out.2⟩
set_option maxRecDepth 100000 in
theorem undo_n (w : World) : Calls Try.prog 60 #[.pointer none] w fun e w' => e = .returned (.int .i64 1) ∧ w' = w := by
  go_enter Try.func60, Try.ntmps60
  go_wp2_with fail
  refine (pop_n w).mono ?_
  rintro e w1 ⟨rfl, rfl⟩
  go_wp2_with fail
  go_ret
  exact ⟨rfl, rfl⟩
end Go.Proofs.Ytgmhopkajopfcaa
