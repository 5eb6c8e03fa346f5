/- The walks of a nest's Begin, pop, Undo. -/
import Derived.Test.YtgmhopkajopfcaaNi
namespace Go.Proofs.Ytgmhopkajopfcaa
open Go.RowKit Go.Maps
set_option linter.unusedVariables false

theorem infoLev : (Try.prog.info? 81).map (fun i => (i.zero, i.size, i.bytes)) = some (some (.map none), 1, 8) := by kernel_rfl
def begE (lv : Lv) : Int := if 4 < lv.length then 6 else 0
def begL (lv : Lv) : Lv := if 4 < lv.length then lv else lv ++ [(0, fun _ => none)]
set_option maxRecDepth 100000 in
set_option maxHeartbeats 3200000 in
theorem begin_c {w : World} {B nb : Nat} {F : Nat → Prop} {rd : Rd} {lv : Lv} (h : NestAt w B nb F rd lv) (hB : B ≤ w.heap.size) (hl : lv.length ≤ 1000000) :
    Calls Try.prog 58 #[NP nb] w fun e w' => e = .returned (.int .i64 (begE lv)) ∧ ∃ F', NestAt w' B nb F' rd (begL lv) ∧ NG w w' F F' := by
  obtain ⟨i0, hi, hz0, hz1, hz2⟩ := info_parts infoLev
  have HI := As.mk (And.intro hi (And.intro hz0 (And.intro hz1 hz2)))
  clear hi hz0 hz1 hz2
  have HN := As.mk h
  have HD := As.mk (And.intro (show begE lv = (if 4 < lv.length then 6 else 0) from rfl) (show begL lv = (if 4 < lv.length then lv else lv ++ [(0, fun _ => none)]) from rfl))
  generalize begE lv = se at *
  generalize begL lv = lv' at *
  unfold NP
  obtain ⟨rb, v, bs, hF, N⟩ := h
  have hlen := N.len
  obtain ⟨A, c, rfl⟩ := own_shape N.row
  have c1 : w.cell? ⟨nb, 1, none⟩ = some (.slice A bs.length c) := N.blk.cell 1
  have f1 := N.blk.free 1
  by_cases h4 : 4 < lv.length
  · have h4I : (4 : Int) < (bs.length : Int) := by omega
    have hse : se = 6 := by rw [HD.out.1, if_pos h4]
    have hlv : lv' = lv := by rw [HD.out.2, if_pos h4]
    subst hse hlv
    clear HD N hF hlen
    go_enter Try.func58, Try.ntmps58
    go_wp2_with fail
    go_ret
    exact ⟨rfl, F, HN.out, NG.ofgr (gr_refl _ none) (by simp)⟩
  · have h4I : ¬ (4 : Int) < (bs.length : Int) := by omega
    have hse : se = 0 := by rw [HD.out.1, if_neg h4]
    have hlv : lv' = lv ++ [(0, fun _ => none)] := by rw [HD.out.2, if_neg h4]
    subst hse hlv
    have HF := As.mk hF
    have HNW := As.mk N
    have HLen := As.mk hlen
    have hb9 : bs.length ≤ 4 := by omega
    clear HD N hF HN hlen
    have hmm := @run_makeMap Try.prog
    have c1a : (w.alloc (.map #[] 0)).cell? ⟨nb, 1, none⟩ = some (.slice A bs.length c) := (HNW.out.blk.alloc _).cell 1
    go_enter Try.func58, Try.ntmps58
    go_wp2_with (at_builtin; refine wpList_append_lies _ (by rfl) _ _ _ (by rfl) B 81 i0 _ 1 8 Try.underlying82 HI.out.1 HI.out.2.1 HI.out.2.2.1 HI.out.2.2.2 rfl (by omega) _ bs.length _ (by rfl) (own_alloc' (own_alloc' HNW.out.row _) _) ⟨w.heap.size + 1, 0, none⟩ 1 1 [.map (some w.heap.size)] (by rfl) (by rfl) (World.news_of_block (cs := #[.map (some w.heap.size)]) (t := 81) (fr := (0, 0)) (heap_alloc2_new w _ _)) (by simp [Value.oneCell']) (by omega) (by simp only [maxLen]; omega) (by omega) (by simp; omega) (w.heap.size + 2) (by simp) ?_; intro gg cap w5 hown1 hgrow hat hlt2; have HX := As.mk (And.intro hown1 (And.intro hgrow hat)); have HB5 := As.mk (((HNW.out.blk.alloc (.map #[] 0)).alloc (.cells #[.map (some w.heap.size)] 81)).grown hgrow (own_ne HNW.out.blk HNW.out.row (by decide))); have c5 : w5.cell? ⟨nb, 1, none⟩ = some (.slice A bs.length c) := HB5.out.cell 1; have f5 := HB5.out.free 1; clear hown1 hgrow hat hlt2)
    have hold : ∀ b ∈ bs, b < w.heap.size := fun b hb => (HNW.out.fp b (.inr (.inr (.inl hb)))).2
    have HZ := As.mk (show NestW (w5.setCell ⟨nb, 1, none⟩ (.slice (some ⟨gg, 0, none⟩) (bs.length + 1) cap)) B nb rb (.slice (some ⟨gg, 0, none⟩) (bs.length + 1) cap) (bs ++ [w.heap.size]) rd (lv ++ [(0, fun _ => none)]) from by
      have hnb : ∀ {α : Type} {L : El α} {b n : Nat} {f : Int → Option α}, MapF L w b n f → b ≠ nb := fun h => h.ne HNW.out.blk
      have mk : ∀ {α : Type} {L : El α} {b n : Nat} {f : Int → Option α}, MapF L w b n f → MapF L (w5.setCell ⟨nb, 1, none⟩ (.slice (some ⟨gg, 0, none⟩) (bs.length + 1) cap)) b n f := fun h => (((h.alloc _).alloc _).kept HX.out.2.1 (h.ne_own HNW.out.row)).set (hnb h) _
      refine ⟨by simpa using HB5.out.set 1 _, mk HNW.out.rmap, ?_, by simp [HLen.out], fun i b p h1 h2 => ?_, ?_, ?_, HNW.out.lo.1, HNW.out.lo.2.1, ?_⟩
      · have := own_far HX.out.1 (a := ⟨nb, 1, none⟩) (own_ne HB5.out HX.out.1 (by decide)) (.slice (some ⟨gg, 0, none⟩) (bs.length + 1) cap)
        simpa using this
      · by_cases hi : i < bs.length
        · rw [List.getElem?_append_left hi] at h1
          rw [List.getElem?_append_left (by have := HLen.out; omega)] at h2
          exact mk (HNW.out.maps i b p h1 h2)
        · have hi2 : i = bs.length := by
            have := (List.getElem?_eq_some_iff.1 h1).1
            simp at this
            omega
          subst hi2
          rw [List.getElem?_append_right (Nat.le_refl _), Nat.sub_self] at h1
          rw [List.getElem?_append_right (by have := HLen.out; omega), show bs.length - lv.length = 0 by have := HLen.out; omega] at h2
          simp at h1 h2
          subst h1 h2
          have M := (MapF.new elLev w).alloc (.cells #[.map (some w.heap.size)] 81)
          exact (M.kept HX.out.2.1 (fun e => by have := (HNW.out.row.lt _ e.symm).2; omega)).set (fun e => by have := HNW.out.blk.lt; dsimp only at e; omega) _
      · rw [List.nodup_append]
        exact ⟨HNW.out.nodup, by simp, fun a ha b hb e => by have := hold a ha; rw [List.mem_singleton.1 hb] at e; omega⟩
      · intro hm
        rcases List.mem_append.1 hm with hm | hm
        · exact HNW.out.rbn hm
        · have := HNW.out.rmap.lt; rw [List.mem_singleton.1 hm] at this; omega
      · intro b hb
        rcases List.mem_append.1 hb with hb | hb
        · exact HNW.out.lo.2.2 b hb
        · rw [List.mem_singleton.1 hb]; exact hB)
    have HG := As.mk (show NG w (w5.setCell ⟨nb, 1, none⟩ (.slice (some ⟨gg, 0, none⟩) (bs.length + 1) cap)) F (fpN nb rb (.slice (some ⟨gg, 0, none⟩) (bs.length + 1) cap) (bs ++ [w.heap.size])) from by
      have g1 : NG w ((w.alloc (.map #[] 0)).alloc (.cells #[.map (some w.heap.size)] 81)) F F := NG.ofgr (gr_alloc (gr_alloc (gr_refl w none) _) _) (by simp)
      have g2 := g1.trans (NG.ofgr HX.out.2.1 (fun k e => .inl (by rw [HF.out]; exact .inr (.inr (.inr e)))))
      have g3 := g2.trans (NG.ofgr (gr_set (gr_refl w5 (some nb)) (a := ⟨nb, 1, none⟩) (.inl rfl) (.slice (some ⟨gg, 0, none⟩) (bs.length + 1) cap)) (fun k e => .inl (by injection e with e; rw [HF.out, ← e]; exact .inl rfl)))
      refine g3.weaken fun k hk hf => ?_
      rw [HF.out]
      rcases hf with hf | hf | hf | hf
      · exact .inl hf
      · exact .inr (.inl hf)
      · rcases List.mem_append.1 hf with hf | hf
        · exact .inr (.inr (.inl hf))
        · rw [List.mem_singleton.1 hf] at hk; omega
      · rcases HX.out.2.2 with e | e
        · exact .inr (.inr (.inr (by rw [e]; exact hf)))
        · simp [Value.ownBlock] at hf; omega)
    clear hold HX HB5
    go_ret
    exact ⟨rfl, _, ⟨rb, _, _, rfl, HZ.out⟩, HG.out⟩
set_option maxRecDepth 100000 in
theorem begin_n (w : World) : Calls Try.prog 58 #[.pointer none] w fun e w' => e = .returned (.int .i64 1) ∧ w' = w := by
  go_enter Try.func58, Try.ntmps58
  go_wp2_with fail
  go_ret
  exact ⟨rfl, rfl⟩
end Go.Proofs.Ytgmhopkajopfcaa
