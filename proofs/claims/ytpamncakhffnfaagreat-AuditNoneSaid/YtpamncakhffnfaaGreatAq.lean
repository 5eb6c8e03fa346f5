/- The walks of play, Serial and Final. -/
import Derived.Test.YtpamncakhffnfaaGreatAp
import Derived.Laws.MakeOwn
namespace Go.Proofs.YtpamncakhffnfaaGreat
open Go.RowKit Go.Maps
set_option linter.unusedVariables false
set_option linter.unusedSimpArgs false

theorem regCells_rep (n : Nat) : regCells (List.replicate n (0, 0)) = List.replicate (n * 2) (.int .i64 0) := by
  unfold regCells
  induction n with
  | zero => rfl
  | succ n ih => rw [List.replicate_succ, List.flatMap_cons, ih, show (n + 1) * 2 = n * 2 + 1 + 1 by omega, List.replicate_succ, List.replicate_succ]; rfl
theorem infoReg : (Tryz.prog.info? 114).map (fun i => (i.zero, i.size, i.bytes)) = some (some (.agg #[.int .i64 0, .int .i64 0]), 2, 16) := by kernel_rfl
theorem made_reg (n : Nat) : madeCells (Value.agg #[.int .i64 0, .int .i64 0]).cells (n * 2) = (regCells (List.replicate n (0, 0))).toArray := by
  rw [regCells_rep]
  apply Array.ext
  · rw [size_madeCells]; simp
  · intro i h1 h2
    simp only [madeCells, Array.getElem_map, Array.getElem_range, List.getElem_toArray, List.getElem_replicate]
    show ((#[.int .i64 0, .int .i64 0] : Array Value)[i % 2]!) = _
    have : i % 2 = 0 ∨ i % 2 = 1 := by omega
    rcases this with h | h <;> rw [h] <;> rfl
theorem make_reg (w : World) (n : Nat) (hn : n ≤ 16) : (Instr.makeSlice 84 (.int .i64 (n : Int)) (.int .i64 (n : Int))).run Tryz.prog w = .ok (.slice (some ⟨w.heap.size, 0, none⟩) n n) (w.alloc (.cells (regCells (List.replicate n (0, 0))).toArray 114)) := by
  obtain ⟨i, hi, h1, h2, h3⟩ := info_parts infoReg
  have := run_make (P := Tryz.prog) w 84 114 i _ Tryz.underlying84 hi h1 .i64 .i64 (n : Int) (n : Int) (by omega) (Int.le_refl _) (by rw [h3]; omega) (by omega)
  rw [h2, Int.toNat_natCast, made_reg] at this
  exact this
noncomputable def playFrom (rs : List (Int × Int)) (f : PTid → Option Bool) : List PCo → List (Int × Int) × Int × Int
  | [] => (rs, 0, 0)
  | c :: l => if mayC rs f c = 0 then ((playFrom (c.items.foldl updR rs) (updK f c.tid true) l).1, (playFrom (c.items.foldl updR rs) (updK f c.tid true) l).2.1 + 1, (playFrom (c.items.foldl updR rs) (updK f c.tid true) l).2.2) else (rs, 0, mayC rs f c)
def startR (n : Nat) : List (Int × Int) := List.replicate n (0, 0)
/-- What play comes to, ahead of the k-th. -/
def AtK (n : Nat) (l : List PCo) (k : Nat) (rs : List (Int × Int)) (f : PTid → Option Bool) : Prop :=
  rs.length = n ∧ playFrom (startR n) (fun _ => none) l = ((playFrom rs f (l.drop k)).1, k + (playFrom rs f (l.drop k)).2.1, (playFrom rs f (l.drop k)).2.2)
theorem AtK.zero (n : Nat) (l : List PCo) : AtK n l 0 (startR n) (fun _ => none) := ⟨by simp [startR], by simp⟩
theorem AtK.stop {n : Nat} {l : List PCo} {k : Nat} {rs : List (Int × Int)} {f : PTid → Option Bool} (h : AtK n l k rs f) (hk : k < l.length) (hm : mayC rs f (l[k]'hk) ≠ 0) : playFrom (startR n) (fun _ => none) l = (rs, (k : Int), mayC rs f (l[k]'hk)) := by
  rw [h.2, List.drop_eq_getElem_cons hk]
  unfold playFrom
  rw [if_neg hm]
  simp
theorem AtK.next {n : Nat} {l : List PCo} {k : Nat} {rs : List (Int × Int)} {f : PTid → Option Bool} (h : AtK n l k rs f) (hk : k < l.length) (hm : mayC rs f (l[k]'hk) = 0) : AtK n l (k + 1) ((l[k]'hk).items.foldl updR rs) (updK f (l[k]'hk).tid true) := by
  refine ⟨by rw [updRs_len]; exact h.1, ?_⟩
  rw [h.2, List.drop_eq_getElem_cons hk]
  rw [playFrom, if_pos hm]
  simp only [Prod.mk.injEq, true_and, and_true]
  omega
theorem AtK.all {n : Nat} {l : List PCo} {rs : List (Int × Int)} {f : PTid → Option Bool} (h : AtK n l l.length rs f) : playFrom (startR n) (fun _ => none) l = (rs, (l.length : Int), 0) := by
  rw [h.2, List.drop_length]
  simp [playFrom]
theorem mayC_ok {rs : List (Int × Int)} {f : PTid → Option Bool} {c : PCo} (h : mayC rs f c = 0) : tidOk c.tid = true ∧ (∀ x ∈ c.items, 0 ≤ x.c ∧ x.c < rs.length ∧ 0 ≤ x.v ∧ x.v < 1099511627776) ∧ (f c.tid).getD false = false ∧ (∀ x ∈ c.items, othB rs x = false) := by
  unfold mayC at h
  split at h
  · simp at h
  · rename_i h1
    split at h
    · simp at h
    · rename_i h2
      split at h
      · simp at h
      · rename_i h3
        split at h
        · simp at h
        · rename_i h4
          simp only [Bool.or_eq_true, Bool.not_eq_true', Bool.and_eq_true, decide_eq_true_eq, not_or, not_and, Bool.not_eq_false] at h1
          refine ⟨h1.1, fun x hx => ?_, by simpa using h3, fun x hx => ?_⟩
          · have hl : 0 < c.items.length := List.length_pos_of_mem hx
            have h5 := itemsOk_c (h1.2 hl) x hx
            have h6 : outB rs x = false := by simpa using List.any_eq_false.1 (by simpa using h2) x hx
            unfold outB at h6
            simp only [decide_eq_false_iff_not] at h6
            omega
          · simpa using List.any_eq_false.1 (by simpa using h4) x hx
/-- What play leaves. -/
def PlayPost (w : World) (n : Nat) (l : List PCo) (e : Ending) (w' : World) : Prop :=
  ∃ rb lb mb m f, e = .returned (.tuple #[.pointer (some ⟨rb, 0, none⟩), .int .i64 (playFrom (startR n) (fun _ => none) l).2.1, .int .i64 (playFrom (startR n) (fun _ => none) l).2.2]) ∧ RegW w' w.heap.size rb lb mb m (playFrom (startR n) (fun _ => none) l).1 f ∧ w.grownBy w' none
set_option maxRecDepth 100000 in
set_option maxHeartbeats 3200000 in
theorem play_no (w : World) (v : Value) (c : Int) (h : c < 1 ∨ 16 < c) :
    Calls Tryz.prog 15 #[.int .i64 c, v] w fun e w' => e = .returned (.tuple #[.pointer none, .int .i64 0, .int .i64 1]) ∧ w' = w := by
  rcases h with h | h
  · go_enter Tryz.func15, Tryz.ntmps15
    go_wp2_with fail
    go_ret3
    exact ⟨rfl, rfl⟩
  · have h' : ¬ c < 1 := by omega
    go_enter Tryz.func15, Tryz.ntmps15
    go_wp2_with fail
    go_ret3
    exact ⟨rfl, rfl⟩
set_option maxRecDepth 100000 in
set_option maxHeartbeats 6400000 in
theorem play_c (w : World) (v : Value) (l : List PCo) (hv : Arr CoE 5 w v l) (hl100 : l.length ≤ 100) (n : Nat) (h1 : 1 ≤ n) (h16 : n ≤ 16) :
    Calls Tryz.prog 15 #[.int .i64 (n : Int), v] w (PlayPost w n l) := by
  obtain ⟨A, cp, rfl⟩ := hv.len
  have H := As.mk hv
  have hmk := make_reg w n h16
  have hmm := @run_makeMap Tryz.prog
  have i1 : ¬ (n : Int) < 1 := by omega
  have i2 : ¬ (16 : Int) < (n : Int) := by omega
  clear hv
  go_enter Tryz.func15, Tryz.ntmps15
  go_wp2_with fail
  have HR0 := As.mk (show RegW (((w.alloc (.cells (regCells (startR n)).toArray 114)).alloc (.map #[] 0)).alloc (.cells #[.slice (some ⟨w.heap.size, 0, none⟩) n n, .map (some (w.heap.size + 1))] 86)) w.heap.size (w.heap.size + 1 + 1) w.heap.size (w.heap.size + 1) 0 (startR n) (fun _ => none) from by
    have e1 : (w.alloc (.cells (regCells (startR n)).toArray 114)).heap.size = w.heap.size + 1 := by simp
    have e2 : ((w.alloc (.cells (regCells (startR n)).toArray 114)).alloc (.map #[] 0)).heap.size = w.heap.size + 1 + 1 := by simp
    refine ⟨?_, ((Blk.new w _ _).alloc _).alloc _, ?_, ⟨by omega, by omega, by omega⟩, by simp [startR, h16]⟩
    · rw [show (startR n).length = n by simp [startR]]
      exact Blk.new_at _ _ _ e2.symm
    · refine MapK.alloc ?_ _
      rw [← e1]
      exact MapK.new elSeenT _)
  have HG0 := As.mk (gr_alloc (gr_alloc (gr_alloc (gr_refl w none) (.cells (regCells (startR n)).toArray 114)) (.map #[] 0)) (.cells #[.slice (some ⟨w.heap.size, 0, none⟩) n n, .map (some (w.heap.size + 1))] 86))
  clear hmk hmm i1 i2
  go_loopw [24] (fun i wr => ∃ k : Nat, ∃ rs f, k ≤ l.length ∧ i = .int .i64 k ∧ As (w.grownBy wr none ∧ RegW wr w.heap.size (w.heap.size + 1 + 1) w.heap.size (w.heap.size + 1) k rs f ∧ AtK n l k rs f)) (fun i _ => l.length - (intOf i).toNat)
  case atStart => exact ⟨0, _, _, Nat.zero_le _, rfl, ⟨HG0.out, HR0.out, AtK.zero n l⟩⟩
  case round =>
    obtain ⟨k, rs, f, hk, rfl, HL⟩ := hrel
    clear HG0 HR0
    by_cases hlt : k < l.length
    · have hltI : (k : Int) < (l.length : Int) := by omega
      have hk0 : (0 : Int) ≤ (k : Int) := by omega
      obtain ⟨b, o, cs, rfl, ⟨vi, hE, hIt⟩, hcs, hcell⟩ := H.out.at_ k l[k] (List.getElem?_eq_getElem hlt)
      obtain ⟨A2, cc2, rfl⟩ := hIt.len
      obtain rfl := hE
      have hgr := HL.out.1
      have c0 : wr.cell? ⟨b, o + k * 5, none⟩ = _ := hgr.cell (hcell 0 _ rfl) (by simp)
      have c1 := hgr.cell (hcell 1 _ rfl) (by simp)
      have c2 := hgr.cell (hcell 2 _ rfl) (by simp)
      have c3 := hgr.cell (hcell 3 _ rfl) (by simp)
      have c4 := hgr.cell (hcell 4 _ rfl) (by simp)
      have HN := As.mk (fun hm => HL.out.2.2.next hlt hm)
      have HST := As.mk (fun hm => HL.out.2.2.stop hlt hm)
      have HI := As.mk hIt
      clear hcell hcs hIt
      generalize l[k]'hlt = x at *
      obtain ⟨⟨tn, te, ts⟩, its, ca⟩ := x
      dsimp only at *
      have HGX := As.mk (gr_alloc hgr (.cells #[.int .i64 tn, .int .i64 te, .int .i64 ts, .slice A2 its.length cc2, .int .i64 ca] 41))
      have HBX := As.mk (Blk.new wr 41 #[.int .i64 tn, .int .i64 te, .int .i64 ts, .slice A2 its.length cc2, .int .i64 ca])
      have HRX := As.mk (HL.out.2.1.grown (gr_alloc (gr_refl wr none) (.cells #[.int .i64 tn, .int .i64 te, .int .i64 ts, .slice A2 its.length cc2, .int .i64 ca] 41)))
      clear HL
      go_wp2_with fail
      clear c0 c1 c2 c3 c4 hgr
      generalize wr.alloc (.cells #[.int .i64 tn, .int .i64 te, .int .i64 ts, .slice A2 its.length cc2, .int .i64 ca] 41) = WX at *
      generalize wr.heap.size = gx at *
      refine (may_c WX HRX.out ⟨⟨tn, te, ts⟩, its, ca⟩ _ (HI.out.below HGX.out (fun _ _ h => h)) _ rfl).mono ?_
      rintro e1 w1 ⟨rfl, g1⟩
      replace HGX := As.mk (HGX.out.trans g1)
      replace HBX := As.mk (HBX.out.grown g1 (by simp))
      replace HRX := As.mk (HRX.out.grown g1)
      clear g1
      by_cases hm : mayC rs f ⟨⟨tn, te, ts⟩, its, ca⟩ = 0
      · have HM := As.mk hm
        have hmb : (mayC rs f ⟨⟨tn, te, ts⟩, its, ca⟩ == 0) = true := by rw [hm]; rfl
        rw [hm]
        clear hm hmb
        have c0 := HBX.out.cell 0
        have c1 := HBX.out.cell 1
        have c2 := HBX.out.cell 2
        have c3 := HBX.out.cell 3
        have c4 := HBX.out.cell 4
        simp only [List.getElem?_toArray, List.getElem?_cons_zero, List.getElem?_cons_succ] at c0 c1 c2 c3 c4
        go_wp2_with fail
        refine (do_c w w1 HGX.out HRX.out (by omega) ⟨⟨tn, te, ts⟩, its, ca⟩ _ HI.out (tidOk_W (mayC_ok HM.out).1) (mayC_ok HM.out).2.1).mono ?_
        rintro e2 w2 ⟨rfl, g2, hR2⟩
        have HG2 := As.mk g2
        have HR2 := As.mk hR2
        clear g2 hR2 c0 c1 c2 c3 c4
        go_wp2_with fail
        go_roundw
        case measure => simp [intOf]; omega
        case rel => exact ⟨k + 1, _, _, by omega, by go_num, ⟨HG2.out, HR2.out, HN.out HM.out⟩⟩
      · have HM := As.mk hm
        have HQ := As.mk (HST.out hm)
        generalize mayC rs f ⟨⟨tn, te, ts⟩, its, ca⟩ = q at *
        have hmb : (q == 0) = false := by simpa using HM.out
        clear HST HN hm
        go_wp2_with fail
        go_ret3
        unfold PlayPost
        rw [HQ.out]
        exact ⟨_, _, _, _, _, rfl, HRX.out, HGX.out⟩
    · obtain rfl : k = l.length := by omega
      have HQ := As.mk HL.out.2.2.all
      have HX := As.mk HL.out
      clear HL
      go_wp2_with fail
      go_ret3
      unfold PlayPost
      rw [HQ.out]
      exact ⟨_, _, _, _, _, rfl, HX.out.2.1, HX.out.1⟩
end Go.Proofs.YtpamncakhffnfaaGreat
