/- The walk of the registers' do. -/
import Derived.Test.YtpamncakhffnfaaGreatAo
namespace Go.Proofs.YtpamncakhffnfaaGreat
open Go.RowKit Go.Maps
set_option linter.unusedVariables false
set_option linter.unusedSimpArgs false

theorem MapK.store {κ α : Type} {K : Ky κ} {L : Elk K α} {w : World} {b n : Nat} {f : κ → Option α} (h : MapK L w b n f) (hn : n < 1000000) {c : κ} (hc : K.W c) {u : α} (hu : L.W u) :
    ∃ w', (Instr.mapUpdate L.t (.map (some b)) (K.V c) (L.V u)).run Tryz.prog w = .ok () w' ∧ MapK L w' b (n + 1) (updK f c u) ∧ w.grownBy w' (some b) := by
  obtain ⟨D, h1, h2⟩ := h
  obtain ⟨w', hr, h3, h4⟩ := h1.update K.law L.ut (by unfold maxLen; omega) (K.ok c hc) (L.ok u hu)
  exact ⟨w', hr, put_K h1 h3 h2 hc, h4⟩
def updR (rs : List (Int × Int)) (x : PIt) : List (Int × Int) := if x.wr = true then rs.set x.c.toNat (x.v + 1, x.nw) else rs
theorem updR_len (rs : List (Int × Int)) (x : PIt) : (updR rs x).length = rs.length := by unfold updR; split <;> simp
theorem updRs_len (l : List PIt) (rs : List (Int × Int)) : (l.foldl updR rs).length = rs.length := by
  induction l generalizing rs with
  | nil => rfl
  | cons x l ih => rw [List.foldl_cons, ih, updR_len]
theorem RegW.set {w : World} {B rb lb mb n : Nat} {rs : List (Int × Int)} {f : PTid → Option Bool} (h : RegW w B rb lb mb n rs f) (j : Nat) (hj : j < rs.length) (p : Int × Int) :
    RegW ((w.setCell ⟨lb, j * 2, none⟩ (.int .i64 p.1)).setCell ⟨lb, j * 2 + 1, none⟩ (.int .i64 p.2)) B rb lb mb n (rs.set j p) f := by
  have hne : rb ≠ lb := Blk.ne h.blk h.row (by decide)
  have hm : mb ≠ lb := h.map.ne h.row
  refine ⟨?_, ?_, (h.map.set hm _).set hm _, h.lo, by rw [List.length_set]; exact h.le⟩
  · rw [List.length_set]
    exact (h.blk.far hne _).far hne _
  · have := (h.row.set (j * 2) (.int .i64 p.1)).set (j * 2 + 1) (.int .i64 p.2)
    rw [regCells_set rs j hj p]
    simpa using this
theorem RegW.drew {w : World} {B rb lb mb n : Nat} {rs : List (Int × Int)} {f : PTid → Option Bool} (h : RegW w B rb lb mb n rs f) : RegW w.drew B rb lb mb n rs f := ⟨h.blk.drew, h.row.drew, h.map.drew, h.lo, h.le⟩
theorem updR_off {rs : List (Int × Int)} {x : PIt} (h : x.wr = false) : updR rs x = rs := by unfold updR; rw [h]; rfl
theorem updR_on {rs : List (Int × Int)} {x : PIt} {j : Nat} (h : x.wr = true) (hj : x.c = j) : updR rs x = rs.set j (x.v + 1, x.nw) := by unfold updR; rw [if_pos h, hj]; rfl
set_option maxRecDepth 100000 in
set_option maxHeartbeats 6400000 in
theorem do_c (w0 w : World) (hg : w0.grownBy w none) {rb lb mb n : Nat} {rs : List (Int × Int)} {f : PTid → Option Bool} (hR : RegW w w0.heap.size rb lb mb n rs f) (hn : n < 1000) (c : PCo) (vi : Value) (hI : Arr ItE 5 w0 vi c.items)
    (hT : tidW c.tid) (hC : ∀ x ∈ c.items, 0 ≤ x.c ∧ x.c < rs.length ∧ 0 ≤ x.v ∧ x.v < 1099511627776) :
    Calls Tryz.prog 23 #[.pointer (some ⟨rb, 0, none⟩), .agg #[.int .i64 c.tid.n, .int .i64 c.tid.e, .int .i64 c.tid.s, vi, .int .i64 c.at_]] w fun e w' => e = .returned (.tuple #[]) ∧ w0.grownBy w' none ∧ RegW w' w0.heap.size rb lb mb (n + 1) (c.items.foldl updR rs) (updK f c.tid true) := by
  obtain ⟨⟨tn, te, ts⟩, l, ca⟩ := c
  dsimp only at *
  obtain ⟨A, cp, rfl⟩ := hI.len
  have HGA := gr_alloc hg (.cells #[.int .i64 tn, .int .i64 te, .int .i64 ts, .slice A l.length cp, .int .i64 ca] 41)
  have HA := gr_alloc (gr_refl w none) (.cells #[.int .i64 tn, .int .i64 te, .int .i64 ts, .slice A l.length cp, .int .i64 ca] 41)
  have HB := As.mk (Blk.new w 41 #[.int .i64 tn, .int .i64 te, .int .i64 ts, .slice A l.length cp, .int .i64 ca])
  have HR := As.mk (hR.grown HA)
  have HG := As.mk HGA
  have hl := hI.le
  have HI := As.mk hI
  have HT := As.mk hT
  have HC := As.mk hC
  have HN := As.mk hn
  clear hR hI HGA HA hT hC hg hn
  go_enter Tryz.func23, Tryz.ntmps23
  go_wp2_with fail
  generalize w.alloc (.cells #[.int .i64 tn, .int .i64 te, .int .i64 ts, .slice A l.length cp, .int .i64 ca] 41) = W at *
  generalize w.heap.size = g at *
  obtain ⟨w1, hrun, HM, HG1⟩ := MapK.store HR.out.map.drew (by have := HN.out; omega) (c := ⟨tn, te, ts⟩) HT.out (u := true) trivial
  have HRUN := As.mk (show (Instr.mapUpdate 45 (.map (some mb)) (.agg #[.int .i64 tn, .int .i64 te, .int .i64 ts]) (.bool true)).run Tryz.prog W.drew = .ok () w1 from hrun)
  have hrb : some rb ≠ some mb := by intro e; injection e with e; exact HR.out.map.ne HR.out.blk e.symm
  have hlb : some lb ≠ some mb := by intro e; injection e with e; exact HR.out.map.ne HR.out.row e.symm
  have hgb : some g ≠ some mb := by intro e; injection e with e; exact HR.out.map.ne HB.out e.symm
  have HR1 := As.mk (show RegW w1 w0.heap.size rb lb mb (n + 1) rs (updK f ⟨tn, te, ts⟩ true) from ⟨HR.out.blk.drew.grown HG1 hrb, HR.out.row.drew.grown HG1 hlb, HM, HR.out.lo, HR.out.le⟩)
  have HB1 := As.mk (HB.out.drew.grown HG1 hgb)
  have HGG := As.mk (gr_then (gr_drew HG.out) HG1 (.inr (.inr (fun k hk => by injection hk with hk; subst hk; exact HR.out.lo.2.2))))
  clear hrun HM HG1 hrb hlb hgb
  refine wp_region_noPanic ?_
  refine wp_region_held_drew (S := fun w' => w'.cell? ⟨rb, 1, none⟩ = some (.map (some mb)) ∧ w'.cell? ⟨g, 0, none⟩ = some (.int .i64 tn) ∧ w'.cell? ⟨g, 1, none⟩ = some (.int .i64 te) ∧ w'.cell? ⟨g, 2, none⟩ = some (.int .i64 ts)) (by kernel_rfl) (⟨HR.out.blk.cell 1, HB.out.cell 0, HB.out.cell 1, HB.out.cell 2⟩) (fun hS => ?_)
  refine wpAnyH_take (i := 0) (v := ?va1) rfl (by kernel_rfl) (by kernel_rfl) (by kernel_rfl) (fun _ _ _ h => h) (Or.inl ⟨by rfl, ?ya1⟩) hS ?ra1
  case ya1 => (intro w0 _; go_simp; try with_reducible rfl)
  try simp only [List.getElem_toArray, List.getElem_cons_zero, List.getElem_cons_succ, Act.put, List.setIfInBounds_toArray, List.set_cons_zero, List.set_cons_succ]
  refine wpAnyH_take (i := 1) (v := ?va2) rfl (by kernel_rfl) (by kernel_rfl) (by kernel_rfl) (fun _ _ _ h => h) (Or.inl ⟨by rfl, ?ya2⟩) hS ?ra2
  case ya2 => (intro w0 _; go_simp; try with_reducible rfl)
  try simp only [List.getElem_toArray, List.getElem_cons_zero, List.getElem_cons_succ, Act.put, List.setIfInBounds_toArray, List.set_cons_zero, List.set_cons_succ]
  refine wpAnyH_take (i := 2) (v := ?va3) rfl (by kernel_rfl) (by kernel_rfl) (by kernel_rfl) (fun _ _ _ h => h) (Or.inl ⟨by rfl, ?ya3⟩) hS ?ra3
  case ya3 => (intro w0 _; go_simp; try with_reducible rfl)
  try simp only [List.getElem_toArray, List.getElem_cons_zero, List.getElem_cons_succ, Act.put, List.setIfInBounds_toArray, List.set_cons_zero, List.set_cons_succ]
  refine wpAnyH_take (i := 3) (v := ?va4) rfl (by kernel_rfl) (by kernel_rfl) (by kernel_rfl) (fun _ _ _ h => h) (Or.inl ⟨by rfl, ?ya4⟩) hS ?ra4
  case ya4 => (intro w0 hS0; (try simp only [] at hS0); obtain ⟨hS0_0, hS0_1, hS0_2, hS0_3⟩ := hS0; go_simp; try with_reducible rfl)
  try simp only [List.getElem_toArray, List.getElem_cons_zero, List.getElem_cons_succ, Act.put, List.setIfInBounds_toArray, List.set_cons_zero, List.set_cons_succ]
  refine wpAnyH_take (i := 4) (v := ?va5) rfl (by kernel_rfl) (by kernel_rfl) (by kernel_rfl) (fun _ _ _ h => h) (Or.inl ⟨by rfl, ?ya5⟩) hS ?ra5
  case ya5 => (intro w0 _; go_simp; try with_reducible rfl)
  try simp only [List.getElem_toArray, List.getElem_cons_zero, List.getElem_cons_succ, Act.put, List.setIfInBounds_toArray, List.set_cons_zero, List.set_cons_succ]
  refine wpAnyH_take (i := 5) (v := ?va6) rfl (by kernel_rfl) (by kernel_rfl) (by kernel_rfl) (fun _ _ _ h => h) (Or.inl ⟨by rfl, ?ya6⟩) hS ?ra6
  case ya6 => (intro w0 hS0; (try simp only [] at hS0); obtain ⟨hS0_0, hS0_1, hS0_2, hS0_3⟩ := hS0; go_simp; try with_reducible rfl)
  try simp only [List.getElem_toArray, List.getElem_cons_zero, List.getElem_cons_succ, Act.put, List.setIfInBounds_toArray, List.set_cons_zero, List.set_cons_succ]
  refine wpAnyH_ready (rs := [6]) (by kernel_rfl) (by simp) (AllReadyH.cons (i := 6) rfl (fun K hK => ?_) AllReadyH.nil)
  have hrun := HRUN.out
  go_simp
  refine hK.out _ _ (⟨HR1.out.blk.cell 1, HB1.out.cell 0, HB1.out.cell 1, HB1.out.cell 2⟩) (fun hS => ?_)
  clear hK K
  try simp only [List.getElem_toArray, List.getElem_cons_zero, List.getElem_cons_succ, Act.put, List.setIfInBounds_toArray, List.set_cons_zero, List.set_cons_succ]
  clear hS hrun
  refine wpAnyH_done (by kernel_rfl) ?_ _
  refine NoPanic.normal ?_
  try simp only [Exit.then]
  clear HR HB HG HRUN
  have c3 : w1.cell? ⟨g, 3, none⟩ = some (.slice A l.length cp) := HB1.out.cell 3
  go_wp2_with fail
  clear c3 HB1 hS
  go_loopw [15] (fun i wr => ∃ k : Nat, k ≤ l.length ∧ i = .int .i64 k ∧ As (w0.grownBy wr none ∧ RegW wr w0.heap.size rb lb mb (n + 1) ((l.take k).foldl updR rs) (updK f ⟨tn, te, ts⟩ true))) (fun i _ => l.length - (intOf i).toNat)
  case atStart => exact ⟨0, Nat.zero_le _, rfl, ⟨HGG.out, HR1.out⟩⟩
  case round =>
    obtain ⟨k, hk, rfl, HL⟩ := hrel
    clear HGG HR1
    by_cases hlt : k < l.length
    · have hltI : (k : Int) < (l.length : Int) := by omega
      have hk0 : (0 : Int) ≤ (k : Int) := by omega
      obtain ⟨b, o, cs, rfl, hE, hcs, hcell⟩ := HI.out.at_ k l[k] (List.getElem?_eq_getElem hlt)
      obtain rfl := hE
      have hgr := HL.out.1
      have c0 : wr.cell? ⟨b, o + k * 5, none⟩ = _ := hgr.cell (hcell 0 _ rfl) (by simp)
      have c1 := hgr.cell (hcell 1 _ rfl) (by simp)
      have c2 := hgr.cell (hcell 2 _ rfl) (by simp)
      have c3 := hgr.cell (hcell 3 _ rfl) (by simp)
      have c4 := hgr.cell (hcell 4 _ rfl) (by simp)
      have HX := As.mk (HC.out _ (List.getElem_mem hlt))
      have HS := As.mk (show (l.take (k + 1)).foldl updR rs = updR ((l.take k).foldl updR rs) (l[k]'hlt) by rw [List.take_succ_eq_append_getElem hlt, List.foldl_append]; rfl)
      have HLN := As.mk (updRs_len (l.take k) rs)
      clear hcell hcs
      generalize l[k]'hlt = x at *
      generalize (l.take k).foldl updR rs = rk at *
      obtain ⟨xc, xv, xa, xw, xn⟩ := x
      dsimp only at *
      obtain ⟨j, rfl⟩ : ∃ j : Nat, xc = (j : Int) := ⟨xc.toNat, by have := HX.out.1; omega⟩
      have HGX := As.mk (gr_alloc hgr (.cells #[.int .i64 (j : Int), .int .i64 xv, .int .i64 xa, .bool xw, .int .i64 xn] 38))
      have HBX := As.mk (Blk.new wr 38 #[.int .i64 (j : Int), .int .i64 xv, .int .i64 xa, .bool xw, .int .i64 xn])
      have HRX := As.mk (HL.out.2.grown (gr_alloc (gr_refl wr none) (.cells #[.int .i64 (j : Int), .int .i64 xv, .int .i64 xa, .bool xw, .int .i64 xn] 38)))
      clear HL
      cases xw
      · rw [updR_off rfl] at HS
        go_wp2_with fail
        go_roundw
        case measure => simp [intOf]; omega
        case rel => exact ⟨k + 1, by omega, by go_num, ⟨HGX.out, by rw [HS.out]; exact HRX.out⟩⟩
      · rw [updR_on rfl rfl] at HS
        go_wp2_with fail
        clear c0 c1 c2 c3 c4 hgr
        generalize wr.alloc (.cells #[.int .i64 (j : Int), .int .i64 xv, .int .i64 xa, .bool true, .int .i64 xn] 38) = WX at *
        generalize wr.heap.size = gx at *
        have hj : j < rk.length := by have := HX.out.2.1; have := HLN.out; omega
        have hj0 : (0 : Int) ≤ (j : Int) := by omega
        have hjI : (j : Int) < (rk.length : Int) := by omega
        have hle : rk.length ≤ 16 := HRX.out.le
        have hv : IntKind.i64.wrap (xv + 1) = xv + 1 := IntWalk.i64_in _ (by have := HX.out.2.2; omega)
        have HSET := As.mk (HRX.out.set j hj (xv + 1, xn))
        dsimp only at HSET
        have hne : gx ≠ lb := Blk.ne HBX.out HRX.out.row (by decide)
        have hrl : rb ≠ lb := Blk.ne HRX.out.blk HRX.out.row (by decide)
        have HBY := As.mk (((HBX.out.far hne (.int .i64 (xv + 1)) (a := ⟨lb, j * 2, none⟩)).far hne (.int .i64 xn) (a := ⟨lb, j * 2 + 1, none⟩)).drew)
        have HSB := As.mk (((HRX.out.blk.far hrl (.int .i64 (xv + 1)) (a := ⟨lb, j * 2, none⟩)).far hrl (.int .i64 xn) (a := ⟨lb, j * 2 + 1, none⟩)).drew)
        have HGY := As.mk (gr_drew (gr_set (gr_set HGX.out (a := ⟨lb, j * 2, none⟩) (.inr HRX.out.lo.2.1) (.int .i64 (xv + 1))) (a := ⟨lb, j * 2 + 1, none⟩) (.inr HRX.out.lo.2.1) (.int .i64 xn)))
        clear hne hrl
        have d0 : WX.cell? ⟨lb, j * 2, none⟩ = _ := (HRX.out.cells j _ (List.getElem?_eq_getElem hj)).1
        have d1 : WX.cell? ⟨lb, j * 2 + 1, none⟩ = _ := (HRX.out.cells j _ (List.getElem?_eq_getElem hj)).2
        have f0 : WX.frozen? ⟨lb, j * 2, none⟩ = false := HRX.out.row.free _
        have f1 : WX.frozen? ⟨lb, j * 2 + 1, none⟩ = false := HRX.out.row.free _
        refine wp_region_noPanic ?_
        refine wp_region_held_drew (S := fun w' => w'.cell? ⟨rb, 0, none⟩ = some (.slice (some ⟨lb, 0, none⟩) rk.length rk.length) ∧ w'.cell? ⟨gx, 0, none⟩ = some (.int .i64 (j : Int)) ∧ w'.cell? ⟨gx, 1, none⟩ = some (.int .i64 xv) ∧ w'.cell? ⟨gx, 4, none⟩ = some (.int .i64 xn)) (by kernel_rfl) (⟨HRX.out.blk.cell 0, HBX.out.cell 0, HBX.out.cell 1, HBX.out.cell 4⟩) (fun hS => ?_)
        refine wpAnyH_take (i := 0) (v := ?vb1) rfl (by kernel_rfl) (by kernel_rfl) (by kernel_rfl) (fun _ _ _ h => h) (Or.inl ⟨by rfl, ?yb1⟩) hS ?rb1
        case yb1 => (intro w0 _; go_simp; try with_reducible rfl)
        try simp only [List.getElem_toArray, List.getElem_cons_zero, List.getElem_cons_succ, Act.put, List.setIfInBounds_toArray, List.set_cons_zero, List.set_cons_succ]
        refine wpAnyH_take (i := 1) (v := ?vb2) rfl (by kernel_rfl) (by kernel_rfl) (by kernel_rfl) (fun _ _ _ h => h) (Or.inl ⟨by rfl, ?yb2⟩) hS ?rb2
        case yb2 => (intro w0 _; go_simp; try with_reducible rfl)
        try simp only [List.getElem_toArray, List.getElem_cons_zero, List.getElem_cons_succ, Act.put, List.setIfInBounds_toArray, List.set_cons_zero, List.set_cons_succ]
        refine wpAnyH_take (i := 2) (v := ?vb3) rfl (by kernel_rfl) (by kernel_rfl) (by kernel_rfl) (fun _ _ _ h => h) (Or.inl ⟨by rfl, ?yb3⟩) hS ?rb3
        case yb3 => (intro w0 _; go_simp; try with_reducible rfl)
        try simp only [List.getElem_toArray, List.getElem_cons_zero, List.getElem_cons_succ, Act.put, List.setIfInBounds_toArray, List.set_cons_zero, List.set_cons_succ]
        refine wpAnyH_take (i := 3) (v := ?vb4) rfl (by kernel_rfl) (by kernel_rfl) (by kernel_rfl) (fun _ _ _ h => h) (Or.inl ⟨by rfl, ?yb4⟩) hS ?rb4
        case yb4 => (intro w0 hS0; (try simp only [] at hS0); obtain ⟨hS0_0, hS0_1, hS0_2, hS0_3⟩ := hS0; go_simp; try with_reducible rfl)
        try simp only [List.getElem_toArray, List.getElem_cons_zero, List.getElem_cons_succ, Act.put, List.setIfInBounds_toArray, List.set_cons_zero, List.set_cons_succ]
        refine wpAnyH_take (i := 4) (v := ?vb5) rfl (by kernel_rfl) (by kernel_rfl) (by kernel_rfl) (fun _ _ _ h => h) (Or.inl ⟨by rfl, ?yb5⟩) hS ?rb5
        case yb5 => (intro w0 _; go_simp; try with_reducible rfl)
        try simp only [List.getElem_toArray, List.getElem_cons_zero, List.getElem_cons_succ, Act.put, List.setIfInBounds_toArray, List.set_cons_zero, List.set_cons_succ]
        refine wpAnyH_take (i := 5) (v := ?vb6) rfl (by kernel_rfl) (by kernel_rfl) (by kernel_rfl) (fun _ _ _ h => h) (Or.inl ⟨by rfl, ?yb6⟩) hS ?rb6
        case yb6 => (intro w0 hS0; (try simp only [] at hS0); obtain ⟨hS0_0, hS0_1, hS0_2, hS0_3⟩ := hS0; go_simp; try with_reducible rfl)
        try simp only [List.getElem_toArray, List.getElem_cons_zero, List.getElem_cons_succ, Act.put, List.setIfInBounds_toArray, List.set_cons_zero, List.set_cons_succ]
        refine wpAnyH_take (i := 6) (v := ?vb7) rfl (by kernel_rfl) (by kernel_rfl) (by kernel_rfl) (fun _ _ _ h => h) (Or.inl ⟨by rfl, ?yb7⟩) hS ?rb7
        case yb7 => (intro w0 _; go_simp; try with_reducible rfl)
        try simp only [List.getElem_toArray, List.getElem_cons_zero, List.getElem_cons_succ, Act.put, List.setIfInBounds_toArray, List.set_cons_zero, List.set_cons_succ]
        refine wpAnyH_take (i := 7) (v := ?vb8) rfl (by kernel_rfl) (by kernel_rfl) (by kernel_rfl) (fun _ _ _ h => h) (Or.inl ⟨by rfl, ?yb8⟩) hS ?rb8
        case yb8 => (intro w0 hS0; (try simp only [] at hS0); obtain ⟨hS0_0, hS0_1, hS0_2, hS0_3⟩ := hS0; go_simp; try with_reducible rfl)
        try simp only [List.getElem_toArray, List.getElem_cons_zero, List.getElem_cons_succ, Act.put, List.setIfInBounds_toArray, List.set_cons_zero, List.set_cons_succ]
        refine wpAnyH_take (i := 8) (v := ?vb9) rfl (by kernel_rfl) (by kernel_rfl) (by kernel_rfl) (fun _ _ _ h => h) (Or.inl ⟨by rfl, ?yb9⟩) hS ?rb9
        case yb9 => (intro w0 _; go_simp; try with_reducible rfl)
        try simp only [List.getElem_toArray, List.getElem_cons_zero, List.getElem_cons_succ, Act.put, List.setIfInBounds_toArray, List.set_cons_zero, List.set_cons_succ]
        refine wpAnyH_take (i := 9) (v := ?vb10) rfl (by kernel_rfl) (by kernel_rfl) (by kernel_rfl) (fun _ _ _ h => h) (Or.inl ⟨by rfl, ?yb10⟩) hS ?rb10
        case yb10 => (intro w0 _; go_simp; try with_reducible rfl)
        try simp only [List.getElem_toArray, List.getElem_cons_zero, List.getElem_cons_succ, Act.put, List.setIfInBounds_toArray, List.set_cons_zero, List.set_cons_succ]
        refine wpAnyH_take (i := 10) (v := ?vb11) rfl (by kernel_rfl) (by kernel_rfl) (by kernel_rfl) (fun _ _ _ h => h) (Or.inl ⟨by rfl, ?yb11⟩) hS ?rb11
        case yb11 => (intro w0 hS0; (try simp only [] at hS0); obtain ⟨hS0_0, hS0_1, hS0_2, hS0_3⟩ := hS0; go_simp; try with_reducible rfl)
        try simp only [List.getElem_toArray, List.getElem_cons_zero, List.getElem_cons_succ, Act.put, List.setIfInBounds_toArray, List.set_cons_zero, List.set_cons_succ]
        refine wpAnyH_take (i := 11) (v := ?vb12) rfl (by kernel_rfl) (by kernel_rfl) (by kernel_rfl) (fun _ _ _ h => h) (Or.inl ⟨by rfl, ?yb12⟩) hS ?rb12
        case yb12 => (intro w0 _; go_simp; try with_reducible rfl)
        try simp only [List.getElem_toArray, List.getElem_cons_zero, List.getElem_cons_succ, Act.put, List.setIfInBounds_toArray, List.set_cons_zero, List.set_cons_succ]
        refine wpAnyH_take (i := 12) (v := ?vb13) rfl (by kernel_rfl) (by kernel_rfl) (by kernel_rfl) (fun _ _ _ h => h) (Or.inl ⟨by rfl, ?yb13⟩) hS ?rb13
        case yb13 => (intro w0 _; go_simp; try with_reducible rfl)
        try simp only [List.getElem_toArray, List.getElem_cons_zero, List.getElem_cons_succ, Act.put, List.setIfInBounds_toArray, List.set_cons_zero, List.set_cons_succ]
        refine wpAnyH_ready (rs := [13]) (by kernel_rfl) (by simp) (AllReadyH.cons (i := 13) rfl (fun K hK => ?_) AllReadyH.nil)
        go_simp
        refine hK.out _ _ (⟨HSB.out.cell 0, HBY.out.cell 0, HBY.out.cell 1, HBY.out.cell 4⟩) (fun hS => ?_)
        clear hK K
        try simp only [List.getElem_toArray, List.getElem_cons_zero, List.getElem_cons_succ, Act.put, List.setIfInBounds_toArray, List.set_cons_zero, List.set_cons_succ]
        clear hS
        refine wpAnyH_done (by kernel_rfl) ?_ _
        refine NoPanic.normal ?_
        try simp only [Exit.then]
        go_wp2_with fail
        go_roundw
        case measure => simp [intOf]; omega
        case rel => exact ⟨k + 1, by omega, by go_num, ⟨HGY.out, by rw [HS.out]; exact HSET.out.drew⟩⟩
    · obtain rfl : k = l.length := by omega
      rw [List.take_of_length_le (Nat.le_refl _)] at HL
      go_wp2_with fail
      first | go_end0 | go_ret
      exact ⟨rfl, HL.out⟩
end Go.Proofs.YtpamncakhffnfaaGreat
