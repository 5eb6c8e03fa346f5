/- The walk of a state's clone. (Printed by wip/gen/gen_mg.py.) -/
import Derived.Test.YtdmkijdbldcdiaaMe
import Derived.Test.YtdmkijdbldcdiaaMa
namespace Go.Proofs.Ytdmkijdbldcdiaa
open Go.RowKit
set_option linter.unusedVariables false
set_option linter.unusedSimpArgs false
set_option maxRecDepth 100000

/-- A state's rows stay behind what is written into one block of another type. -/
theorem Rows.put8 {w : World} {B sb : Nat} {s : PSt} {vP vQ vD vC : Value} {qs : List QPr} {cs : List QCm} (h : Rows w B s vP vQ vD vC qs cs) {u : Array Value} (hb : Blk w sb 32 u) (v0 v1 v2 v3 v4 v5 v6 v7 : Value) :
    Rows (put8 w sb v0 v1 v2 v3 v4 v5 v6 v7) B s vP vQ vD vC qs cs := by
  have hg := gr_put8 (gr_refl w (some sb)) (.inl rfl) v0 v1 v2 v3 v4 v5 v6 v7
  have hn : ∀ g, some sb = some g → ∀ cs, ¬ Blk w g 66 cs ∧ ¬ Blk w g 3 cs := fun g e cs => by
    injection e with e
    subst e
    exact ⟨fun q => Blk.ne hb q (by decide) rfl, fun q => Blk.ne hb q (by decide) rfl⟩
  exact ⟨own_grown h.pl hg (.inr (Ne.symm (own_ne hb h.pl (by decide)))), own_grown h.pr hg (.inr (Ne.symm (own_ne hb h.pr (by decide)))), own_grown h.de hg (.inr (Ne.symm (own_ne hb h.de (by decide)))), own_grown h.cm hg (.inr (Ne.symm (own_ne hb h.cm (by decide)))), h.qp, h.cp,
    fun q hq => nest_step (h.qi q hq) hg hn, fun q hq => nest_step (h.ci q hq) hg hn⟩
theorem Rows.mono {w : World} {B B' : Nat} {s : PSt} {vP vQ vD vC : Value} {qs : List QPr} {cs : List QCm} (h : Rows w B' s vP vQ vD vC qs cs) (hb : B ≤ B') : Rows w B s vP vQ vD vC qs cs :=
  ⟨own_mono h.pl hb, own_mono h.pr hb, own_mono h.de hb, own_mono h.cm hb, h.qp, h.cp, h.qi, h.ci⟩
/-- Ahead of the k-th: those ahead of it have nested slices of the call's own, the others those that were there. -/
def CloQ (w : World) (ps : List PPr) (qs0 : List QPr) (k : Nat) (qs : List QPr) : Prop := qs.map QPr.p = ps ∧ ∀ j q, qs[j]? = some q → (j < k → NestO w q.A1 q.c1 q.p.items q.A2 q.c2 q.p.nodes) ∧ (k ≤ j → qs0[j]? = some q)
def CloC (w : World) (ps : List PCm) (qs0 : List QCm) (k : Nat) (qs : List QCm) : Prop := qs.map QCm.p = ps ∧ ∀ j q, qs[j]? = some q → (j < k → NestO w q.A1 q.c1 q.p.items q.A2 q.c2 q.p.nodes) ∧ (k ≤ j → qs0[j]? = some q)
theorem CloQ.next {w w' : World} {ps : List PPr} {qs0 qs : List QPr} {k : Nat} (h : CloQ w ps qs0 k qs) (q : QPr) (hq : qs[k]? = some q) {row : Option Nat} (hg : w.grownBy w' row) (hr : ∀ g, row = some g → ∀ cs, ¬ Blk w g 66 cs ∧ ¬ Blk w g 3 cs) {A1 : Option Addr} {c1 : Nat} {A2 : Option Addr} {c2 : Nat} (hn : NestO w' A1 c1 q.p.items A2 c2 q.p.nodes) : CloQ w' ps qs0 (k + 1) (qs.set k (q.at_ A1 c1 A2 c2)) := by
  obtain ⟨hk, rfl⟩ := List.getElem?_eq_some_iff.1 hq
  refine ⟨?_, fun j x hx => ?_⟩
  · rw [← h.1, List.map_set]
    show (qs.map QPr.p).set k (qs[k]'hk).p = _
    rw [← List.getElem_map QPr.p (h := by simpa using hk), List.set_getElem_self]
  · by_cases hjk : k = j
    · subst hjk
      rw [List.getElem?_set_self hk] at hx
      injection hx with hx
      subst hx
      exact ⟨fun _ => hn, fun h => absurd h (by omega)⟩
    · rw [List.getElem?_set_ne hjk] at hx
      have := h.2 j x hx
      exact ⟨fun hj => nest_step (this.1 (by omega)) hg hr, fun hj => this.2 (by omega)⟩
theorem CloC.next {w w' : World} {ps : List PCm} {qs0 qs : List QCm} {k : Nat} (h : CloC w ps qs0 k qs) (q : QCm) (hq : qs[k]? = some q) {row : Option Nat} (hg : w.grownBy w' row) (hr : ∀ g, row = some g → ∀ cs, ¬ Blk w g 66 cs ∧ ¬ Blk w g 3 cs) {A1 : Option Addr} {c1 : Nat} {A2 : Option Addr} {c2 : Nat} (hn : NestO w' A1 c1 q.p.items A2 c2 q.p.nodes) : CloC w' ps qs0 (k + 1) (qs.set k (q.at_ A1 c1 A2 c2)) := by
  obtain ⟨hk, rfl⟩ := List.getElem?_eq_some_iff.1 hq
  refine ⟨?_, fun j x hx => ?_⟩
  · rw [← h.1, List.map_set]
    show (qs.map QCm.p).set k (qs[k]'hk).p = _
    rw [← List.getElem_map QCm.p (h := by simpa using hk), List.set_getElem_self]
  · by_cases hjk : k = j
    · subst hjk
      rw [List.getElem?_set_self hk] at hx
      injection hx with hx
      subst hx
      exact ⟨fun _ => hn, fun h => absurd h (by omega)⟩
    · rw [List.getElem?_set_ne hjk] at hx
      have := h.2 j x hx
      exact ⟨fun hj => nest_step (this.1 (by omega)) hg hr, fun hj => this.2 (by omega)⟩
set_option maxHeartbeats 6400000 in
theorem clone_c (w : World) (s : PSt) (vP vQ vD vC : Value) (h : StR w s vP vQ vD vC) (hn : s.places.length ≤ 1000000 ∧ s.prepared.length ≤ 1000000 ∧ s.decided.length ≤ 1000000 ∧ s.commits.length ≤ 1000000 ∧ (∀ p ∈ s.prepared, p.items.length ≤ 1000000 ∧ p.nodes.length ≤ 1000000) ∧ (∀ p ∈ s.commits, p.items.length ≤ 1000000 ∧ p.nodes.length ≤ 1000000)) :
    Calls Try.prog 24 #[.agg (stCells s vP vQ vD vC)] w fun e w' => ∃ vP' vQ' vD' vC' qs cs, e = .returned (.agg (stCells s vP' vQ' vD' vC')) ∧ w.grownBy w' none ∧ Rows w' w.heap.size s vP' vQ' vD' vC' qs cs := by
  obtain ⟨A1, c1, rfl⟩ := h.pl.len
  obtain ⟨A2, c2, rfl⟩ := h.pr.len
  obtain ⟨A3, c3, rfl⟩ := h.de.len
  obtain ⟨A4, c4, rfl⟩ := h.cm.len
  obtain ⟨qs0, hq1, hq2, hq3⟩ := h.pr.qQPr
  obtain ⟨cs0, hc1, hc2, hc3⟩ := h.cm.qQCm
  unfold stCells
  have hga := gr_alloc (gr_alloc (gr_refl w none) (.cells #[.int .i64 s.node, .int .i64 s.nodes, .int .i64 s.cells, .int .i64 s.epoch, .slice A1 s.places.length c1, .slice A2 s.prepared.length c2, .slice A3 s.decided.length c3, .slice A4 s.commits.length c4] 32)) (.cells #[.int .i64 0, .int .i64 0, .int .i64 0, .int .i64 0, .slice none 0 0, .slice none 0 0, .slice none 0 0, .slice none 0 0] 32)
  have HG := As.mk hga
  have HB := As.mk ((Blk.new w 32 #[.int .i64 s.node, .int .i64 s.nodes, .int .i64 s.cells, .int .i64 s.epoch, .slice A1 s.places.length c1, .slice A2 s.prepared.length c2, .slice A3 s.decided.length c3, .slice A4 s.commits.length c4]).alloc (.cells #[.int .i64 0, .int .i64 0, .int .i64 0, .int .i64 0, .slice none 0 0, .slice none 0 0, .slice none 0 0, .slice none 0 0] 32))
  have HZ := As.mk (Blk.new2 w (.cells #[.int .i64 s.node, .int .i64 s.nodes, .int .i64 s.cells, .int .i64 s.epoch, .slice A1 s.places.length c1, .slice A2 s.prepared.length c2, .slice A3 s.decided.length c3, .slice A4 s.commits.length c4] 32) 32 #[.int .i64 0, .int .i64 0, .int .i64 0, .int .i64 0, .slice none 0 0, .slice none 0 0, .slice none 0 0, .slice none 0 0])
  have HR := As.mk h
  have HN := As.mk hn
  have HQ0 := As.mk (And.intro hq1 (And.intro hq2 hq3))
  have HC0 := As.mk (And.intro hc1 (And.intro hc2 hc3))
  clear h hn hq1 hq2 hq3 hc1 hc2 hc3 hga
  go_enter Try.func24, Try.ntmps24
  go_wp2_with fail
  generalize (w.alloc (.cells #[.int .i64 s.node, .int .i64 s.nodes, .int .i64 s.cells, .int .i64 s.epoch, .slice A1 s.places.length c1, .slice A2 s.prepared.length c2, .slice A3 s.decided.length c3, .slice A4 s.commits.length c4] 32)).alloc (.cells #[.int .i64 0, .int .i64 0, .int .i64 0, .int .i64 0, .slice none 0 0, .slice none 0 0, .slice none 0 0, .slice none 0 0] 32) = W at *
  have hgs : ∀ v i, w.grownBy W none → w.grownBy (W.setCell ⟨w.heap.size, i, none⟩ v) none := fun v i h => gr_set h (a := ⟨w.heap.size, i, none⟩) (.inr (Nat.le_refl _)) v
  clear hgs
  refine (clPl_c _ _ s.places (HR.out.pl.below HG.out (fun _ _ h => h)) HN.out.1).mono ?_
  rintro e w1 ⟨Ap, cp, rfl, ho, hg1⟩
  have hty : some w.heap.size ≠ (Value.slice Ap s.places.length cp).ownBlock := own_ne (HB.out.grown hg1 (by simp)) ho (by decide)
  have HP := As.mk (own_far (own_mono ho HG.out.size) (a := ⟨w.heap.size, 4, none⟩) hty (.slice Ap s.places.length cp))
  have HB1 := As.mk (HB.out.grown hg1 (by simp))
  have HB2 := As.mk (show Blk _ w.heap.size 32 #[.int .i64 s.node, .int .i64 s.nodes, .int .i64 s.cells, .int .i64 s.epoch, .slice Ap s.places.length cp, .slice A2 s.prepared.length c2, .slice A3 s.decided.length c3, .slice A4 s.commits.length c4] from by have := HB1.out.set 4 (.slice Ap s.places.length cp); simpa using this)
  have HZ2 := As.mk ((HZ.out.grown hg1 (by simp)).far (a := ⟨w.heap.size, 4, none⟩) (by simp) (.slice Ap s.places.length cp))
  have HG2 := As.mk (gr_set (gr_then HG.out hg1 (.inl rfl)) (a := ⟨w.heap.size, 4, none⟩) (.inr (Nat.le_refl _)) (.slice Ap s.places.length cp))
  clear ho hg1 hty HB HZ HG
  have q4 := HB1.out.cell 4
  have q5 := HB1.out.cell 5
  have f4 := HB1.out.free 4
  simp only [List.getElem?_toArray, List.getElem?_cons_zero, List.getElem?_cons_succ] at q4 q5
  go_wp2_with fail
  clear q4 q5 f4 HB1
  generalize w1.setCell ⟨w.heap.size, 4, none⟩ (.slice Ap s.places.length cp) = W1 at *
  refine (clonePr_c W1 _ s.prepared.length (qs0.flatMap qpC) (HQ0.out.2.1.grown HG2.out) HN.out.2.1).mono ?_
  rintro e w2 ⟨v', rfl, ho, hg1⟩
  obtain ⟨Aq, cq, rfl⟩ := own_shape ho
  have hty : some w.heap.size ≠ (Value.slice Aq s.prepared.length cq).ownBlock := own_ne (HB2.out.grown hg1 (by simp)) ho (by decide)
  have HB1 := As.mk (HB2.out.grown hg1 (by simp))
  have hty1 : some w.heap.size ≠ (Value.slice Ap s.places.length cp).ownBlock := own_ne HB1.out (own_gr0 HP.out hg1) (by decide)
  have HQ := As.mk (own_far (own_mono ho HG2.out.size) (a := ⟨w.heap.size, 5, none⟩) hty (.slice Aq s.prepared.length cq))
  have HP1 := As.mk (own_far (own_gr0 HP.out hg1) (a := ⟨w.heap.size, 5, none⟩) hty1 (.slice Aq s.prepared.length cq))
  have HB3 := As.mk (show Blk _ w.heap.size 32 #[.int .i64 s.node, .int .i64 s.nodes, .int .i64 s.cells, .int .i64 s.epoch, .slice Ap s.places.length cp, .slice Aq s.prepared.length cq, .slice A3 s.decided.length c3, .slice A4 s.commits.length c4] from by have := HB1.out.set 5 (.slice Aq s.prepared.length cq); simpa using this)
  have HZ3 := As.mk ((HZ2.out.grown hg1 (by simp)).far (a := ⟨w.heap.size, 5, none⟩) (by simp) (.slice Aq s.prepared.length cq))
  have HG3 := As.mk (gr_set (gr_then HG2.out hg1 (.inl rfl)) (a := ⟨w.heap.size, 5, none⟩) (.inr (Nat.le_refl _)) (.slice Aq s.prepared.length cq))
  clear ho hg1 hty hty1 HB2 HZ2 HG2 HP
  have q5 := HB1.out.cell 5
  have f5 := HB1.out.free 5
  simp only [List.getElem?_toArray, List.getElem?_cons_zero, List.getElem?_cons_succ] at q5
  go_wp2_with fail
  clear q5 f5 HB1
  generalize w2.setCell ⟨w.heap.size, 5, none⟩ (.slice Aq s.prepared.length cq) = W2 at *
  have HL0 := As.mk (show qs0.length = s.prepared.length by rw [← HQ0.out.1, List.length_map])
  go_loopw [18] (fun i wr => ∃ k : Nat, k ≤ s.prepared.length ∧ i = .int .i64 k ∧ ∃ qs, As (w.grownBy wr none ∧ Blk wr w.heap.size 32 #[.int .i64 s.node, .int .i64 s.nodes, .int .i64 s.cells, .int .i64 s.epoch, .slice Ap s.places.length cp, .slice Aq s.prepared.length cq, .slice A3 s.decided.length c3, .slice A4 s.commits.length c4] ∧ Blk wr (w.heap.size + 1) 32 #[.int .i64 0, .int .i64 0, .int .i64 0, .int .i64 0, .slice none 0 0, .slice none 0 0, .slice none 0 0, .slice none 0 0] ∧ wr.ownsRow w.heap.size 62 5 (.slice Ap s.places.length cp) s.places.length (s.places.flatMap plCells) ∧ wr.ownsRow w.heap.size 60 5 (.slice Aq s.prepared.length cq) s.prepared.length (qs.flatMap qpC) ∧ CloQ wr s.prepared qs0 k qs)) (fun i _ => s.prepared.length - (intOf i).toNat)
  case atStart => exact ⟨0, Nat.zero_le _, rfl, qs0, ⟨HG3.out, HB3.out, HZ3.out, HP1.out, HQ.out, HQ0.out.1, fun j q hq => ⟨fun h => absurd h (Nat.not_lt_zero _), fun _ => hq⟩⟩⟩
  case round =>
    obtain ⟨k, hk, rfl, qs, HL⟩ := hrel
    clear HG3 HB3 HZ3 HP1 HQ
    by_cases hlt : k < s.prepared.length
    · have hltI : (k : Int) < (s.prepared.length : Int) := by omega
      have hk0 : (0 : Int) ≤ (k : Int) := by omega
      have hql : qs.length = s.prepared.length := by rw [← HL.out.2.2.2.2.2.1, List.length_map]
      obtain ⟨gq, cap, e⟩ := own_some HL.out.2.2.2.2.1 (by omega)
      injection e with e1 e2 e3
      subst e1 e3
      have hkq : k < qs.length := by omega
      have hqk := List.getElem?_eq_getElem hkq
      have HQK := As.mk ((HL.out.2.2.2.2.2.2 k _ hqk).2 (Nat.le_refl _))
      have c0 : wr.cell? ⟨gq, k * 5, none⟩ = _ := own_cellAt HL.out.2.2.2.2.1 (k * 5 + 0) _ (flat_at qpC 5 (fun _ => rfl) qs k _ hqk 0 _ rfl)
      have c1_ := own_cellAt HL.out.2.2.2.2.1 (k * 5 + 1) _ (flat_at qpC 5 (fun _ => rfl) qs k _ hqk 1 _ rfl)
      have c2_ := own_cellAt HL.out.2.2.2.2.1 (k * 5 + 2) _ (flat_at qpC 5 (fun _ => rfl) qs k _ hqk 2 _ rfl)
      have c3_ := own_cellAt HL.out.2.2.2.2.1 (k * 5 + 3) _ (flat_at qpC 5 (fun _ => rfl) qs k _ hqk 3 _ rfl)
      have c4_ := own_cellAt HL.out.2.2.2.2.1 (k * 5 + 4) _ (flat_at qpC 5 (fun _ => rfl) qs k _ hqk 4 _ rfl)
      have HKQ := As.mk hkq
      have HQL := As.mk hql
      clear hql hqk
      have HQG := As.mk (List.getElem?_eq_getElem hkq)
      generalize hq : qs[k]'hkq = q at *
      have HQE := As.mk hq
      clear hq
      have hle : s.prepared.length ≤ cq ∧ cq ≤ 9223372036854775807 := by
        obtain ⟨_, _, _, _, h1, h2⟩ := own_whole HL.out.2.2.2.2.1
        exact ⟨h1, by simp only [maxLen] at h2; omega⟩
      go_wp2_with fail
      clear c0 c1_ c2_ c3_ c4_
      have HQK2 := As.mk (HQ0.out.2.2 q (List.mem_of_getElem? HQK.out))
      have hga := gr_alloc (gr_refl wr none) (.cells #[.int .i64 q.p.tid.n, .int .i64 q.p.tid.e, .int .i64 q.p.tid.s, .slice q.A1 q.p.items.length q.c1, .slice q.A2 q.p.nodes.length q.c2] 60)
      have HGX := As.mk (gr_then HL.out.1 hga (.inl rfl))
      have HBX := As.mk (HL.out.2.1.grown hga (by simp))
      have HZX := As.mk (HL.out.2.2.1.grown hga (by simp))
      have HPX := As.mk (own_gr0 HL.out.2.2.2.1 hga)
      have HQX := As.mk (own_gr0 HL.out.2.2.2.2.1 hga)
      have HFX := As.mk (Blk.new wr 60 #[.int .i64 q.p.tid.n, .int .i64 q.p.tid.e, .int .i64 q.p.tid.s, .slice q.A1 q.p.items.length q.c1, .slice q.A2 q.p.nodes.length q.c2])
      have HLE := As.mk (show q.p.items.length ≤ 1000000 ∧ q.p.nodes.length ≤ 1000000 from HN.out.2.2.2.2.1 q.p (by rw [← HL.out.2.2.2.2.2.1]; exact List.mem_map.2 ⟨q, List.mem_of_getElem? HQG.out, rfl⟩))
      have HNE := As.mk (own_new_ne HL.out.2.2.2.2.1)
      have HCL := As.mk HL.out.2.2.2.2.2
      have HWT := As.mk (show ∀ g, some gq = some g → ∀ cs, ¬ Blk wr g 66 cs ∧ ¬ Blk wr g 3 cs from fun g e cs => ⟨own_typed HL.out.2.2.2.2.1 (by decide) g e cs, own_typed HL.out.2.2.2.2.1 (by decide) g e cs⟩)
      have HWA := As.mk hga
      clear HL hga
      generalize wr.alloc (.cells #[.int .i64 q.p.tid.n, .int .i64 q.p.tid.e, .int .i64 q.p.tid.s, .slice q.A1 q.p.items.length q.c1, .slice q.A2 q.p.nodes.length q.c2] 60) = WX at *
      generalize wr.heap.size = gx at *
      refine wp_region_noPanic ?_
      refine wp_region_D (S := fun w' => Blk w' w.heap.size 32 #[.int .i64 s.node, .int .i64 s.nodes, .int .i64 s.cells, .int .i64 s.epoch, .slice Ap s.places.length cp, .slice (some ⟨gq, 0, none⟩) s.prepared.length cq, .slice A3 s.decided.length c3, .slice A4 s.commits.length c4] ∧ Blk w' gx 60 #[.int .i64 q.p.tid.n, .int .i64 q.p.tid.e, .int .i64 q.p.tid.s, .slice q.A1 q.p.items.length q.c1, .slice q.A2 q.p.nodes.length q.c2]) 17 (by kernel_rfl) (⟨HBX.out.drew, HFX.out.drew⟩) (fun hS => ?_)
      refine wpAnyD_take (i := 0) (v := ?va1) rfl rfl (by kernel_rfl) (by kernel_rfl) (by kernel_rfl) (by kernel_rfl) (fun _ _ _ h => h) (Or.inl ⟨by rfl, ?ya1⟩) hS ?ra1
      case ya1 => (intro w0 _; go_simp; try with_reducible rfl)
      try simp only [yA, yB, yC, Act.put, yD, yE, yF]
      refine wpAnyD_take (i := 1) (v := ?va2) rfl rfl (by kernel_rfl) (by kernel_rfl) (by kernel_rfl) (by kernel_rfl) (fun _ _ _ h => h) (Or.inl ⟨by rfl, ?ya2⟩) hS ?ra2
      case ya2 => (intro w0 hS0; (try simp only [] at hS0); obtain ⟨hS0_0, hS0_1⟩ := hS0; obtain ⟨q0_0, q0_1, q0_2, q0_3, q0_4, q0_5, q0_6, q0_7⟩ := hS0_0.c8; obtain ⟨q1_0, q1_1, q1_2, q1_3, q1_4⟩ := hS0_1.c5; go_simp; try with_reducible rfl)
      try simp only [yA, yB, yC, Act.put, yD, yE, yF]
      refine wpAnyD_take (i := 2) (v := ?va3) rfl rfl (by kernel_rfl) (by kernel_rfl) (by kernel_rfl) (by kernel_rfl) (fun _ _ _ h => h) (Or.inl ⟨by rfl, ?ya3⟩) hS ?ra3
      case ya3 => (intro w0 _; go_simp; try with_reducible rfl)
      try simp only [yA, yB, yC, Act.put, yD, yE, yF]
      refine wpAnyD_take (i := 3) (v := ?va4) rfl rfl (by kernel_rfl) (by kernel_rfl) (by kernel_rfl) (by kernel_rfl) (fun _ _ _ h => h) (Or.inl ⟨by rfl, ?ya4⟩) hS ?ra4
      case ya4 => (intro w0 _; go_simp; try with_reducible rfl)
      try simp only [yA, yB, yC, Act.put, yD, yE, yF]
      refine wpAnyD_take (i := 4) (v := ?va5) rfl rfl (by kernel_rfl) (by kernel_rfl) (by kernel_rfl) (by kernel_rfl) (fun _ _ _ h => h) (Or.inl ⟨by rfl, ?ya5⟩) hS ?ra5
      case ya5 => (intro w0 hS0; (try simp only [] at hS0); obtain ⟨hS0_0, hS0_1⟩ := hS0; obtain ⟨q0_0, q0_1, q0_2, q0_3, q0_4, q0_5, q0_6, q0_7⟩ := hS0_0.c8; obtain ⟨q1_0, q1_1, q1_2, q1_3, q1_4⟩ := hS0_1.c5; go_simp; try with_reducible rfl)
      try simp only [yA, yB, yC, Act.put, yD, yE, yF]
      refine wpAnyD_take (i := 5) (v := ?va6) rfl rfl (by kernel_rfl) (by kernel_rfl) (by kernel_rfl) (by kernel_rfl) (fun _ _ _ h => h) (Or.inl ⟨by rfl, ?ya6⟩) hS ?ra6
      case ya6 => (intro w0 _; go_simp; try with_reducible rfl)
      try simp only [yA, yB, yC, Act.put, yD, yE, yF]
      refine wpAnyD_take (i := 6) (v := ?va7) rfl rfl (by kernel_rfl) (by kernel_rfl) (by kernel_rfl) (by kernel_rfl) (fun _ _ _ h => h) (Or.inl ⟨by rfl, ?ya7⟩) hS ?ra7
      case ya7 => (intro w0 _; go_simp; try with_reducible rfl)
      try simp only [yA, yB, yC, Act.put, yD, yE, yF]
      refine wpAnyD_take (i := 7) (v := ?va8) rfl rfl (by kernel_rfl) (by kernel_rfl) (by kernel_rfl) (by kernel_rfl) (fun _ _ _ h => h) (Or.inl ⟨by rfl, ?ya8⟩) hS ?ra8
      case ya8 => (intro w0 hS0; (try simp only [] at hS0); obtain ⟨hS0_0, hS0_1⟩ := hS0; obtain ⟨q0_0, q0_1, q0_2, q0_3, q0_4, q0_5, q0_6, q0_7⟩ := hS0_0.c8; obtain ⟨q1_0, q1_1, q1_2, q1_3, q1_4⟩ := hS0_1.c5; go_simp; try with_reducible rfl)
      try simp only [yA, yB, yC, Act.put, yD, yE, yF]
      refine wpAnyD_take (i := 9) (v := ?va9) rfl rfl (by kernel_rfl) (by kernel_rfl) (by kernel_rfl) (by kernel_rfl) (fun _ _ _ h => h) (Or.inl ⟨by rfl, ?ya9⟩) hS ?ra9
      case ya9 => (intro w0 _; go_simp; try with_reducible rfl)
      try simp only [yA, yB, yC, Act.put, yD, yE, yF]
      refine wpAnyD_take (i := 10) (v := ?va10) rfl rfl (by kernel_rfl) (by kernel_rfl) (by kernel_rfl) (by kernel_rfl) (fun _ _ _ h => h) (Or.inl ⟨by rfl, ?ya10⟩) hS ?ra10
      case ya10 => (intro w0 hS0; (try simp only [] at hS0); obtain ⟨hS0_0, hS0_1⟩ := hS0; obtain ⟨q0_0, q0_1, q0_2, q0_3, q0_4, q0_5, q0_6, q0_7⟩ := hS0_0.c8; obtain ⟨q1_0, q1_1, q1_2, q1_3, q1_4⟩ := hS0_1.c5; go_simp; try with_reducible rfl)
      try simp only [yA, yB, yC, Act.put, yD, yE, yF]
      refine wpAnyD_ready (rs := [8]) (by kernel_rfl) (by simp) (AllReadyD.cons (i := 8) rfl (fun K hK => ?_) AllReadyD.nil)
      go_simp
      refine (clIt_c _ _ q.p.items (HQK2.out.1.below (gr_drew HGX.out) (fun _ _ h => h)) HLE.out.1).mono ?_
      rintro e0 w1 ⟨Ai, ci, rfl, ho, hg1⟩
      have HV1 := As.mk (TArr.own (f := itC) ho (fun _ => rfl))
      have HH1 := As.mk (gr_then (gr_drew (gr_refl WX none)) hg1 (.inl rfl))
      clear hg1 ho
      go_simp
      refine hK.out _ _ (fun _ => ⟨HBX.out.grown HH1.out (by simp), HFX.out.grown HH1.out (by simp)⟩) (fun hS' => ?_)
      replace hS := hS' (by decide)
      clear hS'
      clear hK K
      try simp only [yA, yB, yC, Act.put, yD, yE, yF]
      refine wpAnyD_ready (rs := [11]) (by kernel_rfl) (by simp) (AllReadyD.cons (i := 11) rfl (fun K hK => ?_) AllReadyD.nil)
      go_simp
      refine (clIn_c _ _ q.p.nodes (HQK2.out.2.below (gr_then HGX.out HH1.out (.inl rfl)) (fun _ _ h => h)) HLE.out.2).mono ?_
      rintro e0 w2 ⟨An, cn, rfl, ho, hg1⟩
      have HV := As.mk (show NestO w2 Ai ci q.p.items An cn q.p.nodes from ⟨HV1.out.step hg1 (fun _ _ h => h) (fun g e => by cases e), TArr.own (f := inC) ho (fun _ => rfl)⟩)
      have HH2 := As.mk (gr_then HH1.out hg1 (.inl rfl))
      clear hg1 ho HV1
      go_simp
      refine hK.out _ _ (fun _ => ⟨HBX.out.grown HH2.out (by simp), HFX.out.grown HH2.out (by simp)⟩) (fun hS' => ?_)
      replace hS := hS' (by decide)
      clear hS'
      clear hK K
      try simp only [yA, yB, yC, Act.put, yD, yE, yF]
      refine wpAnyD_take (i := 12) (v := ?va13) rfl rfl (by kernel_rfl) (by kernel_rfl) (by kernel_rfl) (by kernel_rfl) (fun _ _ _ h => h) (Or.inl ⟨by rfl, ?ya13⟩) hS ?ra13
      case ya13 => (intro w0 _; go_simp; try with_reducible rfl)
      try simp only [yA, yB, yC, Act.put, yD, yE, yF]
      refine wpAnyD_take (i := 13) (v := ?va14) rfl rfl (by kernel_rfl) (by kernel_rfl) (by kernel_rfl) (by kernel_rfl) (fun _ _ _ h => h) (Or.inl ⟨by rfl, ?ya14⟩) hS ?ra14
      case ya14 => (intro w0 _; go_simp; try with_reducible rfl)
      try simp only [yA, yB, yC, Act.put, yD, yE, yF]
      refine wpAnyD_ready (rs := [14]) (by kernel_rfl) (by simp) (AllReadyD.cons (i := 14) rfl (fun K hK => ?_) AllReadyD.nil)
      have hsg : w.heap.size ≠ gq := fun e => own_ne (HBX.out.grown HH2.out (by simp)) (own_gr0 HQX.out HH2.out) (by decide) (by rw [e]; rfl)
      have hxg : gx ≠ gq := fun e => HNE.out (by rw [e]; rfl)
      have p3 := own_cellAt (own_gr0 HQX.out HH2.out) (k * 5 + 3) _ (flat_at qpC 5 (fun _ => rfl) qs k q HQG.out 3 _ rfl)
      have p4 := own_cellAt (own_gr0 HQX.out HH2.out) (k * 5 + 4) _ (flat_at qpC 5 (fun _ => rfl) qs k q HQG.out 4 _ rfl)
      have f3 := own_freeAt (own_gr0 HQX.out HH2.out) (k * 5 + 3)
      have f4 := own_freeAt (own_gr0 HQX.out HH2.out) (k * 5 + 4)
      have HP34 := As.mk (And.intro p3 (And.intro p4 (And.intro f3 f4)))
      have HB5 := As.mk ((HBX.out.grown HH2.out (by simp)).far (a := ⟨gq, k * 5 + 3, none⟩) hsg (.slice Ai q.p.items.length ci))
      have HF5 := As.mk ((HFX.out.grown HH2.out (by simp)).far (a := ⟨gq, k * 5 + 3, none⟩) hxg (.slice Ai q.p.items.length ci))
      clear hsg hxg
      go_simp
      refine hK.out _ _ (fun _ => ⟨HB5.out, HF5.out⟩) (fun hS' => ?_)
      replace hS := hS' (by decide)
      clear hS'
      clear hK K
      try simp only [yA, yB, yC, Act.put, yD, yE, yF]
      clear p3 p4 f3 f4
      refine wpAnyD_ready (rs := [15]) (by kernel_rfl) (by simp) (AllReadyD.cons (i := 15) rfl (fun K hK => ?_) AllReadyD.nil)
      go_simp
      refine hK.out _ _ (fun _ => hS) (fun hS' => ?_)
      replace hS := hS' (by decide)
      clear hS'
      clear hK K
      try simp only [yA, yB, yC, Act.put, yD, yE, yF]
      refine wpAnyD_take (i := 16) (v := ?va17) rfl rfl (by kernel_rfl) (by kernel_rfl) (by kernel_rfl) (by kernel_rfl) (fun _ _ _ h => h) (Or.inl ⟨by rfl, ?ya17⟩) hS ?ra17
      case ya17 => (intro w0 _; go_simp; try with_reducible rfl)
      try simp only [yA, yB, yC, Act.put, yD, yE, yF]
      refine wpAnyD_ready (rs := [17]) (by kernel_rfl) (by simp) (AllReadyD.cons (i := 17) rfl (fun K hK => ?_) AllReadyD.nil)
      obtain ⟨p3, p4, f3, f4⟩ := HP34.out
      go_simp
      refine hK.out _ _ (fun h => absurd rfl h) (fun _ => ?_)
      clear hK K
      try simp only [yA, yB, yC, Act.put, yD, yE, yF]
      refine wpAnyD_done (by kernel_rfl) ?_ _
      refine NoPanic.normal ?_
      try simp only [Exit.then]
      clear HP34 hS
      have hgq : WX.grownBy ((w2.setCell ⟨gq, k * 5 + 3, none⟩ (.slice Ai q.p.items.length ci)).setCell ⟨gq, k * 5 + 4, none⟩ (.slice An q.p.nodes.length cn)) (some gq) := gr_set (gr_set (gr_none_some HH2.out _) (a := ⟨gq, k * 5 + 3, none⟩) (.inl rfl) _) (a := ⟨gq, k * 5 + 4, none⟩) (.inl rfl) _
      have hg2 : w2.grownBy ((w2.setCell ⟨gq, k * 5 + 3, none⟩ (.slice Ai q.p.items.length ci)).setCell ⟨gq, k * 5 + 4, none⟩ (.slice An q.p.nodes.length cn)) (some gq) := gr_set (gr_set (gr_refl _ _) (a := ⟨gq, k * 5 + 3, none⟩) (.inl rfl) _) (a := ⟨gq, k * 5 + 4, none⟩) (.inl rfl) _
      have hlo : w.heap.size ≤ gq := own_lo HQX.out gq rfl
      have HG7 := As.mk (gr_then HGX.out hgq (.inr (.inr (fun k e => by injection e with e; subst e; exact hlo))))
      have HB7 := As.mk (HBX.out.grown hgq (own_ne HBX.out HQX.out (by decide)))
      have HZ7 := As.mk (HZX.out.grown hgq (own_ne HZX.out HQX.out (by decide)))
      have HP7 := As.mk (own_grown HPX.out hgq (own_types HPX.out HQX.out (by decide)))
      have HQ7 := As.mk (row_pr' HQL.out (own_gr0 HQX.out HH2.out) k q HQG.out Ai ci An cn)
      have HWG := As.mk (gr_then (gr_none_some HWA.out (some gq)) hgq (.inl rfl))
      have HC7 := As.mk (CloQ.next (w' := (w2.setCell ⟨gq, k * 5 + 3, none⟩ (.slice Ai q.p.items.length ci)).setCell ⟨gq, k * 5 + 4, none⟩ (.slice An q.p.nodes.length cn)) HCL.out q HQG.out (row := some gq) HWG.out (fun g e cs => HWT.out g e cs) (nest_step HV.out hg2 (fun g e cs => by injection e with e; subst e; exact ⟨own_typed (own_gr0 HQX.out HH2.out) (by decide) _ rfl cs, own_typed (own_gr0 HQX.out HH2.out) (by decide) _ rfl cs⟩)))
      go_wp2_with fail
      go_roundw
      case measure => simp [intOf]; omega
      case rel => exact ⟨k + 1, by omega, by go_num, qs.set k (q.at_ Ai ci An cn), ⟨HG7.out, HB7.out, HZ7.out, HP7.out, HQ7.out, HC7.out⟩⟩
    · obtain rfl : k = s.prepared.length := by omega
      have HG := As.mk HL.out.1
      have HB := As.mk HL.out.2.1
      have HZ := As.mk HL.out.2.2.1
      have HP := As.mk HL.out.2.2.2.1
      have HQ := As.mk HL.out.2.2.2.2.1
      have HCQ := As.mk HL.out.2.2.2.2.2
      clear HL hlt hk
      have q6 := HB.out.cell 6
      simp only [List.getElem?_toArray, List.getElem?_cons_zero, List.getElem?_cons_succ] at q6
      go_wp2_with fail
      clear q6
      refine (clDe_c _ _ s.decided (HR.out.de.below HG.out (fun _ _ h => h)) HN.out.2.2.1).mono ?_
      rintro e w1 ⟨Ad, cd, rfl, ho, hg1⟩
      have HB1 := As.mk (HB.out.grown hg1 (by simp))
      have hgb : w1.grownBy (w1.setCell ⟨w.heap.size, 6, none⟩ (.slice Ad s.decided.length cd)) (some w.heap.size) := gr_set (gr_refl _ _) (a := ⟨w.heap.size, 6, none⟩) (.inl rfl) _
      have HD := As.mk (own_far (own_mono ho HG.out.size) (a := ⟨w.heap.size, 6, none⟩) (own_ne HB1.out ho (by decide)) (.slice Ad s.decided.length cd))
      replace HP := As.mk (own_far (own_gr0 HP.out hg1) (a := ⟨w.heap.size, 6, none⟩) (own_ne HB1.out (own_gr0 HP.out hg1) (by decide)) (.slice Ad s.decided.length cd))
      replace HQ := As.mk (own_far (own_gr0 HQ.out hg1) (a := ⟨w.heap.size, 6, none⟩) (own_ne HB1.out (own_gr0 HQ.out hg1) (by decide)) (.slice Ad s.decided.length cd))
      have HNQ := As.mk (fun q (hq : q ∈ qs) => (show NestO _ q.A1 q.c1 q.p.items q.A2 q.c2 q.p.nodes from by
        obtain ⟨j, hj⟩ := List.getElem?_of_mem hq
        have hjl : j < s.prepared.length := by rw [← HCQ.out.1, List.length_map]; exact (List.getElem?_eq_some_iff.1 hj).1
        exact nest_step (nest_step ((HCQ.out.2 j q hj).1 hjl) hg1 (fun g e => by cases e)) hgb (fun g e cs => by injection e with e; subst e; exact ⟨fun h => Blk.ne HB1.out h (by decide) rfl, fun h => Blk.ne HB1.out h (by decide) rfl⟩)))
      have HB2 := As.mk (show Blk _ w.heap.size 32 #[.int .i64 s.node, .int .i64 s.nodes, .int .i64 s.cells, .int .i64 s.epoch, .slice Ap s.places.length cp, .slice Aq s.prepared.length cq, .slice Ad s.decided.length cd, .slice A4 s.commits.length c4] from by have := HB1.out.set 6 (.slice Ad s.decided.length cd); simpa using this)
      replace HZ := As.mk ((HZ.out.grown hg1 (by simp)).far (a := ⟨w.heap.size, 6, none⟩) (by simp) (.slice Ad s.decided.length cd))
      replace HG := As.mk (gr_set (gr_then HG.out hg1 (.inl rfl)) (a := ⟨w.heap.size, 6, none⟩) (.inr (Nat.le_refl _)) (.slice Ad s.decided.length cd))
      have HQP := As.mk HCQ.out.1
      clear ho hg1 hgb HB HCQ
      have q6 := HB1.out.cell 6
      have q7 := HB1.out.cell 7
      have f6 := HB1.out.free 6
      simp only [List.getElem?_toArray, List.getElem?_cons_zero, List.getElem?_cons_succ] at q6 q7
      go_wp2_with fail
      clear q6 q7 f6 HB1
      generalize w1.setCell ⟨w.heap.size, 6, none⟩ (.slice Ad s.decided.length cd) = W3 at *
      refine (cloneCm_c W3 _ s.commits.length (cs0.flatMap qcC) (HC0.out.2.1.grown HG.out) HN.out.2.2.2.1).mono ?_
      rintro e w3 ⟨v', rfl, ho, hg1⟩
      obtain ⟨Ac, cc, rfl⟩ := own_shape ho
      have HB3 := As.mk (HB2.out.grown hg1 (by simp))
      have hty : some w.heap.size ≠ (Value.slice Ac s.commits.length cc).ownBlock := own_ne HB3.out ho (by decide)
      have hgb : w3.grownBy (w3.setCell ⟨w.heap.size, 7, none⟩ (.slice Ac s.commits.length cc)) (some w.heap.size) := gr_set (gr_refl _ _) (a := ⟨w.heap.size, 7, none⟩) (.inl rfl) _
      have HC := As.mk (own_far (own_mono ho HG.out.size) (a := ⟨w.heap.size, 7, none⟩) hty (.slice Ac s.commits.length cc))
      replace HP := As.mk (own_far (own_gr0 HP.out hg1) (a := ⟨w.heap.size, 7, none⟩) (own_ne HB3.out (own_gr0 HP.out hg1) (by decide)) (.slice Ac s.commits.length cc))
      replace HQ := As.mk (own_far (own_gr0 HQ.out hg1) (a := ⟨w.heap.size, 7, none⟩) (own_ne HB3.out (own_gr0 HQ.out hg1) (by decide)) (.slice Ac s.commits.length cc))
      replace HD := As.mk (own_far (own_gr0 HD.out hg1) (a := ⟨w.heap.size, 7, none⟩) (own_ne HB3.out (own_gr0 HD.out hg1) (by decide)) (.slice Ac s.commits.length cc))
      replace HNQ := As.mk (fun q (hq : q ∈ qs) => nest_step (nest_step (HNQ.out q hq) hg1 (fun g e => by cases e)) hgb (fun g e cs => by injection e with e; subst e; exact ⟨fun h => Blk.ne HB3.out h (by decide) rfl, fun h => Blk.ne HB3.out h (by decide) rfl⟩))
      have HB4 := As.mk (show Blk _ w.heap.size 32 #[.int .i64 s.node, .int .i64 s.nodes, .int .i64 s.cells, .int .i64 s.epoch, .slice Ap s.places.length cp, .slice Aq s.prepared.length cq, .slice Ad s.decided.length cd, .slice Ac s.commits.length cc] from by have := HB3.out.set 7 (.slice Ac s.commits.length cc); simpa using this)
      replace HZ := As.mk ((HZ.out.grown hg1 (by simp)).far (a := ⟨w.heap.size, 7, none⟩) (by simp) (.slice Ac s.commits.length cc))
      replace HG := As.mk (gr_set (gr_then HG.out hg1 (.inl rfl)) (a := ⟨w.heap.size, 7, none⟩) (.inr (Nat.le_refl _)) (.slice Ac s.commits.length cc))
      clear ho hg1 hty hgb HB2
      have q7 := HB3.out.cell 7
      have f7 := HB3.out.free 7
      simp only [List.getElem?_toArray, List.getElem?_cons_zero, List.getElem?_cons_succ] at q7
      go_wp2_with fail
      clear q7 f7 HB3
      generalize w3.setCell ⟨w.heap.size, 7, none⟩ (.slice Ac s.commits.length cc) = W4 at *
      go_loopw [51] (fun i wr => ∃ k : Nat, k ≤ s.commits.length ∧ i = .int .i64 k ∧ ∃ ks, As (w.grownBy wr none ∧ Blk wr w.heap.size 32 #[.int .i64 s.node, .int .i64 s.nodes, .int .i64 s.cells, .int .i64 s.epoch, .slice Ap s.places.length cp, .slice Aq s.prepared.length cq, .slice Ad s.decided.length cd, .slice Ac s.commits.length cc] ∧ Blk wr (w.heap.size + 1) 32 #[.int .i64 0, .int .i64 0, .int .i64 0, .int .i64 0, .slice none 0 0, .slice none 0 0, .slice none 0 0, .slice none 0 0] ∧ wr.ownsRow w.heap.size 62 5 (.slice Ap s.places.length cp) s.places.length (s.places.flatMap plCells) ∧ wr.ownsRow w.heap.size 60 5 (.slice Aq s.prepared.length cq) s.prepared.length (qs.flatMap qpC) ∧ wr.ownsRow w.heap.size 55 4 (.slice Ad s.decided.length cd) s.decided.length (s.decided.flatMap deC) ∧ (∀ q ∈ qs, NestO wr q.A1 q.c1 q.p.items q.A2 q.c2 q.p.nodes) ∧ wr.ownsRow w.heap.size 58 6 (.slice Ac s.commits.length cc) s.commits.length (ks.flatMap qcC) ∧ CloC wr s.commits cs0 k ks)) (fun i _ => s.commits.length - (intOf i).toNat)
      case atStart => exact ⟨0, Nat.zero_le _, rfl, cs0, ⟨HG.out, HB4.out, HZ.out, HP.out, HQ.out, HD.out, HNQ.out, HC.out, HC0.out.1, fun j q hq => ⟨fun h => absurd h (Nat.not_lt_zero _), fun _ => hq⟩⟩⟩
      case round =>
        obtain ⟨k, hk, rfl, ks, HL⟩ := hrel
        clear HG HB4 HZ HP HQ HD HNQ HC
        by_cases hlt : k < s.commits.length
        · have hltI : (k : Int) < (s.commits.length : Int) := by omega
          have hk0 : (0 : Int) ≤ (k : Int) := by omega
          have HLC := As.mk HL.out.2.2.2.2.2.2.2.1
          have HCL := As.mk HL.out.2.2.2.2.2.2.2.2
          have hql : ks.length = s.commits.length := by rw [← HCL.out.1, List.length_map]
          obtain ⟨gq, cap, e⟩ := own_some HLC.out (by omega)
          injection e with e1 e2 e3
          subst e1 e3
          have hkq : k < ks.length := by omega
          have hqk := List.getElem?_eq_getElem hkq
          have HQK := As.mk ((HCL.out.2 k _ hqk).2 (Nat.le_refl _))
          have c0 : wr.cell? ⟨gq, k * 6, none⟩ = _ := own_cellAt HLC.out (k * 6 + 0) _ (flat_at qcC 6 (fun _ => rfl) ks k _ hqk 0 _ rfl)
          have c1_ := own_cellAt HLC.out (k * 6 + 1) _ (flat_at qcC 6 (fun _ => rfl) ks k _ hqk 1 _ rfl)
          have c2_ := own_cellAt HLC.out (k * 6 + 2) _ (flat_at qcC 6 (fun _ => rfl) ks k _ hqk 2 _ rfl)
          have c3_ := own_cellAt HLC.out (k * 6 + 3) _ (flat_at qcC 6 (fun _ => rfl) ks k _ hqk 3 _ rfl)
          have c4_ := own_cellAt HLC.out (k * 6 + 4) _ (flat_at qcC 6 (fun _ => rfl) ks k _ hqk 4 _ rfl)
          have c5_ := own_cellAt HLC.out (k * 6 + 5) _ (flat_at qcC 6 (fun _ => rfl) ks k _ hqk 5 _ rfl)
          have HKQ := As.mk hkq
          have HQL := As.mk hql
          clear hql hqk
          have HQG := As.mk (List.getElem?_eq_getElem hkq)
          generalize hq : ks[k]'hkq = q at *
          have HQE := As.mk hq
          clear hq
          have hle : s.commits.length ≤ cc ∧ cc ≤ 9223372036854775807 := by
            obtain ⟨_, _, _, _, h1, h2⟩ := own_whole HLC.out
            exact ⟨h1, by simp only [maxLen] at h2; omega⟩
          go_wp2_with fail
          clear c0 c1_ c2_ c3_ c4_ c5_
          have HQK2 := As.mk (HC0.out.2.2 q (List.mem_of_getElem? HQK.out))
          have hga := gr_alloc (gr_refl wr none) (.cells #[.int .i64 q.p.tid.n, .int .i64 q.p.tid.e, .int .i64 q.p.tid.s, .slice q.A1 q.p.items.length q.c1, .slice q.A2 q.p.nodes.length q.c2, .bool q.p.over] 58)
          have HGX := As.mk (gr_then HL.out.1 hga (.inl rfl))
          have HBX := As.mk (HL.out.2.1.grown hga (by simp))
          have HZX := As.mk (HL.out.2.2.1.grown hga (by simp))
          have HPX := As.mk (own_gr0 HL.out.2.2.2.1 hga)
          have HQX := As.mk (own_gr0 HL.out.2.2.2.2.1 hga)
          have HDX := As.mk (own_gr0 HL.out.2.2.2.2.2.1 hga)
          have HNX := As.mk (fun q (hq : q ∈ qs) => nest_step (HL.out.2.2.2.2.2.2.1 q hq) hga (fun g e => by cases e))
          have HCX := As.mk (own_gr0 HLC.out hga)
          have HFX := As.mk (Blk.new wr 58 #[.int .i64 q.p.tid.n, .int .i64 q.p.tid.e, .int .i64 q.p.tid.s, .slice q.A1 q.p.items.length q.c1, .slice q.A2 q.p.nodes.length q.c2, .bool q.p.over])
          have HLE := As.mk (show q.p.items.length ≤ 1000000 ∧ q.p.nodes.length ≤ 1000000 from HN.out.2.2.2.2.2 q.p (by rw [← HCL.out.1]; exact List.mem_map.2 ⟨q, List.mem_of_getElem? HQG.out, rfl⟩))
          have HNE := As.mk (own_new_ne HLC.out)
          have HWT := As.mk (show ∀ g, some gq = some g → ∀ cs, ¬ Blk wr g 66 cs ∧ ¬ Blk wr g 3 cs from fun g e cs => ⟨own_typed HLC.out (by decide) g e cs, own_typed HLC.out (by decide) g e cs⟩)
          have HWA := As.mk hga
          clear HL HLC hga
          generalize wr.alloc (.cells #[.int .i64 q.p.tid.n, .int .i64 q.p.tid.e, .int .i64 q.p.tid.s, .slice q.A1 q.p.items.length q.c1, .slice q.A2 q.p.nodes.length q.c2, .bool q.p.over] 58) = WX at *
          generalize wr.heap.size = gx at *
          refine wp_region_noPanic ?_
          refine wp_region_D (S := fun w' => Blk w' w.heap.size 32 #[.int .i64 s.node, .int .i64 s.nodes, .int .i64 s.cells, .int .i64 s.epoch, .slice Ap s.places.length cp, .slice Aq s.prepared.length cq, .slice Ad s.decided.length cd, .slice (some ⟨gq, 0, none⟩) s.commits.length cc] ∧ Blk w' gx 58 #[.int .i64 q.p.tid.n, .int .i64 q.p.tid.e, .int .i64 q.p.tid.s, .slice q.A1 q.p.items.length q.c1, .slice q.A2 q.p.nodes.length q.c2, .bool q.p.over]) 17 (by kernel_rfl) (⟨HBX.out.drew, HFX.out.drew⟩) (fun hS => ?_)
          refine wpAnyD_take (i := 0) (v := ?vb1) rfl rfl (by kernel_rfl) (by kernel_rfl) (by kernel_rfl) (by kernel_rfl) (fun _ _ _ h => h) (Or.inl ⟨by rfl, ?yb1⟩) hS ?rb1
          case yb1 => (intro w0 _; go_simp; try with_reducible rfl)
          try simp only [yA, yB, yC, Act.put, yD, yE, yF]
          refine wpAnyD_take (i := 1) (v := ?vb2) rfl rfl (by kernel_rfl) (by kernel_rfl) (by kernel_rfl) (by kernel_rfl) (fun _ _ _ h => h) (Or.inl ⟨by rfl, ?yb2⟩) hS ?rb2
          case yb2 => (intro w0 hS0; (try simp only [] at hS0); obtain ⟨hS0_0, hS0_1⟩ := hS0; obtain ⟨q0_0, q0_1, q0_2, q0_3, q0_4, q0_5, q0_6, q0_7⟩ := hS0_0.c8; obtain ⟨q1_0, q1_1, q1_2, q1_3, q1_4, q1_5⟩ := hS0_1.c6; go_simp; try with_reducible rfl)
          try simp only [yA, yB, yC, Act.put, yD, yE, yF]
          refine wpAnyD_take (i := 2) (v := ?vb3) rfl rfl (by kernel_rfl) (by kernel_rfl) (by kernel_rfl) (by kernel_rfl) (fun _ _ _ h => h) (Or.inl ⟨by rfl, ?yb3⟩) hS ?rb3
          case yb3 => (intro w0 _; go_simp; try with_reducible rfl)
          try simp only [yA, yB, yC, Act.put, yD, yE, yF]
          refine wpAnyD_take (i := 3) (v := ?vb4) rfl rfl (by kernel_rfl) (by kernel_rfl) (by kernel_rfl) (by kernel_rfl) (fun _ _ _ h => h) (Or.inl ⟨by rfl, ?yb4⟩) hS ?rb4
          case yb4 => (intro w0 _; go_simp; try with_reducible rfl)
          try simp only [yA, yB, yC, Act.put, yD, yE, yF]
          refine wpAnyD_take (i := 4) (v := ?vb5) rfl rfl (by kernel_rfl) (by kernel_rfl) (by kernel_rfl) (by kernel_rfl) (fun _ _ _ h => h) (Or.inl ⟨by rfl, ?yb5⟩) hS ?rb5
          case yb5 => (intro w0 hS0; (try simp only [] at hS0); obtain ⟨hS0_0, hS0_1⟩ := hS0; obtain ⟨q0_0, q0_1, q0_2, q0_3, q0_4, q0_5, q0_6, q0_7⟩ := hS0_0.c8; obtain ⟨q1_0, q1_1, q1_2, q1_3, q1_4, q1_5⟩ := hS0_1.c6; go_simp; try with_reducible rfl)
          try simp only [yA, yB, yC, Act.put, yD, yE, yF]
          refine wpAnyD_take (i := 5) (v := ?vb6) rfl rfl (by kernel_rfl) (by kernel_rfl) (by kernel_rfl) (by kernel_rfl) (fun _ _ _ h => h) (Or.inl ⟨by rfl, ?yb6⟩) hS ?rb6
          case yb6 => (intro w0 _; go_simp; try with_reducible rfl)
          try simp only [yA, yB, yC, Act.put, yD, yE, yF]
          refine wpAnyD_take (i := 6) (v := ?vb7) rfl rfl (by kernel_rfl) (by kernel_rfl) (by kernel_rfl) (by kernel_rfl) (fun _ _ _ h => h) (Or.inl ⟨by rfl, ?yb7⟩) hS ?rb7
          case yb7 => (intro w0 _; go_simp; try with_reducible rfl)
          try simp only [yA, yB, yC, Act.put, yD, yE, yF]
          refine wpAnyD_take (i := 7) (v := ?vb8) rfl rfl (by kernel_rfl) (by kernel_rfl) (by kernel_rfl) (by kernel_rfl) (fun _ _ _ h => h) (Or.inl ⟨by rfl, ?yb8⟩) hS ?rb8
          case yb8 => (intro w0 hS0; (try simp only [] at hS0); obtain ⟨hS0_0, hS0_1⟩ := hS0; obtain ⟨q0_0, q0_1, q0_2, q0_3, q0_4, q0_5, q0_6, q0_7⟩ := hS0_0.c8; obtain ⟨q1_0, q1_1, q1_2, q1_3, q1_4, q1_5⟩ := hS0_1.c6; go_simp; try with_reducible rfl)
          try simp only [yA, yB, yC, Act.put, yD, yE, yF]
          refine wpAnyD_take (i := 9) (v := ?vb9) rfl rfl (by kernel_rfl) (by kernel_rfl) (by kernel_rfl) (by kernel_rfl) (fun _ _ _ h => h) (Or.inl ⟨by rfl, ?yb9⟩) hS ?rb9
          case yb9 => (intro w0 _; go_simp; try with_reducible rfl)
          try simp only [yA, yB, yC, Act.put, yD, yE, yF]
          refine wpAnyD_take (i := 10) (v := ?vb10) rfl rfl (by kernel_rfl) (by kernel_rfl) (by kernel_rfl) (by kernel_rfl) (fun _ _ _ h => h) (Or.inl ⟨by rfl, ?yb10⟩) hS ?rb10
          case yb10 => (intro w0 hS0; (try simp only [] at hS0); obtain ⟨hS0_0, hS0_1⟩ := hS0; obtain ⟨q0_0, q0_1, q0_2, q0_3, q0_4, q0_5, q0_6, q0_7⟩ := hS0_0.c8; obtain ⟨q1_0, q1_1, q1_2, q1_3, q1_4, q1_5⟩ := hS0_1.c6; go_simp; try with_reducible rfl)
          try simp only [yA, yB, yC, Act.put, yD, yE, yF]
          refine wpAnyD_ready (rs := [8]) (by kernel_rfl) (by simp) (AllReadyD.cons (i := 8) rfl (fun K hK => ?_) AllReadyD.nil)
          go_simp
          refine (clIt_c _ _ q.p.items (HQK2.out.1.below (gr_drew HGX.out) (fun _ _ h => h)) HLE.out.1).mono ?_
          rintro e0 w1 ⟨Ai, ci, rfl, ho, hg1⟩
          have HV1 := As.mk (TArr.own (f := itC) ho (fun _ => rfl))
          have HH1 := As.mk (gr_then (gr_drew (gr_refl WX none)) hg1 (.inl rfl))
          clear hg1 ho
          go_simp
          refine hK.out _ _ (fun _ => ⟨HBX.out.grown HH1.out (by simp), HFX.out.grown HH1.out (by simp)⟩) (fun hS' => ?_)
          replace hS := hS' (by decide)
          clear hS'
          clear hK K
          try simp only [yA, yB, yC, Act.put, yD, yE, yF]
          refine wpAnyD_ready (rs := [11]) (by kernel_rfl) (by simp) (AllReadyD.cons (i := 11) rfl (fun K hK => ?_) AllReadyD.nil)
          go_simp
          refine (clIn_c _ _ q.p.nodes (HQK2.out.2.below (gr_then HGX.out HH1.out (.inl rfl)) (fun _ _ h => h)) HLE.out.2).mono ?_
          rintro e0 w2 ⟨An, cn, rfl, ho, hg1⟩
          have HV := As.mk (show NestO w2 Ai ci q.p.items An cn q.p.nodes from ⟨HV1.out.step hg1 (fun _ _ h => h) (fun g e => by cases e), TArr.own (f := inC) ho (fun _ => rfl)⟩)
          have HH2 := As.mk (gr_then HH1.out hg1 (.inl rfl))
          clear hg1 ho HV1
          go_simp
          refine hK.out _ _ (fun _ => ⟨HBX.out.grown HH2.out (by simp), HFX.out.grown HH2.out (by simp)⟩) (fun hS' => ?_)
          replace hS := hS' (by decide)
          clear hS'
          clear hK K
          try simp only [yA, yB, yC, Act.put, yD, yE, yF]
          refine wpAnyD_take (i := 12) (v := ?vb13) rfl rfl (by kernel_rfl) (by kernel_rfl) (by kernel_rfl) (by kernel_rfl) (fun _ _ _ h => h) (Or.inl ⟨by rfl, ?yb13⟩) hS ?rb13
          case yb13 => (intro w0 _; go_simp; try with_reducible rfl)
          try simp only [yA, yB, yC, Act.put, yD, yE, yF]
          refine wpAnyD_take (i := 13) (v := ?vb14) rfl rfl (by kernel_rfl) (by kernel_rfl) (by kernel_rfl) (by kernel_rfl) (fun _ _ _ h => h) (Or.inl ⟨by rfl, ?yb14⟩) hS ?rb14
          case yb14 => (intro w0 _; go_simp; try with_reducible rfl)
          try simp only [yA, yB, yC, Act.put, yD, yE, yF]
          refine wpAnyD_ready (rs := [14]) (by kernel_rfl) (by simp) (AllReadyD.cons (i := 14) rfl (fun K hK => ?_) AllReadyD.nil)
          have hsg : w.heap.size ≠ gq := fun e => own_ne (HBX.out.grown HH2.out (by simp)) (own_gr0 HCX.out HH2.out) (by decide) (by rw [e]; rfl)
          have hxg : gx ≠ gq := fun e => HNE.out (by rw [e]; rfl)
          have p3 := own_cellAt (own_gr0 HCX.out HH2.out) (k * 6 + 3) _ (flat_at qcC 6 (fun _ => rfl) ks k q HQG.out 3 _ rfl)
          have p4 := own_cellAt (own_gr0 HCX.out HH2.out) (k * 6 + 4) _ (flat_at qcC 6 (fun _ => rfl) ks k q HQG.out 4 _ rfl)
          have f3 := own_freeAt (own_gr0 HCX.out HH2.out) (k * 6 + 3)
          have f4 := own_freeAt (own_gr0 HCX.out HH2.out) (k * 6 + 4)
          have HP34 := As.mk (And.intro p3 (And.intro p4 (And.intro f3 f4)))
          have HB5 := As.mk ((HBX.out.grown HH2.out (by simp)).far (a := ⟨gq, k * 6 + 3, none⟩) hsg (.slice Ai q.p.items.length ci))
          have HF5 := As.mk ((HFX.out.grown HH2.out (by simp)).far (a := ⟨gq, k * 6 + 3, none⟩) hxg (.slice Ai q.p.items.length ci))
          clear hsg hxg
          go_simp
          refine hK.out _ _ (fun _ => ⟨HB5.out, HF5.out⟩) (fun hS' => ?_)
          replace hS := hS' (by decide)
          clear hS'
          clear hK K
          try simp only [yA, yB, yC, Act.put, yD, yE, yF]
          clear p3 p4 f3 f4
          refine wpAnyD_ready (rs := [15]) (by kernel_rfl) (by simp) (AllReadyD.cons (i := 15) rfl (fun K hK => ?_) AllReadyD.nil)
          go_simp
          refine hK.out _ _ (fun _ => hS) (fun hS' => ?_)
          replace hS := hS' (by decide)
          clear hS'
          clear hK K
          try simp only [yA, yB, yC, Act.put, yD, yE, yF]
          refine wpAnyD_take (i := 16) (v := ?vb17) rfl rfl (by kernel_rfl) (by kernel_rfl) (by kernel_rfl) (by kernel_rfl) (fun _ _ _ h => h) (Or.inl ⟨by rfl, ?yb17⟩) hS ?rb17
          case yb17 => (intro w0 _; go_simp; try with_reducible rfl)
          try simp only [yA, yB, yC, Act.put, yD, yE, yF]
          refine wpAnyD_ready (rs := [17]) (by kernel_rfl) (by simp) (AllReadyD.cons (i := 17) rfl (fun K hK => ?_) AllReadyD.nil)
          obtain ⟨p3, p4, f3, f4⟩ := HP34.out
          go_simp
          refine hK.out _ _ (fun h => absurd rfl h) (fun _ => ?_)
          clear hK K
          try simp only [yA, yB, yC, Act.put, yD, yE, yF]
          refine wpAnyD_done (by kernel_rfl) ?_ _
          refine NoPanic.normal ?_
          try simp only [Exit.then]
          clear HP34 hS
          have hgq : WX.grownBy ((w2.setCell ⟨gq, k * 6 + 3, none⟩ (.slice Ai q.p.items.length ci)).setCell ⟨gq, k * 6 + 4, none⟩ (.slice An q.p.nodes.length cn)) (some gq) := gr_set (gr_set (gr_none_some HH2.out _) (a := ⟨gq, k * 6 + 3, none⟩) (.inl rfl) _) (a := ⟨gq, k * 6 + 4, none⟩) (.inl rfl) _
          have hg2 : w2.grownBy ((w2.setCell ⟨gq, k * 6 + 3, none⟩ (.slice Ai q.p.items.length ci)).setCell ⟨gq, k * 6 + 4, none⟩ (.slice An q.p.nodes.length cn)) (some gq) := gr_set (gr_set (gr_refl _ _) (a := ⟨gq, k * 6 + 3, none⟩) (.inl rfl) _) (a := ⟨gq, k * 6 + 4, none⟩) (.inl rfl) _
          have hlo : w.heap.size ≤ gq := own_lo HCX.out gq rfl
          have HG7 := As.mk (gr_then HGX.out hgq (.inr (.inr (fun k e => by injection e with e; subst e; exact hlo))))
          have HB7 := As.mk (HBX.out.grown hgq (own_ne HBX.out HCX.out (by decide)))
          have HZ7 := As.mk (HZX.out.grown hgq (own_ne HZX.out HCX.out (by decide)))
          have HP7 := As.mk (own_grown HPX.out hgq (own_types HPX.out HCX.out (by decide)))
          have HQ7 := As.mk (own_grown HQX.out hgq (own_types HQX.out HCX.out (by decide)))
          have HD7 := As.mk (own_grown HDX.out hgq (own_types HDX.out HCX.out (by decide)))
          have HN7 := As.mk (fun x (hx : x ∈ qs) => nest_step (HNX.out x hx) hgq (fun g e cs => by injection e with e; subst e; exact ⟨own_typed HCX.out (by decide) _ rfl cs, own_typed HCX.out (by decide) _ rfl cs⟩))
          have HC7 := As.mk (row_cm' HQL.out (own_gr0 HCX.out HH2.out) k q HQG.out Ai ci An cn)
          have HWG := As.mk (gr_then (gr_none_some HWA.out (some gq)) hgq (.inl rfl))
          have HCC7 := As.mk (CloC.next (w' := (w2.setCell ⟨gq, k * 6 + 3, none⟩ (.slice Ai q.p.items.length ci)).setCell ⟨gq, k * 6 + 4, none⟩ (.slice An q.p.nodes.length cn)) HCL.out q HQG.out (row := some gq) HWG.out (fun g e cs => HWT.out g e cs) (nest_step HV.out hg2 (fun g e cs => by injection e with e; subst e; exact ⟨own_typed (own_gr0 HCX.out HH2.out) (by decide) _ rfl cs, own_typed (own_gr0 HCX.out HH2.out) (by decide) _ rfl cs⟩)))
          go_wp2_with fail
          go_roundw
          case measure => simp [intOf]; omega
          case rel => exact ⟨k + 1, by omega, by go_num, ks.set k (q.at_ Ai ci An cn), ⟨HG7.out, HB7.out, HZ7.out, HP7.out, HQ7.out, HD7.out, HN7.out, HC7.out, HCC7.out⟩⟩
        · obtain rfl : k = s.commits.length := by omega
          clear hlt hk
          obtain ⟨HG, HB, HZ, HP, HQ, HD, HNQ, HC, HCC⟩ := HL.out
          clear HL
          have HB' := As.mk HB
          have HZ' := As.mk HZ
          clear HB HZ
          obtain ⟨d0, d1, d2, d3, d4, d5, d6, d7⟩ := (HB'.out).c8
          obtain ⟨z0, z1, z2, z3, z4, z5, z6, z7⟩ := (HZ'.out).c8
          have fz0 := HZ'.out.free 0
          have fz1 := HZ'.out.free 1
          have fz2 := HZ'.out.free 2
          have fz3 := HZ'.out.free 3
          have fz4 := HZ'.out.free 4
          have fz5 := HZ'.out.free 5
          have fz6 := HZ'.out.free 6
          have fz7 := HZ'.out.free 7
          have hqp : qs.length = s.prepared.length := by rw [← HQP.out, List.length_map]
          have hkc : ks.length = s.commits.length := by rw [← HCC.1, List.length_map]
          have HRW := As.mk (show Rows wr w.heap.size s (.slice Ap s.places.length cp) (.slice Aq s.prepared.length cq) (.slice Ad s.decided.length cd) (.slice Ac s.commits.length cc) qs ks from ⟨HP, by rw [hqp]; exact HQ, HD, by rw [hkc]; exact HC, HQP.out, HCC.1, HNQ, fun q hq => by
            obtain ⟨j, hj⟩ := List.getElem?_of_mem hq
            exact (HCC.2 j q hj).1 (by rw [← hkc]; exact (List.getElem?_eq_some_iff.1 hj).1)⟩)
          have HRW5 := As.mk (HRW.out.put8 HZ'.out (.int .i64 s.node) (.int .i64 s.nodes) (.int .i64 s.cells) (.int .i64 s.epoch) (.slice Ap s.places.length cp) (.slice Aq s.prepared.length cq) (.slice Ad s.decided.length cd) (.slice Ac s.commits.length cc))
          have HZ5 := As.mk (HZ'.out.put8 (.int .i64 s.node) (.int .i64 s.nodes) (.int .i64 s.cells) (.int .i64 s.epoch) (.slice Ap s.places.length cp) (.slice Aq s.prepared.length cq) (.slice Ad s.decided.length cd) (.slice Ac s.commits.length cc))
          have HG5 := As.mk (gr_put8 HG (sb := w.heap.size + 1) (.inr (Nat.le_succ _)) (.int .i64 s.node) (.int .i64 s.nodes) (.int .i64 s.cells) (.int .i64 s.epoch) (.slice Ap s.places.length cp) (.slice Aq s.prepared.length cq) (.slice Ad s.decided.length cd) (.slice Ac s.commits.length cc))
          unfold Go.Proofs.Ytdmkijdbldcdiaa.put8 at HRW5 HZ5 HG5
          clear HRW HG HP HQ HD HNQ HC HCC hqp hkc
          go_wp2_with fail
          refine bodyPost_ret (results_cell_row (P := Try.prog) rfl _ _ (w.heap.size + 1) 32 _ (0, 0) _ rfl HZ5.out Try.underlying32 rfl (by kernel_rfl)) rfl ?_
          exact ⟨_, _, _, _, _, _, rfl, HG5.out, HRW5.out⟩
end Go.Proofs.Ytdmkijdbldcdiaa
