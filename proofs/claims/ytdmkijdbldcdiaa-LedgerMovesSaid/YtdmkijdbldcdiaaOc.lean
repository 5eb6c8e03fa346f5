/- The walk of a state as the document has it. (Printed by wip/gen/gen_oc.py.) -/
import Derived.Test.YtdmkijdbldcdiaaMe
import Derived.Test.YtdmkijdbldcdiaaMa
namespace Go.Proofs.Ytdmkijdbldcdiaa
open Go.RowKit
set_option linter.unusedVariables false
set_option linter.unusedSimpArgs false
set_option maxRecDepth 100000

/-- A state's rows, whatever their types: what lies in them, and where. -/
structure StQ (w : World) (s : PSt) (vP vQ vD vC : Value) (qs : List QPr) (cs : List QCm) : Prop where
  pl : Arr (fun _ x c => c = plCells x) 5 w vP s.places
  pr : Arr (fun _ x c => c = qpC x) 5 w vQ qs
  de : Arr (fun _ x c => c = deC x) 4 w vD s.decided
  cm : Arr (fun _ x c => c = qcC x) 6 w vC cs
  qp : qs.map QPr.p = s.prepared
  cp : cs.map QCm.p = s.commits
  qi : ∀ q ∈ qs, NestR w q.A1 q.c1 q.p.items q.A2 q.c2 q.p.nodes
  ci : ∀ q ∈ cs, NestR w q.A1 q.c1 q.p.items q.A2 q.c2 q.p.nodes
theorem StQ.grown {w w' : World} {s : PSt} {vP vQ vD vC : Value} {qs : List QPr} {cs : List QCm} (h : StQ w s vP vQ vD vC qs cs) (hg : w.grownBy w' none) : StQ w' s vP vQ vD vC qs cs :=
  ⟨h.pl.below hg (fun _ _ h => h), h.pr.below hg (fun _ _ h => h), h.de.below hg (fun _ _ h => h), h.cm.below hg (fun _ _ h => h), h.qp, h.cp, fun q hq => (h.qi q hq).grown hg, fun q hq => (h.ci q hq).grown hg⟩
theorem Arr.q_read {w : World} {v : Value} {qs : List QPr} {ps : List PPr} (h : Arr (fun _ x c => c = qpC x) 5 w v qs) (hp : qs.map QPr.p = ps) (hi : ∀ q ∈ qs, NestR w q.A1 q.c1 q.p.items q.A2 q.c2 q.p.nodes) : Arr PrE 5 w v ps := by
  obtain ⟨A, c, e, hm, hh⟩ := h
  have hl : qs.length = ps.length := by rw [← hp, List.length_map]
  refine ⟨A, c, by rw [e, hl], by rw [← hl]; exact hm, fun h0 => ?_⟩
  obtain ⟨ad, h1, h2, h3⟩ := hh (by omega)
  refine ⟨ad, h1, h2, fun j x hx => ?_⟩
  rw [← hp, List.getElem?_map, Option.map_eq_some_iff] at hx
  obtain ⟨q, hq, rfl⟩ := hx
  obtain ⟨cs', g1, g2, g3⟩ := h3 j q hq
  have hm := hi q (List.mem_of_getElem? hq)
  exact ⟨cs', ⟨q.A1, q.c1, q.A2, q.c2, g1, hm.1, hm.2⟩, g2, g3⟩
theorem Arr.c_read {w : World} {v : Value} {qs : List QCm} {ps : List PCm} (h : Arr (fun _ x c => c = qcC x) 6 w v qs) (hp : qs.map QCm.p = ps) (hi : ∀ q ∈ qs, NestR w q.A1 q.c1 q.p.items q.A2 q.c2 q.p.nodes) : Arr CmE 6 w v ps := by
  obtain ⟨A, c, e, hm, hh⟩ := h
  have hl : qs.length = ps.length := by rw [← hp, List.length_map]
  refine ⟨A, c, by rw [e, hl], by rw [← hl]; exact hm, fun h0 => ?_⟩
  obtain ⟨ad, h1, h2, h3⟩ := hh (by omega)
  refine ⟨ad, h1, h2, fun j x hx => ?_⟩
  rw [← hp, List.getElem?_map, Option.map_eq_some_iff] at hx
  obtain ⟨q, hq, rfl⟩ := hx
  obtain ⟨cs', g1, g2, g3⟩ := h3 j q hq
  have hm := hi q (List.mem_of_getElem? hq)
  exact ⟨cs', ⟨q.A1, q.c1, q.A2, q.c2, g1, hm.1, hm.2⟩, g2, g3⟩
theorem StQ.read {w : World} {s : PSt} {vP vQ vD vC : Value} {qs : List QPr} {cs : List QCm} (h : StQ w s vP vQ vD vC qs cs) : StR w s vP vQ vD vC := ⟨h.pl, h.pr.q_read h.qp h.qi, h.de, h.cm.c_read h.cp h.ci⟩
theorem Arr.toQ {w : World} {v : Value} {ps : List PPr} (h : Arr PrE 5 w v ps) : ∃ qs : List QPr, qs.map QPr.p = ps ∧ Arr (fun _ x c => c = qpC x) 5 w v qs ∧ ∀ q ∈ qs, NestR w q.A1 q.c1 q.p.items q.A2 q.c2 q.p.nodes := by
  obtain ⟨A, c, e, hm, hh⟩ := h
  by_cases h0 : 0 < ps.length
  · obtain ⟨ad, h1, h2, h3⟩ := hh h0
    have hch : ∀ j, j < ps.length → ∃ q : QPr, ps[j]? = some q.p ∧ (∀ i u, (qpC q)[i]? = some u → w.cell? ⟨ad.block, ad.off + j * 5 + i, none⟩ = some u) ∧ NestR w q.A1 q.c1 q.p.items q.A2 q.c2 q.p.nodes := fun j hj => by
      obtain ⟨cs, e2, _, e5⟩ := h3 j _ (List.getElem?_eq_getElem hj)
      obtain ⟨A1, c1, A2, c2, rfl, e3, e4⟩ := e2
      exact ⟨⟨ps[j], A1, c1, A2, c2⟩, List.getElem?_eq_getElem hj, e5, e3, e4⟩
    obtain ⟨X, hX⟩ := Go.Deep.choose_lt hch
    have hlen : ((List.range ps.length).map X).length = ps.length := by simp
    have hat : ∀ j, j < ps.length → ((List.range ps.length).map X)[j]? = some (X j) := fun j hj => by simp [hj]
    refine ⟨(List.range ps.length).map X, ?_, ⟨A, c, by rw [hlen]; exact e, by rw [hlen]; exact hm, fun _ => ⟨ad, h1, h2, fun j x hx => ?_⟩⟩, fun q hq => ?_⟩
    · apply List.ext_getElem?
      intro j
      by_cases hj : j < ps.length
      · rw [(hX j hj).1]; simp [hj]
      · rw [List.getElem?_eq_none (by simp; omega), List.getElem?_eq_none (by omega)]
    · have hj : j < ps.length := by rw [← hlen]; exact (List.getElem?_eq_some_iff.1 hx).1
      rw [hat j hj] at hx
      cases hx
      exact ⟨_, rfl, rfl, (hX j hj).2.1⟩
    · obtain ⟨j, hj, rfl⟩ := List.mem_map.1 hq
      exact (hX j (List.mem_range.1 hj)).2.2
  · obtain rfl : ps = [] := List.eq_nil_of_length_eq_zero (by omega)
    exact ⟨[], rfl, ⟨A, c, e, hm, fun h => by simp at h⟩, fun q hq => by cases hq⟩
theorem Arr.toC {w : World} {v : Value} {ps : List PCm} (h : Arr CmE 6 w v ps) : ∃ qs : List QCm, qs.map QCm.p = ps ∧ Arr (fun _ x c => c = qcC x) 6 w v qs ∧ ∀ q ∈ qs, NestR w q.A1 q.c1 q.p.items q.A2 q.c2 q.p.nodes := by
  obtain ⟨A, c, e, hm, hh⟩ := h
  by_cases h0 : 0 < ps.length
  · obtain ⟨ad, h1, h2, h3⟩ := hh h0
    have hch : ∀ j, j < ps.length → ∃ q : QCm, ps[j]? = some q.p ∧ (∀ i u, (qcC q)[i]? = some u → w.cell? ⟨ad.block, ad.off + j * 6 + i, none⟩ = some u) ∧ NestR w q.A1 q.c1 q.p.items q.A2 q.c2 q.p.nodes := fun j hj => by
      obtain ⟨cs, e2, _, e5⟩ := h3 j _ (List.getElem?_eq_getElem hj)
      obtain ⟨A1, c1, A2, c2, rfl, e3, e4⟩ := e2
      exact ⟨⟨ps[j], A1, c1, A2, c2⟩, List.getElem?_eq_getElem hj, e5, e3, e4⟩
    obtain ⟨X, hX⟩ := Go.Deep.choose_lt hch
    have hlen : ((List.range ps.length).map X).length = ps.length := by simp
    have hat : ∀ j, j < ps.length → ((List.range ps.length).map X)[j]? = some (X j) := fun j hj => by simp [hj]
    refine ⟨(List.range ps.length).map X, ?_, ⟨A, c, by rw [hlen]; exact e, by rw [hlen]; exact hm, fun _ => ⟨ad, h1, h2, fun j x hx => ?_⟩⟩, fun q hq => ?_⟩
    · apply List.ext_getElem?
      intro j
      by_cases hj : j < ps.length
      · rw [(hX j hj).1]; simp [hj]
      · rw [List.getElem?_eq_none (by simp; omega), List.getElem?_eq_none (by omega)]
    · have hj : j < ps.length := by rw [← hlen]; exact (List.getElem?_eq_some_iff.1 hx).1
      rw [hat j hj] at hx
      cases hx
      exact ⟨_, rfl, rfl, (hX j hj).2.1⟩
    · obtain ⟨j, hj, rfl⟩ := List.mem_map.1 hq
      exact (hX j (List.mem_range.1 hj)).2.2
  · obtain rfl : ps = [] := List.eq_nil_of_length_eq_zero (by omega)
    exact ⟨[], rfl, ⟨A, c, e, hm, fun h => by simp at h⟩, fun q hq => by cases hq⟩
theorem StR.toQ {w : World} {s : PSt} {vP vQ vD vC : Value} (h : StR w s vP vQ vD vC) : ∃ qs cs, StQ w s vP vQ vD vC qs cs := by
  obtain ⟨qs, a1, a2, a3⟩ := h.pr.toQ
  obtain ⟨cs, b1, b2, b3⟩ := h.cm.toC
  exact ⟨qs, cs, h.pl, a2, h.de, b2, a1, b1, a3, b3⟩
theorem info2pl : (Try.prog.info? 82).map (fun i => (i.zero, i.size, i.bytes)) = some (some (.agg #[.int .i64 0, .int .i64 0, .int .i64 0, .int .i64 0, .int .i64 0]), 5, 40) := by kernel_rfl
theorem info2pr : (Try.prog.info? 83).map (fun i => (i.zero, i.size, i.bytes)) = some (some (.agg #[.int .i64 0, .int .i64 0, .int .i64 0, .slice none 0 0, .slice none 0 0]), 5, 72) := by kernel_rfl
theorem info2de : (Try.prog.info? 86).map (fun i => (i.zero, i.size, i.bytes)) = some (some (.agg #[.int .i64 0, .int .i64 0, .int .i64 0, .bool false]), 4, 32) := by kernel_rfl
theorem info2cm : (Try.prog.info? 87).map (fun i => (i.zero, i.size, i.bytes)) = some (some (.agg #[.int .i64 0, .int .i64 0, .int .i64 0, .slice none 0 0, .slice none 0 0, .bool false]), 6, 80) := by kernel_rfl
/-- What answers with a state alone, that reads. -/
def StPost1 (w : World) (s : PSt) (e : Ending) (w' : World) : Prop := ∃ vP vQ vD vC, e = .returned (.agg (stCells s vP vQ vD vC)) ∧ w.grownBy w' none ∧ StR w' s vP vQ vD vC
set_option maxHeartbeats 12800000 in
theorem Plain_c (w : World) (s : PSt) (vP vQ vD vC : Value) (h : StR w s vP vQ vD vC) (hb : s.places.length ≤ 100000 ∧ s.prepared.length ≤ 100000 ∧ s.decided.length ≤ 100000 ∧ s.commits.length ≤ 100000) :
    Calls Try.prog 13 #[.agg (stCells s vP vQ vD vC)] w (StPost1 w s) := by
  obtain ⟨qs, cs, hq⟩ := h.toQ
  obtain ⟨A1, c1, rfl⟩ := hq.pl.len
  obtain ⟨A2, c2, rfl⟩ := hq.pr.len
  obtain ⟨A3, c3, rfl⟩ := hq.de.len
  obtain ⟨A4, c4, rfl⟩ := hq.cm.len
  have HQ := As.mk hq
  have HN := As.mk (show s.places.length ≤ 100000 ∧ qs.length ≤ 100000 ∧ s.decided.length ≤ 100000 ∧ cs.length ≤ 100000 from ⟨hb.1, by rw [← List.length_map (f := QPr.p), hq.qp]; exact hb.2.1, hb.2.2.1, by rw [← List.length_map (f := QCm.p), hq.cp]; exact hb.2.2.2⟩)
  obtain ⟨ipl, hpl1, hpl2, hpl3, hpl4⟩ := info_parts info2pl
  have HIpl := As.mk (And.intro hpl1 (And.intro hpl2 (And.intro hpl3 hpl4)))
  clear hpl1 hpl2 hpl3 hpl4
  obtain ⟨ipr, hpr1, hpr2, hpr3, hpr4⟩ := info_parts info2pr
  have HIpr := As.mk (And.intro hpr1 (And.intro hpr2 (And.intro hpr3 hpr4)))
  clear hpr1 hpr2 hpr3 hpr4
  obtain ⟨ide, hde1, hde2, hde3, hde4⟩ := info_parts info2de
  have HIde := As.mk (And.intro hde1 (And.intro hde2 (And.intro hde3 hde4)))
  clear hde1 hde2 hde3 hde4
  obtain ⟨icm, hcm1, hcm2, hcm3, hcm4⟩ := info_parts info2cm
  have HIcm := As.mk (And.intro hcm1 (And.intro hcm2 (And.intro hcm3 hcm4)))
  clear hcm1 hcm2 hcm3 hcm4
  clear h hq hb
  unfold stCells
  have HG := As.mk (gr_alloc (gr_alloc (gr_alloc (gr_refl w none) (.cells #[.int .i64 s.node, .int .i64 s.nodes, .int .i64 s.cells, .int .i64 s.epoch, .slice A1 s.places.length c1, .slice A2 qs.length c2, .slice A3 s.decided.length c3, .slice A4 cs.length c4] 32)) (.cells #[.int .i64 0, .int .i64 0, .int .i64 0, .int .i64 0, .slice none 0 0, .slice none 0 0, .slice none 0 0, .slice none 0 0] 50)) (.cells #[.int .i64 s.node, .int .i64 s.nodes, .int .i64 s.cells, .int .i64 s.epoch, .slice none 0 0, .slice none 0 0, .slice none 0 0, .slice none 0 0] 50))
  have HB := As.mk (((Blk.new w 32 #[.int .i64 s.node, .int .i64 s.nodes, .int .i64 s.cells, .int .i64 s.epoch, .slice A1 s.places.length c1, .slice A2 qs.length c2, .slice A3 s.decided.length c3, .slice A4 cs.length c4]).alloc (.cells #[.int .i64 0, .int .i64 0, .int .i64 0, .int .i64 0, .slice none 0 0, .slice none 0 0, .slice none 0 0, .slice none 0 0] 50)).alloc (.cells #[.int .i64 s.node, .int .i64 s.nodes, .int .i64 s.cells, .int .i64 s.epoch, .slice none 0 0, .slice none 0 0, .slice none 0 0, .slice none 0 0] 50))
  have HZ := As.mk ((Blk.new2 w (.cells #[.int .i64 s.node, .int .i64 s.nodes, .int .i64 s.cells, .int .i64 s.epoch, .slice A1 s.places.length c1, .slice A2 qs.length c2, .slice A3 s.decided.length c3, .slice A4 cs.length c4] 32) 50 #[.int .i64 0, .int .i64 0, .int .i64 0, .int .i64 0, .slice none 0 0, .slice none 0 0, .slice none 0 0, .slice none 0 0]).alloc (.cells #[.int .i64 s.node, .int .i64 s.nodes, .int .i64 s.cells, .int .i64 s.epoch, .slice none 0 0, .slice none 0 0, .slice none 0 0, .slice none 0 0] 50))
  have HX := As.mk (show Blk _ (w.heap.size + 1 + 1) _ _ from Blk.new_at ((w.alloc (.cells #[.int .i64 s.node, .int .i64 s.nodes, .int .i64 s.cells, .int .i64 s.epoch, .slice A1 s.places.length c1, .slice A2 qs.length c2, .slice A3 s.decided.length c3, .slice A4 cs.length c4] 32)).alloc (.cells #[.int .i64 0, .int .i64 0, .int .i64 0, .int .i64 0, .slice none 0 0, .slice none 0 0, .slice none 0 0, .slice none 0 0] 50)) 50 #[.int .i64 s.node, .int .i64 s.nodes, .int .i64 s.cells, .int .i64 s.epoch, .slice none 0 0, .slice none 0 0, .slice none 0 0, .slice none 0 0] (g := w.heap.size + 1 + 1) (by simp))
  go_enter Try.func13, Try.ntmps13
  go_wp2_with fail
  generalize ((w.alloc (.cells #[.int .i64 s.node, .int .i64 s.nodes, .int .i64 s.cells, .int .i64 s.epoch, .slice A1 s.places.length c1, .slice A2 qs.length c2, .slice A3 s.decided.length c3, .slice A4 cs.length c4] 32)).alloc (.cells #[.int .i64 0, .int .i64 0, .int .i64 0, .int .i64 0, .slice none 0 0, .slice none 0 0, .slice none 0 0, .slice none 0 0] 50)).alloc (.cells #[.int .i64 s.node, .int .i64 s.nodes, .int .i64 s.cells, .int .i64 s.epoch, .slice none 0 0, .slice none 0 0, .slice none 0 0, .slice none 0 0] 50) = W at *
  go_loopw [24] (fun i wr => ∃ k : Nat, k ≤ s.places.length ∧ i = .int .i64 k ∧ ∃ V, As (w.grownBy wr none ∧ Blk wr w.heap.size 32 #[.int .i64 s.node, .int .i64 s.nodes, .int .i64 s.cells, .int .i64 s.epoch, .slice A1 s.places.length c1, .slice A2 qs.length c2, .slice A3 s.decided.length c3, .slice A4 cs.length c4] ∧ Blk wr (w.heap.size + 1) 50 #[.int .i64 0, .int .i64 0, .int .i64 0, .int .i64 0, .slice none 0 0, .slice none 0 0, .slice none 0 0, .slice none 0 0] ∧ Blk wr (w.heap.size + 1 + 1) 50 #[.int .i64 s.node, .int .i64 s.nodes, .int .i64 s.cells, .int .i64 s.epoch, V, .slice none 0 0, .slice none 0 0, .slice none 0 0] ∧ wr.ownsRow w.heap.size 82 5 (V) k ((s.places.take k).flatMap plCells))) (fun i _ => s.places.length - (intOf i).toNat)
  case atStart => exact ⟨0, Nat.zero_le _, rfl, .slice none 0 0, ⟨HG.out, HB.out, HZ.out, HX.out, own_nilRow _ _ _ _⟩⟩
  case round =>
    obtain ⟨k, hk, rfl, V, HL⟩ := hrel
    clear HG HB HZ HX 
    obtain ⟨HG, HB, HZ, HX, HR⟩ := HL.out
    clear HL
    replace HG := As.mk HG
    replace HB := As.mk HB
    replace HZ := As.mk HZ
    replace HX := As.mk HX
    replace HR := As.mk HR
    by_cases hlt : k < s.places.length
    · have hltI : (k : Int) < (s.places.length : Int) := by omega
      have hk0 : (0 : Int) ≤ (k : Int) := by omega
      have hkN := HN.out
      obtain ⟨x, hx⟩ : ∃ x, s.places[k]? = some x := ⟨_, List.getElem?_eq_getElem hlt⟩
      obtain ⟨b, off, ds, rfl, rfl, _, hcs⟩ := HQ.out.pl.at_ k x hx
      have hle := HQ.out.pl.cap
      have hle2 := HQ.out.pl.le
      have HFT := As.mk (show (s.places.take (k + 1)).flatMap plCells = (s.places.take k).flatMap plCells ++ plCells x by rw [List.take_add_one, hx, List.flatMap_append]; simp)
      have e0 := HG.out.cell (hcs 0 _ rfl) (by simp)
      have e1 := HG.out.cell (hcs 1 _ rfl) (by simp)
      have e2 := HG.out.cell (hcs 2 _ rfl) (by simp)
      have e3 := HG.out.cell (hcs 3 _ rfl) (by simp)
      have e4 := HG.out.cell (hcs 4 _ rfl) (by simp)
      simp only [Nat.add_zero] at e0
      clear hcs hx
      have hga := gr_alloc (gr_alloc (gr_refl wr none) (.cells #[.int .i64 x.st, .int .i64 x.hop, .int .i64 x.to_, .int .i64 x.ver, .int .i64 x.val] 62)) (.cells #[.int .i64 x.st, .int .i64 x.hop, .int .i64 x.to_, .int .i64 x.ver, .int .i64 x.val] 82)
      have HG2 := As.mk (gr_then HG.out hga (.inl rfl))
      have HB2 := As.mk (HB.out.grown hga (by simp))
      have HZ2 := As.mk (HZ.out.grown hga (by simp))
      have HX2 := As.mk (HX.out.grown hga (by simp))
      have HR2 := As.mk (own_gr0 HR.out hga)
      have HBS := As.mk (show Blk _ (wr.heap.size + 1) 82 #[.int .i64 x.st, .int .i64 x.hop, .int .i64 x.to_, .int .i64 x.ver, .int .i64 x.val] from Blk.new2 wr (.cells #[.int .i64 x.st, .int .i64 x.hop, .int .i64 x.to_, .int .i64 x.ver, .int .i64 x.val] 62) 82 #[.int .i64 x.st, .int .i64 x.hop, .int .i64 x.to_, .int .i64 x.ver, .int .i64 x.val])
      clear hga
      have g4 := (HX.out.alloc (.cells #[.int .i64 x.st, .int .i64 x.hop, .int .i64 x.to_, .int .i64 x.ver, .int .i64 x.val] 62)).cell 4
      simp only [List.getElem?_toArray, List.getElem?_cons_zero, List.getElem?_cons_succ] at g4
      go_wp2_with (at_builtin; refine wpList_app1 (by rfl) _ _ _ (by rfl) w.heap.size 82 ipl _ 5 40 Try.underlying45 HIpl.out.1 HIpl.out.2.1 HIpl.out.2.2.1 HIpl.out.2.2.2 rfl (by omega) (by omega) _ k ((s.places.take k).flatMap plCells) (by rfl) HR2.out (wr.heap.size + 1) (by rfl) _ HBS.out rfl (by simp [Value.oneCell']) (by omega) HG2.out.size ?_; intro v' w' ho hg' hv'; obtain ⟨A9, c9, rfl⟩ := own_shape ho; have hlo := own_lo HR2.out; have HNN := As.mk (And.intro ho hg'); have HG3 := As.mk (gr_then HG2.out hg' (.inr (.inr hlo))); have HX3 := As.mk (HX2.out.grown hg' (own_ne HX2.out HR2.out (by decide))); have r0 := HX3.out.cell 4; have r1 := HX3.out.free 4; simp only [List.getElem?_toArray, List.getElem?_cons_zero, List.getElem?_cons_succ] at r0; clear ho hv' hlo hg')
      clear r0 r1
      have hg' := HNN.out.2
      have HB3 := As.mk (HB2.out.grown hg' (own_ne HB2.out HR2.out (by decide)))
      have HZ3 := As.mk (HZ2.out.grown hg' (own_ne HZ2.out HR2.out (by decide)))
      have hst : ∀ v, w.grownBy (w'.setCell ⟨w.heap.size + 1 + 1, 4, none⟩ v) none := fun v => gr_set HG3.out (a := ⟨w.heap.size + 1 + 1, 4, none⟩) (.inr (by show w.heap.size ≤ w.heap.size + 1 + 1; omega)) v
      have HG4 := As.mk (hst (.slice A9 (k + 1) c9))
      have HB4 := As.mk (HB3.out.far (a := ⟨w.heap.size + 1 + 1, 4, none⟩) (by show w.heap.size ≠ w.heap.size + 1 + 1; omega) (.slice A9 (k + 1) c9))
      have HZ4 := As.mk (HZ3.out.far (a := ⟨w.heap.size + 1 + 1, 4, none⟩) (by show w.heap.size + 1 ≠ w.heap.size + 1 + 1; omega) (.slice A9 (k + 1) c9))
      have HX4 := As.mk (show Blk _ (w.heap.size + 1 + 1) 50 #[.int .i64 s.node, .int .i64 s.nodes, .int .i64 s.cells, .int .i64 s.epoch, .slice A9 (k + 1) c9, .slice none 0 0, .slice none 0 0, .slice none 0 0] from by have := HX3.out.set 4 (.slice A9 (k + 1) c9); simpa using this)
      have HR4 := As.mk (own_far HNN.out.1 (a := ⟨w.heap.size + 1 + 1, 4, none⟩) (own_ne HX3.out HNN.out.1 (by decide)) (.slice A9 (k + 1) c9))
      clear hst hg'
      go_roundw
      case measure => simp [intOf]; omega
      case rel => exact ⟨k + 1, by omega, by go_num, .slice A9 (k + 1) c9, ⟨HG4.out, HB4.out, HZ4.out, HX4.out, by rw [HFT.out]; exact HR4.out⟩⟩
    · obtain rfl : k = s.places.length := by omega
      rw [List.take_of_length_le (Nat.le_refl _)] at HR
      obtain ⟨B1, d1, rfl⟩ := own_shape HR.out
      have HO0 := As.mk HR.out
      clear HR hlt hk
      obtain ⟨q0, q1, q2, q3, q4, q5, q6, q7⟩ := (HB.out).c8
      go_wp2_with fail
      clear q0 q1 q2 q3 q4 q5 q6 q7
      go_loopw [38] (fun i wr => ∃ k : Nat, k ≤ qs.length ∧ i = .int .i64 k ∧ ∃ V, As (w.grownBy wr none ∧ Blk wr w.heap.size 32 #[.int .i64 s.node, .int .i64 s.nodes, .int .i64 s.cells, .int .i64 s.epoch, .slice A1 s.places.length c1, .slice A2 qs.length c2, .slice A3 s.decided.length c3, .slice A4 cs.length c4] ∧ Blk wr (w.heap.size + 1) 50 #[.int .i64 0, .int .i64 0, .int .i64 0, .int .i64 0, .slice none 0 0, .slice none 0 0, .slice none 0 0, .slice none 0 0] ∧ Blk wr (w.heap.size + 1 + 1) 50 #[.int .i64 s.node, .int .i64 s.nodes, .int .i64 s.cells, .int .i64 s.epoch, .slice B1 s.places.length d1, V, .slice none 0 0, .slice none 0 0] ∧ wr.ownsRow w.heap.size 82 5 (.slice B1 s.places.length d1) s.places.length (s.places.flatMap plCells) ∧ wr.ownsRow w.heap.size 83 5 (V) k ((qs.take k).flatMap qpC))) (fun i _ => qs.length - (intOf i).toNat)
      case atStart => exact ⟨0, Nat.zero_le _, rfl, .slice none 0 0, ⟨HG.out, HB.out, HZ.out, HX.out, HO0.out, own_nilRow _ _ _ _⟩⟩
      case round =>
        obtain ⟨k, hk, rfl, V, HL⟩ := hrel
        clear HG HB HZ HX HO0
        obtain ⟨HG, HB, HZ, HX, HO0, HR⟩ := HL.out
        clear HL
        replace HG := As.mk HG
        replace HB := As.mk HB
        replace HZ := As.mk HZ
        replace HX := As.mk HX
        replace HO0 := As.mk HO0
        replace HR := As.mk HR
        by_cases hlt : k < qs.length
        · have hltI : (k : Int) < (qs.length : Int) := by omega
          have hk0 : (0 : Int) ≤ (k : Int) := by omega
          have hkN := HN.out
          obtain ⟨x, hx⟩ : ∃ x, qs[k]? = some x := ⟨_, List.getElem?_eq_getElem hlt⟩
          obtain ⟨b, off, ds, rfl, rfl, _, hcs⟩ := HQ.out.pr.at_ k x hx
          have hle := HQ.out.pr.cap
          have hle2 := HQ.out.pr.le
          have HFT := As.mk (show (qs.take (k + 1)).flatMap qpC = (qs.take k).flatMap qpC ++ qpC x by rw [List.take_add_one, hx, List.flatMap_append]; simp)
          have e0 := HG.out.cell (hcs 0 _ rfl) (by simp)
          have e1 := HG.out.cell (hcs 1 _ rfl) (by simp)
          have e2 := HG.out.cell (hcs 2 _ rfl) (by simp)
          have e3 := HG.out.cell (hcs 3 _ rfl) (by simp)
          have e4 := HG.out.cell (hcs 4 _ rfl) (by simp)
          simp only [Nat.add_zero] at e0
          clear hcs hx
          have hga := gr_alloc (gr_alloc (gr_refl wr none) (.cells #[.int .i64 x.p.tid.n, .int .i64 x.p.tid.e, .int .i64 x.p.tid.s, .slice x.A1 x.p.items.length x.c1, .slice x.A2 x.p.nodes.length x.c2] 60)) (.cells #[.int .i64 x.p.tid.n, .int .i64 x.p.tid.e, .int .i64 x.p.tid.s, .slice x.A1 x.p.items.length x.c1, .slice x.A2 x.p.nodes.length x.c2] 83)
          have HG2 := As.mk (gr_then HG.out hga (.inl rfl))
          have HB2 := As.mk (HB.out.grown hga (by simp))
          have HZ2 := As.mk (HZ.out.grown hga (by simp))
          have HX2 := As.mk (HX.out.grown hga (by simp))
          have HO02 := As.mk (own_gr0 HO0.out hga)
          have HR2 := As.mk (own_gr0 HR.out hga)
          have HBS := As.mk (show Blk _ (wr.heap.size + 1) 83 #[.int .i64 x.p.tid.n, .int .i64 x.p.tid.e, .int .i64 x.p.tid.s, .slice x.A1 x.p.items.length x.c1, .slice x.A2 x.p.nodes.length x.c2] from Blk.new2 wr (.cells #[.int .i64 x.p.tid.n, .int .i64 x.p.tid.e, .int .i64 x.p.tid.s, .slice x.A1 x.p.items.length x.c1, .slice x.A2 x.p.nodes.length x.c2] 60) 83 #[.int .i64 x.p.tid.n, .int .i64 x.p.tid.e, .int .i64 x.p.tid.s, .slice x.A1 x.p.items.length x.c1, .slice x.A2 x.p.nodes.length x.c2])
          clear hga
          have g5 := (HX.out.alloc (.cells #[.int .i64 x.p.tid.n, .int .i64 x.p.tid.e, .int .i64 x.p.tid.s, .slice x.A1 x.p.items.length x.c1, .slice x.A2 x.p.nodes.length x.c2] 60)).cell 5
          simp only [List.getElem?_toArray, List.getElem?_cons_zero, List.getElem?_cons_succ] at g5
          go_wp2_with (at_builtin; refine wpList_app1 (by rfl) _ _ _ (by rfl) w.heap.size 83 ipr _ 5 72 Try.underlying46 HIpr.out.1 HIpr.out.2.1 HIpr.out.2.2.1 HIpr.out.2.2.2 rfl (by omega) (by omega) _ k ((qs.take k).flatMap qpC) (by rfl) HR2.out (wr.heap.size + 1) (by rfl) _ HBS.out rfl (by simp [Value.oneCell']) (by omega) HG2.out.size ?_; intro v' w' ho hg' hv'; obtain ⟨A9, c9, rfl⟩ := own_shape ho; have hlo := own_lo HR2.out; have HNN := As.mk (And.intro ho hg'); have HG3 := As.mk (gr_then HG2.out hg' (.inr (.inr hlo))); have HX3 := As.mk (HX2.out.grown hg' (own_ne HX2.out HR2.out (by decide))); have r0 := HX3.out.cell 5; have r1 := HX3.out.free 5; simp only [List.getElem?_toArray, List.getElem?_cons_zero, List.getElem?_cons_succ] at r0; clear ho hv' hlo hg')
          clear r0 r1
          have hg' := HNN.out.2
          have HB3 := As.mk (HB2.out.grown hg' (own_ne HB2.out HR2.out (by decide)))
          have HZ3 := As.mk (HZ2.out.grown hg' (own_ne HZ2.out HR2.out (by decide)))
          have HO03 := As.mk (own_grown HO02.out hg' (own_types HO02.out HR2.out (by decide)))
          have hst : ∀ v, w.grownBy (w'.setCell ⟨w.heap.size + 1 + 1, 5, none⟩ v) none := fun v => gr_set HG3.out (a := ⟨w.heap.size + 1 + 1, 5, none⟩) (.inr (by show w.heap.size ≤ w.heap.size + 1 + 1; omega)) v
          have HG4 := As.mk (hst (.slice A9 (k + 1) c9))
          have HB4 := As.mk (HB3.out.far (a := ⟨w.heap.size + 1 + 1, 5, none⟩) (by show w.heap.size ≠ w.heap.size + 1 + 1; omega) (.slice A9 (k + 1) c9))
          have HZ4 := As.mk (HZ3.out.far (a := ⟨w.heap.size + 1 + 1, 5, none⟩) (by show w.heap.size + 1 ≠ w.heap.size + 1 + 1; omega) (.slice A9 (k + 1) c9))
          have HX4 := As.mk (show Blk _ (w.heap.size + 1 + 1) 50 #[.int .i64 s.node, .int .i64 s.nodes, .int .i64 s.cells, .int .i64 s.epoch, .slice B1 s.places.length d1, .slice A9 (k + 1) c9, .slice none 0 0, .slice none 0 0] from by have := HX3.out.set 5 (.slice A9 (k + 1) c9); simpa using this)
          have HO04 := As.mk (own_far HO03.out (a := ⟨w.heap.size + 1 + 1, 5, none⟩) (own_ne HX3.out HO03.out (by decide)) (.slice A9 (k + 1) c9))
          have HR4 := As.mk (own_far HNN.out.1 (a := ⟨w.heap.size + 1 + 1, 5, none⟩) (own_ne HX3.out HNN.out.1 (by decide)) (.slice A9 (k + 1) c9))
          clear hst hg'
          go_roundw
          case measure => simp [intOf]; omega
          case rel => exact ⟨k + 1, by omega, by go_num, .slice A9 (k + 1) c9, ⟨HG4.out, HB4.out, HZ4.out, HX4.out, HO04.out, by rw [HFT.out]; exact HR4.out⟩⟩
        · obtain rfl : k = qs.length := by omega
          rw [List.take_of_length_le (Nat.le_refl _)] at HR
          obtain ⟨B2, d2, rfl⟩ := own_shape HR.out
          have HO1 := As.mk HR.out
          clear HR hlt hk
          obtain ⟨q0, q1, q2, q3, q4, q5, q6, q7⟩ := (HB.out).c8
          go_wp2_with fail
          clear q0 q1 q2 q3 q4 q5 q6 q7
          go_loopw [52] (fun i wr => ∃ k : Nat, k ≤ s.decided.length ∧ i = .int .i64 k ∧ ∃ V, As (w.grownBy wr none ∧ Blk wr w.heap.size 32 #[.int .i64 s.node, .int .i64 s.nodes, .int .i64 s.cells, .int .i64 s.epoch, .slice A1 s.places.length c1, .slice A2 qs.length c2, .slice A3 s.decided.length c3, .slice A4 cs.length c4] ∧ Blk wr (w.heap.size + 1) 50 #[.int .i64 0, .int .i64 0, .int .i64 0, .int .i64 0, .slice none 0 0, .slice none 0 0, .slice none 0 0, .slice none 0 0] ∧ Blk wr (w.heap.size + 1 + 1) 50 #[.int .i64 s.node, .int .i64 s.nodes, .int .i64 s.cells, .int .i64 s.epoch, .slice B1 s.places.length d1, .slice B2 qs.length d2, V, .slice none 0 0] ∧ wr.ownsRow w.heap.size 82 5 (.slice B1 s.places.length d1) s.places.length (s.places.flatMap plCells) ∧ wr.ownsRow w.heap.size 83 5 (.slice B2 qs.length d2) qs.length (qs.flatMap qpC) ∧ wr.ownsRow w.heap.size 86 4 (V) k ((s.decided.take k).flatMap deC))) (fun i _ => s.decided.length - (intOf i).toNat)
          case atStart => exact ⟨0, Nat.zero_le _, rfl, .slice none 0 0, ⟨HG.out, HB.out, HZ.out, HX.out, HO0.out, HO1.out, own_nilRow _ _ _ _⟩⟩
          case round =>
            obtain ⟨k, hk, rfl, V, HL⟩ := hrel
            clear HG HB HZ HX HO0 HO1
            obtain ⟨HG, HB, HZ, HX, HO0, HO1, HR⟩ := HL.out
            clear HL
            replace HG := As.mk HG
            replace HB := As.mk HB
            replace HZ := As.mk HZ
            replace HX := As.mk HX
            replace HO0 := As.mk HO0
            replace HO1 := As.mk HO1
            replace HR := As.mk HR
            by_cases hlt : k < s.decided.length
            · have hltI : (k : Int) < (s.decided.length : Int) := by omega
              have hk0 : (0 : Int) ≤ (k : Int) := by omega
              have hkN := HN.out
              obtain ⟨x, hx⟩ : ∃ x, s.decided[k]? = some x := ⟨_, List.getElem?_eq_getElem hlt⟩
              obtain ⟨b, off, ds, rfl, rfl, _, hcs⟩ := HQ.out.de.at_ k x hx
              have hle := HQ.out.de.cap
              have hle2 := HQ.out.de.le
              have HFT := As.mk (show (s.decided.take (k + 1)).flatMap deC = (s.decided.take k).flatMap deC ++ deC x by rw [List.take_add_one, hx, List.flatMap_append]; simp)
              have e0 := HG.out.cell (hcs 0 _ rfl) (by simp)
              have e1 := HG.out.cell (hcs 1 _ rfl) (by simp)
              have e2 := HG.out.cell (hcs 2 _ rfl) (by simp)
              have e3 := HG.out.cell (hcs 3 _ rfl) (by simp)
              simp only [Nat.add_zero] at e0
              clear hcs hx
              have hga := gr_alloc (gr_alloc (gr_refl wr none) (.cells #[.int .i64 x.tid.n, .int .i64 x.tid.e, .int .i64 x.tid.s, .bool x.yes] 55)) (.cells #[.int .i64 x.tid.n, .int .i64 x.tid.e, .int .i64 x.tid.s, .bool x.yes] 86)
              have HG2 := As.mk (gr_then HG.out hga (.inl rfl))
              have HB2 := As.mk (HB.out.grown hga (by simp))
              have HZ2 := As.mk (HZ.out.grown hga (by simp))
              have HX2 := As.mk (HX.out.grown hga (by simp))
              have HO02 := As.mk (own_gr0 HO0.out hga)
              have HO12 := As.mk (own_gr0 HO1.out hga)
              have HR2 := As.mk (own_gr0 HR.out hga)
              have HBS := As.mk (show Blk _ (wr.heap.size + 1) 86 #[.int .i64 x.tid.n, .int .i64 x.tid.e, .int .i64 x.tid.s, .bool x.yes] from Blk.new2 wr (.cells #[.int .i64 x.tid.n, .int .i64 x.tid.e, .int .i64 x.tid.s, .bool x.yes] 55) 86 #[.int .i64 x.tid.n, .int .i64 x.tid.e, .int .i64 x.tid.s, .bool x.yes])
              clear hga
              have g6 := (HX.out.alloc (.cells #[.int .i64 x.tid.n, .int .i64 x.tid.e, .int .i64 x.tid.s, .bool x.yes] 55)).cell 6
              simp only [List.getElem?_toArray, List.getElem?_cons_zero, List.getElem?_cons_succ] at g6
              go_wp2_with (at_builtin; refine wpList_app1 (by rfl) _ _ _ (by rfl) w.heap.size 86 ide _ 4 32 Try.underlying47 HIde.out.1 HIde.out.2.1 HIde.out.2.2.1 HIde.out.2.2.2 rfl (by omega) (by omega) _ k ((s.decided.take k).flatMap deC) (by rfl) HR2.out (wr.heap.size + 1) (by rfl) _ HBS.out rfl (by simp [Value.oneCell']) (by omega) HG2.out.size ?_; intro v' w' ho hg' hv'; obtain ⟨A9, c9, rfl⟩ := own_shape ho; have hlo := own_lo HR2.out; have HNN := As.mk (And.intro ho hg'); have HG3 := As.mk (gr_then HG2.out hg' (.inr (.inr hlo))); have HX3 := As.mk (HX2.out.grown hg' (own_ne HX2.out HR2.out (by decide))); have r0 := HX3.out.cell 6; have r1 := HX3.out.free 6; simp only [List.getElem?_toArray, List.getElem?_cons_zero, List.getElem?_cons_succ] at r0; clear ho hv' hlo hg')
              clear r0 r1
              have hg' := HNN.out.2
              have HB3 := As.mk (HB2.out.grown hg' (own_ne HB2.out HR2.out (by decide)))
              have HZ3 := As.mk (HZ2.out.grown hg' (own_ne HZ2.out HR2.out (by decide)))
              have HO03 := As.mk (own_grown HO02.out hg' (own_types HO02.out HR2.out (by decide)))
              have HO13 := As.mk (own_grown HO12.out hg' (own_types HO12.out HR2.out (by decide)))
              have hst : ∀ v, w.grownBy (w'.setCell ⟨w.heap.size + 1 + 1, 6, none⟩ v) none := fun v => gr_set HG3.out (a := ⟨w.heap.size + 1 + 1, 6, none⟩) (.inr (by show w.heap.size ≤ w.heap.size + 1 + 1; omega)) v
              have HG4 := As.mk (hst (.slice A9 (k + 1) c9))
              have HB4 := As.mk (HB3.out.far (a := ⟨w.heap.size + 1 + 1, 6, none⟩) (by show w.heap.size ≠ w.heap.size + 1 + 1; omega) (.slice A9 (k + 1) c9))
              have HZ4 := As.mk (HZ3.out.far (a := ⟨w.heap.size + 1 + 1, 6, none⟩) (by show w.heap.size + 1 ≠ w.heap.size + 1 + 1; omega) (.slice A9 (k + 1) c9))
              have HX4 := As.mk (show Blk _ (w.heap.size + 1 + 1) 50 #[.int .i64 s.node, .int .i64 s.nodes, .int .i64 s.cells, .int .i64 s.epoch, .slice B1 s.places.length d1, .slice B2 qs.length d2, .slice A9 (k + 1) c9, .slice none 0 0] from by have := HX3.out.set 6 (.slice A9 (k + 1) c9); simpa using this)
              have HO04 := As.mk (own_far HO03.out (a := ⟨w.heap.size + 1 + 1, 6, none⟩) (own_ne HX3.out HO03.out (by decide)) (.slice A9 (k + 1) c9))
              have HO14 := As.mk (own_far HO13.out (a := ⟨w.heap.size + 1 + 1, 6, none⟩) (own_ne HX3.out HO13.out (by decide)) (.slice A9 (k + 1) c9))
              have HR4 := As.mk (own_far HNN.out.1 (a := ⟨w.heap.size + 1 + 1, 6, none⟩) (own_ne HX3.out HNN.out.1 (by decide)) (.slice A9 (k + 1) c9))
              clear hst hg'
              go_roundw
              case measure => simp [intOf]; omega
              case rel => exact ⟨k + 1, by omega, by go_num, .slice A9 (k + 1) c9, ⟨HG4.out, HB4.out, HZ4.out, HX4.out, HO04.out, HO14.out, by rw [HFT.out]; exact HR4.out⟩⟩
            · obtain rfl : k = s.decided.length := by omega
              rw [List.take_of_length_le (Nat.le_refl _)] at HR
              obtain ⟨B3, d3, rfl⟩ := own_shape HR.out
              have HO2 := As.mk HR.out
              clear HR hlt hk
              obtain ⟨q0, q1, q2, q3, q4, q5, q6, q7⟩ := (HB.out).c8
              go_wp2_with fail
              clear q0 q1 q2 q3 q4 q5 q6 q7
              go_loopw [66] (fun i wr => ∃ k : Nat, k ≤ cs.length ∧ i = .int .i64 k ∧ ∃ V, As (w.grownBy wr none ∧ Blk wr w.heap.size 32 #[.int .i64 s.node, .int .i64 s.nodes, .int .i64 s.cells, .int .i64 s.epoch, .slice A1 s.places.length c1, .slice A2 qs.length c2, .slice A3 s.decided.length c3, .slice A4 cs.length c4] ∧ Blk wr (w.heap.size + 1) 50 #[.int .i64 0, .int .i64 0, .int .i64 0, .int .i64 0, .slice none 0 0, .slice none 0 0, .slice none 0 0, .slice none 0 0] ∧ Blk wr (w.heap.size + 1 + 1) 50 #[.int .i64 s.node, .int .i64 s.nodes, .int .i64 s.cells, .int .i64 s.epoch, .slice B1 s.places.length d1, .slice B2 qs.length d2, .slice B3 s.decided.length d3, V] ∧ wr.ownsRow w.heap.size 82 5 (.slice B1 s.places.length d1) s.places.length (s.places.flatMap plCells) ∧ wr.ownsRow w.heap.size 83 5 (.slice B2 qs.length d2) qs.length (qs.flatMap qpC) ∧ wr.ownsRow w.heap.size 86 4 (.slice B3 s.decided.length d3) s.decided.length (s.decided.flatMap deC) ∧ wr.ownsRow w.heap.size 87 6 (V) k ((cs.take k).flatMap qcC))) (fun i _ => cs.length - (intOf i).toNat)
              case atStart => exact ⟨0, Nat.zero_le _, rfl, .slice none 0 0, ⟨HG.out, HB.out, HZ.out, HX.out, HO0.out, HO1.out, HO2.out, own_nilRow _ _ _ _⟩⟩
              case round =>
                obtain ⟨k, hk, rfl, V, HL⟩ := hrel
                clear HG HB HZ HX HO0 HO1 HO2
                obtain ⟨HG, HB, HZ, HX, HO0, HO1, HO2, HR⟩ := HL.out
                clear HL
                replace HG := As.mk HG
                replace HB := As.mk HB
                replace HZ := As.mk HZ
                replace HX := As.mk HX
                replace HO0 := As.mk HO0
                replace HO1 := As.mk HO1
                replace HO2 := As.mk HO2
                replace HR := As.mk HR
                by_cases hlt : k < cs.length
                · have hltI : (k : Int) < (cs.length : Int) := by omega
                  have hk0 : (0 : Int) ≤ (k : Int) := by omega
                  have hkN := HN.out
                  obtain ⟨x, hx⟩ : ∃ x, cs[k]? = some x := ⟨_, List.getElem?_eq_getElem hlt⟩
                  obtain ⟨b, off, ds, rfl, rfl, _, hcs⟩ := HQ.out.cm.at_ k x hx
                  have hle := HQ.out.cm.cap
                  have hle2 := HQ.out.cm.le
                  have HFT := As.mk (show (cs.take (k + 1)).flatMap qcC = (cs.take k).flatMap qcC ++ qcC x by rw [List.take_add_one, hx, List.flatMap_append]; simp)
                  have e0 := HG.out.cell (hcs 0 _ rfl) (by simp)
                  have e1 := HG.out.cell (hcs 1 _ rfl) (by simp)
                  have e2 := HG.out.cell (hcs 2 _ rfl) (by simp)
                  have e3 := HG.out.cell (hcs 3 _ rfl) (by simp)
                  have e4 := HG.out.cell (hcs 4 _ rfl) (by simp)
                  have e5 := HG.out.cell (hcs 5 _ rfl) (by simp)
                  simp only [Nat.add_zero] at e0
                  clear hcs hx
                  have hga := gr_alloc (gr_alloc (gr_refl wr none) (.cells #[.int .i64 x.p.tid.n, .int .i64 x.p.tid.e, .int .i64 x.p.tid.s, .slice x.A1 x.p.items.length x.c1, .slice x.A2 x.p.nodes.length x.c2, .bool x.p.over] 58)) (.cells #[.int .i64 x.p.tid.n, .int .i64 x.p.tid.e, .int .i64 x.p.tid.s, .slice x.A1 x.p.items.length x.c1, .slice x.A2 x.p.nodes.length x.c2, .bool x.p.over] 87)
                  have HG2 := As.mk (gr_then HG.out hga (.inl rfl))
                  have HB2 := As.mk (HB.out.grown hga (by simp))
                  have HZ2 := As.mk (HZ.out.grown hga (by simp))
                  have HX2 := As.mk (HX.out.grown hga (by simp))
                  have HO02 := As.mk (own_gr0 HO0.out hga)
                  have HO12 := As.mk (own_gr0 HO1.out hga)
                  have HO22 := As.mk (own_gr0 HO2.out hga)
                  have HR2 := As.mk (own_gr0 HR.out hga)
                  have HBS := As.mk (show Blk _ (wr.heap.size + 1) 87 #[.int .i64 x.p.tid.n, .int .i64 x.p.tid.e, .int .i64 x.p.tid.s, .slice x.A1 x.p.items.length x.c1, .slice x.A2 x.p.nodes.length x.c2, .bool x.p.over] from Blk.new2 wr (.cells #[.int .i64 x.p.tid.n, .int .i64 x.p.tid.e, .int .i64 x.p.tid.s, .slice x.A1 x.p.items.length x.c1, .slice x.A2 x.p.nodes.length x.c2, .bool x.p.over] 58) 87 #[.int .i64 x.p.tid.n, .int .i64 x.p.tid.e, .int .i64 x.p.tid.s, .slice x.A1 x.p.items.length x.c1, .slice x.A2 x.p.nodes.length x.c2, .bool x.p.over])
                  clear hga
                  have g7 := (HX.out.alloc (.cells #[.int .i64 x.p.tid.n, .int .i64 x.p.tid.e, .int .i64 x.p.tid.s, .slice x.A1 x.p.items.length x.c1, .slice x.A2 x.p.nodes.length x.c2, .bool x.p.over] 58)).cell 7
                  simp only [List.getElem?_toArray, List.getElem?_cons_zero, List.getElem?_cons_succ] at g7
                  go_wp2_with (at_builtin; refine wpList_app1 (by rfl) _ _ _ (by rfl) w.heap.size 87 icm _ 6 80 Try.underlying48 HIcm.out.1 HIcm.out.2.1 HIcm.out.2.2.1 HIcm.out.2.2.2 rfl (by omega) (by omega) _ k ((cs.take k).flatMap qcC) (by rfl) HR2.out (wr.heap.size + 1) (by rfl) _ HBS.out rfl (by simp [Value.oneCell']) (by omega) HG2.out.size ?_; intro v' w' ho hg' hv'; obtain ⟨A9, c9, rfl⟩ := own_shape ho; have hlo := own_lo HR2.out; have HNN := As.mk (And.intro ho hg'); have HG3 := As.mk (gr_then HG2.out hg' (.inr (.inr hlo))); have HX3 := As.mk (HX2.out.grown hg' (own_ne HX2.out HR2.out (by decide))); have r0 := HX3.out.cell 7; have r1 := HX3.out.free 7; simp only [List.getElem?_toArray, List.getElem?_cons_zero, List.getElem?_cons_succ] at r0; clear ho hv' hlo hg')
                  clear r0 r1
                  have hg' := HNN.out.2
                  have HB3 := As.mk (HB2.out.grown hg' (own_ne HB2.out HR2.out (by decide)))
                  have HZ3 := As.mk (HZ2.out.grown hg' (own_ne HZ2.out HR2.out (by decide)))
                  have HO03 := As.mk (own_grown HO02.out hg' (own_types HO02.out HR2.out (by decide)))
                  have HO13 := As.mk (own_grown HO12.out hg' (own_types HO12.out HR2.out (by decide)))
                  have HO23 := As.mk (own_grown HO22.out hg' (own_types HO22.out HR2.out (by decide)))
                  have hst : ∀ v, w.grownBy (w'.setCell ⟨w.heap.size + 1 + 1, 7, none⟩ v) none := fun v => gr_set HG3.out (a := ⟨w.heap.size + 1 + 1, 7, none⟩) (.inr (by show w.heap.size ≤ w.heap.size + 1 + 1; omega)) v
                  have HG4 := As.mk (hst (.slice A9 (k + 1) c9))
                  have HB4 := As.mk (HB3.out.far (a := ⟨w.heap.size + 1 + 1, 7, none⟩) (by show w.heap.size ≠ w.heap.size + 1 + 1; omega) (.slice A9 (k + 1) c9))
                  have HZ4 := As.mk (HZ3.out.far (a := ⟨w.heap.size + 1 + 1, 7, none⟩) (by show w.heap.size + 1 ≠ w.heap.size + 1 + 1; omega) (.slice A9 (k + 1) c9))
                  have HX4 := As.mk (show Blk _ (w.heap.size + 1 + 1) 50 #[.int .i64 s.node, .int .i64 s.nodes, .int .i64 s.cells, .int .i64 s.epoch, .slice B1 s.places.length d1, .slice B2 qs.length d2, .slice B3 s.decided.length d3, .slice A9 (k + 1) c9] from by have := HX3.out.set 7 (.slice A9 (k + 1) c9); simpa using this)
                  have HO04 := As.mk (own_far HO03.out (a := ⟨w.heap.size + 1 + 1, 7, none⟩) (own_ne HX3.out HO03.out (by decide)) (.slice A9 (k + 1) c9))
                  have HO14 := As.mk (own_far HO13.out (a := ⟨w.heap.size + 1 + 1, 7, none⟩) (own_ne HX3.out HO13.out (by decide)) (.slice A9 (k + 1) c9))
                  have HO24 := As.mk (own_far HO23.out (a := ⟨w.heap.size + 1 + 1, 7, none⟩) (own_ne HX3.out HO23.out (by decide)) (.slice A9 (k + 1) c9))
                  have HR4 := As.mk (own_far HNN.out.1 (a := ⟨w.heap.size + 1 + 1, 7, none⟩) (own_ne HX3.out HNN.out.1 (by decide)) (.slice A9 (k + 1) c9))
                  clear hst hg'
                  go_roundw
                  case measure => simp [intOf]; omega
                  case rel => exact ⟨k + 1, by omega, by go_num, .slice A9 (k + 1) c9, ⟨HG4.out, HB4.out, HZ4.out, HX4.out, HO04.out, HO14.out, HO24.out, by rw [HFT.out]; exact HR4.out⟩⟩
                · obtain rfl : k = cs.length := by omega
                  rw [List.take_of_length_le (Nat.le_refl _)] at HR
                  obtain ⟨B4, d4, rfl⟩ := own_shape HR.out
                  have HO3 := As.mk HR.out
                  clear HR hlt hk
                  obtain ⟨q0, q1, q2, q3, q4, q5, q6, q7⟩ := (HX.out).c8
                  obtain ⟨z0, z1, z2, z3, z4, z5, z6, z7⟩ := (HZ.out).c8
                  have fz0 := HZ.out.free 0
                  have fz1 := HZ.out.free 1
                  have fz2 := HZ.out.free 2
                  have fz3 := HZ.out.free 3
                  have fz4 := HZ.out.free 4
                  have fz5 := HZ.out.free 5
                  have fz6 := HZ.out.free 6
                  have fz7 := HZ.out.free 7
                  have HZ5 := As.mk (HZ.out.put8 (.int .i64 s.node) (.int .i64 s.nodes) (.int .i64 s.cells) (.int .i64 s.epoch) (.slice B1 s.places.length d1) (.slice B2 qs.length d2) (.slice B3 s.decided.length d3) (.slice B4 cs.length d4))
                  have HG5 := As.mk (gr_put8 HG.out (sb := w.heap.size + 1) (.inr (Nat.le_succ _)) (.int .i64 s.node) (.int .i64 s.nodes) (.int .i64 s.cells) (.int .i64 s.epoch) (.slice B1 s.places.length d1) (.slice B2 qs.length d2) (.slice B3 s.decided.length d3) (.slice B4 cs.length d4))
                  have hgp := gr_put8 (gr_refl wr (some (w.heap.size + 1))) (.inl rfl) (.int .i64 s.node) (.int .i64 s.nodes) (.int .i64 s.cells) (.int .i64 s.epoch) (.slice B1 s.places.length d1) (.slice B2 qs.length d2) (.slice B3 s.decided.length d3) (.slice B4 cs.length d4)
                  have HR0 := As.mk (own_grown HO0.out hgp (.inr (Ne.symm (own_ne HZ.out HO0.out (by decide)))))
                  have HR1 := As.mk (own_grown HO1.out hgp (.inr (Ne.symm (own_ne HZ.out HO1.out (by decide)))))
                  have HR2 := As.mk (own_grown HO2.out hgp (.inr (Ne.symm (own_ne HZ.out HO2.out (by decide)))))
                  have HR3 := As.mk (own_grown HO3.out hgp (.inr (Ne.symm (own_ne HZ.out HO3.out (by decide)))))
                  clear hgp
                  unfold Go.Proofs.Ytdmkijdbldcdiaa.put8 at HZ5 HG5 HR0 HR1 HR2 HR3
                  go_wp2_with fail
                  refine bodyPost_ret (results_cell_row (P := Try.prog) rfl _ _ (w.heap.size + 1) 50 _ (0, 0) _ rfl HZ5.out Try.underlying50 rfl (by kernel_rfl)) rfl ?_
                  have HQ2 := HQ.out.grown HG5.out
                  exact ⟨_, _, _, _, rfl, HG5.out, (TArr.own HR0.out (fun _ => rfl)).1, (TArr.own HR1.out (fun _ => rfl)).1.q_read HQ2.qp HQ2.qi, (TArr.own HR2.out (fun _ => rfl)).1, (TArr.own HR3.out (fun _ => rfl)).1.c_read HQ2.cp HQ2.ci⟩
end Go.Proofs.Ytdmkijdbldcdiaa
