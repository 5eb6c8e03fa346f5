/- The walk of remuda/ledger.Records. (Printed by wip/gen/gen_qb.py.) -/
import Derived.Test.YtdmkijdbldcdiaaQa
import Derived.Test.YtdmkijdbldcdiaaOd
namespace Go.Proofs.Ytdmkijdbldcdiaa
open Go.RowKit
set_option linter.unusedVariables false
set_option linter.unusedSimpArgs false
set_option maxRecDepth 100000

structure QRe where
  p : PRec
  A1 : Option Addr
  c1 : Nat
  A2 : Option Addr
  c2 : Nat
def rqC (x : QRe) : List Value := (reCells x.p x.A1 x.c1 x.A2 x.c2).toList
/-- A row of records, of the call's own; what their nested slices are. -/
def RecRow (N : QRe → Prop) (w : World) (B : Nat) (T : TypeId) (V : Value) (rs : List PRec) : Prop := ∃ qs : List QRe, w.ownsRow B T 15 V rs.length (qs.flatMap rqC) ∧ qs.map QRe.p = rs ∧ ∀ q ∈ qs, N q
def NO (w : World) (q : QRe) : Prop := NestO w q.A1 q.c1 q.p.items q.A2 q.c2 q.p.nodes
def NN (w : World) (q : QRe) : Prop := NestR w q.A1 q.c1 q.p.items q.A2 q.c2 q.p.nodes
theorem RecRow.mono {N N' : QRe → Prop} {w : World} {B : Nat} {T : TypeId} {V : Value} {rs : List PRec} (h : RecRow N w B T V rs) (hN : ∀ q, N q → N' q) : RecRow N' w B T V rs := by
  obtain ⟨qs, a, b, c⟩ := h
  exact ⟨qs, a, b, fun q hq => hN q (c q hq)⟩
theorem RecRow.grown {N : QRe → Prop} {w w' : World} {B : Nat} {T : TypeId} {V : Value} {rs : List PRec} (h : RecRow N w B T V rs) (hg : w.grownBy w' none) : RecRow N w' B T V rs := by
  obtain ⟨qs, a, b, c⟩ := h
  exact ⟨qs, own_gr0 a hg, b, c⟩
theorem NO.grown {w w' : World} {q : QRe} (h : NO w q) (hg : w.grownBy w' none) : NO w' q := nest_step h hg (fun g e => by cases e)
theorem RecRow.growO {w w' : World} {B : Nat} {T : TypeId} {V : Value} {rs : List PRec} (h : RecRow (NO w) w B T V rs) (hg : w.grownBy w' none) : RecRow (NO w') w' B T V rs := (h.grown hg).mono fun q hq => hq.grown hg
theorem RecRow.app {N : QRe → Prop} {w' : World} {B : Nat} {T : TypeId} {V' : Value} {rs : List PRec} {qs : List QRe} (h : qs.map QRe.p = rs) (hn : ∀ q ∈ qs, N q) (q : QRe) (ho : w'.ownsRow B T 15 V' (rs.length + 1) (qs.flatMap rqC ++ rqC q)) (hq : N q) : RecRow N w' B T V' (rs ++ [q.p]) :=
  ⟨qs ++ [q], by rw [List.length_append, List.flatMap_append]; simpa using ho, by rw [List.map_append, h]; rfl, fun x hx => by
    rcases List.mem_append.1 hx with hx | hx
    · exact hn x hx
    · rw [List.mem_singleton] at hx; subst hx; exact hq⟩
theorem RecRow.read {w : World} {B : Nat} {T : TypeId} {V : Value} {rs : List PRec} (h : RecRow (NN w) w B T V rs) : Arr ReE 15 w V rs := by
  obtain ⟨qs, a, b, c⟩ := h
  have hl : qs.length = rs.length := by rw [← b, List.length_map]
  rw [← hl] at a
  obtain ⟨A, c0, e, hm, hh⟩ := (TArr.own a (fun _ => rfl)).1
  refine ⟨A, c0, by rw [e, hl], by rw [← hl]; exact hm, fun h0 => ?_⟩
  obtain ⟨ad, h1, h2, h3⟩ := hh (by omega)
  refine ⟨ad, h1, h2, fun j x hx => ?_⟩
  rw [← b, List.getElem?_map, Option.map_eq_some_iff] at hx
  obtain ⟨q, hq, rfl⟩ := hx
  obtain ⟨cs', g1, g2, g3⟩ := h3 j q hq
  have hm := c q (List.mem_of_getElem? hq)
  exact ⟨cs', ⟨q.A1, q.c1, q.A2, q.c2, g1, hm.1, hm.2⟩, g2, g3⟩
theorem NO.nn {w : World} {q : QRe} (h : NO w q) : NN w q := ⟨h.1.1, h.2.1⟩
theorem NO.zero {w : World} {r : PRec} (h1 : r.items = []) (h2 : r.nodes = []) : NO w ⟨r, none, 0, none, 0⟩ := by
  show NestO w none 0 r.items none 0 r.nodes
  rw [h1, h2]
  exact ⟨⟨Arr.nil0, fun a n c e => by cases e⟩, ⟨Arr.nil0, fun a n c e => by cases e⟩⟩
theorem plR_len (ps : List PPl) (k : Nat) : (plR ps k).length ≤ k := by
  induction k with
  | zero => simp [plR]
  | succ k ih =>
    unfold plR
    rw [List.length_append]
    split
    · split <;> simp <;> omega
    · simp; omega
theorem headR_len (s : PSt) : (headR s).length ≤ 2 := by unfold headR; split <;> simp
theorem cmR_len (l : List PCm) : (l.flatMap cmR).length ≤ 2 * l.length := by
  induction l with
  | nil => simp
  | cons x l ih =>
    rw [List.flatMap_cons, List.length_append, List.length_cons]
    have : (cmR x).length ≤ 2 := by unfold cmR; split <;> simp
    omega
theorem qs_take {l : List QPr} {ps : List PPr} (h : l.map QPr.p = ps) {k : Nat} {x : QPr} (hx : l[k]? = some x) : ps.take (k + 1) = ps.take k ++ [x.p] := by
  rw [List.take_add_one, ← h, List.getElem?_map, hx]; rfl
theorem cs_take {l : List QCm} {ps : List PCm} (h : l.map QCm.p = ps) {k : Nat} {x : QCm} (hx : l[k]? = some x) : ps.take (k + 1) = ps.take k ++ [x.p] := by
  rw [List.take_add_one, ← h, List.getElem?_map, hx]; rfl
/-- What answers with records. -/
def RecPost (w : World) (rs : List PRec) (e : Ending) (w' : World) : Prop := ∃ v, e = .returned v ∧ w.grownBy w' none ∧ Arr ReE 15 w' v rs
theorem infoRa : (Try.prog.info? 43).map (fun i => (i.zero, i.size, i.bytes)) = some (some (.agg #[.int .i64 0, .int .i64 0, .int .i64 0, .int .i64 0, .slice none 0 0, .slice none 0 0, .int .i64 0, .int .i64 0, .int .i64 0, .int .i64 0, .int .i64 0, .int .i64 0, .int .i64 0, .int .i64 0, .bool false]), 15, 152) := by kernel_rfl
set_option maxHeartbeats 25600000 in
theorem recsa_c (w : World) (s : PSt) (vP vQ vD vC : Value) (h : StR w s vP vQ vD vC) (hi : SInv s) :
    Calls Try.prog 20 #[.agg (stCells s vP vQ vD vC)] w (RecPost w (recsS s)) := by
  obtain ⟨qs, cs, hq⟩ := h.toQ
  obtain ⟨A1, c1, rfl⟩ := hq.pl.len
  obtain ⟨A2, c2, rfl⟩ := hq.pr.len
  obtain ⟨A3, c3, rfl⟩ := hq.de.len
  obtain ⟨A4, c4, rfl⟩ := hq.cm.len
  have HQ := As.mk hq
  have HQ2 := As.mk (show qs.length = s.prepared.length by rw [← hq.qp, List.length_map])
  have HQ4 := As.mk (show cs.length = s.commits.length by rw [← hq.cp, List.length_map])
  have HN := As.mk (show s.places.length ≤ 16 ∧ qs.length ≤ 512 ∧ s.decided.length ≤ 512 ∧ cs.length ≤ 512 from by
    have := hi.cells.2.2; have := hi.tb; have := hi.cm; have := HQ2.out; have := HQ4.out
    exact ⟨by omega, by omega, by omega, by omega⟩)
  have HEP := As.mk hi.epoch
  have HLP := As.mk (fun p (hp : p ∈ s.prepared) => (hi.pr p hp).len)
  have HLC := As.mk (fun p (hp : p ∈ s.commits) => (hi.cmo p hp).len)
  obtain ⟨iR, hR1, hR2, hR3, hR4⟩ := info_parts infoRa
  have HIR := As.mk (And.intro hR1 (And.intro hR2 (And.intro hR3 hR4)))
  have HB := As.mk (Blk.new w 32 #[.int .i64 s.node, .int .i64 s.nodes, .int .i64 s.cells, .int .i64 s.epoch, .slice A1 s.places.length c1, .slice A2 qs.length c2, .slice A3 s.decided.length c3, .slice A4 cs.length c4])
  have HG := As.mk (gr_alloc (gr_refl w none) (.cells #[.int .i64 s.node, .int .i64 s.nodes, .int .i64 s.cells, .int .i64 s.epoch, .slice A1 s.places.length c1, .slice A2 qs.length c2, .slice A3 s.decided.length c3, .slice A4 cs.length c4] 32))
  clear hR1 hR2 hR3 hR4 h hq hi
  unfold stCells
  go_enter Try.func20, Try.ntmps20
  obtain ⟨q0, q1, q2, q3, q4, q5, q6, q7⟩ := (HB.out).c8
  go_upto_if 22 with fail
  clear q0 q1 q2 q3 q4 q5 q6 q7
  have HR0 := As.mk (show RecRow (NO ((w.alloc (.cells #[.int .i64 s.node, .int .i64 s.nodes, .int .i64 s.cells, .int .i64 s.epoch, .slice A1 s.places.length c1, .slice A2 qs.length c2, .slice A3 s.decided.length c3, .slice A4 cs.length c4] 32)).alloc (.cells #[.int .i64 1, .int .i64 0, .int .i64 0, .int .i64 0, .slice none 0 0, .slice none 0 0, .int .i64 s.node, .int .i64 s.nodes, .int .i64 s.cells, .int .i64 0, .int .i64 0, .int .i64 0, .int .i64 0, .int .i64 0, .bool false] 43))) ((w.alloc (.cells #[.int .i64 s.node, .int .i64 s.nodes, .int .i64 s.cells, .int .i64 s.epoch, .slice A1 s.places.length c1, .slice A2 qs.length c2, .slice A3 s.decided.length c3, .slice A4 cs.length c4] 32)).alloc (.cells #[.int .i64 1, .int .i64 0, .int .i64 0, .int .i64 0, .slice none 0 0, .slice none 0 0, .int .i64 s.node, .int .i64 s.nodes, .int .i64 s.cells, .int .i64 0, .int .i64 0, .int .i64 0, .int .i64 0, .int .i64 0, .bool false] 43)) w.heap.size 43 (.slice (some ⟨w.heap.size + 1, 0, none⟩) 1 1) [baseR s] from ⟨[(⟨baseR s, none, 0, none, 0⟩ : QRe)], by
    have := own_ofBlk (n := 1) (sz := 15) (xs := (reCells (baseR s) none 0 none 0).toList) (Blk.new2 w (.cells #[.int .i64 s.node, .int .i64 s.nodes, .int .i64 s.cells, .int .i64 s.epoch, .slice A1 s.places.length c1, .slice A2 qs.length c2, .slice A3 s.decided.length c3, .slice A4 cs.length c4] 32) 43 #[.int .i64 1, .int .i64 0, .int .i64 0, .int .i64 0, .slice none 0 0, .slice none 0 0, .int .i64 s.node, .int .i64 s.nodes, .int .i64 s.cells, .int .i64 0, .int .i64 0, .int .i64 0, .int .i64 0, .int .i64 0, .bool false]) rfl w.heap.size (by omega) (by omega)
    simpa [rqC] using this, rfl, fun q hq => by rw [List.mem_singleton] at hq; subst hq; exact NO.zero rfl rfl⟩)
  have HB1 := As.mk (HB.out.alloc (.cells #[.int .i64 1, .int .i64 0, .int .i64 0, .int .i64 0, .slice none 0 0, .slice none 0 0, .int .i64 s.node, .int .i64 s.nodes, .int .i64 s.cells, .int .i64 0, .int .i64 0, .int .i64 0, .int .i64 0, .int .i64 0, .bool false] 43))
  have HG1 := As.mk (gr_alloc HG.out (.cells #[.int .i64 1, .int .i64 0, .int .i64 0, .int .i64 0, .slice none 0 0, .slice none 0 0, .int .i64 s.node, .int .i64 s.nodes, .int .i64 s.cells, .int .i64 0, .int .i64 0, .int .i64 0, .int .i64 0, .int .i64 0, .bool false] 43))
  clear HB HG
  generalize ((w.alloc (.cells #[.int .i64 s.node, .int .i64 s.nodes, .int .i64 s.cells, .int .i64 s.epoch, .slice A1 s.places.length c1, .slice A2 qs.length c2, .slice A3 s.decided.length c3, .slice A4 cs.length c4] 32)).alloc (.cells #[.int .i64 1, .int .i64 0, .int .i64 0, .int .i64 0, .slice none 0 0, .slice none 0 0, .int .i64 s.node, .int .i64 s.nodes, .int .i64 s.cells, .int .i64 0, .int .i64 0, .int .i64 0, .int .i64 0, .int .i64 0, .bool false] 43)) = W at *
  go_cut [3] (fun v wx => As (RecRow (NO wx) wx w.heap.size 43 v (headR s) ∧ Blk wx w.heap.size 32 #[.int .i64 s.node, .int .i64 s.nodes, .int .i64 s.cells, .int .i64 s.epoch, .slice A1 s.places.length c1, .slice A2 qs.length c2, .slice A3 s.decided.length c3, .slice A4 cs.length c4] ∧ w.grownBy wx none))
  case first =>
    by_cases hep : 0 < s.epoch
    · have HH := As.mk (show headR s = [baseR s] ++ [epR s] by unfold headR; rw [if_pos hep]; rfl)
      skip
      obtain ⟨rs, ho, hm, hn⟩ := HR0.out
      have hga := gr_alloc (gr_refl W none) (.cells #[.int .i64 2, .int .i64 0, .int .i64 0, .int .i64 0, .slice none 0 0, .slice none 0 0, .int .i64 0, .int .i64 0, .int .i64 s.epoch, .int .i64 0, .int .i64 0, .int .i64 0, .int .i64 0, .int .i64 0, .bool false] 43)
      have HG2 := As.mk (gr_then HG1.out hga (.inl rfl))
      have HB2 := As.mk (HB1.out.grown hga (by simp))
      have HO2 := As.mk (own_gr0 ho hga)
      have HBS := As.mk (Blk.new W 43 #[.int .i64 2, .int .i64 0, .int .i64 0, .int .i64 0, .slice none 0 0, .slice none 0 0, .int .i64 0, .int .i64 0, .int .i64 s.epoch, .int .i64 0, .int .i64 0, .int .i64 0, .int .i64 0, .int .i64 0, .bool false])
      have HRM := As.mk hm
      have HRN := As.mk hn
      have HWA := As.mk hga
      clear hga ho hm hn
      obtain ⟨q0, q1, q2, q3, q4, q5, q6, q7⟩ := (HB1.out).c8
      go_wp2_with (at_builtin; refine wpList_app1 (by rfl) _ _ _ (by rfl) w.heap.size 43 iR _ 15 152 Try.underlying24 HIR.out.1 HIR.out.2.1 HIR.out.2.2.1 HIR.out.2.2.2 rfl (by omega) (by omega) _ _ _ (by rfl) HO2.out W.heap.size (by rfl) _ HBS.out rfl (by simp [Value.oneCell']) (by simp) HG2.out.size ?_; intro v' w' ho hg' hv'; have HO3 := As.mk ho; have HW3 := As.mk hg'; clear ho hg' hv')
      have HG3 := As.mk (gr_then HG2.out HW3.out (.inr (.inr (own_lo HO2.out))))
      have HB3 := As.mk (HB2.out.grown HW3.out (own_ne HB2.out HO2.out (by decide)))
      go_meet
      case rel =>
        refine ⟨?_, HB3.out, HG3.out⟩
        rw [HH.out]
        exact RecRow.app HRM.out (fun q hq => nest_step (nest_step (HRN.out q hq) HWA.out (fun g e => by cases e)) HW3.out (fun g e cs => ⟨own_typed HO2.out (by decide) g e cs, own_typed HO2.out (by decide) g e cs⟩)) (⟨epR s, none, 0, none, 0⟩ : QRe) HO3.out (show NO w' (⟨epR s, none, 0, none, 0⟩ : QRe) from NO.zero rfl rfl)
    · have HH := As.mk (show headR s = [baseR s] by unfold headR; rw [if_neg hep])
      skip
      skip
      go_wp2_with fail
      go_meet
      case rel => exact ⟨by rw [HH.out]; exact HR0.out, HB1.out, HG1.out⟩
  case rest =>
    have HX := hcut.out
    clear HR0 HB1 HG1
    have HR := As.mk HX.1
    have HB := As.mk HX.2.1
    have HG := As.mk HX.2.2
    clear HX hcut
    have hzz : plR s.places 0 = [] := rfl
    replace HR := As.mk (show RecRow _ _ _ _ _ (headR s ++ plR s.places 0) by rw [hzz, List.append_nil]; exact HR.out)
    clear hzz
    obtain ⟨q0, q1, q2, q3, q4, q5, q6, q7⟩ := (HB.out).c8
    go_wp2_with fail
    clear q0 q1 q2 q3 q4 q5 q6 q7
    go_loopw [3, 32] (fun v i wr => ∃ k : Nat, k ≤ s.places.length ∧ i = .int .i64 k ∧ As (RecRow (NO wr) wr w.heap.size 43 v (headR s ++ plR s.places k) ∧ Blk wr w.heap.size 32 #[.int .i64 s.node, .int .i64 s.nodes, .int .i64 s.cells, .int .i64 s.epoch, .slice A1 s.places.length c1, .slice A2 qs.length c2, .slice A3 s.decided.length c3, .slice A4 cs.length c4] ∧ w.grownBy wr none)) (fun _ i _ => s.places.length - (intOf i).toNat)
    case atStart => exact ⟨0, Nat.zero_le _, rfl, ⟨HR.out, HB.out, HG.out⟩⟩
    case round =>
      obtain ⟨k, hk, rfl, HX⟩ := hrel
      clear HR HB HG
      obtain ⟨HR, HB, HG⟩ := HX.out
      clear HX
      replace HR := As.mk HR
      replace HB := As.mk HB
      replace HG := As.mk HG
      by_cases hlt : k < s.places.length
      · have hltI : (k : Int) < (s.places.length : Int) := by omega
        have hk0 : (0 : Int) ≤ (k : Int) := by omega
        obtain ⟨x, hx⟩ : ∃ x, s.places[k]? = some x := ⟨_, List.getElem?_eq_getElem hlt⟩
        obtain ⟨b, off, ds, rfl, rfl, _, hcs⟩ := HQ.out.pl.at_ k x hx
        have hle := HQ.out.pl.cap
        have hle2 := HQ.out.pl.le
        have HXK := As.mk hx
        have e0 := HG.out.cell (hcs 0 _ rfl) (by simp)
        have e1 := HG.out.cell (hcs 1 _ rfl) (by simp)
        have e2 := HG.out.cell (hcs 2 _ rfl) (by simp)
        have e3 := HG.out.cell (hcs 3 _ rfl) (by simp)
        have e4 := HG.out.cell (hcs 4 _ rfl) (by simp)
        simp only [Nat.add_zero] at e0
        clear hcs hx
        have hlb : (headR s ++ plR s.places k).length ≤ 100000 := by
          have h1 := headR_len s
          have h2 := plR_len s.places k
          have h3 := cmR_len (s.commits.take k)
          have h4 := HN.out
          have h5 := HQ2.out
          have h6 := HQ4.out
          simp only [List.length_append, List.length_map, List.length_take] at h3 ⊢
          omega
        have HXB := As.mk (Blk.new wr 62 #[.int .i64 x.st, .int .i64 x.hop, .int .i64 x.to_, .int .i64 x.ver, .int .i64 x.val])
        have hga := gr_alloc (gr_refl wr none) (.cells #[.int .i64 x.st, .int .i64 x.hop, .int .i64 x.to_, .int .i64 x.ver, .int .i64 x.val] 62)
        have HG1 := As.mk (gr_then HG.out hga (.inl rfl))
        have HB1 := As.mk (HB.out.grown hga (by simp))
        have HWE := As.mk hga
        clear hga
        have HPK := As.mk (show plR s.places (k + 1) = plR s.places k ++ (if isZ x = true then [] else [cellR (k : Int) x]) by show plR s.places k ++ _ = _; rw [HXK.out])
        rcases bool_cases (isZ x) with hz | hz
        · have HPZ := As.mk (show headR s ++ plR s.places (k + 1) = (headR s ++ plR s.places k) ++ [cellR (k : Int) x] by rw [HPK.out, if_neg (by rw [hz]; decide), List.append_assoc])
          obtain ⟨rs, ho, hm, hn⟩ := HR.out
          have hga := gr_alloc HWE.out (.cells #[.int .i64 3, .int .i64 0, .int .i64 0, .int .i64 0, .slice none 0 0, .slice none 0 0, .int .i64 x.to_, .int .i64 0, .int .i64 0, .int .i64 (k : Int), .int .i64 x.st, .int .i64 x.hop, .int .i64 x.ver, .int .i64 x.val, .bool false] 43)
          have HG2 := As.mk (gr_then HG.out hga (.inl rfl))
          have HB2 := As.mk (HB.out.grown hga (by simp))
          have HO2 := As.mk (own_gr0 ho hga)
          have HBS := As.mk (show Blk _ (wr.heap.size + 1) 43 #[.int .i64 3, .int .i64 0, .int .i64 0, .int .i64 0, .slice none 0 0, .slice none 0 0, .int .i64 x.to_, .int .i64 0, .int .i64 0, .int .i64 (k : Int), .int .i64 x.st, .int .i64 x.hop, .int .i64 x.ver, .int .i64 x.val, .bool false] from Blk.new2 wr (.cells #[.int .i64 x.st, .int .i64 x.hop, .int .i64 x.to_, .int .i64 x.ver, .int .i64 x.val] 62) 43 #[.int .i64 3, .int .i64 0, .int .i64 0, .int .i64 0, .slice none 0 0, .slice none 0 0, .int .i64 x.to_, .int .i64 0, .int .i64 0, .int .i64 (k : Int), .int .i64 x.st, .int .i64 x.hop, .int .i64 x.ver, .int .i64 x.val, .bool false])
          have HRM := As.mk hm
          have HRN := As.mk hn
          have HWA := As.mk hga
          clear hga ho hm hn
          rcases bool_cases (x.st == 0) with z0 | z0
          · have y0 : (x.st != 0) = true := by simp [bne, z0]
            go_wp2_with (at_builtin; refine wpList_app1 (by rfl) _ _ _ (by rfl) w.heap.size 43 iR _ 15 152 Try.underlying24 HIR.out.1 HIR.out.2.1 HIR.out.2.2.1 HIR.out.2.2.2 rfl (by omega) (by omega) _ _ _ (by rfl) HO2.out (wr.heap.size + 1) (by rfl) _ HBS.out rfl (by simp [Value.oneCell']) (by omega) HG2.out.size ?_; intro v' w' ho hg' hv'; have HO3 := As.mk ho; have HW3 := As.mk hg'; clear ho hg' hv')
            have HG3 := As.mk (gr_then HG2.out HW3.out (.inr (.inr (own_lo HO2.out))))
            have HB3 := As.mk (HB2.out.grown HW3.out (own_ne HB2.out HO2.out (by decide)))
            clear e0 e1 e2 e3 e4
            skip
            go_roundw
            case measure => simp [intOf]; omega
            case rel =>
              refine ⟨k + 1, by omega, by go_num, ⟨?_, HB3.out, HG3.out⟩⟩
              rw [HPZ.out]
              exact RecRow.app HRM.out (fun q hq => nest_step (nest_step (HRN.out q hq) HWA.out (fun g e => by cases e)) HW3.out (fun g e cs => ⟨own_typed HO2.out (by decide) g e cs, own_typed HO2.out (by decide) g e cs⟩)) (⟨cellR (k : Int) x, none, 0, none, 0⟩ : QRe) HO3.out (show NO w' (⟨cellR (k : Int) x, none, 0, none, 0⟩ : QRe) from NO.zero rfl rfl)
          · rcases bool_cases (x.hop == 0) with z1 | z1
            · have y0 : (x.st != 0) = false := by simp [bne, z0]
              have y1 : (x.hop != 0) = true := by simp [bne, z1]
              go_wp2_with (at_builtin; refine wpList_app1 (by rfl) _ _ _ (by rfl) w.heap.size 43 iR _ 15 152 Try.underlying24 HIR.out.1 HIR.out.2.1 HIR.out.2.2.1 HIR.out.2.2.2 rfl (by omega) (by omega) _ _ _ (by rfl) HO2.out (wr.heap.size + 1) (by rfl) _ HBS.out rfl (by simp [Value.oneCell']) (by omega) HG2.out.size ?_; intro v' w' ho hg' hv'; have HO3 := As.mk ho; have HW3 := As.mk hg'; clear ho hg' hv')
              have HG3 := As.mk (gr_then HG2.out HW3.out (.inr (.inr (own_lo HO2.out))))
              have HB3 := As.mk (HB2.out.grown HW3.out (own_ne HB2.out HO2.out (by decide)))
              clear e0 e1 e2 e3 e4
              skip
              go_roundw
              case measure => simp [intOf]; omega
              case rel =>
                refine ⟨k + 1, by omega, by go_num, ⟨?_, HB3.out, HG3.out⟩⟩
                rw [HPZ.out]
                exact RecRow.app HRM.out (fun q hq => nest_step (nest_step (HRN.out q hq) HWA.out (fun g e => by cases e)) HW3.out (fun g e cs => ⟨own_typed HO2.out (by decide) g e cs, own_typed HO2.out (by decide) g e cs⟩)) (⟨cellR (k : Int) x, none, 0, none, 0⟩ : QRe) HO3.out (show NO w' (⟨cellR (k : Int) x, none, 0, none, 0⟩ : QRe) from NO.zero rfl rfl)
            · rcases bool_cases (x.to_ == 0) with z2 | z2
              · have y0 : (x.st != 0) = false := by simp [bne, z0]
                have y1 : (x.hop != 0) = false := by simp [bne, z1]
                have y2 : (x.to_ != 0) = true := by simp [bne, z2]
                go_wp2_with (at_builtin; refine wpList_app1 (by rfl) _ _ _ (by rfl) w.heap.size 43 iR _ 15 152 Try.underlying24 HIR.out.1 HIR.out.2.1 HIR.out.2.2.1 HIR.out.2.2.2 rfl (by omega) (by omega) _ _ _ (by rfl) HO2.out (wr.heap.size + 1) (by rfl) _ HBS.out rfl (by simp [Value.oneCell']) (by omega) HG2.out.size ?_; intro v' w' ho hg' hv'; have HO3 := As.mk ho; have HW3 := As.mk hg'; clear ho hg' hv')
                have HG3 := As.mk (gr_then HG2.out HW3.out (.inr (.inr (own_lo HO2.out))))
                have HB3 := As.mk (HB2.out.grown HW3.out (own_ne HB2.out HO2.out (by decide)))
                clear e0 e1 e2 e3 e4
                skip
                go_roundw
                case measure => simp [intOf]; omega
                case rel =>
                  refine ⟨k + 1, by omega, by go_num, ⟨?_, HB3.out, HG3.out⟩⟩
                  rw [HPZ.out]
                  exact RecRow.app HRM.out (fun q hq => nest_step (nest_step (HRN.out q hq) HWA.out (fun g e => by cases e)) HW3.out (fun g e cs => ⟨own_typed HO2.out (by decide) g e cs, own_typed HO2.out (by decide) g e cs⟩)) (⟨cellR (k : Int) x, none, 0, none, 0⟩ : QRe) HO3.out (show NO w' (⟨cellR (k : Int) x, none, 0, none, 0⟩ : QRe) from NO.zero rfl rfl)
              · rcases bool_cases (x.ver == 0) with z3 | z3
                · have y0 : (x.st != 0) = false := by simp [bne, z0]
                  have y1 : (x.hop != 0) = false := by simp [bne, z1]
                  have y2 : (x.to_ != 0) = false := by simp [bne, z2]
                  have y3 : (x.ver != 0) = true := by simp [bne, z3]
                  go_wp2_with (at_builtin; refine wpList_app1 (by rfl) _ _ _ (by rfl) w.heap.size 43 iR _ 15 152 Try.underlying24 HIR.out.1 HIR.out.2.1 HIR.out.2.2.1 HIR.out.2.2.2 rfl (by omega) (by omega) _ _ _ (by rfl) HO2.out (wr.heap.size + 1) (by rfl) _ HBS.out rfl (by simp [Value.oneCell']) (by omega) HG2.out.size ?_; intro v' w' ho hg' hv'; have HO3 := As.mk ho; have HW3 := As.mk hg'; clear ho hg' hv')
                  have HG3 := As.mk (gr_then HG2.out HW3.out (.inr (.inr (own_lo HO2.out))))
                  have HB3 := As.mk (HB2.out.grown HW3.out (own_ne HB2.out HO2.out (by decide)))
                  clear e0 e1 e2 e3 e4
                  skip
                  go_roundw
                  case measure => simp [intOf]; omega
                  case rel =>
                    refine ⟨k + 1, by omega, by go_num, ⟨?_, HB3.out, HG3.out⟩⟩
                    rw [HPZ.out]
                    exact RecRow.app HRM.out (fun q hq => nest_step (nest_step (HRN.out q hq) HWA.out (fun g e => by cases e)) HW3.out (fun g e cs => ⟨own_typed HO2.out (by decide) g e cs, own_typed HO2.out (by decide) g e cs⟩)) (⟨cellR (k : Int) x, none, 0, none, 0⟩ : QRe) HO3.out (show NO w' (⟨cellR (k : Int) x, none, 0, none, 0⟩ : QRe) from NO.zero rfl rfl)
                · rcases bool_cases (x.val == 0) with z4 | z4
                  · have y0 : (x.st != 0) = false := by simp [bne, z0]
                    have y1 : (x.hop != 0) = false := by simp [bne, z1]
                    have y2 : (x.to_ != 0) = false := by simp [bne, z2]
                    have y3 : (x.ver != 0) = false := by simp [bne, z3]
                    have y4 : (x.val != 0) = true := by simp [bne, z4]
                    go_wp2_with (at_builtin; refine wpList_app1 (by rfl) _ _ _ (by rfl) w.heap.size 43 iR _ 15 152 Try.underlying24 HIR.out.1 HIR.out.2.1 HIR.out.2.2.1 HIR.out.2.2.2 rfl (by omega) (by omega) _ _ _ (by rfl) HO2.out (wr.heap.size + 1) (by rfl) _ HBS.out rfl (by simp [Value.oneCell']) (by omega) HG2.out.size ?_; intro v' w' ho hg' hv'; have HO3 := As.mk ho; have HW3 := As.mk hg'; clear ho hg' hv')
                    have HG3 := As.mk (gr_then HG2.out HW3.out (.inr (.inr (own_lo HO2.out))))
                    have HB3 := As.mk (HB2.out.grown HW3.out (own_ne HB2.out HO2.out (by decide)))
                    clear e0 e1 e2 e3 e4
                    skip
                    go_roundw
                    case measure => simp [intOf]; omega
                    case rel =>
                      refine ⟨k + 1, by omega, by go_num, ⟨?_, HB3.out, HG3.out⟩⟩
                      rw [HPZ.out]
                      exact RecRow.app HRM.out (fun q hq => nest_step (nest_step (HRN.out q hq) HWA.out (fun g e => by cases e)) HW3.out (fun g e cs => ⟨own_typed HO2.out (by decide) g e cs, own_typed HO2.out (by decide) g e cs⟩)) (⟨cellR (k : Int) x, none, 0, none, 0⟩ : QRe) HO3.out (show NO w' (⟨cellR (k : Int) x, none, 0, none, 0⟩ : QRe) from NO.zero rfl rfl)
                  · exact absurd (show isZ x = true by unfold isZ; rw [z0, z1, z2, z3, z4]; rfl) (by rw [hz]; decide)
        · have hxz := (isZ_iff x).1 hz
          have HPZ := As.mk (show plR s.places (k + 1) = plR s.places k by rw [HPK.out, if_pos hz, List.append_nil])
          subst hxz
          clear hz
          have f0 : wr.cell? ⟨b, off + k * 5, none⟩ = some (.int .i64 0) := e0
          have f1 : wr.cell? ⟨b, off + k * 5 + 1, none⟩ = some (.int .i64 0) := e1
          have f2 : wr.cell? ⟨b, off + k * 5 + 2, none⟩ = some (.int .i64 0) := e2
          have f3 : wr.cell? ⟨b, off + k * 5 + 3, none⟩ = some (.int .i64 0) := e3
          have f4 : wr.cell? ⟨b, off + k * 5 + 4, none⟩ = some (.int .i64 0) := e4
          clear e0 e1 e2 e3 e4
          go_wp2_with fail
          go_roundw
          case measure => simp [intOf]; omega
          case rel => exact ⟨k + 1, by omega, by go_num, ⟨by rw [HPZ.out]; exact HR.out.growO HWE.out, HB1.out, HG1.out⟩⟩
      · obtain rfl : k = s.places.length := by omega
        clear hlt hk
        replace HR := As.mk (show RecRow _ _ _ _ _ (headR s ++ plR s.places s.places.length ++ (s.decided.take 0).map pastR) by simpa using HR.out)
        obtain ⟨q0, q1, q2, q3, q4, q5, q6, q7⟩ := (HB.out).c8
        go_wp2_with fail
        clear q0 q1 q2 q3 q4 q5 q6 q7
        go_loopw [3, 59] (fun v i wr => ∃ k : Nat, k ≤ s.decided.length ∧ i = .int .i64 k ∧ As (RecRow (NO wr) wr w.heap.size 43 v (headR s ++ plR s.places s.places.length ++ (s.decided.take k).map pastR) ∧ Blk wr w.heap.size 32 #[.int .i64 s.node, .int .i64 s.nodes, .int .i64 s.cells, .int .i64 s.epoch, .slice A1 s.places.length c1, .slice A2 qs.length c2, .slice A3 s.decided.length c3, .slice A4 cs.length c4] ∧ w.grownBy wr none)) (fun _ i _ => s.decided.length - (intOf i).toNat)
        case atStart => exact ⟨0, Nat.zero_le _, rfl, ⟨HR.out, HB.out, HG.out⟩⟩
        case round =>
          obtain ⟨k, hk, rfl, HX⟩ := hrel
          clear HR HB HG
          obtain ⟨HR, HB, HG⟩ := HX.out
          clear HX
          replace HR := As.mk HR
          replace HB := As.mk HB
          replace HG := As.mk HG
          by_cases hlt : k < s.decided.length
          · have hltI : (k : Int) < (s.decided.length : Int) := by omega
            have hk0 : (0 : Int) ≤ (k : Int) := by omega
            obtain ⟨x, hx⟩ : ∃ x, s.decided[k]? = some x := ⟨_, List.getElem?_eq_getElem hlt⟩
            obtain ⟨b, off, ds, rfl, rfl, _, hcs⟩ := HQ.out.de.at_ k x hx
            have hle := HQ.out.de.cap
            have hle2 := HQ.out.de.le
            have HXK := As.mk hx
            have e0 := HG.out.cell (hcs 0 _ rfl) (by simp)
            have e1 := HG.out.cell (hcs 1 _ rfl) (by simp)
            have e2 := HG.out.cell (hcs 2 _ rfl) (by simp)
            have e3 := HG.out.cell (hcs 3 _ rfl) (by simp)
            simp only [Nat.add_zero] at e0
            clear hcs hx
            have hlb : (headR s ++ plR s.places s.places.length ++ (s.decided.take k).map pastR).length ≤ 100000 := by
              have h1 := headR_len s
              have h2 := plR_len s.places s.places.length
              have h3 := cmR_len (s.commits.take k)
              have h4 := HN.out
              have h5 := HQ2.out
              have h6 := HQ4.out
              simp only [List.length_append, List.length_map, List.length_take] at h3 ⊢
              omega
            have HPZ := As.mk (show (headR s ++ plR s.places s.places.length ++ (s.decided.take (k + 1)).map pastR) = (headR s ++ plR s.places s.places.length ++ (s.decided.take k).map pastR) ++ [pastR x] by rw [List.take_add_one, HXK.out, List.map_append, ← List.append_assoc]; rfl)
            obtain ⟨rs, ho, hm, hn⟩ := HR.out
            have HRM := As.mk hm
            have HRN := As.mk hn
            have hga := gr_alloc (gr_alloc (gr_refl wr none) (.cells #[.int .i64 x.tid.n, .int .i64 x.tid.e, .int .i64 x.tid.s, .bool x.yes] 55)) (.cells #[.int .i64 11, .int .i64 x.tid.n, .int .i64 x.tid.e, .int .i64 x.tid.s, .slice none 0 0, .slice none 0 0, .int .i64 0, .int .i64 0, .int .i64 0, .int .i64 0, .int .i64 0, .int .i64 0, .int .i64 0, .int .i64 0, .bool x.yes] 43)
            have HG2 := As.mk (gr_then HG.out hga (.inl rfl))
            have HB2 := As.mk (HB.out.grown hga (by simp))
            have HO2 := As.mk (own_gr0 ho hga)
            have HBS := As.mk (show Blk _ (wr.heap.size + 1) 43 #[.int .i64 11, .int .i64 x.tid.n, .int .i64 x.tid.e, .int .i64 x.tid.s, .slice none 0 0, .slice none 0 0, .int .i64 0, .int .i64 0, .int .i64 0, .int .i64 0, .int .i64 0, .int .i64 0, .int .i64 0, .int .i64 0, .bool x.yes] from Blk.new2 wr (.cells #[.int .i64 x.tid.n, .int .i64 x.tid.e, .int .i64 x.tid.s, .bool x.yes] 55) 43 #[.int .i64 11, .int .i64 x.tid.n, .int .i64 x.tid.e, .int .i64 x.tid.s, .slice none 0 0, .slice none 0 0, .int .i64 0, .int .i64 0, .int .i64 0, .int .i64 0, .int .i64 0, .int .i64 0, .int .i64 0, .int .i64 0, .bool x.yes])
            have HWA := As.mk hga
            clear hga ho hm hn
            go_wp2_with (at_builtin; refine wpList_app1 (by rfl) _ _ _ (by rfl) w.heap.size 43 iR _ 15 152 Try.underlying24 HIR.out.1 HIR.out.2.1 HIR.out.2.2.1 HIR.out.2.2.2 rfl (by omega) (by omega) _ _ _ (by rfl) HO2.out (wr.heap.size + 1) (by rfl) _ HBS.out rfl (by simp [Value.oneCell']) (by omega) HG2.out.size ?_; intro v' w' ho hg' hv'; have HO3 := As.mk ho; have HW3 := As.mk hg'; clear ho hg' hv')
            have HG3 := As.mk (gr_then HG2.out HW3.out (.inr (.inr (own_lo HO2.out))))
            have HB3 := As.mk (HB2.out.grown HW3.out (own_ne HB2.out HO2.out (by decide)))
            clear e0 e1 e2 e3
            go_roundw
            case measure => simp [intOf]; omega
            case rel =>
              refine ⟨k + 1, by omega, by go_num, ⟨?_, HB3.out, HG3.out⟩⟩
              rw [HPZ.out]
              exact RecRow.app HRM.out (fun q hq => nest_step (nest_step (HRN.out q hq) HWA.out (fun g e => by cases e)) HW3.out (fun g e cs => ⟨own_typed HO2.out (by decide) g e cs, own_typed HO2.out (by decide) g e cs⟩)) (⟨pastR x, none, 0, none, 0⟩ : QRe) HO3.out (show NO w' (⟨pastR x, none, 0, none, 0⟩ : QRe) from NO.zero rfl rfl)
          · obtain rfl : k = s.decided.length := by omega
            replace HR := As.mk (show RecRow _ _ _ _ _ (headR s ++ plR s.places s.places.length ++ s.decided.map pastR) by have := HR.out; rw [List.take_length] at this; exact this)
            clear hlt hk
            replace HR := As.mk (show RecRow _ _ _ _ _ (headR s ++ plR s.places s.places.length ++ s.decided.map pastR ++ (s.prepared.take 0).map prepR) by simpa using HR.out)
            obtain ⟨q0, q1, q2, q3, q4, q5, q6, q7⟩ := (HB.out).c8
            go_wp2_with fail
            clear q0 q1 q2 q3 q4 q5 q6 q7
            go_loopw [3, 75] (fun v i wr => ∃ k : Nat, k ≤ qs.length ∧ i = .int .i64 k ∧ As (RecRow (NO wr) wr w.heap.size 43 v (headR s ++ plR s.places s.places.length ++ s.decided.map pastR ++ (s.prepared.take k).map prepR) ∧ Blk wr w.heap.size 32 #[.int .i64 s.node, .int .i64 s.nodes, .int .i64 s.cells, .int .i64 s.epoch, .slice A1 s.places.length c1, .slice A2 qs.length c2, .slice A3 s.decided.length c3, .slice A4 cs.length c4] ∧ w.grownBy wr none)) (fun _ i _ => qs.length - (intOf i).toNat)
            case atStart => exact ⟨0, Nat.zero_le _, rfl, ⟨HR.out, HB.out, HG.out⟩⟩
            case round =>
              obtain ⟨k, hk, rfl, HX⟩ := hrel
              clear HR HB HG
              obtain ⟨HR, HB, HG⟩ := HX.out
              clear HX
              replace HR := As.mk HR
              replace HB := As.mk HB
              replace HG := As.mk HG
              by_cases hlt : k < qs.length
              · have hltI : (k : Int) < (qs.length : Int) := by omega
                have hk0 : (0 : Int) ≤ (k : Int) := by omega
                obtain ⟨x, hx⟩ : ∃ x, qs[k]? = some x := ⟨_, List.getElem?_eq_getElem hlt⟩
                obtain ⟨b, off, ds, rfl, rfl, _, hcs⟩ := HQ.out.pr.at_ k x hx
                have hle := HQ.out.pr.cap
                have hle2 := HQ.out.pr.le
                have HXK := As.mk hx
                have e0 := HG.out.cell (hcs 0 _ rfl) (by simp)
                have e1 := HG.out.cell (hcs 1 _ rfl) (by simp)
                have e2 := HG.out.cell (hcs 2 _ rfl) (by simp)
                have e3 := HG.out.cell (hcs 3 _ rfl) (by simp)
                have e4 := HG.out.cell (hcs 4 _ rfl) (by simp)
                simp only [Nat.add_zero] at e0
                clear hcs hx
                have hlb : (headR s ++ plR s.places s.places.length ++ s.decided.map pastR ++ (s.prepared.take k).map prepR).length ≤ 100000 := by
                  have h1 := headR_len s
                  have h2 := plR_len s.places s.places.length
                  have h3 := cmR_len (s.commits.take k)
                  have h4 := HN.out
                  have h5 := HQ2.out
                  have h6 := HQ4.out
                  simp only [List.length_append, List.length_map, List.length_take] at h3 ⊢
                  omega
                have HPZ := As.mk (show (headR s ++ plR s.places s.places.length ++ s.decided.map pastR ++ (s.prepared.take (k + 1)).map prepR) = (headR s ++ plR s.places s.places.length ++ s.decided.map pastR ++ (s.prepared.take k).map prepR) ++ [prepR x.p] by rw [qs_take HQ.out.qp HXK.out, List.map_append, ← List.append_assoc]; rfl)
                have HLE := As.mk (show x.p.items.length ≤ 1000000 ∧ x.p.nodes.length ≤ 1000000 from by have := HLP.out x.p (by rw [← HQ.out.qp]; exact List.mem_map.2 ⟨x, List.mem_of_getElem? HXK.out, rfl⟩); omega)
                have HNI := As.mk (HQ.out.qi x (List.mem_of_getElem? HXK.out))
                have hga := gr_alloc (gr_refl wr none) (.cells #[.int .i64 x.p.tid.n, .int .i64 x.p.tid.e, .int .i64 x.p.tid.s, .slice x.A1 x.p.items.length x.c1, .slice x.A2 x.p.nodes.length x.c2] 60)
                have HG1 := As.mk (gr_then HG.out hga (.inl rfl))
                have HB1 := As.mk (HB.out.grown hga (by simp))
                have HP1 := As.mk (Blk.new wr 60 #[.int .i64 x.p.tid.n, .int .i64 x.p.tid.e, .int .i64 x.p.tid.s, .slice x.A1 x.p.items.length x.c1, .slice x.A2 x.p.nodes.length x.c2])
                have HR1 := As.mk (HR.out.growO hga)
                clear hga HR
                go_wp2_with fail
                clear e0 e1 e2 e3 e4
                generalize wr.alloc (.cells #[.int .i64 x.p.tid.n, .int .i64 x.p.tid.e, .int .i64 x.p.tid.s, .slice x.A1 x.p.items.length x.c1, .slice x.A2 x.p.nodes.length x.c2] 60) = WX at *
                generalize wr.heap.size = gx at *
                obtain ⟨rs, ho, hm, hn⟩ := HR1.out
                have HO := As.mk ho
                have HRM := As.mk hm
                have HRN := As.mk hn
                clear ho hm hn HR1
                refine wp_region_noPanic ?_
                refine wp_region_held_drew (S := fun w' => Blk w' gx 60 #[.int .i64 x.p.tid.n, .int .i64 x.p.tid.e, .int .i64 x.p.tid.s, .slice x.A1 x.p.items.length x.c1, .slice x.A2 x.p.nodes.length x.c2] ∧ True) (by kernel_rfl) (⟨HP1.out.drew, trivial⟩) (fun hS => ?_)
                refine wpAnyH_take (i := 0) (v := ?vpr1) rfl (by kernel_rfl) (by kernel_rfl) (by kernel_rfl) (fun _ _ _ h => h) (Or.inl ⟨by rfl, ?ypr1⟩) hS ?rpr1
                case ypr1 => (intro w0 _; go_simp; try with_reducible rfl)
                try simp only [yA, yB, yC, Act.put, yD, yE, yF]
                refine wpAnyH_take (i := 1) (v := ?vpr2) rfl (by kernel_rfl) (by kernel_rfl) (by kernel_rfl) (fun _ _ _ h => h) (Or.inl ⟨by rfl, ?ypr2⟩) hS ?rpr2
                case ypr2 => (intro w0 _; go_simp; try with_reducible rfl)
                try simp only [yA, yB, yC, Act.put, yD, yE, yF]
                refine wpAnyH_take (i := 2) (v := ?vpr3) rfl (by kernel_rfl) (by kernel_rfl) (by kernel_rfl) (fun _ _ _ h => h) (Or.inl ⟨by rfl, ?ypr3⟩) hS ?rpr3
                case ypr3 => (intro w0 hS0; (try simp only [] at hS0); obtain ⟨hS0_0, hS0_1⟩ := hS0; obtain ⟨q0_0, q0_1, q0_2, q0_3, q0_4⟩ := hS0_0.c5; go_simp; try with_reducible rfl)
                try simp only [yA, yB, yC, Act.put, yD, yE, yF]
                refine wpAnyH_take (i := 3) (v := ?vpr4) rfl (by kernel_rfl) (by kernel_rfl) (by kernel_rfl) (fun _ _ _ h => h) (Or.inl ⟨by rfl, ?ypr4⟩) hS ?rpr4
                case ypr4 => (intro w0 _; go_simp; try with_reducible rfl)
                try simp only [yA, yB, yC, Act.put, yD, yE, yF]
                refine wpAnyH_take (i := 4) (v := ?vpr5) rfl (by kernel_rfl) (by kernel_rfl) (by kernel_rfl) (fun _ _ _ h => h) (Or.inl ⟨by rfl, ?ypr5⟩) hS ?rpr5
                case ypr5 => (intro w0 hS0; (try simp only [] at hS0); obtain ⟨hS0_0, hS0_1⟩ := hS0; obtain ⟨q0_0, q0_1, q0_2, q0_3, q0_4⟩ := hS0_0.c5; go_simp; try with_reducible rfl)
                try simp only [yA, yB, yC, Act.put, yD, yE, yF]
                refine wpAnyH_take (i := 6) (v := ?vpr6) rfl (by kernel_rfl) (by kernel_rfl) (by kernel_rfl) (fun _ _ _ h => h) (Or.inl ⟨by rfl, ?ypr6⟩) hS ?rpr6
                case ypr6 => (intro w0 _; go_simp; try with_reducible rfl)
                try simp only [yA, yB, yC, Act.put, yD, yE, yF]
                refine wpAnyH_take (i := 7) (v := ?vpr7) rfl (by kernel_rfl) (by kernel_rfl) (by kernel_rfl) (fun _ _ _ h => h) (Or.inl ⟨by rfl, ?ypr7⟩) hS ?rpr7
                case ypr7 => (intro w0 hS0; (try simp only [] at hS0); obtain ⟨hS0_0, hS0_1⟩ := hS0; obtain ⟨q0_0, q0_1, q0_2, q0_3, q0_4⟩ := hS0_0.c5; go_simp; try with_reducible rfl)
                try simp only [yA, yB, yC, Act.put, yD, yE, yF]
                refine wpAnyH_ready (rs := [5]) (by kernel_rfl) (by simp) (AllReadyH.cons (i := 5) rfl (fun K hK => ?_) AllReadyH.nil)
                go_simp
                refine (clIt_c _ _ x.p.items (HNI.out.1.itG (gr_drew HG1.out)) HLE.out.1).mono ?_
                rintro e0 w1 ⟨Ai, ci, rfl, ho, hg1⟩
                have HV1 := As.mk (TArr.own (f := itC) ho (fun _ => rfl))
                have HH1 := As.mk (gr_then (gr_drew (gr_refl WX none)) hg1 (.inl rfl))
                clear hg1 ho
                go_simp
                refine hK.out _ _ (⟨HP1.out.grown HH1.out (by simp), trivial⟩) (fun hS => ?_)
                clear hK K
                try simp only [yA, yB, yC, Act.put, yD, yE, yF]
                refine wpAnyH_ready (rs := [8]) (by kernel_rfl) (by simp) (AllReadyH.cons (i := 8) rfl (fun K hK => ?_) AllReadyH.nil)
                go_simp
                refine (clIn_c _ _ x.p.nodes (HNI.out.2.inG (gr_then HG1.out HH1.out (.inl rfl))) HLE.out.2).mono ?_
                rintro e0 w2 ⟨An, cn, rfl, ho, hg1⟩
                have HV := As.mk (show NestO w2 Ai ci x.p.items An cn x.p.nodes from ⟨HV1.out.step hg1 (fun _ _ h => h) (fun g e => by cases e), TArr.own (f := inC) ho (fun _ => rfl)⟩)
                have HH2 := As.mk (gr_then HH1.out hg1 (.inl rfl))
                clear hg1 ho HV1
                go_simp
                refine hK.out _ _ (⟨HP1.out.grown HH2.out (by simp), trivial⟩) (fun hS => ?_)
                clear hK K
                try simp only [yA, yB, yC, Act.put, yD, yE, yF]
                refine wpAnyH_take (i := 9) (v := ?vpr10) rfl (by kernel_rfl) (by kernel_rfl) (by kernel_rfl) (fun _ _ _ h => h) (Or.inl ⟨by rfl, ?ypr10⟩) hS ?rpr10
                case ypr10 => (intro w0 _; go_simp; try with_reducible rfl)
                try simp only [yA, yB, yC, Act.put, yD, yE, yF]
                refine wpAnyH_ready (rs := [10]) (by kernel_rfl) (by simp) (AllReadyH.cons (i := 10) rfl (fun K hK => ?_) AllReadyH.nil)
                go_simp
                have hga := gr_alloc (gr_refl w2 none) (.cells #[.int .i64 4, .int .i64 x.p.tid.n, .int .i64 x.p.tid.e, .int .i64 x.p.tid.s, .slice Ai x.p.items.length ci, .slice An x.p.nodes.length cn, .int .i64 0, .int .i64 0, .int .i64 0, .int .i64 0, .int .i64 0, .int .i64 0, .int .i64 0, .int .i64 0, .bool false] 43)
                have HH3 := As.mk (gr_then HH2.out hga (.inl rfl))
                have HBS := As.mk (Blk.new w2 43 #[.int .i64 4, .int .i64 x.p.tid.n, .int .i64 x.p.tid.e, .int .i64 x.p.tid.s, .slice Ai x.p.items.length ci, .slice An x.p.nodes.length cn, .int .i64 0, .int .i64 0, .int .i64 0, .int .i64 0, .int .i64 0, .int .i64 0, .int .i64 0, .int .i64 0, .bool false])
                have HV3 := As.mk (nest_step HV.out hga (fun g e => by cases e))
                have HO2 := As.mk (own_gr0 HO.out HH3.out)
                have HG2 := As.mk (gr_then HG1.out HH3.out (.inl rfl))
                clear hga
                refine hK.out _ _ (⟨HP1.out.grown HH3.out (by simp), trivial⟩) (fun hS => ?_)
                clear hK K
                try simp only [yA, yB, yC, Act.put, yD, yE, yF]
                refine wpAnyH_ready (rs := [11]) (by kernel_rfl) (by simp) (AllReadyH.cons (i := 11) rfl (fun K hK => ?_) AllReadyH.nil)
                refine step_app1 rfl _ _ _ rfl w.heap.size 43 iR _ 15 152 Try.underlying24 HIR.out.1 HIR.out.2.1 HIR.out.2.2.1 HIR.out.2.2.2 rfl (by omega) (by omega) _ _ _ rfl HO2.out w2.heap.size rfl _ HBS.out rfl (by simp [Value.oneCell']) (by omega) HG2.out.size ?_
                intro v' w' ho hg' _
                have HO3 := As.mk ho
                have HW3 := As.mk hg'
                have HP3 := As.mk ((HP1.out.grown HH3.out (by simp)).grown hg' (own_ne (HP1.out.grown HH3.out (by simp)) HO2.out (by decide)))
                have HG3 := As.mk (gr_then HG2.out hg' (.inr (.inr (own_lo HO2.out))))
                have HB3 := As.mk ((HB1.out.grown HH3.out (by simp)).grown hg' (own_ne (HB1.out.grown HH3.out (by simp)) HO2.out (by decide)))
                clear ho hg'
                refine hK.out _ _ (⟨HP3.out, trivial⟩) (fun hS => ?_)
                clear hK K
                try simp only [yA, yB, yC, Act.put, yD, yE, yF]
                refine wpAnyH_take (i := 12) (v := ?vpr13) rfl (by kernel_rfl) (by kernel_rfl) (by kernel_rfl) (fun _ _ _ h => h) (Or.inl ⟨by rfl, ?ypr13⟩) hS ?rpr13
                case ypr13 => (intro w0 _; go_simp; try with_reducible rfl)
                try simp only [yA, yB, yC, Act.put, yD, yE, yF]
                refine wpAnyH_done (by kernel_rfl) ?_ _
                refine NoPanic.normal ?_
                try simp only [Exit.then]
                clear hS
                have HR3 := As.mk (show RecRow (NO w') w' w.heap.size 43 v' (_ ++ [prepR x.p]) from RecRow.app HRM.out (fun q hq => nest_step (nest_step (HRN.out q hq) HH3.out (fun g e => by cases e)) HW3.out (fun g e cs => ⟨own_typed HO2.out (by decide) g e cs, own_typed HO2.out (by decide) g e cs⟩)) (⟨prepR x.p, Ai, ci, An, cn⟩ : QRe) HO3.out (show NO w' (⟨prepR x.p, Ai, ci, An, cn⟩ : QRe) from nest_step HV3.out HW3.out (fun g e cs => ⟨own_typed HO2.out (by decide) g e cs, own_typed HO2.out (by decide) g e cs⟩)))
                go_wp2_with fail
                go_roundw
                case measure => simp [intOf]; omega
                case rel => exact ⟨k + 1, by omega, by go_num, ⟨by rw [HPZ.out]; exact HR3.out, HB3.out, HG3.out⟩⟩
              · obtain rfl : k = qs.length := by omega
                replace HR := As.mk (show RecRow _ _ _ _ _ (headR s ++ plR s.places s.places.length ++ s.decided.map pastR ++ s.prepared.map prepR) by have := HR.out; rw [HQ2.out, List.take_length] at this; exact this)
                clear hlt hk
                replace HR := As.mk (show RecRow _ _ _ _ _ (headR s ++ plR s.places s.places.length ++ s.decided.map pastR ++ s.prepared.map prepR ++ (s.commits.take 0).flatMap cmR) by simpa using HR.out)
                obtain ⟨q0, q1, q2, q3, q4, q5, q6, q7⟩ := (HB.out).c8
                go_wp2_with fail
                clear q0 q1 q2 q3 q4 q5 q6 q7
                go_loopw [3, 95] (fun v i wr => ∃ k : Nat, k ≤ cs.length ∧ i = .int .i64 k ∧ As (RecRow (NO wr) wr w.heap.size 43 v (headR s ++ plR s.places s.places.length ++ s.decided.map pastR ++ s.prepared.map prepR ++ (s.commits.take k).flatMap cmR) ∧ Blk wr w.heap.size 32 #[.int .i64 s.node, .int .i64 s.nodes, .int .i64 s.cells, .int .i64 s.epoch, .slice A1 s.places.length c1, .slice A2 qs.length c2, .slice A3 s.decided.length c3, .slice A4 cs.length c4] ∧ w.grownBy wr none)) (fun _ i _ => cs.length - (intOf i).toNat)
                case atStart => exact ⟨0, Nat.zero_le _, rfl, ⟨HR.out, HB.out, HG.out⟩⟩
                case round =>
                  obtain ⟨k, hk, rfl, HX⟩ := hrel
                  clear HR HB HG
                  obtain ⟨HR, HB, HG⟩ := HX.out
                  clear HX
                  replace HR := As.mk HR
                  replace HB := As.mk HB
                  replace HG := As.mk HG
                  by_cases hlt : k < cs.length
                  · have hltI : (k : Int) < (cs.length : Int) := by omega
                    have hk0 : (0 : Int) ≤ (k : Int) := by omega
                    obtain ⟨x, hx⟩ : ∃ x, cs[k]? = some x := ⟨_, List.getElem?_eq_getElem hlt⟩
                    obtain ⟨b, off, ds, rfl, rfl, _, hcs⟩ := HQ.out.cm.at_ k x hx
                    have hle := HQ.out.cm.cap
                    have hle2 := HQ.out.cm.le
                    have HXK := As.mk hx
                    have e0 := HG.out.cell (hcs 0 _ rfl) (by simp)
                    have e1 := HG.out.cell (hcs 1 _ rfl) (by simp)
                    have e2 := HG.out.cell (hcs 2 _ rfl) (by simp)
                    have e3 := HG.out.cell (hcs 3 _ rfl) (by simp)
                    have e4 := HG.out.cell (hcs 4 _ rfl) (by simp)
                    have e5 := HG.out.cell (hcs 5 _ rfl) (by simp)
                    simp only [Nat.add_zero] at e0
                    clear hcs hx
                    have hlb : (headR s ++ plR s.places s.places.length ++ s.decided.map pastR ++ s.prepared.map prepR ++ (s.commits.take k).flatMap cmR).length ≤ 100000 := by
                      have h1 := headR_len s
                      have h2 := plR_len s.places s.places.length
                      have h3 := cmR_len (s.commits.take k)
                      have h4 := HN.out
                      have h5 := HQ2.out
                      have h6 := HQ4.out
                      simp only [List.length_append, List.length_map, List.length_take] at h3 ⊢
                      omega
                    have HPZ := As.mk (fun (h : x.p.over = false) => show (headR s ++ plR s.places s.places.length ++ s.decided.map pastR ++ s.prepared.map prepR ++ (s.commits.take (k + 1)).flatMap cmR) = (headR s ++ plR s.places s.places.length ++ s.decided.map pastR ++ s.prepared.map prepR ++ (s.commits.take k).flatMap cmR) ++ [comR x.p] by rw [cs_take HQ.out.cp HXK.out, List.flatMap_append, List.flatMap_cons, List.flatMap_nil, List.append_nil, show cmR x.p = [comR x.p] from by unfold cmR; rw [if_neg (by rw [h]; decide)]]; simp only [List.append_assoc])
                    have HPY := As.mk (fun (h : x.p.over = true) => show (headR s ++ plR s.places s.places.length ++ s.decided.map pastR ++ s.prepared.map prepR ++ (s.commits.take (k + 1)).flatMap cmR) = (headR s ++ plR s.places s.places.length ++ s.decided.map pastR ++ s.prepared.map prepR ++ (s.commits.take k).flatMap cmR) ++ [comR x.p] ++ [endR x.p] by rw [cs_take HQ.out.cp HXK.out, List.flatMap_append, List.flatMap_cons, List.flatMap_nil, List.append_nil, show cmR x.p = [comR x.p] ++ [endR x.p] from by unfold cmR; rw [if_pos h]; rfl]; simp only [List.append_assoc])
                    have HLE := As.mk (show x.p.items.length ≤ 1000000 ∧ x.p.nodes.length ≤ 1000000 from by have := HLC.out x.p (by rw [← HQ.out.cp]; exact List.mem_map.2 ⟨x, List.mem_of_getElem? HXK.out, rfl⟩); omega)
                    have HNI := As.mk (HQ.out.ci x (List.mem_of_getElem? HXK.out))
                    have hga := gr_alloc (gr_refl wr none) (.cells #[.int .i64 x.p.tid.n, .int .i64 x.p.tid.e, .int .i64 x.p.tid.s, .slice x.A1 x.p.items.length x.c1, .slice x.A2 x.p.nodes.length x.c2, .bool x.p.over] 58)
                    have HG1 := As.mk (gr_then HG.out hga (.inl rfl))
                    have HB1 := As.mk (HB.out.grown hga (by simp))
                    have HP1 := As.mk (Blk.new wr 58 #[.int .i64 x.p.tid.n, .int .i64 x.p.tid.e, .int .i64 x.p.tid.s, .slice x.A1 x.p.items.length x.c1, .slice x.A2 x.p.nodes.length x.c2, .bool x.p.over])
                    have HR1 := As.mk (HR.out.growO hga)
                    clear hga HR
                    go_wp2_with fail
                    clear e0 e1 e2 e3 e4 e5
                    generalize wr.alloc (.cells #[.int .i64 x.p.tid.n, .int .i64 x.p.tid.e, .int .i64 x.p.tid.s, .slice x.A1 x.p.items.length x.c1, .slice x.A2 x.p.nodes.length x.c2, .bool x.p.over] 58) = WX at *
                    generalize wr.heap.size = gx at *
                    obtain ⟨rs, ho, hm, hn⟩ := HR1.out
                    have HO := As.mk ho
                    have HRM := As.mk hm
                    have HRN := As.mk hn
                    clear ho hm hn HR1
                    refine wp_region_noPanic ?_
                    refine wp_region_held_drew (S := fun w' => Blk w' gx 58 #[.int .i64 x.p.tid.n, .int .i64 x.p.tid.e, .int .i64 x.p.tid.s, .slice x.A1 x.p.items.length x.c1, .slice x.A2 x.p.nodes.length x.c2, .bool x.p.over] ∧ True) (by kernel_rfl) (⟨HP1.out.drew, trivial⟩) (fun hS => ?_)
                    refine wpAnyH_take (i := 0) (v := ?vcm1) rfl (by kernel_rfl) (by kernel_rfl) (by kernel_rfl) (fun _ _ _ h => h) (Or.inl ⟨by rfl, ?ycm1⟩) hS ?rcm1
                    case ycm1 => (intro w0 _; go_simp; try with_reducible rfl)
                    try simp only [yA, yB, yC, Act.put, yD, yE, yF]
                    refine wpAnyH_take (i := 1) (v := ?vcm2) rfl (by kernel_rfl) (by kernel_rfl) (by kernel_rfl) (fun _ _ _ h => h) (Or.inl ⟨by rfl, ?ycm2⟩) hS ?rcm2
                    case ycm2 => (intro w0 _; go_simp; try with_reducible rfl)
                    try simp only [yA, yB, yC, Act.put, yD, yE, yF]
                    refine wpAnyH_take (i := 2) (v := ?vcm3) rfl (by kernel_rfl) (by kernel_rfl) (by kernel_rfl) (fun _ _ _ h => h) (Or.inl ⟨by rfl, ?ycm3⟩) hS ?rcm3
                    case ycm3 => (intro w0 hS0; (try simp only [] at hS0); obtain ⟨hS0_0, hS0_1⟩ := hS0; obtain ⟨q0_0, q0_1, q0_2, q0_3, q0_4, q0_5⟩ := hS0_0.c6; go_simp; try with_reducible rfl)
                    try simp only [yA, yB, yC, Act.put, yD, yE, yF]
                    refine wpAnyH_take (i := 3) (v := ?vcm4) rfl (by kernel_rfl) (by kernel_rfl) (by kernel_rfl) (fun _ _ _ h => h) (Or.inl ⟨by rfl, ?ycm4⟩) hS ?rcm4
                    case ycm4 => (intro w0 _; go_simp; try with_reducible rfl)
                    try simp only [yA, yB, yC, Act.put, yD, yE, yF]
                    refine wpAnyH_take (i := 4) (v := ?vcm5) rfl (by kernel_rfl) (by kernel_rfl) (by kernel_rfl) (fun _ _ _ h => h) (Or.inl ⟨by rfl, ?ycm5⟩) hS ?rcm5
                    case ycm5 => (intro w0 hS0; (try simp only [] at hS0); obtain ⟨hS0_0, hS0_1⟩ := hS0; obtain ⟨q0_0, q0_1, q0_2, q0_3, q0_4, q0_5⟩ := hS0_0.c6; go_simp; try with_reducible rfl)
                    try simp only [yA, yB, yC, Act.put, yD, yE, yF]
                    refine wpAnyH_take (i := 6) (v := ?vcm6) rfl (by kernel_rfl) (by kernel_rfl) (by kernel_rfl) (fun _ _ _ h => h) (Or.inl ⟨by rfl, ?ycm6⟩) hS ?rcm6
                    case ycm6 => (intro w0 _; go_simp; try with_reducible rfl)
                    try simp only [yA, yB, yC, Act.put, yD, yE, yF]
                    refine wpAnyH_take (i := 7) (v := ?vcm7) rfl (by kernel_rfl) (by kernel_rfl) (by kernel_rfl) (fun _ _ _ h => h) (Or.inl ⟨by rfl, ?ycm7⟩) hS ?rcm7
                    case ycm7 => (intro w0 hS0; (try simp only [] at hS0); obtain ⟨hS0_0, hS0_1⟩ := hS0; obtain ⟨q0_0, q0_1, q0_2, q0_3, q0_4, q0_5⟩ := hS0_0.c6; go_simp; try with_reducible rfl)
                    try simp only [yA, yB, yC, Act.put, yD, yE, yF]
                    refine wpAnyH_ready (rs := [5]) (by kernel_rfl) (by simp) (AllReadyH.cons (i := 5) rfl (fun K hK => ?_) AllReadyH.nil)
                    go_simp
                    refine (clIt_c _ _ x.p.items (HNI.out.1.itG (gr_drew HG1.out)) HLE.out.1).mono ?_
                    rintro e0 w1 ⟨Ai, ci, rfl, ho, hg1⟩
                    have HV1 := As.mk (TArr.own (f := itC) ho (fun _ => rfl))
                    have HH1 := As.mk (gr_then (gr_drew (gr_refl WX none)) hg1 (.inl rfl))
                    clear hg1 ho
                    go_simp
                    refine hK.out _ _ (⟨HP1.out.grown HH1.out (by simp), trivial⟩) (fun hS => ?_)
                    clear hK K
                    try simp only [yA, yB, yC, Act.put, yD, yE, yF]
                    refine wpAnyH_ready (rs := [8]) (by kernel_rfl) (by simp) (AllReadyH.cons (i := 8) rfl (fun K hK => ?_) AllReadyH.nil)
                    go_simp
                    refine (clIn_c _ _ x.p.nodes (HNI.out.2.inG (gr_then HG1.out HH1.out (.inl rfl))) HLE.out.2).mono ?_
                    rintro e0 w2 ⟨An, cn, rfl, ho, hg1⟩
                    have HV := As.mk (show NestO w2 Ai ci x.p.items An cn x.p.nodes from ⟨HV1.out.step hg1 (fun _ _ h => h) (fun g e => by cases e), TArr.own (f := inC) ho (fun _ => rfl)⟩)
                    have HH2 := As.mk (gr_then HH1.out hg1 (.inl rfl))
                    clear hg1 ho HV1
                    go_simp
                    refine hK.out _ _ (⟨HP1.out.grown HH2.out (by simp), trivial⟩) (fun hS => ?_)
                    clear hK K
                    try simp only [yA, yB, yC, Act.put, yD, yE, yF]
                    refine wpAnyH_take (i := 9) (v := ?vcm10) rfl (by kernel_rfl) (by kernel_rfl) (by kernel_rfl) (fun _ _ _ h => h) (Or.inl ⟨by rfl, ?ycm10⟩) hS ?rcm10
                    case ycm10 => (intro w0 _; go_simp; try with_reducible rfl)
                    try simp only [yA, yB, yC, Act.put, yD, yE, yF]
                    refine wpAnyH_ready (rs := [10]) (by kernel_rfl) (by simp) (AllReadyH.cons (i := 10) rfl (fun K hK => ?_) AllReadyH.nil)
                    go_simp
                    have hga := gr_alloc (gr_refl w2 none) (.cells #[.int .i64 5, .int .i64 x.p.tid.n, .int .i64 x.p.tid.e, .int .i64 x.p.tid.s, .slice Ai x.p.items.length ci, .slice An x.p.nodes.length cn, .int .i64 0, .int .i64 0, .int .i64 0, .int .i64 0, .int .i64 0, .int .i64 0, .int .i64 0, .int .i64 0, .bool false] 43)
                    have HH3 := As.mk (gr_then HH2.out hga (.inl rfl))
                    have HBS := As.mk (Blk.new w2 43 #[.int .i64 5, .int .i64 x.p.tid.n, .int .i64 x.p.tid.e, .int .i64 x.p.tid.s, .slice Ai x.p.items.length ci, .slice An x.p.nodes.length cn, .int .i64 0, .int .i64 0, .int .i64 0, .int .i64 0, .int .i64 0, .int .i64 0, .int .i64 0, .int .i64 0, .bool false])
                    have HV3 := As.mk (nest_step HV.out hga (fun g e => by cases e))
                    have HO2 := As.mk (own_gr0 HO.out HH3.out)
                    have HG2 := As.mk (gr_then HG1.out HH3.out (.inl rfl))
                    clear hga
                    refine hK.out _ _ (⟨HP1.out.grown HH3.out (by simp), trivial⟩) (fun hS => ?_)
                    clear hK K
                    try simp only [yA, yB, yC, Act.put, yD, yE, yF]
                    refine wpAnyH_ready (rs := [11]) (by kernel_rfl) (by simp) (AllReadyH.cons (i := 11) rfl (fun K hK => ?_) AllReadyH.nil)
                    refine step_app1 rfl _ _ _ rfl w.heap.size 43 iR _ 15 152 Try.underlying24 HIR.out.1 HIR.out.2.1 HIR.out.2.2.1 HIR.out.2.2.2 rfl (by omega) (by omega) _ _ _ rfl HO2.out w2.heap.size rfl _ HBS.out rfl (by simp [Value.oneCell']) (by omega) HG2.out.size ?_
                    intro v' w' ho hg' _
                    have HO3 := As.mk ho
                    have HW3 := As.mk hg'
                    have HP3 := As.mk ((HP1.out.grown HH3.out (by simp)).grown hg' (own_ne (HP1.out.grown HH3.out (by simp)) HO2.out (by decide)))
                    have HG3 := As.mk (gr_then HG2.out hg' (.inr (.inr (own_lo HO2.out))))
                    have HB3 := As.mk ((HB1.out.grown HH3.out (by simp)).grown hg' (own_ne (HB1.out.grown HH3.out (by simp)) HO2.out (by decide)))
                    clear ho hg'
                    refine hK.out _ _ (⟨HP3.out, trivial⟩) (fun hS => ?_)
                    clear hK K
                    try simp only [yA, yB, yC, Act.put, yD, yE, yF]
                    refine wpAnyH_take (i := 12) (v := ?vcm13) rfl (by kernel_rfl) (by kernel_rfl) (by kernel_rfl) (fun _ _ _ h => h) (Or.inl ⟨by rfl, ?ycm13⟩) hS ?rcm13
                    case ycm13 => (intro w0 _; go_simp; try with_reducible rfl)
                    try simp only [yA, yB, yC, Act.put, yD, yE, yF]
                    refine wpAnyH_done (by kernel_rfl) ?_ _
                    refine NoPanic.normal ?_
                    try simp only [Exit.then]
                    clear hS
                    have HR3 := As.mk (show RecRow (NO w') w' w.heap.size 43 v' (_ ++ [comR x.p]) from RecRow.app HRM.out (fun q hq => nest_step (nest_step (HRN.out q hq) HH3.out (fun g e => by cases e)) HW3.out (fun g e cs => ⟨own_typed HO2.out (by decide) g e cs, own_typed HO2.out (by decide) g e cs⟩)) (⟨comR x.p, Ai, ci, An, cn⟩ : QRe) HO3.out (show NO w' (⟨comR x.p, Ai, ci, An, cn⟩ : QRe) from nest_step HV3.out HW3.out (fun g e cs => ⟨own_typed HO2.out (by decide) g e cs, own_typed HO2.out (by decide) g e cs⟩)))
                    have HPB := As.mk HP3.out
                    obtain ⟨u0, u1, u2, u3, u4, u5⟩ := (HP3.out).c6
                    rcases bool_cases x.p.over with hov | hov
                    · rw [hov] at u5
                      go_wp2_with fail
                      go_roundw
                      case measure => simp [intOf]; omega
                      case rel => exact ⟨k + 1, by omega, by go_num, ⟨by rw [HPZ.out hov]; exact HR3.out, HB3.out, HG3.out⟩⟩
                    · rw [hov] at u5
                      clear HO2 HG2 HBS HW3 HRM HRN
                      obtain ⟨rs2, ho, hm, hn⟩ := HR3.out
                      have hga := gr_alloc (gr_refl w' none) (.cells #[.int .i64 7, .int .i64 x.p.tid.n, .int .i64 x.p.tid.e, .int .i64 x.p.tid.s, .slice none 0 0, .slice none 0 0, .int .i64 0, .int .i64 0, .int .i64 0, .int .i64 0, .int .i64 0, .int .i64 0, .int .i64 0, .int .i64 0, .bool false] 43)
                      have HG2 := As.mk (gr_then HG3.out hga (.inl rfl))
                      have HB2 := As.mk (HB3.out.grown hga (by simp))
                      have HO2 := As.mk (own_gr0 ho hga)
                      have HBS := As.mk (Blk.new w' 43 #[.int .i64 7, .int .i64 x.p.tid.n, .int .i64 x.p.tid.e, .int .i64 x.p.tid.s, .slice none 0 0, .slice none 0 0, .int .i64 0, .int .i64 0, .int .i64 0, .int .i64 0, .int .i64 0, .int .i64 0, .int .i64 0, .int .i64 0, .bool false])
                      have HRM := As.mk hm
                      have HRN := As.mk hn
                      have HWA := As.mk hga
                      have hlb2 : ((headR s ++ plR s.places s.places.length ++ s.decided.map pastR ++ s.prepared.map prepR ++ (s.commits.take k).flatMap cmR) ++ [comR x.p]).length ≤ 100001 := by rw [List.length_append]; simp only [List.length_singleton]; omega
                      clear hga ho hm hn
                      obtain ⟨wp, rfl⟩ : ∃ wp : World, wp = w' := ⟨_, rfl⟩
                      clear HG3 HB3
                      go_wp2_with (at_builtin; refine wpList_app1 (by rfl) _ _ _ (by rfl) w.heap.size 43 iR _ 15 152 Try.underlying24 HIR.out.1 HIR.out.2.1 HIR.out.2.2.1 HIR.out.2.2.2 rfl (by omega) (by omega) _ _ _ (by rfl) HO2.out wp.heap.size (by rfl) _ HBS.out rfl (by simp [Value.oneCell']) (by omega) HG2.out.size ?_; intro v9 w' ho hg' hv'; have HO3 := As.mk ho; have HW3 := As.mk hg'; clear ho hg' hv')
                      have HG3 := As.mk (gr_then HG2.out HW3.out (.inr (.inr (own_lo HO2.out))))
                      have HB3 := As.mk (HB2.out.grown HW3.out (own_ne HB2.out HO2.out (by decide)))
                      go_roundw
                      case measure => simp [intOf]; omega
                      case rel =>
                        refine ⟨k + 1, by omega, by go_num, ⟨?_, HB3.out, HG3.out⟩⟩
                        rw [HPY.out hov]
                        exact RecRow.app HRM.out (fun q hq => nest_step (nest_step (HRN.out q hq) HWA.out (fun g e => by cases e)) HW3.out (fun g e cs => ⟨own_typed HO2.out (by decide) g e cs, own_typed HO2.out (by decide) g e cs⟩)) (⟨endR x.p, none, 0, none, 0⟩ : QRe) HO3.out (show NO w' (⟨endR x.p, none, 0, none, 0⟩ : QRe) from NO.zero rfl rfl)
                  · obtain rfl : k = cs.length := by omega
                    replace HR := As.mk (show RecRow _ _ _ _ _ (recsS s) by have := HR.out; rw [HQ4.out, List.take_length] at this; exact this)
                    clear hlt hk
                    go_wp2_with fail
                    go_ret
                    exact ⟨_, rfl, HG.out, (HR.out.mono fun q hq => hq.nn).read⟩
end Go.Proofs.Ytdmkijdbldcdiaa
