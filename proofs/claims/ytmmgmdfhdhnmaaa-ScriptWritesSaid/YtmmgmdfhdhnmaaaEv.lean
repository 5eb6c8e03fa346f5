/- The walk of script's reader: an event. -/
import Derived.Test.YtmmgmdfhdhnmaaaOp
import Derived.Deep.AppendLies
import Derived.Deep.RegionLaw
namespace Go.Proofs.Ytmmgmdfhdhnmaaa
open Go.RowKit
set_option linter.unusedVariables false

structure PEv where
  k : Int
  a : Int
  b : Int
  n : Int
  ops : List POp
def opsCells (l : List POp) : List Value := l.flatMap POp.cells
def rOpsN (S : ByteArray) (t : St) : Nat → List POp × St
  | 0 => ([], t)
  | i + 1 => ((rOpsN S t i).1 ++ [(rOp S (rOpsN S t i).2).1], (rOp S (rOpsN S t i).2).2)
def rEvent (S : ByteArray) (t : St) (kind : Int) : PEv × St :=
  let a := rByte S t
  let b := rByte S a.2
  if kind ≠ 1 then
    let c := rCount S b.2
    (⟨kind, a.1, b.1, c.1, []⟩, c.2)
  else
    let l := rOpsN S b.2 (b.1 % 33)
    (⟨kind, a.1, 0, 0, l.1⟩, l.2)
theorem rCount_lt (S : ByteArray) (t : St) : (rCount S t).1 < 65536 := by
  unfold rCount; split
  · have := byteAt_lt S t.p; have := byteAt_lt S (t.p + 1); dsimp only; omega
  · simp

set_option maxRecDepth 100000 in
set_option maxHeartbeats 3200000 in
theorem event_other (b : Nat) (S : ByteArray) (t : St) (kind : Int) (hk : (kind == 1) = false) (hk' : (kind != 1) = true) (w : World) (hS : S.size ≤ 140737488355328) (h : RdAt w b S t) :
    Calls Try.prog 31 #[.agg #[.pointer (some ⟨b, 0, none⟩)], .int .i64 kind] w fun e w' =>
      e = .returned (.agg #[.int .i64 kind, .int .i64 (rByte S t).1, .int .i64 (rByte S (rByte S t).2).1, .int .i64 (rCount S (rByte S (rByte S t).2).2).1, .slice none 0 0]) ∧ RdAt w' b S (rCount S (rByte S (rByte S t).2).2).2 ∧ w.grownBy w' (some b) := by
  have hlt := h.1.lt
  have HR := As.mk h
  clear h
  go_enter Try.func31, Try.ntmps31
  go_wp2_with fail
  refine (byte_walk b S t _ hS ((HR.out.alloc _).alloc _)).mono ?_
  rintro e w1 ⟨rfl, hr, hg⟩
  have B1 := ((Blk.new w 49 #[.pointer (some ⟨b, 0, none⟩)]).alloc (.cells #[.int .i64 0, .int .i64 0, .int .i64 0, .int .i64 0, .slice none 0 0] 37)).grown hg (by simp; omega)
  have B2 := (Blk.new2 w (.cells #[.pointer (some ⟨b, 0, none⟩)] 49) 37 #[.int .i64 0, .int .i64 0, .int .i64 0, .int .i64 0, .slice none 0 0]).grown hg (by simp; omega)
  have hz : w.heap.size + 2 ≤ w1.heap.size := by have := hg.size; simpa using this
  have G := As.mk (gr_then (gr_alloc (gr_alloc (gr_refl w (some b)) _) _) hg (.inl rfl))
  have hl1 := rByte_lt S t
  have hl2 := rByte_lt S (rByte S t).2
  have hl3 := rCount_lt S (rByte S (rByte S t).2).2
  generalize hgg : w.heap.size = g at *
  have hge := As.mk (Nat.le_of_eq hgg)
  clear hgg HR
  have HR := As.mk hr
  have HB1 := As.mk B1
  have HB2 := As.mk B2
  clear hr hg B1 B2
  go_wp2_with fail
  have c1 : (w1.alloc (.cells #[.int .i64 kind, .int .i64 (rByte S t).1, .int .i64 0, .int .i64 0, .slice none 0 0] 37)).cell? ⟨g, 0, none⟩ = some (.pointer (some ⟨b, 0, none⟩)) := (HB1.out.alloc _).cell 0
  have K0 := As.mk (Blk.new w1 37 #[.int .i64 kind, .int .i64 (rByte S t).1, .int .i64 0, .int .i64 0, .slice none 0 0]).drew
  have K1 := As.mk (HB1.out.alloc (.cells #[.int .i64 kind, .int .i64 (rByte S t).1, .int .i64 0, .int .i64 0, .slice none 0 0] 37)).drew
  have K2 := As.mk (HB2.out.alloc (.cells #[.int .i64 kind, .int .i64 (rByte S t).1, .int .i64 0, .int .i64 0, .slice none 0 0] 37)).drew
  have K3 := As.mk (HR.out.alloc (.cells #[.int .i64 kind, .int .i64 (rByte S t).1, .int .i64 0, .int .i64 0, .slice none 0 0] 37)).drew
  have K4 := As.mk (gr_drew (gr_alloc G.out (.cells #[.int .i64 kind, .int .i64 (rByte S t).1, .int .i64 0, .int .i64 0, .slice none 0 0] 37)))
  generalize w1.alloc (.cells #[.int .i64 kind, .int .i64 (rByte S t).1, .int .i64 0, .int .i64 0, .slice none 0 0] 37) = W at *
  generalize w1.heap.size = ge at *
  clear HR HB1 HB2 G
  have hne3 : ge ≠ g := by omega
  have hne4 : b ≠ ge := by omega
  go_region_held3 (fun w' => w'.cell? ⟨g, 0, none⟩ = some (.pointer (some ⟨b, 0, none⟩)))
    (first | go_keep | exact K1.out.cell 0)
    (first
      | (go_at_call 14; refine (byte_walk b S _ _ hS K3.out).mono ?_; rintro e w2 ⟨rfl, hr, hg⟩
         have n0 := As.mk (K0.out.grown hg (by simp; omega)); have n1 := As.mk (K1.out.grown hg (by simp; omega)); have n2 := As.mk (K2.out.grown hg (by simp; omega)); have n3 := As.mk hr; have n4 := As.mk (gr_then K4.out hg (.inl rfl))
         clear K0 K1 K2 K3 K4 hr hg
         have K0 := n0; have K1 := n1; have K2 := n2; have K3 := n3; have K4 := n4
         clear n0 n1 n2 n3 n4)
      | (go_at_call 15; refine (count_walk b S _ _ hS K3.out).mono ?_; rintro e w2 ⟨rfl, hr, hg⟩
         have n0 := As.mk (K0.out.grown hg (by simp; omega)); have n1 := As.mk (K1.out.grown hg (by simp; omega)); have n2 := As.mk (K2.out.grown hg (by simp; omega)); have n3 := As.mk hr; have n4 := As.mk (gr_then K4.out hg (.inl rfl))
         clear K0 K1 K2 K3 K4 hr hg
         have K0 := n0; have K1 := n1; have K2 := n2; have K3 := n3; have K4 := n4
         clear n0 n1 n2 n3 n4
         have d2 : w2.cell? ⟨ge, 2, none⟩ = some (.int .i64 0) := K0.out.cell 2
         have d3 : w2.cell? ⟨ge, 3, none⟩ = some (.int .i64 0) := K0.out.cell 3
         have df := K0.out.free))
  have E0 := As.mk ((K0.out.set 2 (.int .i64 (IntKind.i64.wrap (rByte S (rByte S t).2).1))).set 3 (.int .i64 (rCount S (rByte S (rByte S t).2).2).1))
  have E2 := As.mk ((K2.out.far (a := ⟨ge, 2, none⟩) (by simp; omega) (.int .i64 (IntKind.i64.wrap (rByte S (rByte S t).2).1))).far (a := ⟨ge, 3, none⟩) (by simp; omega) (.int .i64 (rCount S (rByte S (rByte S t).2).2).1))
  have E3 : As (RdAt _ b S (rCount S (rByte S (rByte S t).2).2).2) := ⟨((K3.out.1.far (a := ⟨ge, 2, none⟩) hne4 (.int .i64 (IntKind.i64.wrap (rByte S (rByte S t).2).1))).far (a := ⟨ge, 3, none⟩) hne4 (.int .i64 (rCount S (rByte S (rByte S t).2).2).1)), K3.out.2⟩
  have E4 := As.mk (gr_set (gr_set K4.out (a := ⟨ge, 2, none⟩) (.inr (by have := hge.out; simp; omega)) (.int .i64 (IntKind.i64.wrap (rByte S (rByte S t).2).1))) (a := ⟨ge, 3, none⟩) (.inr (by have := hge.out; simp; omega)) (.int .i64 (rCount S (rByte S (rByte S t).2).2).1))
  have e1 := i64_wrap_byte hl2
  clear K0 K1 K2 K3 K4 d2 d3 df
  generalize (w2.setCell _ _).setCell _ _ = W1 at *
  have E0' := E0.out
  simp [e1] at E0'
  have q0 := E0'.cell 0
  have q1 := E0'.cell 1
  have q2 := E0'.cell 2
  have q3 := E0'.cell 3
  have q4 := E0'.cell 4
  have r0 := E2.out.cell 0
  have r1 := E2.out.cell 1
  have r2 := E2.out.cell 2
  have r3 := E2.out.cell 3
  have r4 := E2.out.cell 4
  have rf := E2.out.free
  simp at q0 q1 q2 q3 q4 r0 r1 r2 r3 r4
  clear E0'
  go_wp2
  have hge2 : w.heap.size ≤ g + 1 := by have := hge.out; omega
  exact bodyPost_ret (results_cell_row (P := Try.prog) rfl _ _ (g + 1) _ _ _ _ rfl (E2.out.set5 _ _ _ _ _) Try.underlying37 rfl (by kernel_rfl)) rfl ⟨rfl, ⟨E3.out.1.far5 (by omega) _ _ _ _ _, E3.out.2⟩, gr_set5 E4.out hge2 _ _ _ _ _⟩

theorem infoOp : (Try.prog.info? 79).map (fun i => (i.zero, i.size, i.bytes)) = some (some (.agg #[.int .i64 0, .int .i64 0, .int .i64 0, .int .i64 0, .int .i64 0]), 5, 40) := by kernel_rfl

/-- What holds at the head of the loop over operations. -/
def EvLoop (w0 : World) (base b g ge : Nat) (S : ByteArray) (t2 : St) (A : Nat) (k : Nat) (v : Value) (wr : World) : Prop :=
  Blk wr g 49 #[.pointer (some ⟨b, 0, none⟩)] ∧ Blk wr (g + 1) 37 #[.int .i64 0, .int .i64 0, .int .i64 0, .int .i64 0, .slice none 0 0] ∧
  Blk wr ge 37 #[.int .i64 1, .int .i64 A, .int .i64 0, .int .i64 0, v] ∧ RdAt wr b S (rOpsN S t2 k).2 ∧
  wr.ownsRow base 79 5 v k (opsCells (rOpsN S t2 k).1) ∧ w0.grownBy wr (some b)
theorem opsCells_snoc (l : List POp) (x : POp) : opsCells (l ++ [x]) = opsCells l ++ [.int .i64 x.k, .int .i64 x.c, .int .i64 x.r, .int .i64 x.o, .int .i64 x.n] := by
  simp [opsCells, POp.cells]
/-- The round's relation behind the append and the store. -/
theorem EvLoop.step {w0 w2 w3 : World} {base b g ge gg cap : Nat} {S : ByteArray} {t2 : St} {A k : Nat} {v : Value} (h21 : g + 1 ≠ ge)
    (h : Blk w2 g 49 #[.pointer (some ⟨b, 0, none⟩)] ∧ Blk w2 (g + 1) 37 #[.int .i64 0, .int .i64 0, .int .i64 0, .int .i64 0, .slice none 0 0] ∧
      Blk w2 ge 37 #[.int .i64 1, .int .i64 A, .int .i64 0, .int .i64 0, v] ∧ RdAt w2 b S (rOpsN S t2 (k + 1)).2 ∧ w2.ownsRow base 79 5 v k (opsCells (rOpsN S t2 k).1) ∧ w0.grownBy w2 (some b))
    (hb : b ≠ ge) (hge : w0.heap.size ≤ ge) (hw0 : w0.heap.size = base) (o : Obj)
    (hown : w3.ownsRow base 79 5 (.slice (some ⟨gg, 0, none⟩) (k + 1) cap) (k + 1) (opsCells (rOpsN S t2 k).1 ++ [.int .i64 (rOp S (rOpsN S t2 k).2).1.k, .int .i64 (rOp S (rOpsN S t2 k).2).1.c, .int .i64 (rOp S (rOpsN S t2 k).2).1.r, .int .i64 (rOp S (rOpsN S t2 k).2).1.o, .int .i64 (rOp S (rOpsN S t2 k).2).1.n]))
    (hg : (w2.alloc o).grownBy w3 v.ownBlock) :
    EvLoop w0 base b g ge S t2 A (k + 1) (.slice (some ⟨gg, 0, none⟩) (k + 1) cap) (w3.setCell ⟨ge, 4, none⟩ (.slice (some ⟨gg, 0, none⟩) (k + 1) cap)) := by
  obtain ⟨h1, h2, h3, h4, h5, h6⟩ := h
  have n1 := own_ne h1 h5 (by decide)
  have n2 := own_ne h2 h5 (by decide)
  have n3 := own_ne h3 h5 (by decide)
  have n4 := own_ne h4.1 h5 (by decide)
  have b3 := (h3.alloc o).grown hg n3
  have n5 := own_ne b3 hown (by decide)
  have e1 : g ≠ ge := by rintro rfl; exact Blk.ne h1 h3 (by decide) rfl
  refine ⟨((h1.alloc o).grown hg n1).far e1 _, ((h2.alloc o).grown hg n2).far h21 _, ?_, ⟨((h4.1.alloc o).grown hg n4).far hb _, h4.2⟩, ?_, gr_set (gr_then (gr_alloc h6 o) hg (.inr (.inr ?_))) (.inr hge) _⟩
  · have := b3.set 4 (.slice (some ⟨gg, 0, none⟩) (k + 1) cap)
    simpa using this
  · have := own_far hown (a := ⟨ge, 4, none⟩) n5 (.slice (some ⟨gg, 0, none⟩) (k + 1) cap)
    rw [show (rOpsN S t2 (k + 1)).1 = (rOpsN S t2 k).1 ++ [(rOp S (rOpsN S t2 k).2).1] from rfl, opsCells_snoc]
    exact this
  · intro x hx
    have := h5.lt x hx
    omega

set_option maxRecDepth 100000 in
set_option maxHeartbeats 3200000 in
theorem event_submit (b : Nat) (S : ByteArray) (t : St) (w : World) (base A m : Nat) (t1 t2 : St) (hA : rByte S t = (A, t1)) (hM : rByte S t1 = (m, t2)) (hbase : w.heap.size = base) (hS : S.size ≤ 140737488355328) (h : RdAt w b S t) :
    Calls Try.prog 31 #[.agg #[.pointer (some ⟨b, 0, none⟩)], .int .i64 1] w fun e w' =>
      ∃ v, e = .returned (.agg #[.int .i64 1, .int .i64 A, .int .i64 0, .int .i64 0, v]) ∧ RdAt w' b S (rOpsN S t2 (m % 33)).2 ∧
        w'.ownsRow base 79 5 v (m % 33) (opsCells (rOpsN S t2 (m % 33)).1) ∧ w.grownBy w' (some b) := by
  obtain ⟨i0, hi, hz0, hz1, hz2⟩ := info_parts infoOp
  have hlt := h.1.lt
  have HR := As.mk h
  have hl1 := rByte_lt S t
  have hl2 := rByte_lt S t1
  rw [hA] at hl1
  rw [hM] at hl2
  have HA := As.mk hA
  have HM := As.mk hM
  clear h hA hM
  go_enter Try.func31, Try.ntmps31
  go_wp2_with fail
  refine (byte_c HA.out hS ((HR.out.alloc _).alloc _)).mono ?_
  rintro e w1 ⟨rfl, hr, hg⟩
  have B1 := ((Blk.new w 49 #[.pointer (some ⟨b, 0, none⟩)]).alloc (.cells #[.int .i64 0, .int .i64 0, .int .i64 0, .int .i64 0, .slice none 0 0] 37)).grown hg (by simp; omega)
  have B2 := (Blk.new2 w (.cells #[.pointer (some ⟨b, 0, none⟩)] 49) 37 #[.int .i64 0, .int .i64 0, .int .i64 0, .int .i64 0, .slice none 0 0]).grown hg (by simp; omega)
  have hz : w.heap.size + 2 ≤ w1.heap.size := by have := hg.size; simpa using this
  have G := As.mk (gr_then (gr_alloc (gr_alloc (gr_refl w (some b)) _) _) hg (.inl rfl))
  rw [hbase] at hlt B1 B2 hz
  have HW0 := As.mk hbase
  have HR' := As.mk hr
  have HB1 := As.mk B1
  have HB2 := As.mk B2
  have c1 : w1.cell? ⟨base, 0, none⟩ = some (.pointer (some ⟨b, 0, none⟩)) := B1.cell 0
  have hbw : b ≠ w1.heap.size := by omega
  have hbw2 : base < w1.heap.size := by omega
  clear hr hg B1 B2 HR hbase
  go_wp2_with fail
  refine (byte_c HM.out hS (HR'.out.alloc _)).mono ?_
  rintro e w2 ⟨rfl, hr, hg⟩
  have B0 := As.mk ((Blk.new w1 37 #[.int .i64 1, .int .i64 A, .int .i64 0, .int .i64 0, .slice none 0 0]).grown hg (by simp; omega))
  have B1 := As.mk ((HB1.out.alloc _).grown hg (by simp; omega))
  have B2 := As.mk ((HB2.out.alloc _).grown hg (by simp; omega))
  have B3 := As.mk hr
  have B4 := As.mk (gr_then (gr_alloc G.out _) hg (.inl rfl))
  clear HB1 HB2 G HR' hr hg c1
  generalize w1.heap.size = ge at *
  have hm : m % 33 ≤ 32 := by omega
  go_wp2_with fail
  go_loopw [29] (fun i wr => ∃ k : Nat, ∃ v, k ≤ m % 33 ∧ i = .int .i64 k ∧ As (EvLoop w base b base ge S t2 A k v wr)) (fun i _ => m % 33 - (intOf i).toNat)
  case atStart => exact ⟨0, .slice none 0 0, Nat.zero_le _, rfl, ⟨B1.out, B2.out, B0.out, B3.out, World.ownsRow_nil _ _ _ _, B4.out⟩⟩
  case round =>
    clear B0 B1 B2 B3 B4
    obtain ⟨k, v, hk, rfl, HL⟩ := hrel
    by_cases hlt : k < m % 33
    · have hltI : ((k : Int)) < (m : Int) % 33 := by omega
      go_wp2_with fail
      have c1 : wr.cell? ⟨base, 0, none⟩ = some (.pointer (some ⟨b, 0, none⟩)) := HL.out.1.cell 0
      have c4 : wr.cell? ⟨ge, 4, none⟩ = some v := HL.out.2.2.1.cell 4
      have D1 : As (Blk wr.drew base _ _) := ⟨HL.out.1⟩
      have D2 : As (Blk wr.drew (base + 1) _ _) := ⟨HL.out.2.1⟩
      have D0 : As (Blk wr.drew ge _ _) := ⟨HL.out.2.2.1⟩
      have D3 : As (RdAt wr.drew b S _) := ⟨HL.out.2.2.2.1⟩
      have D5 : As (wr.drew.ownsRow base 79 5 v k (opsCells (rOpsN S t2 k).1)) := ⟨HL.out.2.2.2.2.1⟩
      have D4 : As (w.grownBy wr.drew (some b)) := ⟨gr_drew HL.out.2.2.2.2.2⟩
      clear HL
      go_region_law
        (first
          | (go_simp; go_at_call 41; refine (op_walk b S _ _ hS D3.out).mono ?_; rintro e w3 ⟨rfl, hr, hg⟩
             have n0 := As.mk (D0.out.grown hg (by simp; omega)); have n1 := As.mk (D1.out.grown hg (by simp; omega)); have n2 := As.mk (D2.out.grown hg (by simp; omega)); have n3 := As.mk hr; have n4 := As.mk (gr_then D4.out hg (.inl rfl))
             have n5 := As.mk (own_grown D5.out hg (.inr (Ne.symm (own_ne D3.out.1 D5.out (by decide)))))
             have c4' : w3.cell? ⟨ge, 4, none⟩ = some v := n0.out.cell 4
             clear D0 D1 D2 D3 D4 D5 hr hg c1 c4
             have D0 := n0; have D1 := n1; have D2 := n2; have D3 := n3; have D4 := n4; have D5 := n5; have c4 := c4'
             clear n0 n1 n2 n3 n4 n5 c4'
             have hgw := D0.out.lt)
          | (refine step_append_lies _ (by rfl) _ _ _ (by rfl) base 79 i0 _ 5 40 Try.underlying35 hi hz0 hz1 hz2 rfl (by omega) v k _ (by rfl) (D5.out.alloc _) ⟨w3.heap.size, 0, none⟩ 1 1 [.int .i64 (rOp S (rOpsN S t2 k).2).1.k, .int .i64 (rOp S (rOpsN S t2 k).2).1.c, .int .i64 (rOp S (rOpsN S t2 k).2).1.r, .int .i64 (rOp S (rOpsN S t2 k).2).1.o, .int .i64 (rOp S (rOpsN S t2 k).2).1.n] (by rfl) (by rfl) (World.news_of_block (cs := #[.int .i64 (rOp S (rOpsN S t2 k).2).1.k, .int .i64 (rOp S (rOpsN S t2 k).2).1.c, .int .i64 (rOp S (rOpsN S t2 k).2).1.r, .int .i64 (rOp S (rOpsN S t2 k).2).1.o, .int .i64 (rOp S (rOpsN S t2 k).2).1.n]) (t := 79) (fr := (0, 0)) (heap_alloc_new w3 _)) (by simp [Value.oneCell']) (by omega) (by simp only [maxLen]; omega) (by omega) (by have := D4.out.size; have := HW0.out; simp; omega) (w3.heap.size + 1) (by simp) ?_; intro gg cap w4 hown1 hgrow hat hlt
             have g4 := (D0.out.alloc (.cells #[.int .i64 (rOp S (rOpsN S t2 k).2).1.k, .int .i64 (rOp S (rOpsN S t2 k).2).1.c, .int .i64 (rOp S (rOpsN S t2 k).2).1.r, .int .i64 (rOp S (rOpsN S t2 k).2).1.o, .int .i64 (rOp S (rOpsN S t2 k).2).1.n] 79)).grown hgrow (own_ne D0.out D5.out (by decide))
             have c5 : w4.cell? ⟨ge, 4, none⟩ = some v := g4.cell 4
             have f5 := g4.free 4
             have HS := As.mk (EvLoop.step (t2 := t2) (k := k) (w0 := w) (base := base) (by omega) ⟨D1.out, D2.out, D0.out, D3.out, D5.out, D4.out⟩ hbw (by have := HW0.out; omega) HW0.out _ hown1 hgrow)
             clear D0 D1 D2 D3 D4 D5 g4 hown1 hgrow hat hlt))
      all_goals
        go_wp2_with fail
        go_roundw
        case rel => exact ⟨k + 1, _, by omega, by go_num, HS⟩
        case measure => simp [intOf]; omega
    · have hltI : ¬ ((k : Int)) < (m : Int) % 33 := by omega
      obtain rfl : k = m % 33 := by omega
      obtain ⟨A', c', rfl⟩ := own_shape HL.out.2.2.2.2.1
      have b0 := HL.out.2.2.1
      have b1 := HL.out.2.1
      have q0 := b0.cell 0
      have q1 := b0.cell 1
      have q2 := b0.cell 2
      have q3 := b0.cell 3
      have q4 := b0.cell 4
      have r0 := b1.cell 0
      have r1 := b1.cell 1
      have r2 := b1.cell 2
      have r3 := b1.cell 3
      have r4 := b1.cell 4
      have rf := b1.free
      simp at q0 q1 q2 q3 q4 r0 r1 r2 r3 r4
      clear b0 b1
      go_wp2
      have hge2 : w.heap.size ≤ base + 1 := by have := HW0.out; omega
      obtain ⟨h1, h2, h3, h4, h5, h6⟩ := HL.out
      exact bodyPost_ret (results_cell_row (P := Try.prog) rfl _ _ (base + 1) _ _ _ _ rfl (h2.set5 _ _ _ _ _) Try.underlying37 rfl (by kernel_rfl)) rfl
        ⟨_, rfl, ⟨h4.1.far5 (by omega) _ _ _ _ _, h4.2⟩, own_far5 h5 (own_ne h2 h5 (by decide)) _ _ _ _ _, gr_set5 h6 hge2 _ _ _ _ _⟩
theorem rOpsN_len (S : ByteArray) (t : St) (n : Nat) : (rOpsN S t n).1.length = n := by
  induction n with
  | zero => rfl
  | succ n ih => simp [rOpsN, ih]
/-- The post of an event's read. -/
def EvPost (w : World) (b : Nat) (S : ByteArray) (base : Nat) (ev : PEv) (t' : St) (e : Ending) (w' : World) : Prop :=
  ∃ u, e = .returned (.agg #[.int .i64 ev.k, .int .i64 ev.a, .int .i64 ev.b, .int .i64 ev.n, u]) ∧ RdAt w' b S t' ∧ w'.ownsRow base 79 5 u ev.ops.length (opsCells ev.ops) ∧ w.grownBy w' (some b)
theorem event_c {b : Nat} {S : ByteArray} {t : St} {w : World} {base : Nat} {kind : Int} {ev : PEv} {t' : St} (hv : rEvent S t kind = (ev, t')) (hbase : w.heap.size = base) (hS : S.size ≤ 140737488355328) (h : RdAt w b S t) :
    Calls Try.prog 31 #[.agg #[.pointer (some ⟨b, 0, none⟩)], .int .i64 kind] w (EvPost w b S base ev t') := by
  by_cases hk : kind = 1
  · subst hk
    have h2 := event_submit b S t w base (rByte S t).1 (rByte S (rByte S t).2).1 (rByte S t).2 (rByte S (rByte S t).2).2 rfl rfl hbase hS h
    simp only [rEvent] at hv
    rw [if_neg (by simp)] at hv
    obtain ⟨rfl, rfl⟩ := Prod.mk.inj hv
    refine h2.mono ?_
    rintro e w' ⟨v, rfl, h3, h4, h5⟩
    exact ⟨v, rfl, h3, by rw [rOpsN_len]; exact h4, h5⟩
  · have h2 := event_other b S t kind (by simpa using hk) (by simpa using hk) w hS h
    simp only [rEvent] at hv
    rw [if_pos hk] at hv
    obtain ⟨rfl, rfl⟩ := Prod.mk.inj hv
    refine h2.mono ?_
    rintro e w' ⟨rfl, h3, h4⟩
    exact ⟨_, rfl, h3, World.ownsRow_nil _ _ _ _, h4⟩
end Go.Proofs.Ytmmgmdfhdhnmaaa
