/- The walk of script's reader: an operation, an event. -/
import Derived.Test.YtmmgmdfhdhnmaaaRd
namespace Go.Proofs.Ytmmgmdfhdhnmaaa
open Go.RowKit
set_option linter.unusedVariables false

structure POp where
  k : Int
  c : Int
  r : Int
  o : Int
  n : Int
def POp.cells (x : POp) : List Value := [.int .i64 x.k, .int .i64 x.c, .int .i64 x.r, .int .i64 x.o, .int .i64 x.n]
def sgn8 (x : Nat) : Int := if x > 127 then (x : Int) - 256 else x
def rOp (S : ByteArray) (t : St) : POp × St :=
  let a := rByte S t
  let b := rByte S a.2
  let c := rByte S b.2
  let d := rByte S c.2
  let e := rByte S d.2
  (⟨a.1, d.1, b.1, c.1, sgn8 e.1⟩, e.2)

theorem rByte_lt (S : ByteArray) (t : St) : (rByte S t).1 < 256 := by
  unfold rByte; split
  · exact byteAt_lt S t.p
  · simp
theorem i64_wrap_byte {n : Nat} (h : n < 256) : IntKind.i64.wrap (n : Int) = n := by
  simp [IntKind.wrap_i64]; omega
theorem i8_wrap_byte {n : Nat} (h : n < 256) : IntKind.i64.wrap (IntKind.i8.wrap (n : Int)) = sgn8 n := by
  unfold sgn8
  simp [IntKind.wrap, IntKind.bits, IntKind.signed]
  split <;> split <;> omega
theorem rdAt_sets5 {w : World} {b g : Nat} {S : ByteArray} {t : St} (h : RdAt w b S t) (hne : b ≠ g + 1) (v0 v1 v2 v3 v4 : Value) :
    RdAt (((((w.setCell ⟨g + 1, 0, none⟩ v0).setCell ⟨g + 1, 1, none⟩ v1).setCell ⟨g + 1, 2, none⟩ v2).setCell ⟨g + 1, 3, none⟩ v3).setCell ⟨g + 1, 4, none⟩ v4) b S t :=
  ⟨((((h.1.far hne _).far hne _).far hne _).far hne _).far hne _, h.2⟩

set_option maxRecDepth 100000 in
set_option maxHeartbeats 3200000 in
theorem op_walk (b : Nat) (S : ByteArray) (t : St) (w : World) (hS : S.size ≤ 140737488355328) (h : RdAt w b S t) :
    Calls Try.prog 41 #[.agg #[.pointer (some ⟨b, 0, none⟩)]] w fun e w' => e = .returned (.agg #[.int .i64 (rOp S t).1.k, .int .i64 (rOp S t).1.c, .int .i64 (rOp S t).1.r, .int .i64 (rOp S t).1.o, .int .i64 (rOp S t).1.n]) ∧ RdAt w' b S (rOp S t).2 ∧ w.grownBy w' (some b) := by
  have hlt := h.1.lt
  have HR := As.mk h
  clear h
  go_enter Try.func41, Try.ntmps41
  go_wp2_with fail
  have H1 : Blk ((w.alloc (.cells #[.pointer (some ⟨b, 0, none⟩)] 49)).alloc (.cells #[.int .i64 0, .int .i64 0, .int .i64 0, .int .i64 0, .int .i64 0] 79)) w.heap.size 49 #[.pointer (some ⟨b, 0, none⟩)] := (Blk.new w _ _).alloc _
  have H2 : Blk ((w.alloc (.cells #[.pointer (some ⟨b, 0, none⟩)] 49)).alloc (.cells #[.int .i64 0, .int .i64 0, .int .i64 0, .int .i64 0, .int .i64 0] 79)) (w.heap.size + 1) 79 #[.int .i64 0, .int .i64 0, .int .i64 0, .int .i64 0, .int .i64 0] := by
    have := Blk.new (w.alloc (.cells #[.pointer (some ⟨b, 0, none⟩)] 49)) 79 #[.int .i64 0, .int .i64 0, .int .i64 0, .int .i64 0, .int .i64 0]
    simpa using this
  have H3 := (HR.out.alloc (.cells #[.pointer (some ⟨b, 0, none⟩)] 49)).alloc (.cells #[.int .i64 0, .int .i64 0, .int .i64 0, .int .i64 0, .int .i64 0] 79)
  have H4 := gr_alloc (gr_alloc (gr_refl w (some b)) (.cells #[.pointer (some ⟨b, 0, none⟩)] 49)) (.cells #[.int .i64 0, .int .i64 0, .int .i64 0, .int .i64 0, .int .i64 0] 79)
  generalize (w.alloc (.cells #[.pointer (some ⟨b, 0, none⟩)] 49)).alloc (.cells #[.int .i64 0, .int .i64 0, .int .i64 0, .int .i64 0, .int .i64 0] 79) = W at *
  have hne : b ≠ w.heap.size := by omega
  have hne2 : b ≠ w.heap.size + 1 := by omega
  generalize hgg : w.heap.size = g at *
  have hge := As.mk (show w.heap.size ≤ g + 1 by omega)
  clear hgg
  have c1 : W.cell? ⟨g, 0, none⟩ = some (.pointer (some ⟨b, 0, none⟩)) := H1.cell 0
  have K1 : As (Blk W.drew g 49 _) := ⟨H1⟩
  have K2 : As (Blk W.drew (g + 1) 79 _) := ⟨H2⟩
  have K3 : As (RdAt W.drew b S t) := ⟨H3⟩
  have K4 : As (w.grownBy W.drew (some b)) := ⟨gr_drew H4⟩
  clear H1 H2 H3 H4 HR
  go_region_held3 (fun w' => w'.cell? ⟨g, 0, none⟩ = some (.pointer (some ⟨b, 0, none⟩)))
    (first | go_keep | exact K1.out.cell 0)
    (first
      | (go_at_call 14; refine (byte_walk b S _ _ hS K3.out).mono ?_; rintro e w1 ⟨rfl, hr, hg⟩
         have n1 := As.mk (K1.out.grown hg (by simp; omega)); have n2 := As.mk (K2.out.grown hg (by simp; omega)); have n3 := As.mk hr; have n4 := As.mk (gr_then K4.out hg (.inl rfl))
         clear K1 K2 K3 K4 hr hg
         have K1 := n1; have K2 := n2; have K3 := n3; have K4 := n4
         clear n1 n2 n3 n4
         try clear d0 d1 d2 d3 d4 df
         have d0 : w1.cell? ⟨g + 1, 0, none⟩ = some (.int .i64 0) := K2.out.cell 0
         have d1 : w1.cell? ⟨g + 1, 1, none⟩ = some (.int .i64 0) := K2.out.cell 1
         have d2 : w1.cell? ⟨g + 1, 2, none⟩ = some (.int .i64 0) := K2.out.cell 2
         have d3 : w1.cell? ⟨g + 1, 3, none⟩ = some (.int .i64 0) := K2.out.cell 3
         have d4 : w1.cell? ⟨g + 1, 4, none⟩ = some (.int .i64 0) := K2.out.cell 4
         have df := K2.out.free))
  have B := (((((K2.out.set 0 (.int .i64 (IntKind.i64.wrap (rByte S t).1))).set 1 (.int .i64 (IntKind.i64.wrap (rByte S (rByte S (rByte S (rByte S t).snd).snd).snd).1))).set 2 (.int .i64 (IntKind.i64.wrap (rByte S (rByte S t).snd).1))).set 3 (.int .i64 (IntKind.i64.wrap (rByte S (rByte S (rByte S t).snd).snd).1))).set 4 (.int .i64 (IntKind.i64.wrap (IntKind.i8.wrap (rByte S (rByte S (rByte S (rByte S (rByte S t).snd).snd).snd).snd).1))))
  have R := rdAt_sets5 K3.out hne2 (.int .i64 (IntKind.i64.wrap (rByte S t).1)) (.int .i64 (IntKind.i64.wrap (rByte S (rByte S (rByte S (rByte S t).snd).snd).snd).1)) (.int .i64 (IntKind.i64.wrap (rByte S (rByte S t).snd).1)) (.int .i64 (IntKind.i64.wrap (rByte S (rByte S (rByte S t).snd).snd).1)) (.int .i64 (IntKind.i64.wrap (IntKind.i8.wrap (rByte S (rByte S (rByte S (rByte S (rByte S t).snd).snd).snd).snd).1)))
  have G := gr_set (gr_set (gr_set (gr_set (gr_set K4.out (a := ⟨g + 1, 0, none⟩) (.inr hge.out) (.int .i64 (IntKind.i64.wrap (rByte S t).1))) (a := ⟨g + 1, 1, none⟩) (.inr hge.out) (.int .i64 (IntKind.i64.wrap (rByte S (rByte S (rByte S (rByte S t).snd).snd).snd).1))) (a := ⟨g + 1, 2, none⟩) (.inr hge.out) (.int .i64 (IntKind.i64.wrap (rByte S (rByte S t).snd).1))) (a := ⟨g + 1, 3, none⟩) (.inr hge.out) (.int .i64 (IntKind.i64.wrap (rByte S (rByte S (rByte S t).snd).snd).1))) (a := ⟨g + 1, 4, none⟩) (.inr hge.out) (.int .i64 (IntKind.i64.wrap (IntKind.i8.wrap (rByte S (rByte S (rByte S (rByte S (rByte S t).snd).snd).snd).snd).1)))
  have e8 := i8_wrap_byte (rByte_lt S (rByte S (rByte S (rByte S (rByte S t).snd).snd).snd).snd)
  have e1 := i64_wrap_byte (rByte_lt S t)
  have e2 := i64_wrap_byte (rByte_lt S (rByte S t).snd)
  have e3 := i64_wrap_byte (rByte_lt S (rByte S (rByte S t).snd).snd)
  have e4 := i64_wrap_byte (rByte_lt S (rByte S (rByte S (rByte S t).snd).snd).snd)
  have HE := As.mk (And.intro e1 (And.intro e2 (And.intro e3 (And.intro e4 e8))))
  have B' := As.mk B
  have R' := As.mk R
  have G' := As.mk G
  clear B R G e1 e2 e3 e4 e8 K1 K2 K3 K4 d0 d1 d2 d3 d4 df
  generalize ((((w1.setCell _ _).setCell _ _).setCell _ _).setCell _ _).setCell _ _ = W1 at *
  go_wp2
  refine bodyPost_ret (results_cell_row (P := Try.prog) rfl _ _ (g + 1) _ _ _ _ rfl B'.out Try.underlying79 rfl (by kernel_rfl)) rfl ⟨?_, R'.out, G'.out⟩
  have HE1 := HE.out
  obtain ⟨e1, e2, e3, e4, e8⟩ := HE1
  rw [e1, e2, e3, e4, e8]
  rfl
end Go.Proofs.Ytmmgmdfhdhnmaaa
