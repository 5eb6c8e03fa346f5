/- The walk of script.Parse. -/
import Derived.Test.YtmmgmdfhdhnmaaaEvs
import Derived.WalkSpells
namespace Go.Proofs.Ytmmgmdfhdhnmaaa
open Go.RowKit
set_option linter.unusedVariables false

/-- The config and the events of bytes. -/
def pNodes (S : ByteArray) : Int := (rByte S ⟨0, false⟩).1 % 16 + 1
def pCells (S : ByteArray) : Int := (rByte S (rByte S ⟨0, false⟩).2).1 % 16 + 1
def pDisk (S : ByteArray) : Int := 16 * (rCount S (rByte S (rByte S ⟨0, false⟩).2).2).1
def pEvs (S : ByteArray) : List PEv := evsT S (S.size + 1) (rCount S (rByte S (rByte S ⟨0, false⟩).2).2).2 0
theorem blk0 {w : World} {b : Nat} {t : TypeId} {v : Value} (h : Blk w b t #[v]) : w.cell? ⟨b, 0, none⟩ = some v := h.cell 0
theorem blk3 {w : World} {b : Nat} {t : TypeId} {v0 v1 v2 : Value} (h : Blk w b t #[v0, v1, v2]) : w.cell? ⟨b, 0, none⟩ = some v0 ∧ w.cell? ⟨b, 1, none⟩ = some v1 ∧ w.cell? ⟨b, 2, none⟩ = some v2 := ⟨h.cell 0, h.cell 1, h.cell 2⟩
/-- What holds behind the config's reading. -/
def ParseMid (w wx : World) (base : Nat) (S : ByteArray) (N C D : Int) (t3 : St) (gx : Nat) : Prop :=
  Blk wx base 24 #[.int .i64 0, .int .i64 0, .int .i64 0] ∧ RdAt wx (base + 1) S t3 ∧ Blk wx (base + 1 + 1) 49 #[.pointer (some ⟨base + 1, 0, none⟩)] ∧
  Blk wx gx 24 #[.int .i64 N, .int .i64 C, .int .i64 D] ∧ base + 1 + 1 < gx ∧ w.grownBy wx none
theorem parseMid_sets {w wx : World} {base : Nat} {S : ByteArray} {N C D : Int} {t3 : St} {gx : Nat} (h0 : Blk wx base 24 #[.int .i64 0, .int .i64 0, .int .i64 0]) (h1 : RdAt wx (base + 1) S t3) (h2 : Blk wx (base + 1 + 1) 49 #[.pointer (some ⟨base + 1, 0, none⟩)])
    (hx : Blk wx gx 24 #[.int .i64 0, .int .i64 0, .int .i64 0]) (hw : w.heap.size ≤ gx) (hg : base + 1 + 1 < gx) (h3 : w.grownBy wx none) :
    ParseMid w (((wx.setCell ⟨gx, 0, none⟩ (.int .i64 N)).setCell ⟨gx, 1, none⟩ (.int .i64 C)).setCell ⟨gx, 2, none⟩ (.int .i64 D)) base S N C D t3 gx := by
  refine ⟨((h0.far (by simp; omega) _).far (by simp; omega) _).far (by simp; omega) _, ⟨((h1.1.far (by simp; omega) _).far (by simp; omega) _).far (by simp; omega) _, h1.2⟩, ((h2.far (by simp; omega) _).far (by simp; omega) _).far (by simp; omega) _, ?_, hg, gr_set (gr_set (gr_set h3 (.inr hw) _) (.inr hw) _) (.inr hw) _⟩
  have := ((hx.set 0 (.int .i64 N)).set 1 (.int .i64 C)).set 2 (.int .i64 D)
  simpa using this
def ParsePost (w : World) (base : Nat) (N C D : Int) (R : List PEv) (e : Ending) (w' : World) : Prop :=
  ∃ v, e = .returned (.tuple #[.agg #[.int .i64 N, .int .i64 C, .int .i64 D], v]) ∧ EvsOwn w' base v R ∧ Below base w w'

set_option maxRecDepth 100000 in
set_option maxHeartbeats 3200000 in
theorem parse_walk (S : ByteArray) (w : World) (base : Nat) (x1 x2 x3 : Nat) (t1 t2 t3 : St) (R : List PEv) (h1 : rByte S ⟨0, false⟩ = (x1, t1)) (h2 : rByte S t1 = (x2, t2)) (h3 : rCount S t2 = (x3, t3)) (hR : evsT S (S.size + 1) t3 0 = R)
    (hbase : w.heap.size = base) (hS : S.size ≤ 140737488355328) :
    Calls Try.prog 7 #[.string S] w (ParsePost w base ((x1 : Int) % 16 + 1) ((x2 : Int) % 16 + 1) (16 * (x3 : Int)) R) := by
  have hl1 := rByte_lt S ⟨0, false⟩
  have hl2 := rByte_lt S t1
  have hl3 := rCount_lt S t2
  rw [h1] at hl1
  rw [h2] at hl2
  rw [h3] at hl3
  have H := As.mk (And.intro h1 (And.intro h2 (And.intro h3 hR)))
  have HB := As.mk hbase
  clear h1 h2 h3 hR
  go_enter Try.func7, Try.ntmps7
  go_upto_region 2 with (go_at_call 13; refine (new_walk S _).mono ?_; rintro e w1 ⟨rfl, rfl⟩)
  clear hbase
  go_cut [5] (fun v5 wx => ∃ gx : Nat, v5 = .pointer (some ⟨gx, 0, none⟩) ∧ As (ParseMid w wx base S ((x1 : Int) % 16 + 1) ((x2 : Int) % 16 + 1) (16 * (x3 : Int)) t3 gx))
  case first =>
    have H0 : Blk (((w.alloc (.cells #[.int .i64 0, .int .i64 0, .int .i64 0] 24)).alloc (.cells #[.string S, .bool false] 73)).alloc (.cells #[.pointer (some ⟨base + 1, 0, none⟩)] 49)) base 24 #[.int .i64 0, .int .i64 0, .int .i64 0] := by rw [← HB.out]; exact ((Blk.new w _ _).alloc _).alloc _
    have H1 : RdAt (((w.alloc (.cells #[.int .i64 0, .int .i64 0, .int .i64 0] 24)).alloc (.cells #[.string S, .bool false] 73)).alloc (.cells #[.pointer (some ⟨base + 1, 0, none⟩)] 49)) (base + 1) S ⟨0, false⟩ := by
      have := (RdAt.new S (w.alloc (.cells #[.int .i64 0, .int .i64 0, .int .i64 0] 24))).alloc (.cells #[.pointer (some ⟨base + 1, 0, none⟩)] 49)
      simpa [HB.out] using this
    have H2 : Blk (((w.alloc (.cells #[.int .i64 0, .int .i64 0, .int .i64 0] 24)).alloc (.cells #[.string S, .bool false] 73)).alloc (.cells #[.pointer (some ⟨base + 1, 0, none⟩)] 49)) (base + 1 + 1) 49 #[.pointer (some ⟨base + 1, 0, none⟩)] := by
      have := Blk.new2 (w.alloc (.cells #[.int .i64 0, .int .i64 0, .int .i64 0] 24)) (.cells #[.string S, .bool false] 73) 49 #[.pointer (some ⟨base + 1, 0, none⟩)]
      simpa [HB.out] using this
    have H3 : w.grownBy (((w.alloc (.cells #[.int .i64 0, .int .i64 0, .int .i64 0] 24)).alloc (.cells #[.string S, .bool false] 73)).alloc (.cells #[.pointer (some ⟨base + 1, 0, none⟩)] 49)) none := gr_alloc (gr_alloc (gr_alloc (gr_refl _ _) _) _) _
    have hz : base + 3 ≤ (((w.alloc (.cells #[.int .i64 0, .int .i64 0, .int .i64 0] 24)).alloc (.cells #[.string S, .bool false] 73)).alloc (.cells #[.pointer (some ⟨base + 1, 0, none⟩)] 49)).heap.size := by simp; have := HB.out; omega
    have c1 : (((w.alloc (.cells #[.int .i64 0, .int .i64 0, .int .i64 0] 24)).alloc (.cells #[.string S, .bool false] 73)).alloc (.cells #[.pointer (some ⟨base + 1, 0, none⟩)] 49)).cell? ⟨base + 1 + 1, 0, none⟩ = some (.pointer (some ⟨base + 1, 0, none⟩)) := H2.cell 0
    generalize ((w.alloc (.cells #[.int .i64 0, .int .i64 0, .int .i64 0] 24)).alloc (.cells #[.string S, .bool false] 73)).alloc (.cells #[.pointer (some ⟨base + 1, 0, none⟩)] 49) = W at *
    have hlt1 : base + 1 + 1 < W.heap.size := by omega
    have K0 := As.mk H0
    have K1 := As.mk H1
    have K2 := As.mk H2
    have K3 := As.mk H3
    have w1 := i64_wrap_byte hl1
    have w2 := i64_wrap_byte hl2
    have w3 : (x1 : Int).tmod 16 = (x1 : Int) % 16 := Int.tmod_eq_emod_of_nonneg (by omega)
    have w4 : (x2 : Int).tmod 16 = (x2 : Int) % 16 := Int.tmod_eq_emod_of_nonneg (by omega)
    have w5 : IntKind.i64.wrap ((x1 : Int) % 16 + 1) = (x1 : Int) % 16 + 1 := by rw [IntKind.wrap_i64]; omega
    have w6 : IntKind.i64.wrap ((x2 : Int) % 16 + 1) = (x2 : Int) % 16 + 1 := by rw [IntKind.wrap_i64]; omega
    have w7 : IntKind.i64.wrap (16 * (x3 : Int)) = 16 * (x3 : Int) := by rw [IntKind.wrap_i64]; omega
    clear H0 H1 H2 H3 hz
    go_region_held3 (fun w' => w'.cell? ⟨base + 1 + 1, 0, none⟩ = some (.pointer (some ⟨base + 1, 0, none⟩)))
      (first | with_reducible exact blk0 K2.out | with_reducible exact blk0 K2.out.drew | with_reducible exact blk0 (K2.out.alloc _) | with_reducible exact blk0 (K2.out.alloc _).drew | with_reducible exact blk0 (((K2.out.far (by simp; omega) _).far (by simp; omega) _).far (by simp; omega) _) | go_keep)
      (first
      | (go_at_call 14; refine (byte_c H.out.1 hS ?hr).mono ?_; (case hr => exact (by first | with_reducible exact K1.out | with_reducible exact K1.out.drew | with_reducible exact K1.out.alloc _ | with_reducible exact (K1.out.alloc _).drew)); rintro e w1 ⟨rfl, hr, hg⟩
         have hx3 := K2.out.lt
         have n0 := As.mk (Blk.grown (t := 24) (cs := #[.int .i64 0, .int .i64 0, .int .i64 0]) (b := base) (by first | with_reducible exact K0.out | with_reducible exact K0.out.drew | with_reducible exact K0.out.alloc _ | with_reducible exact (K0.out.alloc _).drew) hg (by simp)); have n1 := As.mk hr; have n2 := As.mk (Blk.grown (t := 49) (cs := #[.pointer (some ⟨base + 1, 0, none⟩)]) (b := base + 1 + 1) (by first | with_reducible exact K2.out | with_reducible exact K2.out.drew | with_reducible exact K2.out.alloc _ | with_reducible exact (K2.out.alloc _).drew) hg (by simp))
         have n3 := As.mk (gr_then (row := none) (by first | with_reducible exact K3.out | with_reducible exact gr_drew K3.out | with_reducible exact gr_alloc K3.out _ | with_reducible exact gr_drew (gr_alloc K3.out _)) hg (.inr (.inr (fun k hk => by injection hk; have := HB.out; omega))))
         first
           | (have nx := As.mk (KX.out.grown hg (by simp; omega)); clear KX; have KX := nx; clear nx)
           | (have KX := As.mk (Blk.grown (Blk.new _ 24 #[.int .i64 0, .int .i64 0, .int .i64 0]) hg (by simp; omega)))
           | (have KX := As.mk (Blk.grown (Blk.new _ 24 #[.int .i64 0, .int .i64 0, .int .i64 0]).drew hg (by simp; omega)))
           | skip
         clear hr hg K0 K1 K2 K3
         have K0 := n0; have K1 := n1; have K2 := n2; have K3 := n3
         clear n0 n1 n2 n3
         try simp at hx3
         try clear d0 d1 d2 df
         try (have d0 := KX.out.cell 0; have d1 := KX.out.cell 1; have d2 := KX.out.cell 2; have df := KX.out.free; try simp at d0 d1 d2 df))
      | (go_at_call 14; refine (byte_c H.out.2.1 hS ?hr).mono ?_; (case hr => exact (by first | with_reducible exact K1.out | with_reducible exact K1.out.drew | with_reducible exact K1.out.alloc _ | with_reducible exact (K1.out.alloc _).drew)); rintro e w1 ⟨rfl, hr, hg⟩
         have hx3 := K2.out.lt
         have n0 := As.mk (Blk.grown (t := 24) (cs := #[.int .i64 0, .int .i64 0, .int .i64 0]) (b := base) (by first | with_reducible exact K0.out | with_reducible exact K0.out.drew | with_reducible exact K0.out.alloc _ | with_reducible exact (K0.out.alloc _).drew) hg (by simp)); have n1 := As.mk hr; have n2 := As.mk (Blk.grown (t := 49) (cs := #[.pointer (some ⟨base + 1, 0, none⟩)]) (b := base + 1 + 1) (by first | with_reducible exact K2.out | with_reducible exact K2.out.drew | with_reducible exact K2.out.alloc _ | with_reducible exact (K2.out.alloc _).drew) hg (by simp))
         have n3 := As.mk (gr_then (row := none) (by first | with_reducible exact K3.out | with_reducible exact gr_drew K3.out | with_reducible exact gr_alloc K3.out _ | with_reducible exact gr_drew (gr_alloc K3.out _)) hg (.inr (.inr (fun k hk => by injection hk; have := HB.out; omega))))
         first
           | (have nx := As.mk (KX.out.grown hg (by simp; omega)); clear KX; have KX := nx; clear nx)
           | (have KX := As.mk (Blk.grown (Blk.new _ 24 #[.int .i64 0, .int .i64 0, .int .i64 0]) hg (by simp; omega)))
           | (have KX := As.mk (Blk.grown (Blk.new _ 24 #[.int .i64 0, .int .i64 0, .int .i64 0]).drew hg (by simp; omega)))
           | skip
         clear hr hg K0 K1 K2 K3
         have K0 := n0; have K1 := n1; have K2 := n2; have K3 := n3
         clear n0 n1 n2 n3
         try simp at hx3
         try clear d0 d1 d2 df
         try (have d0 := KX.out.cell 0; have d1 := KX.out.cell 1; have d2 := KX.out.cell 2; have df := KX.out.free; try simp at d0 d1 d2 df))
      | (go_at_call 15; refine (count_c H.out.2.2.1 hS ?hr).mono ?_; (case hr => exact (by first | with_reducible exact K1.out | with_reducible exact K1.out.drew | with_reducible exact K1.out.alloc _ | with_reducible exact (K1.out.alloc _).drew)); rintro e w1 ⟨rfl, hr, hg⟩
         have hx3 := K2.out.lt
         have n0 := As.mk (Blk.grown (t := 24) (cs := #[.int .i64 0, .int .i64 0, .int .i64 0]) (b := base) (by first | with_reducible exact K0.out | with_reducible exact K0.out.drew | with_reducible exact K0.out.alloc _ | with_reducible exact (K0.out.alloc _).drew) hg (by simp)); have n1 := As.mk hr; have n2 := As.mk (Blk.grown (t := 49) (cs := #[.pointer (some ⟨base + 1, 0, none⟩)]) (b := base + 1 + 1) (by first | with_reducible exact K2.out | with_reducible exact K2.out.drew | with_reducible exact K2.out.alloc _ | with_reducible exact (K2.out.alloc _).drew) hg (by simp))
         have n3 := As.mk (gr_then (row := none) (by first | with_reducible exact K3.out | with_reducible exact gr_drew K3.out | with_reducible exact gr_alloc K3.out _ | with_reducible exact gr_drew (gr_alloc K3.out _)) hg (.inr (.inr (fun k hk => by injection hk; have := HB.out; omega))))
         first
           | (have nx := As.mk (KX.out.grown hg (by simp; omega)); clear KX; have KX := nx; clear nx)
           | (have KX := As.mk (Blk.grown (Blk.new _ 24 #[.int .i64 0, .int .i64 0, .int .i64 0]) hg (by simp; omega)))
           | (have KX := As.mk (Blk.grown (Blk.new _ 24 #[.int .i64 0, .int .i64 0, .int .i64 0]).drew hg (by simp; omega)))
           | skip
         clear hr hg K0 K1 K2 K3
         have K0 := n0; have K1 := n1; have K2 := n2; have K3 := n3
         clear n0 n1 n2 n3
         try simp at hx3
         try clear d0 d1 d2 df
         try (have d0 := KX.out.cell 0; have d1 := KX.out.cell 1; have d2 := KX.out.cell 2; have df := KX.out.free; try simp at d0 d1 d2 df)))
    all_goals
      go_wp2_with fail
      go_meet
      first
        | exact ⟨_, rfl, ⟨K0.out.alloc _, K1.out.alloc _, K2.out.alloc _, Blk.new _ _ _, K2.out.lt, gr_alloc K3.out _⟩⟩
        | exact ⟨_, rfl, ⟨parseMid_sets K0.out K1.out K2.out KX.out (by have := HB.out; omega) (by omega) K3.out⟩⟩
  case rest =>
    obtain ⟨gx, rfl, HM⟩ := hcut
    go_wp2_with fail
    obtain ⟨M0, M1, M2, M3, M4, M5⟩ := HM.out
    have e0 : wc.cell? ⟨gx, 0, none⟩ = some (.int .i64 ((x1 : Int) % 16 + 1)) := M3.cell 0
    have e1 : wc.cell? ⟨gx, 1, none⟩ = some (.int .i64 ((x2 : Int) % 16 + 1)) := M3.cell 1
    have e2 : wc.cell? ⟨gx, 2, none⟩ = some (.int .i64 (16 * (x3 : Int))) := M3.cell 2
    have c1 : wc.cell? ⟨base + 1 + 1, 0, none⟩ = some (.pointer (some ⟨base + 1, 0, none⟩)) := M2.cell 0
    have K0 : As (Blk wc.drew base _ _) := ⟨M0⟩
    have K1 : As (RdAt wc.drew (base + 1) S t3) := ⟨M1⟩
    have K2 : As (Blk wc.drew (base + 1 + 1) _ _) := ⟨M2⟩
    have K3 : As (w.grownBy wc.drew none) := ⟨gr_drew M5⟩
    have K4 : As (Blk wc.drew gx _ _) := ⟨M3⟩
    have hx4 := M4
    clear M0 M1 M2 M3 M4 M5 HM
    go_region_held3 (fun w' => (w'.cell? ⟨gx, 0, none⟩ = some (.int .i64 ((x1 : Int) % 16 + 1)) ∧ w'.cell? ⟨gx, 1, none⟩ = some (.int .i64 ((x2 : Int) % 16 + 1)) ∧ w'.cell? ⟨gx, 2, none⟩ = some (.int .i64 (16 * (x3 : Int)))) ∧ w'.cell? ⟨base + 1 + 1, 0, none⟩ = some (.pointer (some ⟨base + 1, 0, none⟩)))
      (first | with_reducible exact ⟨blk3 K4.out, blk0 K2.out⟩ | with_reducible exact ⟨blk3 (((K4.out.far (by simp; omega) _).far (by simp; omega) _).far (by simp; omega) _), blk0 (((K2.out.far (by simp; omega) _).far (by simp; omega) _).far (by simp; omega) _)⟩ | go_keep)
      (first
        | (go_at_call 16; refine (events_walk _ S t3 _ _ R H.out.2.2.2 rfl hS K1.out).mono ?_; rintro e w1 ⟨v, rfl, hown, hg⟩
           have n0 := As.mk (K0.out.grown hg (by simp)); have n2 := As.mk (K2.out.grown hg (by simp)); have n3 := As.mk (gr_then K3.out hg (.inr (.inr (fun k hk => by injection hk; have := HB.out; omega)))); have n4 := As.mk (K4.out.grown hg (by simp; omega))
           have n5 := As.mk (hown.mono (base := base) (by have := K3.out.size; have := HB.out; omega))
           clear hown hg K0 K1 K2 K3 K4
           have K0 := n0; have K2 := n2; have K3 := n3; have K4 := n4; have K5 := n5
           clear n0 n2 n3 n4 n5
           have d0 := K0.out.cell 0; have d1 := K0.out.cell 1; have d2 := K0.out.cell 2; have df := K0.out.free
           simp at d0 d1 d2))
    have P0 := As.mk (((K0.out.set 0 (.int .i64 ((x1 : Int) % 16 + 1))).set 1 (.int .i64 ((x2 : Int) % 16 + 1))).set 2 (.int .i64 (16 * (x3 : Int))))
    have P1 := As.mk (gr_set (gr_set (gr_set (gr_refl w1 (some base)) (a := ⟨base, 0, none⟩) (.inl rfl) (.int .i64 ((x1 : Int) % 16 + 1))) (a := ⟨base, 1, none⟩) (.inl rfl) (.int .i64 ((x2 : Int) % 16 + 1))) (a := ⟨base, 2, none⟩) (.inl rfl) (.int .i64 (16 * (x3 : Int))))
    have hbw : w.heap.size ≤ base := Nat.le_of_eq HB.out
    have P2 := As.mk (K5.out.grown P1.out K0.out (by decide) (by decide))
    have P3 := As.mk (gr_then K3.out P1.out (.inr (.inr (fun k hk => by injection hk; omega))))
    clear K0 K2 K3 K4 K5 P1 d0 d1 d2 df
    generalize ((w1.setCell _ _).setCell _ _).setCell _ _ = W1 at *
    have P0' := P0.out
    simp at P0'
    have q0 : W1.cell? ⟨base, 0, none⟩ = some (.int .i64 ((x1 : Int) % 16 + 1)) := P0'.cell 0
    have q1 : W1.cell? ⟨base, 1, none⟩ = some (.int .i64 ((x2 : Int) % 16 + 1)) := P0'.cell 1
    have q2 : W1.cell? ⟨base, 2, none⟩ = some (.int .i64 (16 * (x3 : Int))) := P0'.cell 2
    clear P0' P0
    go_wp2
    refine bodyPost_ret (v := .tuple #[.agg #[.int .i64 ((x1 : Int) % 16 + 1), .int .i64 ((x2 : Int) % 16 + 1), .int .i64 (16 * (x3 : Int))], v]) (by simp [results, Try.results7, go_sem, q0, q1, q2]) rfl ⟨v, rfl, P2.out, ?_⟩
    rw [← HB.out]
    exact gr_below P3.out
theorem parse_c (S : ByteArray) (w : World) (hS : S.size ≤ 140737488355328) :
    Calls Try.prog 7 #[.string S] w (ParsePost w w.heap.size (pNodes S) (pCells S) (pDisk S) (pEvs S)) :=
  parse_walk S w _ _ _ _ _ _ _ _ rfl rfl rfl rfl rfl hS
end Go.Proofs.Ytmmgmdfhdhnmaaa
