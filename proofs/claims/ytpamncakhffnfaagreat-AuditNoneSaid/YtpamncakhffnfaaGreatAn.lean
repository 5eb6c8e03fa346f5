/- slices.ContainsFunc over the registers' two tests. (Printed by wip/gen/gen_an.py.) -/
import Derived.Test.YtpamncakhffnfaaGreatAm
namespace Go.Proofs.YtpamncakhffnfaaGreat
open Go.RowKit Go.Maps
set_option linter.unusedVariables false
set_option linter.unusedSimpArgs false

def outB (rs : List (Int × Int)) (x : PIt) : Bool := decide ((rs.length : Int) ≤ x.c)
def othB (rs : List (Int × Int)) (x : PIt) : Bool := match rs[x.c.toNat]? with | some p => !(p.1 == x.v && p.2 == x.a) | none => true
theorem oth_c (w : World) {B rb lb mb n : Nat} {rs : List (Int × Int)} {f : PTid → Option Bool} (h : RegW w B rb lb mb n rs f) (x : PIt) (hx : 0 ≤ x.c ∧ x.c < rs.length) (r : Bool) (hr : othB rs x = r) :
    Calls Tryz.prog 44 #[.pointer (some ⟨rb, 0, none⟩), .agg #[.int .i64 x.c, .int .i64 x.v, .int .i64 x.a, .bool x.wr, .int .i64 x.nw]] w fun e w' => e = .returned (.bool r) ∧ w.grownBy w' none := by
  have hj : x.c.toNat < rs.length := by omega
  refine other_c w h x x.c.toNat (rs[x.c.toNat]'hj) (List.getElem?_eq_getElem hj) (by omega) r ?_
  unfold othB at hr
  rw [List.getElem?_eq_getElem hj] at hr
  dsimp only at hr
  rw [← hr, Bool.not_not]
theorem out_c (w : World) {B rb lb mb n : Nat} {rs : List (Int × Int)} {f : PTid → Option Bool} (h : RegW w B rb lb mb n rs f) (x : PIt) (hx : True) (r : Bool) (hr : outB rs x = r) :
    Calls Tryz.prog 43 #[.pointer (some ⟨rb, 0, none⟩), .agg #[.int .i64 x.c, .int .i64 x.v, .int .i64 x.a, .bool x.wr, .int .i64 x.nw]] w fun e w' => e = .returned (.bool r) ∧ w.grownBy w' none := outside_c w h x r hr
set_option maxRecDepth 100000 in
set_option maxHeartbeats 1600000 in
theorem idx_out (w : World) (v : Value) (l : List PIt) (h : Arr ItE 5 w v l) {B rb lb mb n : Nat} {rs : List (Int × Int)} {f : PTid → Option Bool} (hR : RegW w B rb lb mb n rs f) (hl0 : ∀ x ∈ l, True) :
    Calls Tryz.prog 62 #[v, .func (.func 43) #[.pointer (some ⟨rb, 0, none⟩)] #[]] w fun e w' => (∃ i : Int, e = .returned (.int .i64 i) ∧ decide (0 ≤ i) = l.any (outB rs)) ∧ w.grownBy w' none := by
  obtain ⟨A, c, rfl⟩ := h.len
  have hl := h.le
  have H := As.mk h
  have HR := As.mk hR
  have H0 := As.mk hl0
  clear h hR hl0
  go_enter Tryz.func62, Tryz.ntmps62
  go_wp2_with fail
  go_loopw [8] (fun i wr => ∃ k : Nat, k ≤ l.length ∧ i = .int .i64 k ∧ As ((l.take k).any (outB rs) = false ∧ w.grownBy wr none)) (fun i _ => l.length - (intOf i).toNat)
  case atStart => exact ⟨0, Nat.zero_le _, rfl, ⟨by simp, gr_refl _ _⟩⟩
  case round =>
    obtain ⟨k, hk, rfl, HL⟩ := hrel
    by_cases hlt : k < l.length
    · have hltI : (k : Int) < (l.length : Int) := by omega
      have hk0 : (0 : Int) ≤ (k : Int) := by omega
      obtain ⟨b, o, cs, rfl, hE, hcs, hcell⟩ := H.out.at_ k l[k] (List.getElem?_eq_getElem hlt)
      obtain rfl := hE
      have c0 : wr.cell? ⟨b, o + k * 5, none⟩ = _ := HL.out.2.cell (hcell 0 _ rfl) (by simp)
      have c1 := HL.out.2.cell (hcell 1 _ rfl) (by simp)
      have c2 := HL.out.2.cell (hcell 2 _ rfl) (by simp)
      have c3 := HL.out.2.cell (hcell 3 _ rfl) (by simp)
      have c4 := HL.out.2.cell (hcell 4 _ rfl) (by simp)
      have HS := As.mk (any_take_succ (outB rs) l k hlt)
      have HP := As.mk (H0.out _ (List.getElem_mem hlt))
      have HM := As.mk (List.getElem_mem hlt)
      have HR1 := As.mk (HR.out.grown HL.out.2)
      clear hcell hcs
      generalize l[k]'hlt = x at *
      go_wp2_with fail
      refine (out_c wr HR1.out x HP.out _ rfl).mono ?_
      rintro e w1 ⟨rfl, g1⟩
      have G1 := As.mk (gr_then HL.out.2 g1 (.inl rfl))
      clear g1 c0 c1 c2 c3 c4
      cases hf : outB rs x
      · have HF := As.mk hf
        clear hf
        go_wp2_with fail
        go_roundw
        case measure => simp [intOf]; omega
        case rel => exact ⟨k + 1, by omega, by go_num, ⟨by rw [HS.out, HL.out.1, HF.out]; rfl, G1.out⟩⟩
      · have HF := As.mk hf
        clear hf
        go_wp2_with fail
        go_ret
        refine ⟨⟨k, rfl, ?_⟩, G1.out⟩
        rw [show decide ((0 : Int) ≤ (k : Int)) = true by simp, eq_comm, List.any_eq_true]
        exact ⟨_, HM.out, HF.out⟩
    · obtain rfl : k = l.length := by omega
      have HX := As.mk HL.out
      clear HL
      go_wp2_with fail
      go_ret
      refine ⟨⟨-1, rfl, ?_⟩, HX.out.2⟩
      have := HX.out.1
      rw [List.take_of_length_le (Nat.le_refl _)] at this
      rw [this]; rfl
set_option maxRecDepth 100000 in
theorem con_out (w : World) (v : Value) (l : List PIt) (h : Arr ItE 5 w v l) {B rb lb mb n : Nat} {rs : List (Int × Int)} {f : PTid → Option Bool} (hR : RegW w B rb lb mb n rs f) (hl0 : ∀ x ∈ l, True) (r : Bool) (hr : l.any (outB rs) = r) :
    Calls Tryz.prog 42 #[v, .func (.func 43) #[.pointer (some ⟨rb, 0, none⟩)] #[]] w fun e w' => e = .returned (.bool r) ∧ w.grownBy w' none := by
  have H := As.mk h
  have HR := As.mk hR
  have H0 := As.mk hl0
  have HQ := As.mk hr
  clear h hR hl0 hr
  go_enter Tryz.func42, Tryz.ntmps42
  go_wp2_with fail
  refine (idx_out w v l H.out HR.out H0.out).mono ?_
  rintro e w1 ⟨⟨i, rfl, hi⟩, g1⟩
  rw [HQ.out] at hi
  have HI := As.mk hi
  have G1 := As.mk g1
  clear hi g1
  go_wp2_with fail
  go_ret
  exact ⟨by rw [← HI.out]; rfl, G1.out⟩
set_option maxRecDepth 100000 in
set_option maxHeartbeats 1600000 in
theorem idx_oth (w : World) (v : Value) (l : List PIt) (h : Arr ItE 5 w v l) {B rb lb mb n : Nat} {rs : List (Int × Int)} {f : PTid → Option Bool} (hR : RegW w B rb lb mb n rs f) (hl0 : ∀ x ∈ l, 0 ≤ x.c ∧ x.c < rs.length) :
    Calls Tryz.prog 62 #[v, .func (.func 44) #[.pointer (some ⟨rb, 0, none⟩)] #[]] w fun e w' => (∃ i : Int, e = .returned (.int .i64 i) ∧ decide (0 ≤ i) = l.any (othB rs)) ∧ w.grownBy w' none := by
  obtain ⟨A, c, rfl⟩ := h.len
  have hl := h.le
  have H := As.mk h
  have HR := As.mk hR
  have H0 := As.mk hl0
  clear h hR hl0
  go_enter Tryz.func62, Tryz.ntmps62
  go_wp2_with fail
  go_loopw [8] (fun i wr => ∃ k : Nat, k ≤ l.length ∧ i = .int .i64 k ∧ As ((l.take k).any (othB rs) = false ∧ w.grownBy wr none)) (fun i _ => l.length - (intOf i).toNat)
  case atStart => exact ⟨0, Nat.zero_le _, rfl, ⟨by simp, gr_refl _ _⟩⟩
  case round =>
    obtain ⟨k, hk, rfl, HL⟩ := hrel
    by_cases hlt : k < l.length
    · have hltI : (k : Int) < (l.length : Int) := by omega
      have hk0 : (0 : Int) ≤ (k : Int) := by omega
      obtain ⟨b, o, cs, rfl, hE, hcs, hcell⟩ := H.out.at_ k l[k] (List.getElem?_eq_getElem hlt)
      obtain rfl := hE
      have c0 : wr.cell? ⟨b, o + k * 5, none⟩ = _ := HL.out.2.cell (hcell 0 _ rfl) (by simp)
      have c1 := HL.out.2.cell (hcell 1 _ rfl) (by simp)
      have c2 := HL.out.2.cell (hcell 2 _ rfl) (by simp)
      have c3 := HL.out.2.cell (hcell 3 _ rfl) (by simp)
      have c4 := HL.out.2.cell (hcell 4 _ rfl) (by simp)
      have HS := As.mk (any_take_succ (othB rs) l k hlt)
      have HP := As.mk (H0.out _ (List.getElem_mem hlt))
      have HM := As.mk (List.getElem_mem hlt)
      have HR1 := As.mk (HR.out.grown HL.out.2)
      clear hcell hcs
      generalize l[k]'hlt = x at *
      go_wp2_with fail
      refine (oth_c wr HR1.out x HP.out _ rfl).mono ?_
      rintro e w1 ⟨rfl, g1⟩
      have G1 := As.mk (gr_then HL.out.2 g1 (.inl rfl))
      clear g1 c0 c1 c2 c3 c4
      cases hf : othB rs x
      · have HF := As.mk hf
        clear hf
        go_wp2_with fail
        go_roundw
        case measure => simp [intOf]; omega
        case rel => exact ⟨k + 1, by omega, by go_num, ⟨by rw [HS.out, HL.out.1, HF.out]; rfl, G1.out⟩⟩
      · have HF := As.mk hf
        clear hf
        go_wp2_with fail
        go_ret
        refine ⟨⟨k, rfl, ?_⟩, G1.out⟩
        rw [show decide ((0 : Int) ≤ (k : Int)) = true by simp, eq_comm, List.any_eq_true]
        exact ⟨_, HM.out, HF.out⟩
    · obtain rfl : k = l.length := by omega
      have HX := As.mk HL.out
      clear HL
      go_wp2_with fail
      go_ret
      refine ⟨⟨-1, rfl, ?_⟩, HX.out.2⟩
      have := HX.out.1
      rw [List.take_of_length_le (Nat.le_refl _)] at this
      rw [this]; rfl
set_option maxRecDepth 100000 in
theorem con_oth (w : World) (v : Value) (l : List PIt) (h : Arr ItE 5 w v l) {B rb lb mb n : Nat} {rs : List (Int × Int)} {f : PTid → Option Bool} (hR : RegW w B rb lb mb n rs f) (hl0 : ∀ x ∈ l, 0 ≤ x.c ∧ x.c < rs.length) (r : Bool) (hr : l.any (othB rs) = r) :
    Calls Tryz.prog 42 #[v, .func (.func 44) #[.pointer (some ⟨rb, 0, none⟩)] #[]] w fun e w' => e = .returned (.bool r) ∧ w.grownBy w' none := by
  have H := As.mk h
  have HR := As.mk hR
  have H0 := As.mk hl0
  have HQ := As.mk hr
  clear h hR hl0 hr
  go_enter Tryz.func42, Tryz.ntmps42
  go_wp2_with fail
  refine (idx_oth w v l H.out HR.out H0.out).mono ?_
  rintro e w1 ⟨⟨i, rfl, hi⟩, g1⟩
  rw [HQ.out] at hi
  have HI := As.mk hi
  have G1 := As.mk g1
  clear hi g1
  go_wp2_with fail
  go_ret
  exact ⟨by rw [← HI.out]; rfl, G1.out⟩
end Go.Proofs.YtpamncakhffnfaaGreat
