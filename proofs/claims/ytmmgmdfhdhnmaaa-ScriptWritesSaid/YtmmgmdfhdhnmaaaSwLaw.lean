/- The walk of the law ScriptWrites. -/
import Derived.Test.YtmmgmdfhdhnmaaaSwPure
import Derived.Deep.Cut
namespace Go.Proofs.Ytmmgmdfhdhnmaaa
open Go.RowKit
set_option linter.unusedVariables false

def swOk0 (n c d : Int) (l : List PEv) : Bool := cfgRight n c d && decide (l.length ≤ 400)
theorem swOk0_no {n c d : Int} {l : List PEv} (h : ¬ (1 ≤ n ∧ n ≤ 16 ∧ 1 ≤ c ∧ c ≤ 16 ∧ 0 ≤ d ∧ d ≤ 1048560 ∧ d % 16 = 0 ∧ l.length ≤ 400)) : Value.bool false = .bool (swOk0 n c d l) := by
  congr 1
  symm
  rw [← Bool.not_eq_true]
  intro h'
  simp only [swOk0, cfgRight, inR, Bool.and_eq_true, decide_eq_true_eq, beq_iff_eq] at h'
  omega
theorem swOk0_yes {n c d : Int} {l : List PEv} (h : 1 ≤ n ∧ n ≤ 16 ∧ 1 ≤ c ∧ c ≤ 16 ∧ 0 ≤ d ∧ d ≤ 1048560 ∧ d % 16 = 0 ∧ l.length ≤ 400) : Value.bool true = .bool (swOk0 n c d l) := by
  congr 1
  symm
  simp only [swOk0, cfgRight, inR, Bool.and_eq_true, decide_eq_true_eq, beq_iff_eq]
  omega
theorem swOk (n c d : Int) (l : List PEv) : (swOk0 n c d l && l.all evRight) = fmtRight n c d l := by
  unfold swOk0 fmtRight
  rw [Bool.and_assoc, show (!l.any fun x => !evRight x) = l.all evRight by rw [List.any_eq_not_all_not]; simp]
/-- A slice of one event. -/
theorem arr_one {w : World} {g : Nat} {t : TypeId} {y : PEv} {u : Value} (h : Blk w g t #[.int .i64 y.k, .int .i64 y.a, .int .i64 y.b, .int .i64 y.n, u]) (hu : Arr OpE 5 w u y.ops) : Arr EvE 5 w (.slice (some ⟨g, 0, none⟩) 1 1) [y] :=
  ⟨_, 1, rfl, ⟨by simp, by simp⟩, fun _ => ⟨_, rfl, rfl, fun j x hx => by
    match j with
    | 0 =>
      simp at hx
      subst hx
      refine ⟨_, ⟨u, rfl, hu⟩, rfl, fun i v hv => ?_⟩
      rw [show (0 : Nat) + 0 * 5 + i = i by omega, h.cell i]
      match i with
      | 0 => simpa using hv
      | 1 => simpa using hv
      | 2 => simpa using hv
      | 3 => simpa using hv
      | 4 => simpa using hv
      | i + 5 => simp at hv
    | j + 1 => simp at hx⟩⟩
set_option maxRecDepth 100000 in
set_option maxHeartbeats 6400000 in
theorem sw_walk (n c d : Int) (v : Value) (l : List PEv) (w : World) (h : Arr EvE 5 w v l) :
    Calls Try.prog 5 #[.agg #[.int .i64 n, .int .i64 c, .int .i64 d], v] w fun e w' => e = .returned (.bool true) ∧ As (w.grownBy w' none) := by
  obtain ⟨A, cp, rfl⟩ := h.len
  have hl := h.le
  have HA := As.mk h
  have HB := As.mk (Blk.new w 24 #[.int .i64 n, .int .i64 c, .int .i64 d])
  have G := As.mk (gr_alloc (gr_refl w none) (.cells #[.int .i64 n, .int .i64 c, .int .i64 d] 24))
  clear h
  go_enter Try.func5, Try.ntmps5
  go_upto_region 3 with (go_at_call 6; refine (awake_walk _).mono ?_; rintro e w1 ⟨rfl, hg⟩)
  have HB1 := As.mk (HB.out.grown hg (by simp))
  have G1 := As.mk (gr_then G.out hg (.inl rfl))
  have b0 : w1.cell? ⟨w.heap.size, 0, none⟩ = some (.int .i64 n) := HB1.out.cell 0
  have b1 : w1.cell? ⟨w.heap.size, 1, none⟩ = some (.int .i64 c) := HB1.out.cell 1
  have b2 : w1.cell? ⟨w.heap.size, 2, none⟩ = some (.int .i64 d) := HB1.out.cell 2
  clear hg HB G
  generalize w.heap.size = gx at *
  by_cases h500 : 500 < l.length
  · have h500I : (500 : Int) < (l.length : Int) := by omega
    go_wp2
    go_ret
    exact ⟨rfl, G1⟩
  have h500I : ¬ (500 : Int) < (l.length : Int) := by omega
  go_upto_region 5 with fail
  go_cut [5] (fun v5 wx => v5 = .bool (swOk0 n c d l) ∧ wx = w1)
  case first =>
    by_cases q1 : 1 ≤ n
    · by_cases q2 : n ≤ 16
      · by_cases q3 : 1 ≤ c
        · by_cases q4 : c ≤ 16
          · by_cases q5 : 0 ≤ d
            · by_cases q6 : d ≤ 1048560
              · by_cases q7 : d % 16 = 0
                · by_cases q8 : l.length ≤ 400
                  · have q8I : (l.length : Int) ≤ 400 := by omega
                    go_wp2_with fail
                    go_meet
                    case rel => exact ⟨swOk0_yes (by omega), rfl⟩
                  · have q8I : ¬ (l.length : Int) ≤ 400 := by omega
                    go_wp2_with fail
                    go_meet
                    case rel => exact ⟨swOk0_no (by omega), rfl⟩
                · go_wp2_with fail
                  go_meet
                  case rel => exact ⟨swOk0_no (by omega), rfl⟩
              · go_wp2_with fail
                go_meet
                case rel => exact ⟨swOk0_no (by omega), rfl⟩
            · go_wp2_with fail
              go_meet
              case rel => exact ⟨swOk0_no (by omega), rfl⟩
          · go_wp2_with fail
            go_meet
            case rel => exact ⟨swOk0_no (by omega), rfl⟩
        · go_wp2_with fail
          go_meet
          case rel => exact ⟨swOk0_no (by omega), rfl⟩
      · go_wp2_with fail
        go_meet
        case rel => exact ⟨swOk0_no (by omega), rfl⟩
    · go_wp2_with fail
      go_meet
      case rel => exact ⟨swOk0_no (by omega), rfl⟩
  case rest =>
    obtain ⟨rfl, rfl⟩ := hcut
    clear b0 b1 b2
    generalize hok0 : swOk0 n c d l = ok0 at *
    go_wp2_with fail
    go_loopw [5, 58] (fun ok i wr => ∃ k : Nat, k ≤ l.length ∧ i = .int .i64 k ∧ ok = .bool (ok0 && (l.take k).all evRight) ∧ As ((∀ x ∈ l.take k, x.ops.length ≤ 100) ∧ wc.grownBy wr none)) (fun _ i _ => l.length - (intOf i).toNat)
    case atStart => exact ⟨0, Nat.zero_le _, rfl, by simp, ⟨by simp, gr_refl _ _⟩⟩
    case round =>
      obtain ⟨k, hk, rfl, rfl, HL⟩ := hrel
      by_cases hlt : k < l.length
      · have hltI : (k : Int) < (l.length : Int) := by omega
        have hk0 : (0 : Int) ≤ (k : Int) := by omega
        obtain ⟨bb, o, cs, rfl, ⟨u, hE, hu⟩, hcs, hcell⟩ := HA.out.at_ k l[k] (List.getElem?_eq_getElem hlt)
        obtain rfl := hE
        have hgr := gr_then G1.out HL.out.2 (.inl rfl)
        have c0 : wr.cell? ⟨bb, o + k * 5, none⟩ = _ := hgr.cell (hcell 0 _ rfl) (by simp)
        have c1 := hgr.cell (hcell 1 _ rfl) (by simp)
        have c2 := hgr.cell (hcell 2 _ rfl) (by simp)
        have c3 := hgr.cell (hcell 3 _ rfl) (by simp)
        have c4 := hgr.cell (hcell 4 _ rfl) (by simp)
        have hT := As.mk (List.take_succ_eq_append_getElem hlt)
        have HU := As.mk (hu.below hgr (fun _ _ => OpE.any _ _))
        obtain ⟨Au, cu, rfl⟩ := hu.len
        generalize l[k]'hlt = y at *
        have HG := As.mk HL.out.2
        clear hcell hcs hu
        by_cases h100 : 100 < y.ops.length
        · have h100I : (100 : Int) < (y.ops.length : Int) := by omega
          go_wp2_with fail
          go_ret
          exact ⟨rfl, ⟨gr_alloc (gr_then G1.out HG.out (.inl rfl)) _⟩⟩
        · have h100I : ¬ (100 : Int) < (y.ops.length : Int) := by omega
          cases hb : (ok0 && (l.take k).all evRight)
          · go_wp2_with fail
            go_roundw
            case measure => simp [intOf]; omega
            case rel =>
              refine ⟨k + 1, by omega, by go_num, ?_, ⟨fun x hx => ?_, gr_alloc HG.out _⟩⟩
              · rw [hT.out, List.all_append, ← Bool.and_assoc, hb]
                rfl
              · rw [hT.out] at hx
                rcases List.mem_append.1 hx with hx | hx
                · exact HL.out.1 x hx
                · rw [List.mem_singleton.1 hx]; omega
          · go_wp2_with fail
            have hB := ((Blk.new (wr.alloc (.cells #[.int .i64 y.k, .int .i64 y.a, .int .i64 y.b, .int .i64 y.n, .slice Au y.ops.length cu] 37)) 37 #[.int .i64 y.k, .int .i64 y.a, .int .i64 y.b, .int .i64 y.n, .slice Au y.ops.length cu]))
            rw [show (wr.alloc (.cells #[.int .i64 y.k, .int .i64 y.a, .int .i64 y.b, .int .i64 y.n, .slice Au y.ops.length cu] 37)).heap.size = wr.heap.size + 1 by simp] at hB
            have hG2 := gr_alloc (gr_alloc (gr_refl wr none) (.cells #[.int .i64 y.k, .int .i64 y.a, .int .i64 y.b, .int .i64 y.n, .slice Au y.ops.length cu] 37)) (.cells #[.int .i64 y.k, .int .i64 y.a, .int .i64 y.b, .int .i64 y.n, .slice Au y.ops.length cu] 37)
            have hA1 := arr_one hB (HU.out.below hG2 (fun _ _ => OpE.any _ _))
            have hG3 := gr_then HG.out hG2 (.inl rfl)
            refine (plain26_walk _ [y] _ _ rfl hA1 (by simp) (by simp; omega)).mono ?_
            rintro e w2 ⟨v2, rfl, hown, hg⟩
            have hA2 := Arr.of_evs hown
            obtain ⟨A2, cp2, rfl⟩ := hA2.len
            obtain ⟨b2, o2, cs2, rfl, ⟨u2, hE2, hu2⟩, -, hc2⟩ := hA2.at_ 0 y rfl
            obtain rfl := hE2
            have d0 : w2.cell? ⟨b2, o2, none⟩ = some (.int .i64 y.k) := by simpa using hc2 0 _ rfl
            have d1 : w2.cell? ⟨b2, o2 + 1, none⟩ = some (.int .i64 y.a) := by simpa using hc2 1 _ rfl
            have d2 : w2.cell? ⟨b2, o2 + 2, none⟩ = some (.int .i64 y.b) := by simpa using hc2 2 _ rfl
            have d3 : w2.cell? ⟨b2, o2 + 3, none⟩ = some (.int .i64 y.n) := by simpa using hc2 3 _ rfl
            have d4 : w2.cell? ⟨b2, o2 + 4, none⟩ = some u2 := by simpa using hc2 4 _ rfl
            have HG4 := As.mk (gr_then hG3 hg (.inl rfl))
            have HU2 := As.mk hu2
            clear hB hG2 hA1 hG3 hg hown hA2 hc2 hu2 c0 c1 c2 c3 c4 HU HG
            rw [show [y].length = 1 from rfl]
            go_wp2_with fail
            refine (refRight_c _ y _ HU2.out _ rfl).mono ?_
            rintro e w3 ⟨rfl, hg⟩
            have HG5 := As.mk (gr_then HG4.out hg (.inl rfl))
            clear hg HG4 HU2 d0 d1 d2 d3 d4
            go_wp2_with fail
            go_roundw
            case measure => simp [intOf]; omega
            case rel =>
              refine ⟨k + 1, by omega, by go_num, ?_, ⟨fun x hx => ?_, HG5.out⟩⟩
              · rw [hT.out, List.all_append, ← Bool.and_assoc, hb]
                simp
              · rw [hT.out] at hx
                rcases List.mem_append.1 hx with hx | hx
                · exact HL.out.1 x hx
                · rw [List.mem_singleton.1 hx]; omega
      · obtain rfl : k = l.length := by omega
        have hgr := gr_then G1.out HL.out.2 (.inl rfl)
        have HG := As.mk hgr
        have HOPS := As.mk (show ∀ x ∈ l, x.ops.length ≤ 100 by have := HL.out.1; rwa [List.take_length] at this)
        have HBr := HB1.out.grown HL.out.2 (by simp)
        have e0 : wr.cell? ⟨gx, 0, none⟩ = some (.int .i64 n) := HBr.cell 0
        have e1 : wr.cell? ⟨gx, 1, none⟩ = some (.int .i64 c) := HBr.cell 1
        have e2 : wr.cell? ⟨gx, 2, none⟩ = some (.int .i64 d) := HBr.cell 2
        have HB2 := As.mk HBr
        have HA1 := As.mk (HA.out.below hgr (EvE.below hgr))
        have hr : fmtRight n c d l = (ok0 && (l.take l.length).all evRight) := by rw [List.take_length, ← hok0, swOk]
        have HR := As.mk hr
        clear hgr HL HBr hr
        generalize hq : (ok0 && (l.take l.length).all evRight) = r at *
        go_wp2_with fail
        refine (format_c _ n c d _ l HA1.out r HR.out).mono ?_
        rintro e w2 ⟨rfl, hg⟩
        have HG2 := As.mk (gr_then HG.out hg (.inl rfl))
        have HB3 := As.mk (HB2.out.grown hg (by simp))
        have HA2 := As.mk (HA1.out.below hg (EvE.below hg))
        clear hg HG HB2 HA1 e0 e1 e2
        cases r
        · go_wp2_with fail
          go_ret
          exact ⟨rfl, HG2⟩
        · obtain ⟨f1, f2, f3, f4, f5, f6, f7, f8⟩ := fmt_read n c d l HR.out
          have HP := As.mk (fun w => parse_c ⟨(fmtBytes n c d l).toArray⟩ w (by omega))
          rw [f1, f2, f3, f4] at HP
          have F7 := As.mk (And.intro f5 (And.intro f7 f8))
          clear f1 f2 f3 f4 f5 f6 f7 f8 HR
          generalize (⟨(fmtBytes n c d l).toArray⟩ : ByteArray) = S at *
          go_wp2_with fail
          refine (HP.out _).mono ?_
          rintro e w3 ⟨v, rfl, hown, hg⟩
          have G3 := As.mk (gr_then (gr_alloc (gr_then HG2.out (below_gr hg none) (.inl rfl)) (.cells #[.int .i64 n, .int .i64 c, .int .i64 d] 24)) (gr_refl _ _) (.inl rfl))
          have B1 := As.mk (Blk.alloc (HB3.out.grown (below_gr hg none) (by simp)) (.cells #[.int .i64 n, .int .i64 c, .int .i64 d] 24))
          have B2 := As.mk (Blk.new w3 24 #[.int .i64 n, .int .i64 c, .int .i64 d])
          have hgn := below_gr hg none
          have A1 := As.mk ((HA2.out.below hgn (EvE.below hgn)).below (World.grownBy_alloc w3 (.cells #[.int .i64 n, .int .i64 c, .int .i64 d] 24) none) (EvE.below (World.grownBy_alloc w3 _ none)))
          have A2' := As.mk ((Arr.of_evs hown).below (World.grownBy_alloc w3 (.cells #[.int .i64 n, .int .i64 c, .int .i64 d] 24) none) (EvE.below (World.grownBy_alloc w3 _ none)))
          obtain ⟨A2, cp2, rfl⟩ := A2'.out.len
          clear hown hg hgn HG2 HB3 HA2 HP
          have x0 : (w3.alloc (.cells #[.int .i64 n, .int .i64 c, .int .i64 d] 24)).cell? ⟨gx, 0, none⟩ = some (.int .i64 n) := B1.out.cell 0
          have x1 : (w3.alloc (.cells #[.int .i64 n, .int .i64 c, .int .i64 d] 24)).cell? ⟨gx, 1, none⟩ = some (.int .i64 c) := B1.out.cell 1
          have x2 : (w3.alloc (.cells #[.int .i64 n, .int .i64 c, .int .i64 d] 24)).cell? ⟨gx, 2, none⟩ = some (.int .i64 d) := B1.out.cell 2
          go_wp2_with fail
          refine (plain26_walk _ l _ _ rfl A2'.out (by omega) (fun x hx => by have := HOPS.out x hx; omega)).mono ?_
          rintro e w4 ⟨v4, rfl, hown, hg⟩
          have G4 := As.mk (gr_then G3.out hg (.inl rfl))
          have A1' := As.mk (A1.out.below hg (EvE.below hg))
          have P1 := As.mk (Arr.of_evs hown)
          clear x0 x1 x2 B1 B2 A1 A2' G3 hown hg
          obtain ⟨A4, cp4, rfl⟩ := P1.out.len
          go_wp2_with fail
          refine (plain26_walk _ l _ _ rfl A1'.out (by omega) (fun x hx => by have := HOPS.out x hx; omega)).mono ?_
          rintro e w5 ⟨v5, rfl, hown, hg⟩
          have G5 := As.mk (gr_then G4.out hg (.inl rfl))
          have P2 := As.mk (Arr.of_evs hown)
          have P1' := As.mk (P1.out.below hg (EvE.below hg))
          clear A1' P1 G4 hown hg
          obtain ⟨A5, cp5, rfl⟩ := P2.out.len
          go_wp2_with fail
          refine (same26_walk _ _ l _ P1'.out P2.out).mono ?_
          rintro e w8 ⟨rfl, hd0⟩
          have hd : Drawn w5 w8 := hd0
          have G6 := As.mk (gr_then G5.out hd.gr (.inl rfl))
          clear hd hd0 G5 P1' P2
          obtain ⟨s4, s0, s1⟩ := F7.out
          have s0I : (0 : Int) < (S.size : Int) := by omega
          have s1I : (1 : Int) < (S.size : Int) := by omega
          have z0 : 0 < S.size := by omega
          have z1 : 1 < S.size := by omega
          have y0I : (((S[0]'z0).toNat : Nat) : Int) < 16 := by
            have h : byteAt S 0 = (S[0]'z0).toNat := by unfold byteAt; rw [dif_pos z0]
            omega
          have y1I : (((S[1]'z1).toNat : Nat) : Int) < 16 := by
            have h : byteAt S 1 = (S[1]'z1).toNat := by unfold byteAt; rw [dif_pos z1]
            omega
          go_wp2_with fail
          go_ret
          exact ⟨by simp, G6⟩
theorem sw_law (n c d : Int) (v : Value) (l : List PEv) (w : World) (h : Arr EvE 5 w v l) :
    Calls Try.prog 5 #[.agg #[.int .i64 n, .int .i64 c, .int .i64 d], v] w fun e w' => e = .returned (.bool true) ∧ w.grownBy w' none :=
  (sw_walk n c d v l w h).mono fun _ _ ⟨h1, h2⟩ => ⟨h1, h2.out⟩
end Go.Proofs.Ytmmgmdfhdhnmaaa
