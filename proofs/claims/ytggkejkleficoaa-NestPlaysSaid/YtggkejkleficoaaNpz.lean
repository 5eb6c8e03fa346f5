/- The law NestPlays. -/
import Derived.Test.YtggkejkleficoaaNpw
namespace Go.Proofs.Ytggkejkleficoaa
open Go.RowKit Go.Maps
set_option linter.unusedVariables false
set_option linter.unusedSimpArgs false
attribute [local go_sem] Oper.semAt_some

set_option maxRecDepth 100000 in
set_option maxHeartbeats 12800000 in
theorem np_walk (v0 : Value) (l : List PNo) (w : World) (hl : Arr NoE 4 w v0 l) (hlo : ∀ x ∈ l, x.ok) :
    Calls Try.prog 4 #[v0] w fun e w' => e = .returned (.bool true) ∧ w.grownBy w' none := by
  obtain ⟨A0, c0, rfl⟩ := hl.len
  have hl63 : l.length ≤ 9223372036854775807 := by obtain ⟨_, _, _, q, _⟩ := hl; exact q.1
  have HA := As.mk (And.intro hl hlo)
  clear hl hlo
  by_cases h1 : 200 < l.length
  · have h1I : (200 : Int) < (l.length : Int) := by omega
    clear h1
    go_enter Try.func4, Try.ntmps4
    go_wp2_with fail
    refine (nawake_c _).mono ?_
    rintro e w1 ⟨rfl, g1⟩
    have HG1 := As.mk g1
    clear g1
    go_wp2_with fail
    go_ret
    exact ⟨rfl, HG1.out⟩
  · have h1I : ¬ (200 : Int) < (l.length : Int) := by omega
    go_enter Try.func4, Try.ntmps4
    go_wp2_with fail
    refine (nawake_c _).mono ?_
    rintro e w1 ⟨rfl, g1⟩
    have HG1 := As.mk g1
    clear g1
    go_wp2_with fail
    refine (new_c _).mono ?_
    rintro e w2 ⟨⟨nb, F, rfl, hN⟩, g2⟩
    have HS := As.mk (show USt w w2 w1.heap.size nb F aR0 aL0 0 from ⟨hN, HG1.out.trans g2, inv0, val0, HG1.out.size, g2.size⟩)
    obtain ⟨B, hB⟩ : ∃ B, B = w1.heap.size := ⟨_, rfl⟩
    rw [← hB] at HS
    clear hN g2 HG1 hB
    go_wp2_with fail
    refine (new_r _).mono ?_
    rintro e w3 ⟨⟨rb, G, rfl, hR⟩, g3⟩
    have HT := As.mk (show Both w w3 B nb F w2.heap.size rb G aR0 aL0 aR0 aL0 0 0 from ⟨HS.out.grow g3, ⟨_, _, hR, rfl, rfl, Nat.le_refl _⟩, HS.out.gr.size, g3.size, fun k hk q => by have := (hR.fp k hk).1; have := (HS.out.nest.fp k q).2; omega⟩)
    obtain ⟨B', hB'⟩ : ∃ B, B = w2.heap.size := ⟨_, rfl⟩
    rw [← hB'] at HT
    clear hR g3 HS hB'
    go_wp2_with fail
    go_loopw [22] (fun i wr => ∃ k : Nat, k ≤ l.length ∧ i = .int .i64 k ∧ As (∃ F G rd lv, Both w wr B nb F B' rb G rd lv rd lv k k)) (fun i _ => l.length - (Go.RowKit.intOf i).toNat)
    case atStart => exact ⟨0, Nat.zero_le _, rfl, ⟨_, _, _, _, HT.out⟩⟩
    case round =>
      obtain ⟨k, hk, rfl, HL⟩ := hrel
      clear HT
      by_cases hlt : k < l.length
      · have hltI : (k : Int) < (l.length : Int) := by omega
        have hk0 : (0 : Int) ≤ (k : Int) := by omega
        have hok := HA.out.2 l[k] (List.getElem_mem hlt)
        obtain ⟨F, G, rd, lv, hT⟩ := HL.out
        obtain ⟨bb, o, cs, rfl, hE, hcs, hcell⟩ := HA.out.1.at_ k l[k] (List.getElem?_eq_getElem hlt)
        obtain rfl := hE
        have d0 : wr.cell? ⟨bb, o + k * 4, none⟩ = _ := hT.a.gr.cell (hcell 0 _ rfl) (by simp)
        have d1 := hT.a.gr.cell (hcell 1 _ rfl) (by simp)
        have d2 := hT.a.gr.cell (hcell 2 _ rfl) (by simp)
        have d3 := hT.a.gr.cell (hcell 3 _ rfl) (by simp)
        generalize l[k] = oo at *
        obtain ⟨kk, cc, vv, aa⟩ := oo
        dsimp only at d0 d1 d2 d3
        have HK := As.mk (And.intro hok (And.intro hT.a.inv.pos (And.intro hT.a.inv.five (And.intro hT.a.val hT.a.inv))))
        have HBl := As.mk (Blk.new wr 27 #[.int .i64 kk, .int .i64 cc, .int .i64 vv, .int .i64 aa])
        have HT := As.mk (hT.grow (gr_alloc (gr_refl wr none) (.cells #[.int .i64 kk, .int .i64 cc, .int .i64 vv, .int .i64 aa] 27)))
        have HnG := As.mk (show ¬ G wr.heap.size from fun q => by have := (hT.d.fp _ q).2; omega)
        have HnF := As.mk (show ¬ F wr.heap.size from fun q => by have := (hT.a.nest.fp _ q).2; omega)
        clear hT hcell hcs HL hok
        by_cases k0 : kk = 0
        · have hE : doE ⟨kk, cc, vv, aa⟩ rd lv = sawE rd cc vv ∧ doR ⟨kk, cc, vv, aa⟩ rd = sawR rd cc vv aa ∧ doL ⟨kk, cc, vv, aa⟩ rd lv = lv := by unfold doE doR doL; simp [k0]
          have hkb0 : (kk == 0) = true := by rw [beq_iff_eq]; exact k0
          clear k0
          have hfive := (HK.out.2.2.2.2.step ⟨kk, cc, vv, aa⟩).five
          rw [hE.2.2] at hfive
          go_wp2_with fail
          refine (doc_saw HT.out.d HT.out.hi HK.out.2.2.2.1 cc vv aa).mono ?_
          rintro e w4 ⟨rfl, G4, hD, hNG⟩
          obtain ⟨v0, A, cap, hP⟩ := (HT.out.doc hD hNG).pst (oo := ⟨kk, cc, vv, aa⟩) (HT.out.doc_blk hNG HBl.out HnG.out) HnF.out
          clear HT HBl HnG HnF hD hNG
          obtain ⟨want, hw⟩ : ∃ x, x = sawE rd cc vv := ⟨_, rfl⟩
          obtain ⟨rd2, hr⟩ : ∃ x : Rd, x = sawR rd cc vv aa := ⟨_, rfl⟩
          obtain ⟨lv2, hl2⟩ : ∃ x : Lv, x = lv := ⟨_, rfl⟩
          have HE := As.mk (show doE ⟨kk, cc, vv, aa⟩ rd lv = want ∧ doR ⟨kk, cc, vv, aa⟩ rd = rd2 ∧ doL ⟨kk, cc, vv, aa⟩ rd lv = lv2 by rw [hw, hr, hl2]; exact hE)
          have hP : Pst w w4 B nb B' rb rd lv rd2 lv2 k (k + 1) wr.heap.size ⟨kk, cc, vv, aa⟩ v0 (.slice A lv2.length cap) := by rw [hr, hl2]; exact hP
          rw [← hl2] at hfive
          have HV := As.mk (And.intro hfive trivial)
          rw [← hw]
          clear hE hw hr hl2 hfive
          have M0 := As.mk hP
          clear hP
          have S0 := M0.out.S
          have f0 := S0.1
          have f1 := S0.2.1
          have f2 := S0.2.2.1
          have f3 := S0.2.2.2.1
          have f4 := S0.2.2.2.2
          clear S0
          generalize wr.heap.size = gx at *
          go_wp2_with fail
          go_region_held3 (fun w' => w'.cell? ⟨gx, 0, none⟩ = some (.int .i64 kk) ∧ w'.cell? ⟨gx, 1, none⟩ = some (.int .i64 cc) ∧ w'.cell? ⟨gx, 2, none⟩ = some (.int .i64 vv) ∧ w'.cell? ⟨gx, 3, none⟩ = some (.int .i64 aa) ∧ w'.cell? ⟨rb, 1, none⟩ = some (.slice A lv2.length cap))
            (first | exact M0.out.S | exact M0.out.drew.S | go_keep)
            (first
              | (go_at_call 9; refine (M0.out.drew.does (by omega) HK.out.1).mono ?_
                 rintro e w5 ⟨rfl, hP5⟩
                 rw [HE.out.1]
                 rw [HE.out.2.1, HE.out.2.2] at hP5
                 have M1 := As.mk hP5
                 clear M0 hP5 f0 f1 f2 f3 f4
                 have M0 := M1
                 clear M1)
              | (go_at_call 10; refine (M0.out.levels).mono ?_; rintro e w5 ⟨rfl, rfl⟩)
              | (go_at_call 23; refine (M0.out.items).mono ?_
                 rintro e w5 ⟨⟨u1, rfl, hr1⟩, hg5⟩
                 have HR1 := As.mk hr1
                 have M1 := As.mk (M0.out.grow hg5)
                 clear M0 hr1 hg5
                 have M0 := M1
                 clear M1)
              | (go_at_call 24; refine (M0.out.ritems HV.out.1 (by omega)).mono ?_
                 rintro e w5 ⟨⟨u2, rfl, hr2⟩, hg5⟩
                 have HR2 := As.mk (And.intro (HR1.out.below hg5 (fun _ _ => ItE.any _ _)) hr2)
                 have M1 := As.mk (M0.out.grow hg5)
                 clear M0 hr2 hg5 HR1
                 have M0 := M1
                 clear M1)
              | (go_at_call 22; refine (sameItems_c _ _ _ _ HR2.out.1 HR2.out.2).mono ?_
                 rintro e w5 ⟨rfl, n5, rfl⟩
                 have M1 := As.mk (M0.out.grow (gr_drewN (gr_refl _ none) n5))
                 clear M0
                 have M0 := M1
                 clear M1))
          clear HR2
          generalize w5.drewN n5 = W6 at *
          go_wp2_with fail
          go_loopw [8] (fun i wx => ∃ j : Nat, j ≤ 18 ∧ i = .int .i64 ((j : Int) - 1) ∧ As (Pst w wx B nb B' rb rd2 lv2 rd2 lv2 (k + 1) (k + 1) gx ⟨kk, cc, vv, aa⟩ v0 (.slice A lv2.length cap))) (fun i _ => (17 - Go.RowKit.intOf i).toNat)
          case atStart => exact ⟨0, Nat.zero_le _, rfl, M0⟩
          case round =>
            obtain ⟨j, hj, rfl, HJ⟩ := hrel
            clear M0
            by_cases hj17 : j < 18
            · have hjI : (j : Int) - 1 ≤ 16 := by omega
              have hK64 : K64 ((j : Int) - 1) := ⟨by omega, by omega⟩
              have HK64 := As.mk hK64
              clear hK64
              go_wp2_with fail
              refine (HJ.out.value _ HK64.out).mono ?_
              rintro e w7 ⟨rfl, g7⟩
              have M7 := As.mk (HJ.out.grow g7)
              clear g7 HJ
              have HV2 := As.mk (show ∀ w8 : World, Pst w w8 B nb B' rb rd2 lv2 rd2 lv2 (k + 1) (k + 1) gx ⟨kk, cc, vv, aa⟩ v0 (.slice A lv2.length cap) → Calls Try.prog 25 #[NP rb, .int .i64 ((j : Int) - 1)] w8 fun e w' => e = .returned (.tuple #[.int .i64 ((valF rd2 lv2 ((j : Int) - 1)).getD 0), .bool (valF rd2 lv2 ((j : Int) - 1)).isSome]) ∧ w' = w8 from fun w8 h8 => h8.rvalue (by omega) _)
              generalize (valF rd2 lv2 ((j : Int) - 1)).getD 0 = qa at *
              generalize (valF rd2 lv2 ((j : Int) - 1)).isSome = qb at *
              go_wp2_with fail
              refine (HV2.out _ M7.out).mono ?_
              rintro e w8 ⟨rfl, rfl⟩
              clear HV2
              go_wp2_with fail
              refine (M7.out.has _ HK64.out).mono ?_
              rintro e w9 ⟨rfl, g9⟩
              have M9 := As.mk (M7.out.grow g9)
              clear g9 M7
              cases hsm : (rd2.2 ((j : Int) - 1)).isSome with
              | true =>
                have HSM := As.mk hsm
                clear hsm
                go_wp2_with fail
                refine (M9.out.at_ _).mono ?_
                rintro e w10 ⟨⟨r, rfl, hr⟩, rfl⟩
                rw [HSM.out] at hr
                have hr0 : 0 ≤ r := by simpa using hr
                clear hr
                go_wp2_with fail
                go_roundw
                case measure => simp [Go.RowKit.intOf]; omega
                case rel => exact ⟨j + 1, by omega, by simp, M9⟩
              | false =>
                have HSM := As.mk hsm
                clear hsm
                go_wp2_with fail
                refine (M9.out.at_ _).mono ?_
                rintro e w10 ⟨⟨r, rfl, hr⟩, rfl⟩
                rw [HSM.out] at hr
                have hr0 : ¬ 0 ≤ r := by simpa using hr
                clear hr
                go_wp2_with fail
                go_roundw
                case measure => simp [Go.RowKit.intOf]; omega
                case rel => exact ⟨j + 1, by omega, by simp, M9⟩
            · obtain rfl : j = 18 := by omega
              have M9 := HJ
              clear HJ
              go_wp2_with fail
              go_roundw
              case measure => simp [Go.RowKit.intOf]; omega
              case rel => exact ⟨k + 1, by omega, by simp, ⟨_, _, rd2, lv2, M9.out.both.choose_spec.choose_spec.1⟩⟩
        · by_cases k1 : kk = 1
          · have hE : doE ⟨kk, cc, vv, aa⟩ rd lv = wriE rd cc ∧ doR ⟨kk, cc, vv, aa⟩ rd = rd ∧ doL ⟨kk, cc, vv, aa⟩ rd lv = wriL rd lv cc aa := by unfold doE doR doL; simp [k0, k1]
            have hkb0 : (kk == 0) = false := by rw [beq_eq_false_iff_ne]; exact k0
            have hkb1 : (kk == 1) = true := by rw [beq_iff_eq]; exact k1
            clear k0 k1
            have hfive := (HK.out.2.2.2.2.step ⟨kk, cc, vv, aa⟩).five
            rw [hE.2.2] at hfive
            go_wp2_with fail
            refine (doc_write HT.out.d HT.out.hi HK.out.2.2.2.1 HK.out.2.1 HK.out.2.2.1 (by omega) cc aa).mono ?_
            rintro e w4 ⟨rfl, G4, hD, hNG⟩
            obtain ⟨v0, A, cap, hP⟩ := (HT.out.doc hD hNG).pst (oo := ⟨kk, cc, vv, aa⟩) (HT.out.doc_blk hNG HBl.out HnG.out) HnF.out
            clear HT HBl HnG HnF hD hNG
            obtain ⟨want, hw⟩ : ∃ x, x = wriE rd cc := ⟨_, rfl⟩
            obtain ⟨rd2, hr⟩ : ∃ x : Rd, x = rd := ⟨_, rfl⟩
            obtain ⟨lv2, hl2⟩ : ∃ x : Lv, x = wriL rd lv cc aa := ⟨_, rfl⟩
            have HE := As.mk (show doE ⟨kk, cc, vv, aa⟩ rd lv = want ∧ doR ⟨kk, cc, vv, aa⟩ rd = rd2 ∧ doL ⟨kk, cc, vv, aa⟩ rd lv = lv2 by rw [hw, hr, hl2]; exact hE)
            have hP : Pst w w4 B nb B' rb rd lv rd2 lv2 k (k + 1) wr.heap.size ⟨kk, cc, vv, aa⟩ v0 (.slice A lv2.length cap) := by rw [hr, hl2]; exact hP
            rw [← hl2] at hfive
            have HV := As.mk (And.intro hfive trivial)
            rw [← hw]
            clear hE hw hr hl2 hfive
            have M0 := As.mk hP
            clear hP
            have S0 := M0.out.S
            have f0 := S0.1
            have f1 := S0.2.1
            have f2 := S0.2.2.1
            have f3 := S0.2.2.2.1
            have f4 := S0.2.2.2.2
            clear S0
            generalize wr.heap.size = gx at *
            go_wp2_with fail
            go_region_held3 (fun w' => w'.cell? ⟨gx, 0, none⟩ = some (.int .i64 kk) ∧ w'.cell? ⟨gx, 1, none⟩ = some (.int .i64 cc) ∧ w'.cell? ⟨gx, 2, none⟩ = some (.int .i64 vv) ∧ w'.cell? ⟨gx, 3, none⟩ = some (.int .i64 aa) ∧ w'.cell? ⟨rb, 1, none⟩ = some (.slice A lv2.length cap))
              (first | exact M0.out.S | exact M0.out.drew.S | go_keep)
              (first
                | (go_at_call 9; refine (M0.out.drew.does (by omega) HK.out.1).mono ?_
                   rintro e w5 ⟨rfl, hP5⟩
                   rw [HE.out.1]
                   rw [HE.out.2.1, HE.out.2.2] at hP5
                   have M1 := As.mk hP5
                   clear M0 hP5 f0 f1 f2 f3 f4
                   have M0 := M1
                   clear M1)
                | (go_at_call 10; refine (M0.out.levels).mono ?_; rintro e w5 ⟨rfl, rfl⟩)
                | (go_at_call 23; refine (M0.out.items).mono ?_
                   rintro e w5 ⟨⟨u1, rfl, hr1⟩, hg5⟩
                   have HR1 := As.mk hr1
                   have M1 := As.mk (M0.out.grow hg5)
                   clear M0 hr1 hg5
                   have M0 := M1
                   clear M1)
                | (go_at_call 24; refine (M0.out.ritems HV.out.1 (by omega)).mono ?_
                   rintro e w5 ⟨⟨u2, rfl, hr2⟩, hg5⟩
                   have HR2 := As.mk (And.intro (HR1.out.below hg5 (fun _ _ => ItE.any _ _)) hr2)
                   have M1 := As.mk (M0.out.grow hg5)
                   clear M0 hr2 hg5 HR1
                   have M0 := M1
                   clear M1)
                | (go_at_call 22; refine (sameItems_c _ _ _ _ HR2.out.1 HR2.out.2).mono ?_
                   rintro e w5 ⟨rfl, n5, rfl⟩
                   have M1 := As.mk (M0.out.grow (gr_drewN (gr_refl _ none) n5))
                   clear M0
                   have M0 := M1
                   clear M1))
            clear HR2
            generalize w5.drewN n5 = W6 at *
            go_wp2_with fail
            go_loopw [8] (fun i wx => ∃ j : Nat, j ≤ 18 ∧ i = .int .i64 ((j : Int) - 1) ∧ As (Pst w wx B nb B' rb rd2 lv2 rd2 lv2 (k + 1) (k + 1) gx ⟨kk, cc, vv, aa⟩ v0 (.slice A lv2.length cap))) (fun i _ => (17 - Go.RowKit.intOf i).toNat)
            case atStart => exact ⟨0, Nat.zero_le _, rfl, M0⟩
            case round =>
              obtain ⟨j, hj, rfl, HJ⟩ := hrel
              clear M0
              by_cases hj17 : j < 18
              · have hjI : (j : Int) - 1 ≤ 16 := by omega
                have hK64 : K64 ((j : Int) - 1) := ⟨by omega, by omega⟩
                have HK64 := As.mk hK64
                clear hK64
                go_wp2_with fail
                refine (HJ.out.value _ HK64.out).mono ?_
                rintro e w7 ⟨rfl, g7⟩
                have M7 := As.mk (HJ.out.grow g7)
                clear g7 HJ
                have HV2 := As.mk (show ∀ w8 : World, Pst w w8 B nb B' rb rd2 lv2 rd2 lv2 (k + 1) (k + 1) gx ⟨kk, cc, vv, aa⟩ v0 (.slice A lv2.length cap) → Calls Try.prog 25 #[NP rb, .int .i64 ((j : Int) - 1)] w8 fun e w' => e = .returned (.tuple #[.int .i64 ((valF rd2 lv2 ((j : Int) - 1)).getD 0), .bool (valF rd2 lv2 ((j : Int) - 1)).isSome]) ∧ w' = w8 from fun w8 h8 => h8.rvalue (by omega) _)
                generalize (valF rd2 lv2 ((j : Int) - 1)).getD 0 = qa at *
                generalize (valF rd2 lv2 ((j : Int) - 1)).isSome = qb at *
                go_wp2_with fail
                refine (HV2.out _ M7.out).mono ?_
                rintro e w8 ⟨rfl, rfl⟩
                clear HV2
                go_wp2_with fail
                refine (M7.out.has _ HK64.out).mono ?_
                rintro e w9 ⟨rfl, g9⟩
                have M9 := As.mk (M7.out.grow g9)
                clear g9 M7
                cases hsm : (rd2.2 ((j : Int) - 1)).isSome with
                | true =>
                  have HSM := As.mk hsm
                  clear hsm
                  go_wp2_with fail
                  refine (M9.out.at_ _).mono ?_
                  rintro e w10 ⟨⟨r, rfl, hr⟩, rfl⟩
                  rw [HSM.out] at hr
                  have hr0 : 0 ≤ r := by simpa using hr
                  clear hr
                  go_wp2_with fail
                  go_roundw
                  case measure => simp [Go.RowKit.intOf]; omega
                  case rel => exact ⟨j + 1, by omega, by simp, M9⟩
                | false =>
                  have HSM := As.mk hsm
                  clear hsm
                  go_wp2_with fail
                  refine (M9.out.at_ _).mono ?_
                  rintro e w10 ⟨⟨r, rfl, hr⟩, rfl⟩
                  rw [HSM.out] at hr
                  have hr0 : ¬ 0 ≤ r := by simpa using hr
                  clear hr
                  go_wp2_with fail
                  go_roundw
                  case measure => simp [Go.RowKit.intOf]; omega
                  case rel => exact ⟨j + 1, by omega, by simp, M9⟩
              · obtain rfl : j = 18 := by omega
                have M9 := HJ
                clear HJ
                go_wp2_with fail
                go_roundw
                case measure => simp [Go.RowKit.intOf]; omega
                case rel => exact ⟨k + 1, by omega, by simp, ⟨_, _, rd2, lv2, M9.out.both.choose_spec.choose_spec.1⟩⟩
          · by_cases k2 : kk = 2
            · have hE : doE ⟨kk, cc, vv, aa⟩ rd lv = begE lv ∧ doR ⟨kk, cc, vv, aa⟩ rd = rd ∧ doL ⟨kk, cc, vv, aa⟩ rd lv = begL lv := by unfold doE doR doL; simp [k0, k1, k2]
              have hkb0 : (kk == 0) = false := by rw [beq_eq_false_iff_ne]; exact k0
              have hkb1 : (kk == 1) = false := by rw [beq_eq_false_iff_ne]; exact k1
              have hkb2 : (kk == 2) = true := by rw [beq_iff_eq]; exact k2
              clear k0 k1 k2
              have hfive := (HK.out.2.2.2.2.step ⟨kk, cc, vv, aa⟩).five
              rw [hE.2.2] at hfive
              go_wp2_with fail
              refine (doc_begin HT.out.d HT.out.hi HK.out.2.2.1).mono ?_
              rintro e w4 ⟨rfl, G4, hD, hNG⟩
              obtain ⟨v0, A, cap, hP⟩ := (HT.out.doc hD hNG).pst (oo := ⟨kk, cc, vv, aa⟩) (HT.out.doc_blk hNG HBl.out HnG.out) HnF.out
              clear HT HBl HnG HnF hD hNG
              obtain ⟨want, hw⟩ : ∃ x, x = begE lv := ⟨_, rfl⟩
              obtain ⟨rd2, hr⟩ : ∃ x : Rd, x = rd := ⟨_, rfl⟩
              obtain ⟨lv2, hl2⟩ : ∃ x : Lv, x = begL lv := ⟨_, rfl⟩
              have HE := As.mk (show doE ⟨kk, cc, vv, aa⟩ rd lv = want ∧ doR ⟨kk, cc, vv, aa⟩ rd = rd2 ∧ doL ⟨kk, cc, vv, aa⟩ rd lv = lv2 by rw [hw, hr, hl2]; exact hE)
              have hP : Pst w w4 B nb B' rb rd lv rd2 lv2 k (k + 1) wr.heap.size ⟨kk, cc, vv, aa⟩ v0 (.slice A lv2.length cap) := by rw [hr, hl2]; exact hP
              rw [← hl2] at hfive
              have HV := As.mk (And.intro hfive trivial)
              rw [← hw]
              clear hE hw hr hl2 hfive
              have M0 := As.mk hP
              clear hP
              have S0 := M0.out.S
              have f0 := S0.1
              have f1 := S0.2.1
              have f2 := S0.2.2.1
              have f3 := S0.2.2.2.1
              have f4 := S0.2.2.2.2
              clear S0
              generalize wr.heap.size = gx at *
              go_wp2_with fail
              go_region_held3 (fun w' => w'.cell? ⟨gx, 0, none⟩ = some (.int .i64 kk) ∧ w'.cell? ⟨gx, 1, none⟩ = some (.int .i64 cc) ∧ w'.cell? ⟨gx, 2, none⟩ = some (.int .i64 vv) ∧ w'.cell? ⟨gx, 3, none⟩ = some (.int .i64 aa) ∧ w'.cell? ⟨rb, 1, none⟩ = some (.slice A lv2.length cap))
                (first | exact M0.out.S | exact M0.out.drew.S | go_keep)
                (first
                  | (go_at_call 9; refine (M0.out.drew.does (by omega) HK.out.1).mono ?_
                     rintro e w5 ⟨rfl, hP5⟩
                     rw [HE.out.1]
                     rw [HE.out.2.1, HE.out.2.2] at hP5
                     have M1 := As.mk hP5
                     clear M0 hP5 f0 f1 f2 f3 f4
                     have M0 := M1
                     clear M1)
                  | (go_at_call 10; refine (M0.out.levels).mono ?_; rintro e w5 ⟨rfl, rfl⟩)
                  | (go_at_call 23; refine (M0.out.items).mono ?_
                     rintro e w5 ⟨⟨u1, rfl, hr1⟩, hg5⟩
                     have HR1 := As.mk hr1
                     have M1 := As.mk (M0.out.grow hg5)
                     clear M0 hr1 hg5
                     have M0 := M1
                     clear M1)
                  | (go_at_call 24; refine (M0.out.ritems HV.out.1 (by omega)).mono ?_
                     rintro e w5 ⟨⟨u2, rfl, hr2⟩, hg5⟩
                     have HR2 := As.mk (And.intro (HR1.out.below hg5 (fun _ _ => ItE.any _ _)) hr2)
                     have M1 := As.mk (M0.out.grow hg5)
                     clear M0 hr2 hg5 HR1
                     have M0 := M1
                     clear M1)
                  | (go_at_call 22; refine (sameItems_c _ _ _ _ HR2.out.1 HR2.out.2).mono ?_
                     rintro e w5 ⟨rfl, n5, rfl⟩
                     have M1 := As.mk (M0.out.grow (gr_drewN (gr_refl _ none) n5))
                     clear M0
                     have M0 := M1
                     clear M1))
              clear HR2
              generalize w5.drewN n5 = W6 at *
              go_wp2_with fail
              go_loopw [8] (fun i wx => ∃ j : Nat, j ≤ 18 ∧ i = .int .i64 ((j : Int) - 1) ∧ As (Pst w wx B nb B' rb rd2 lv2 rd2 lv2 (k + 1) (k + 1) gx ⟨kk, cc, vv, aa⟩ v0 (.slice A lv2.length cap))) (fun i _ => (17 - Go.RowKit.intOf i).toNat)
              case atStart => exact ⟨0, Nat.zero_le _, rfl, M0⟩
              case round =>
                obtain ⟨j, hj, rfl, HJ⟩ := hrel
                clear M0
                by_cases hj17 : j < 18
                · have hjI : (j : Int) - 1 ≤ 16 := by omega
                  have hK64 : K64 ((j : Int) - 1) := ⟨by omega, by omega⟩
                  have HK64 := As.mk hK64
                  clear hK64
                  go_wp2_with fail
                  refine (HJ.out.value _ HK64.out).mono ?_
                  rintro e w7 ⟨rfl, g7⟩
                  have M7 := As.mk (HJ.out.grow g7)
                  clear g7 HJ
                  have HV2 := As.mk (show ∀ w8 : World, Pst w w8 B nb B' rb rd2 lv2 rd2 lv2 (k + 1) (k + 1) gx ⟨kk, cc, vv, aa⟩ v0 (.slice A lv2.length cap) → Calls Try.prog 25 #[NP rb, .int .i64 ((j : Int) - 1)] w8 fun e w' => e = .returned (.tuple #[.int .i64 ((valF rd2 lv2 ((j : Int) - 1)).getD 0), .bool (valF rd2 lv2 ((j : Int) - 1)).isSome]) ∧ w' = w8 from fun w8 h8 => h8.rvalue (by omega) _)
                  generalize (valF rd2 lv2 ((j : Int) - 1)).getD 0 = qa at *
                  generalize (valF rd2 lv2 ((j : Int) - 1)).isSome = qb at *
                  go_wp2_with fail
                  refine (HV2.out _ M7.out).mono ?_
                  rintro e w8 ⟨rfl, rfl⟩
                  clear HV2
                  go_wp2_with fail
                  refine (M7.out.has _ HK64.out).mono ?_
                  rintro e w9 ⟨rfl, g9⟩
                  have M9 := As.mk (M7.out.grow g9)
                  clear g9 M7
                  cases hsm : (rd2.2 ((j : Int) - 1)).isSome with
                  | true =>
                    have HSM := As.mk hsm
                    clear hsm
                    go_wp2_with fail
                    refine (M9.out.at_ _).mono ?_
                    rintro e w10 ⟨⟨r, rfl, hr⟩, rfl⟩
                    rw [HSM.out] at hr
                    have hr0 : 0 ≤ r := by simpa using hr
                    clear hr
                    go_wp2_with fail
                    go_roundw
                    case measure => simp [Go.RowKit.intOf]; omega
                    case rel => exact ⟨j + 1, by omega, by simp, M9⟩
                  | false =>
                    have HSM := As.mk hsm
                    clear hsm
                    go_wp2_with fail
                    refine (M9.out.at_ _).mono ?_
                    rintro e w10 ⟨⟨r, rfl, hr⟩, rfl⟩
                    rw [HSM.out] at hr
                    have hr0 : ¬ 0 ≤ r := by simpa using hr
                    clear hr
                    go_wp2_with fail
                    go_roundw
                    case measure => simp [Go.RowKit.intOf]; omega
                    case rel => exact ⟨j + 1, by omega, by simp, M9⟩
                · obtain rfl : j = 18 := by omega
                  have M9 := HJ
                  clear HJ
                  go_wp2_with fail
                  go_roundw
                  case measure => simp [Go.RowKit.intOf]; omega
                  case rel => exact ⟨k + 1, by omega, by simp, ⟨_, _, rd2, lv2, M9.out.both.choose_spec.choose_spec.1⟩⟩
            · by_cases k3 : kk = 3
              · have hE : doE ⟨kk, cc, vv, aa⟩ rd lv = undE lv ∧ doR ⟨kk, cc, vv, aa⟩ rd = rd ∧ doL ⟨kk, cc, vv, aa⟩ rd lv = undL lv := by unfold doE doR doL; simp [k0, k1, k2, k3]
                have hkb0 : (kk == 0) = false := by rw [beq_eq_false_iff_ne]; exact k0
                have hkb1 : (kk == 1) = false := by rw [beq_eq_false_iff_ne]; exact k1
                have hkb2 : (kk == 2) = false := by rw [beq_eq_false_iff_ne]; exact k2
                have hkb3 : (kk == 3) = true := by rw [beq_iff_eq]; exact k3
                clear k0 k1 k2 k3
                have hfive := (HK.out.2.2.2.2.step ⟨kk, cc, vv, aa⟩).five
                rw [hE.2.2] at hfive
                go_wp2_with fail
                refine (doc_undo HT.out.d HT.out.hi HK.out.2.1 HK.out.2.2.1).mono ?_
                rintro e w4 ⟨rfl, G4, hD, hNG⟩
                obtain ⟨v0, A, cap, hP⟩ := (HT.out.doc hD hNG).pst (oo := ⟨kk, cc, vv, aa⟩) (HT.out.doc_blk hNG HBl.out HnG.out) HnF.out
                clear HT HBl HnG HnF hD hNG
                obtain ⟨want, hw⟩ : ∃ x, x = undE lv := ⟨_, rfl⟩
                obtain ⟨rd2, hr⟩ : ∃ x : Rd, x = rd := ⟨_, rfl⟩
                obtain ⟨lv2, hl2⟩ : ∃ x : Lv, x = undL lv := ⟨_, rfl⟩
                have HE := As.mk (show doE ⟨kk, cc, vv, aa⟩ rd lv = want ∧ doR ⟨kk, cc, vv, aa⟩ rd = rd2 ∧ doL ⟨kk, cc, vv, aa⟩ rd lv = lv2 by rw [hw, hr, hl2]; exact hE)
                have hP : Pst w w4 B nb B' rb rd lv rd2 lv2 k (k + 1) wr.heap.size ⟨kk, cc, vv, aa⟩ v0 (.slice A lv2.length cap) := by rw [hr, hl2]; exact hP
                rw [← hl2] at hfive
                have HV := As.mk (And.intro hfive trivial)
                rw [← hw]
                clear hE hw hr hl2 hfive
                have M0 := As.mk hP
                clear hP
                have S0 := M0.out.S
                have f0 := S0.1
                have f1 := S0.2.1
                have f2 := S0.2.2.1
                have f3 := S0.2.2.2.1
                have f4 := S0.2.2.2.2
                clear S0
                generalize wr.heap.size = gx at *
                go_wp2_with fail
                go_region_held3 (fun w' => w'.cell? ⟨gx, 0, none⟩ = some (.int .i64 kk) ∧ w'.cell? ⟨gx, 1, none⟩ = some (.int .i64 cc) ∧ w'.cell? ⟨gx, 2, none⟩ = some (.int .i64 vv) ∧ w'.cell? ⟨gx, 3, none⟩ = some (.int .i64 aa) ∧ w'.cell? ⟨rb, 1, none⟩ = some (.slice A lv2.length cap))
                  (first | exact M0.out.S | exact M0.out.drew.S | go_keep)
                  (first
                    | (go_at_call 9; refine (M0.out.drew.does (by omega) HK.out.1).mono ?_
                       rintro e w5 ⟨rfl, hP5⟩
                       rw [HE.out.1]
                       rw [HE.out.2.1, HE.out.2.2] at hP5
                       have M1 := As.mk hP5
                       clear M0 hP5 f0 f1 f2 f3 f4
                       have M0 := M1
                       clear M1)
                    | (go_at_call 10; refine (M0.out.levels).mono ?_; rintro e w5 ⟨rfl, rfl⟩)
                    | (go_at_call 23; refine (M0.out.items).mono ?_
                       rintro e w5 ⟨⟨u1, rfl, hr1⟩, hg5⟩
                       have HR1 := As.mk hr1
                       have M1 := As.mk (M0.out.grow hg5)
                       clear M0 hr1 hg5
                       have M0 := M1
                       clear M1)
                    | (go_at_call 24; refine (M0.out.ritems HV.out.1 (by omega)).mono ?_
                       rintro e w5 ⟨⟨u2, rfl, hr2⟩, hg5⟩
                       have HR2 := As.mk (And.intro (HR1.out.below hg5 (fun _ _ => ItE.any _ _)) hr2)
                       have M1 := As.mk (M0.out.grow hg5)
                       clear M0 hr2 hg5 HR1
                       have M0 := M1
                       clear M1)
                    | (go_at_call 22; refine (sameItems_c _ _ _ _ HR2.out.1 HR2.out.2).mono ?_
                       rintro e w5 ⟨rfl, n5, rfl⟩
                       have M1 := As.mk (M0.out.grow (gr_drewN (gr_refl _ none) n5))
                       clear M0
                       have M0 := M1
                       clear M1))
                clear HR2
                generalize w5.drewN n5 = W6 at *
                go_wp2_with fail
                go_loopw [8] (fun i wx => ∃ j : Nat, j ≤ 18 ∧ i = .int .i64 ((j : Int) - 1) ∧ As (Pst w wx B nb B' rb rd2 lv2 rd2 lv2 (k + 1) (k + 1) gx ⟨kk, cc, vv, aa⟩ v0 (.slice A lv2.length cap))) (fun i _ => (17 - Go.RowKit.intOf i).toNat)
                case atStart => exact ⟨0, Nat.zero_le _, rfl, M0⟩
                case round =>
                  obtain ⟨j, hj, rfl, HJ⟩ := hrel
                  clear M0
                  by_cases hj17 : j < 18
                  · have hjI : (j : Int) - 1 ≤ 16 := by omega
                    have hK64 : K64 ((j : Int) - 1) := ⟨by omega, by omega⟩
                    have HK64 := As.mk hK64
                    clear hK64
                    go_wp2_with fail
                    refine (HJ.out.value _ HK64.out).mono ?_
                    rintro e w7 ⟨rfl, g7⟩
                    have M7 := As.mk (HJ.out.grow g7)
                    clear g7 HJ
                    have HV2 := As.mk (show ∀ w8 : World, Pst w w8 B nb B' rb rd2 lv2 rd2 lv2 (k + 1) (k + 1) gx ⟨kk, cc, vv, aa⟩ v0 (.slice A lv2.length cap) → Calls Try.prog 25 #[NP rb, .int .i64 ((j : Int) - 1)] w8 fun e w' => e = .returned (.tuple #[.int .i64 ((valF rd2 lv2 ((j : Int) - 1)).getD 0), .bool (valF rd2 lv2 ((j : Int) - 1)).isSome]) ∧ w' = w8 from fun w8 h8 => h8.rvalue (by omega) _)
                    generalize (valF rd2 lv2 ((j : Int) - 1)).getD 0 = qa at *
                    generalize (valF rd2 lv2 ((j : Int) - 1)).isSome = qb at *
                    go_wp2_with fail
                    refine (HV2.out _ M7.out).mono ?_
                    rintro e w8 ⟨rfl, rfl⟩
                    clear HV2
                    go_wp2_with fail
                    refine (M7.out.has _ HK64.out).mono ?_
                    rintro e w9 ⟨rfl, g9⟩
                    have M9 := As.mk (M7.out.grow g9)
                    clear g9 M7
                    cases hsm : (rd2.2 ((j : Int) - 1)).isSome with
                    | true =>
                      have HSM := As.mk hsm
                      clear hsm
                      go_wp2_with fail
                      refine (M9.out.at_ _).mono ?_
                      rintro e w10 ⟨⟨r, rfl, hr⟩, rfl⟩
                      rw [HSM.out] at hr
                      have hr0 : 0 ≤ r := by simpa using hr
                      clear hr
                      go_wp2_with fail
                      go_roundw
                      case measure => simp [Go.RowKit.intOf]; omega
                      case rel => exact ⟨j + 1, by omega, by simp, M9⟩
                    | false =>
                      have HSM := As.mk hsm
                      clear hsm
                      go_wp2_with fail
                      refine (M9.out.at_ _).mono ?_
                      rintro e w10 ⟨⟨r, rfl, hr⟩, rfl⟩
                      rw [HSM.out] at hr
                      have hr0 : ¬ 0 ≤ r := by simpa using hr
                      clear hr
                      go_wp2_with fail
                      go_roundw
                      case measure => simp [Go.RowKit.intOf]; omega
                      case rel => exact ⟨j + 1, by omega, by simp, M9⟩
                  · obtain rfl : j = 18 := by omega
                    have M9 := HJ
                    clear HJ
                    go_wp2_with fail
                    go_roundw
                    case measure => simp [Go.RowKit.intOf]; omega
                    case rel => exact ⟨k + 1, by omega, by simp, ⟨_, _, rd2, lv2, M9.out.both.choose_spec.choose_spec.1⟩⟩
              · by_cases k4 : kk = 4
                · have hE : doE ⟨kk, cc, vv, aa⟩ rd lv = undE lv ∧ doR ⟨kk, cc, vv, aa⟩ rd = rd ∧ doL ⟨kk, cc, vv, aa⟩ rd lv = merL lv := by unfold doE doR doL; simp [k0, k1, k2, k3, k4]
                  have hkb0 : (kk == 0) = false := by rw [beq_eq_false_iff_ne]; exact k0
                  have hkb1 : (kk == 1) = false := by rw [beq_eq_false_iff_ne]; exact k1
                  have hkb2 : (kk == 2) = false := by rw [beq_eq_false_iff_ne]; exact k2
                  have hkb3 : (kk == 3) = false := by rw [beq_eq_false_iff_ne]; exact k3
                  have hkb4 : (kk == 4) = true := by rw [beq_iff_eq]; exact k4
                  clear k0 k1 k2 k3 k4
                  have hfive := (HK.out.2.2.2.2.step ⟨kk, cc, vv, aa⟩).five
                  rw [hE.2.2] at hfive
                  go_wp2_with fail
                  refine (doc_merge HT.out.d HT.out.hi HK.out.2.1 HK.out.2.2.1 (by omega)).mono ?_
                  rintro e w4 ⟨rfl, G4, hD, hNG⟩
                  obtain ⟨v0, A, cap, hP⟩ := (HT.out.doc hD hNG).pst (oo := ⟨kk, cc, vv, aa⟩) (HT.out.doc_blk hNG HBl.out HnG.out) HnF.out
                  clear HT HBl HnG HnF hD hNG
                  obtain ⟨want, hw⟩ : ∃ x, x = undE lv := ⟨_, rfl⟩
                  obtain ⟨rd2, hr⟩ : ∃ x : Rd, x = rd := ⟨_, rfl⟩
                  obtain ⟨lv2, hl2⟩ : ∃ x : Lv, x = merL lv := ⟨_, rfl⟩
                  have HE := As.mk (show doE ⟨kk, cc, vv, aa⟩ rd lv = want ∧ doR ⟨kk, cc, vv, aa⟩ rd = rd2 ∧ doL ⟨kk, cc, vv, aa⟩ rd lv = lv2 by rw [hw, hr, hl2]; exact hE)
                  have hP : Pst w w4 B nb B' rb rd lv rd2 lv2 k (k + 1) wr.heap.size ⟨kk, cc, vv, aa⟩ v0 (.slice A lv2.length cap) := by rw [hr, hl2]; exact hP
                  rw [← hl2] at hfive
                  have HV := As.mk (And.intro hfive trivial)
                  rw [← hw]
                  clear hE hw hr hl2 hfive
                  have M0 := As.mk hP
                  clear hP
                  have S0 := M0.out.S
                  have f0 := S0.1
                  have f1 := S0.2.1
                  have f2 := S0.2.2.1
                  have f3 := S0.2.2.2.1
                  have f4 := S0.2.2.2.2
                  clear S0
                  generalize wr.heap.size = gx at *
                  go_wp2_with fail
                  go_region_held3 (fun w' => w'.cell? ⟨gx, 0, none⟩ = some (.int .i64 kk) ∧ w'.cell? ⟨gx, 1, none⟩ = some (.int .i64 cc) ∧ w'.cell? ⟨gx, 2, none⟩ = some (.int .i64 vv) ∧ w'.cell? ⟨gx, 3, none⟩ = some (.int .i64 aa) ∧ w'.cell? ⟨rb, 1, none⟩ = some (.slice A lv2.length cap))
                    (first | exact M0.out.S | exact M0.out.drew.S | go_keep)
                    (first
                      | (go_at_call 9; refine (M0.out.drew.does (by omega) HK.out.1).mono ?_
                         rintro e w5 ⟨rfl, hP5⟩
                         rw [HE.out.1]
                         rw [HE.out.2.1, HE.out.2.2] at hP5
                         have M1 := As.mk hP5
                         clear M0 hP5 f0 f1 f2 f3 f4
                         have M0 := M1
                         clear M1)
                      | (go_at_call 10; refine (M0.out.levels).mono ?_; rintro e w5 ⟨rfl, rfl⟩)
                      | (go_at_call 23; refine (M0.out.items).mono ?_
                         rintro e w5 ⟨⟨u1, rfl, hr1⟩, hg5⟩
                         have HR1 := As.mk hr1
                         have M1 := As.mk (M0.out.grow hg5)
                         clear M0 hr1 hg5
                         have M0 := M1
                         clear M1)
                      | (go_at_call 24; refine (M0.out.ritems HV.out.1 (by omega)).mono ?_
                         rintro e w5 ⟨⟨u2, rfl, hr2⟩, hg5⟩
                         have HR2 := As.mk (And.intro (HR1.out.below hg5 (fun _ _ => ItE.any _ _)) hr2)
                         have M1 := As.mk (M0.out.grow hg5)
                         clear M0 hr2 hg5 HR1
                         have M0 := M1
                         clear M1)
                      | (go_at_call 22; refine (sameItems_c _ _ _ _ HR2.out.1 HR2.out.2).mono ?_
                         rintro e w5 ⟨rfl, n5, rfl⟩
                         have M1 := As.mk (M0.out.grow (gr_drewN (gr_refl _ none) n5))
                         clear M0
                         have M0 := M1
                         clear M1))
                  clear HR2
                  generalize w5.drewN n5 = W6 at *
                  go_wp2_with fail
                  go_loopw [8] (fun i wx => ∃ j : Nat, j ≤ 18 ∧ i = .int .i64 ((j : Int) - 1) ∧ As (Pst w wx B nb B' rb rd2 lv2 rd2 lv2 (k + 1) (k + 1) gx ⟨kk, cc, vv, aa⟩ v0 (.slice A lv2.length cap))) (fun i _ => (17 - Go.RowKit.intOf i).toNat)
                  case atStart => exact ⟨0, Nat.zero_le _, rfl, M0⟩
                  case round =>
                    obtain ⟨j, hj, rfl, HJ⟩ := hrel
                    clear M0
                    by_cases hj17 : j < 18
                    · have hjI : (j : Int) - 1 ≤ 16 := by omega
                      have hK64 : K64 ((j : Int) - 1) := ⟨by omega, by omega⟩
                      have HK64 := As.mk hK64
                      clear hK64
                      go_wp2_with fail
                      refine (HJ.out.value _ HK64.out).mono ?_
                      rintro e w7 ⟨rfl, g7⟩
                      have M7 := As.mk (HJ.out.grow g7)
                      clear g7 HJ
                      have HV2 := As.mk (show ∀ w8 : World, Pst w w8 B nb B' rb rd2 lv2 rd2 lv2 (k + 1) (k + 1) gx ⟨kk, cc, vv, aa⟩ v0 (.slice A lv2.length cap) → Calls Try.prog 25 #[NP rb, .int .i64 ((j : Int) - 1)] w8 fun e w' => e = .returned (.tuple #[.int .i64 ((valF rd2 lv2 ((j : Int) - 1)).getD 0), .bool (valF rd2 lv2 ((j : Int) - 1)).isSome]) ∧ w' = w8 from fun w8 h8 => h8.rvalue (by omega) _)
                      generalize (valF rd2 lv2 ((j : Int) - 1)).getD 0 = qa at *
                      generalize (valF rd2 lv2 ((j : Int) - 1)).isSome = qb at *
                      go_wp2_with fail
                      refine (HV2.out _ M7.out).mono ?_
                      rintro e w8 ⟨rfl, rfl⟩
                      clear HV2
                      go_wp2_with fail
                      refine (M7.out.has _ HK64.out).mono ?_
                      rintro e w9 ⟨rfl, g9⟩
                      have M9 := As.mk (M7.out.grow g9)
                      clear g9 M7
                      cases hsm : (rd2.2 ((j : Int) - 1)).isSome with
                      | true =>
                        have HSM := As.mk hsm
                        clear hsm
                        go_wp2_with fail
                        refine (M9.out.at_ _).mono ?_
                        rintro e w10 ⟨⟨r, rfl, hr⟩, rfl⟩
                        rw [HSM.out] at hr
                        have hr0 : 0 ≤ r := by simpa using hr
                        clear hr
                        go_wp2_with fail
                        go_roundw
                        case measure => simp [Go.RowKit.intOf]; omega
                        case rel => exact ⟨j + 1, by omega, by simp, M9⟩
                      | false =>
                        have HSM := As.mk hsm
                        clear hsm
                        go_wp2_with fail
                        refine (M9.out.at_ _).mono ?_
                        rintro e w10 ⟨⟨r, rfl, hr⟩, rfl⟩
                        rw [HSM.out] at hr
                        have hr0 : ¬ 0 ≤ r := by simpa using hr
                        clear hr
                        go_wp2_with fail
                        go_roundw
                        case measure => simp [Go.RowKit.intOf]; omega
                        case rel => exact ⟨j + 1, by omega, by simp, M9⟩
                    · obtain rfl : j = 18 := by omega
                      have M9 := HJ
                      clear HJ
                      go_wp2_with fail
                      go_roundw
                      case measure => simp [Go.RowKit.intOf]; omega
                      case rel => exact ⟨k + 1, by omega, by simp, ⟨_, _, rd2, lv2, M9.out.both.choose_spec.choose_spec.1⟩⟩
                · have hE : doE ⟨kk, cc, vv, aa⟩ rd lv = (0 : Int) ∧ doR ⟨kk, cc, vv, aa⟩ rd = rd ∧ doL ⟨kk, cc, vv, aa⟩ rd lv = lv := by unfold doE doR doL; simp [k0, k1, k2, k3, k4]
                  have hkb0 : (kk == 0) = false := by rw [beq_eq_false_iff_ne]; exact k0
                  have hkb1 : (kk == 1) = false := by rw [beq_eq_false_iff_ne]; exact k1
                  have hkb2 : (kk == 2) = false := by rw [beq_eq_false_iff_ne]; exact k2
                  have hkb3 : (kk == 3) = false := by rw [beq_eq_false_iff_ne]; exact k3
                  have hkb4 : (kk == 4) = false := by rw [beq_eq_false_iff_ne]; exact k4
                  clear k0 k1 k2 k3 k4
                  have hfive := (HK.out.2.2.2.2.step ⟨kk, cc, vv, aa⟩).five
                  rw [hE.2.2] at hfive
                  go_wp2_with fail
                  have hD := HT.out.d.le (K' := k + 1) (by omega)
                  obtain ⟨w4, hw4⟩ : ∃ x, x = wr.alloc (.cells #[.int .i64 kk, .int .i64 cc, .int .i64 vv, .int .i64 aa] 27) := ⟨_, rfl⟩
                  obtain ⟨v0, A, cap, hP⟩ := (HT.out.doc hD (ng_refl _ _)).pst (oo := ⟨kk, cc, vv, aa⟩) HBl.out HnF.out
                  rw [← hw4] at hP ⊢
                  clear HT HBl HnG HnF hD hw4
                  obtain ⟨want, hw⟩ : ∃ x, x = (0 : Int) := ⟨_, rfl⟩
                  obtain ⟨rd2, hr⟩ : ∃ x : Rd, x = rd := ⟨_, rfl⟩
                  obtain ⟨lv2, hl2⟩ : ∃ x : Lv, x = lv := ⟨_, rfl⟩
                  have HE := As.mk (show doE ⟨kk, cc, vv, aa⟩ rd lv = want ∧ doR ⟨kk, cc, vv, aa⟩ rd = rd2 ∧ doL ⟨kk, cc, vv, aa⟩ rd lv = lv2 by rw [hw, hr, hl2]; exact hE)
                  have hP : Pst w w4 B nb B' rb rd lv rd2 lv2 k (k + 1) wr.heap.size ⟨kk, cc, vv, aa⟩ v0 (.slice A lv2.length cap) := by rw [hr, hl2]; exact hP
                  rw [← hl2] at hfive
                  have HV := As.mk (And.intro hfive trivial)
                  subst hw
                  clear hE hr hl2 hfive
                  have M0 := As.mk hP
                  clear hP
                  have S0 := M0.out.S
                  have f0 := S0.1
                  have f1 := S0.2.1
                  have f2 := S0.2.2.1
                  have f3 := S0.2.2.2.1
                  have f4 := S0.2.2.2.2
                  clear S0
                  generalize wr.heap.size = gx at *
                  go_wp2_with fail
                  go_region_held3 (fun w' => w'.cell? ⟨gx, 0, none⟩ = some (.int .i64 kk) ∧ w'.cell? ⟨gx, 1, none⟩ = some (.int .i64 cc) ∧ w'.cell? ⟨gx, 2, none⟩ = some (.int .i64 vv) ∧ w'.cell? ⟨gx, 3, none⟩ = some (.int .i64 aa) ∧ w'.cell? ⟨rb, 1, none⟩ = some (.slice A lv2.length cap))
                    (first | exact M0.out.S | exact M0.out.drew.S | go_keep)
                    (first
                      | (go_at_call 9; refine (M0.out.drew.does (by omega) HK.out.1).mono ?_
                         rintro e w5 ⟨rfl, hP5⟩
                         rw [HE.out.1]
                         rw [HE.out.2.1, HE.out.2.2] at hP5
                         have M1 := As.mk hP5
                         clear M0 hP5 f0 f1 f2 f3 f4
                         have M0 := M1
                         clear M1)
                      | (go_at_call 10; refine (M0.out.levels).mono ?_; rintro e w5 ⟨rfl, rfl⟩)
                      | (go_at_call 23; refine (M0.out.items).mono ?_
                         rintro e w5 ⟨⟨u1, rfl, hr1⟩, hg5⟩
                         have HR1 := As.mk hr1
                         have M1 := As.mk (M0.out.grow hg5)
                         clear M0 hr1 hg5
                         have M0 := M1
                         clear M1)
                      | (go_at_call 24; refine (M0.out.ritems HV.out.1 (by omega)).mono ?_
                         rintro e w5 ⟨⟨u2, rfl, hr2⟩, hg5⟩
                         have HR2 := As.mk (And.intro (HR1.out.below hg5 (fun _ _ => ItE.any _ _)) hr2)
                         have M1 := As.mk (M0.out.grow hg5)
                         clear M0 hr2 hg5 HR1
                         have M0 := M1
                         clear M1)
                      | (go_at_call 22; refine (sameItems_c _ _ _ _ HR2.out.1 HR2.out.2).mono ?_
                         rintro e w5 ⟨rfl, n5, rfl⟩
                         have M1 := As.mk (M0.out.grow (gr_drewN (gr_refl _ none) n5))
                         clear M0
                         have M0 := M1
                         clear M1))
                  clear HR2
                  generalize w5.drewN n5 = W6 at *
                  go_wp2_with fail
                  go_loopw [8] (fun i wx => ∃ j : Nat, j ≤ 18 ∧ i = .int .i64 ((j : Int) - 1) ∧ As (Pst w wx B nb B' rb rd2 lv2 rd2 lv2 (k + 1) (k + 1) gx ⟨kk, cc, vv, aa⟩ v0 (.slice A lv2.length cap))) (fun i _ => (17 - Go.RowKit.intOf i).toNat)
                  case atStart => exact ⟨0, Nat.zero_le _, rfl, M0⟩
                  case round =>
                    obtain ⟨j, hj, rfl, HJ⟩ := hrel
                    clear M0
                    by_cases hj17 : j < 18
                    · have hjI : (j : Int) - 1 ≤ 16 := by omega
                      have hK64 : K64 ((j : Int) - 1) := ⟨by omega, by omega⟩
                      have HK64 := As.mk hK64
                      clear hK64
                      go_wp2_with fail
                      refine (HJ.out.value _ HK64.out).mono ?_
                      rintro e w7 ⟨rfl, g7⟩
                      have M7 := As.mk (HJ.out.grow g7)
                      clear g7 HJ
                      have HV2 := As.mk (show ∀ w8 : World, Pst w w8 B nb B' rb rd2 lv2 rd2 lv2 (k + 1) (k + 1) gx ⟨kk, cc, vv, aa⟩ v0 (.slice A lv2.length cap) → Calls Try.prog 25 #[NP rb, .int .i64 ((j : Int) - 1)] w8 fun e w' => e = .returned (.tuple #[.int .i64 ((valF rd2 lv2 ((j : Int) - 1)).getD 0), .bool (valF rd2 lv2 ((j : Int) - 1)).isSome]) ∧ w' = w8 from fun w8 h8 => h8.rvalue (by omega) _)
                      generalize (valF rd2 lv2 ((j : Int) - 1)).getD 0 = qa at *
                      generalize (valF rd2 lv2 ((j : Int) - 1)).isSome = qb at *
                      go_wp2_with fail
                      refine (HV2.out _ M7.out).mono ?_
                      rintro e w8 ⟨rfl, rfl⟩
                      clear HV2
                      go_wp2_with fail
                      refine (M7.out.has _ HK64.out).mono ?_
                      rintro e w9 ⟨rfl, g9⟩
                      have M9 := As.mk (M7.out.grow g9)
                      clear g9 M7
                      cases hsm : (rd2.2 ((j : Int) - 1)).isSome with
                      | true =>
                        have HSM := As.mk hsm
                        clear hsm
                        go_wp2_with fail
                        refine (M9.out.at_ _).mono ?_
                        rintro e w10 ⟨⟨r, rfl, hr⟩, rfl⟩
                        rw [HSM.out] at hr
                        have hr0 : 0 ≤ r := by simpa using hr
                        clear hr
                        go_wp2_with fail
                        go_roundw
                        case measure => simp [Go.RowKit.intOf]; omega
                        case rel => exact ⟨j + 1, by omega, by simp, M9⟩
                      | false =>
                        have HSM := As.mk hsm
                        clear hsm
                        go_wp2_with fail
                        refine (M9.out.at_ _).mono ?_
                        rintro e w10 ⟨⟨r, rfl, hr⟩, rfl⟩
                        rw [HSM.out] at hr
                        have hr0 : ¬ 0 ≤ r := by simpa using hr
                        clear hr
                        go_wp2_with fail
                        go_roundw
                        case measure => simp [Go.RowKit.intOf]; omega
                        case rel => exact ⟨j + 1, by omega, by simp, M9⟩
                    · obtain rfl : j = 18 := by omega
                      have M9 := HJ
                      clear HJ
                      go_wp2_with fail
                      go_roundw
                      case measure => simp [Go.RowKit.intOf]; omega
                      case rel => exact ⟨k + 1, by omega, by simp, ⟨_, _, rd2, lv2, M9.out.both.choose_spec.choose_spec.1⟩⟩
      · obtain rfl : k = l.length := by omega
        obtain ⟨F, G, rd, lv, hT⟩ := HL.out
        have HF := As.mk hT.a.gr
        clear hT HL
        go_wp2_with fail
        go_ret
        exact ⟨rfl, HF.out⟩
end Go.Proofs.Ytggkejkleficoaa
