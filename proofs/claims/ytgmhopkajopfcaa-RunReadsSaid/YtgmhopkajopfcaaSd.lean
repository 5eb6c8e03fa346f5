/- The walk of RunStays. -/
import Derived.Test.YtgmhopkajopfcaaEqb
namespace Go.Proofs.Ytgmhopkajopfcaa
open Go.RowKit Go.Maps
set_option linter.unusedVariables false
set_option linter.unusedSimpArgs false
set_option maxRecDepth 100000

def IE1 (w : World) (x : Int) (cs : List Value) : Prop := cs = [.int .i64 x]
/-- What was given is what the law has seen. -/
def Linked (f : Int → Option Bool) (rd : Rd) : Prop := ∀ c, cellOk c = true → ((f c).getD false = (rd.2 c).isSome)
theorem Linked.start : Linked (fun _ => none) rdZ := fun c _ => rfl
theorem Linked.give {f : Int → Option Bool} {rd : Rd} (h : Linked f rd) (c v a : Int) (hv : 0 ≤ v ∧ v ≤ 1000) : Linked (updF f c true) (sawR rd c v a) := by
  intro x hx
  unfold sawR
  by_cases e : x = c
  · subst e
    have h1 : updF f x true x = some true := by simp [updF]
    rw [h1]
    split
    · simp [updF]
    · rename_i hs
      unfold sawE at hs
      rw [if_neg (by rw [hx]; simp; omega)] at hs
      cases hp : (rd.2 x).isSome with
      | true => rfl
      | false => rw [hp] at hs; exact absurd rfl hs
  · have h1 : updF f c true x = f x := by simp [updF, e]
    rw [h1]
    split
    · have h2 : updF rd.2 c (v, a) x = rd.2 x := by simp [updF, e]
      show _ = (updF rd.2 c (v, a) x).isSome
      rw [h2]
      exact h x hx
    · exact h x hx
theorem sawE_out {rd : Rd} {c v : Int} (h : c < 0 ∨ 15 < c) : sawE rd c v = 1 := by
  unfold sawE
  rw [if_pos (.inl (by unfold cellOk; rcases h with h | h <;> simp <;> omega))]
theorem sawE_in {rd : Rd} {c v : Int} (hc : 0 ≤ c ∧ c ≤ 15) (hv : 0 ≤ v ∧ v ≤ 1000) : sawE rd c v = if (rd.2 c).isSome = true then 9 else 0 := by
  unfold sawE
  rw [if_neg (by
    have : cellOk c = true := by unfold cellOk; simp; omega
    rw [this]; simp; omega)]
theorem cellOk_in {c : Int} (hc : 0 ≤ c ∧ c ≤ 15) : cellOk c = true := by unfold cellOk; simp; omega
theorem RIv.rd {l : List POp} {s : RS} (h : RIv l s) (rd : Rd) : RIv l { s with rd := rd } := ⟨h.ex, h.le, h.lv⟩
theorem RIv.tk {l : List POp} {s : RS} (h : RIv l s) (tk : Nat → Bool) : RIv l { s with tk := tk } := ⟨h.ex, h.le, h.lv⟩
set_option maxHeartbeats 12800000 in
theorem rstays_walk (w : World) (v0 v1 v2 : Value) (l : List POp) (cs vs : List Int) (hl : Arr OpE 5 w v0 l) (hc : Arr IE1 1 w v1 cs) (hv : Arr IE1 1 w v2 vs) (wl : ∀ x ∈ l, K64 x.n) (wc : ∀ x ∈ cs, K64 x) (wv : ∀ x ∈ vs, K64 x) :
    Calls Try.prog 5 #[v0, v1, v2] w fun e w' => e = .returned (.bool true) ∧ w.grownBy w' none := by
  obtain ⟨A0, c0, rfl⟩ := hl.len
  obtain ⟨A1, c1, rfl⟩ := hc.len
  obtain ⟨A2, c2, rfl⟩ := hv.len
  have HL := As.mk hl
  have HC := As.mk hc
  have HV := As.mk hv
  have HWL := As.mk wl
  have HWC := As.mk wc
  have HWV := As.mk wv
  have hl1 := hl.le
  have hc1 := hc.le
  have hc2 := hc.cap
  have hv1 := hv.le
  have hv2 := hv.cap
  have hmm := @run_makeMap Try.prog
  clear hl hc hv wl wc wv
  go_enter Try.func5, Try.ntmps5
  go_wp2_with fail
  refine (awake22 w).mono ?_
  rintro e w1 ⟨rfl, hg⟩
  have HG1 := As.mk hg
  clear hg
  by_cases h80 : (80 : Int) < (l.length : Int)
  · go_wp2_with fail
    go_ret
    exact ⟨rfl, HG1.out⟩
  by_cases h60 : (60 : Int) < (cs.length : Int)
  · go_wp2_with fail
    go_ret
    exact ⟨rfl, HG1.out⟩
  go_wp2_with fail
  cases hp : pRight l with
  | false =>
    refine (rnew_no (HL.out.below HG1.out (fun _ _ h => h)) hp).mono ?_
    rintro e w2 ⟨rfl, hg⟩
    have HG2 := As.mk (gr_then HG1.out hg (.inl rfl))
    clear hg hp
    go_wp2_with fail
    go_ret
    exact ⟨rfl, HG2.out⟩
  | true =>
    refine (rnew_c HG1.out (HL.out.below HG1.out (fun _ _ h => h)) hp).mono ?_
    rintro e w2 ⟨rb, G, rfl, hra, _, _⟩
    have HP := As.mk hp
    have HRA := As.mk hra
    clear hra hp
    go_wp2_with fail
    have HM0 := As.mk (show MapF elB (w2.alloc (.map #[] 0)) w2.heap.size 0 (fun _ => none) from MapF.new elB w2)
    have HGM := As.mk (show ¬ G w2.heap.size from fun q => absurd (HRA.out.fp _ q).2 (Nat.lt_irrefl _))
    have HLO := As.mk (show w.heap.size ≤ w2.heap.size from HRA.out.gr.size)
    replace HRA := As.mk (HRA.out.grown (gr_alloc (gr_refl w2 none) (.map #[] 0)))
    clear hmm
    generalize w2.alloc (.map #[] 0) = W at *
    generalize w2.heap.size = mb at *
    go_loopw [43] (fun i wr => ∃ k : Nat, k ≤ cs.length ∧ i = .int .i64 k ∧ As (∃ s G1 f, RunAt w wr rb G1 l s (k * 100) ∧ RIv l s ∧ MapF elB wr mb k f ∧ ¬ G1 mb ∧ Linked f s.rd)) (fun i _ => cs.length - (intOf i).toNat)
    case atStart => exact ⟨0, Nat.zero_le _, rfl, ⟨startR, G, fun _ => none, HRA.out, start_riv HP.out, HM0.out, HGM.out, Linked.start⟩⟩
    case round =>
      obtain ⟨k, hk, rfl, HX⟩ := hrel
      obtain ⟨s, G1, f, hra, hri, hm, hgm, hlk⟩ := HX.out
      clear HX HRA HM0 HGM
      have HRA := As.mk hra
      have HRI := As.mk hri
      have HM := As.mk hm
      have HGM := As.mk hgm
      have HLK := As.mk hlk
      clear hra hri hm hgm hlk
      by_cases hlt : k < cs.length
      · have hltI : (k : Int) < (cs.length : Int) := by omega
        have hk0 : (0 : Int) ≤ (k : Int) := by omega
        have hk1 : (k : Int) ≤ 60 := by omega
        obtain ⟨c, hc⟩ : ∃ c, cs[k]? = some c := ⟨_, List.getElem?_eq_getElem hlt⟩
        obtain ⟨b, off, ds, rfl, rfl, _, hcs⟩ := HC.out.at_ k c hc
        have e0 := HRA.out.gr.cell (hcs 0 _ rfl) (by simp)
        simp only [Nat.add_zero, Nat.mul_one] at e0
        have HKC := As.mk (HWC.out c (List.mem_of_getElem? hc))
        clear hcs hc
        go_wp2_with fail
        clear e0
        refine (gon_c HRA.out HP.out HWL.out HRI.out (by omega)).mono ?_
        rintro e w3 ⟨rfl, G2, hra, hng, hri2⟩
        have HTW := As.mk (goR_twice HP.out HRI.out)
        have HAN := As.mk (goR_ans l 40 s)
        have HRD := As.mk (goR_rd l 40 s).1
        have HM2 := As.mk (HM.out.ng (hng) HGM.out)
        have HRA2 := As.mk hra
        have HRI2 := As.mk hri2
        clear hra hng hri2 HRA HRI HM HGM
        generalize goR l 40 s = r at *
        obtain ⟨r1, r2, s2⟩ := r
        dsimp only at HTW HAN HRD HRA2 HRI2 ⊢
        go_wp2_with fail
        refine (gon_c HRA2.out HP.out HWL.out HRI2.out (by omega)).mono ?_
        rintro e w4 ⟨rfl, G3, hra, hng, hri3⟩
        rw [HTW.out] at hra hri3 ⊢
        dsimp only at hra hri3 ⊢
        have HM3 := As.mk (HM2.out.1.ng hng HM2.out.2)
        have HRA3 := As.mk hra
        have HRI3 := As.mk hri3
        clear hra hng hri3 HRA2 HRI2 HM2 HTW
        obtain ⟨ha1, ha2, ha3⟩ := HAN.out
        have hne1 : (r1 != r1) = false := by simp
        have hne2 : (r2 != r2) = false := by simp
        clear HAN
        go_upto_region 14 with fail
        go_cut [81] from 58 to 81 (fun v wx => v = .bool false ∧ wx = w4)
        case first =>
          by_cases h2 : 2 < r1
          · obtain rfl : r2 = 0 := ha3 h2
            go_wp2_with fail
            go_meet
            case rel => exact ⟨by rw [decide_eq_false (show ¬ r1 < 1 by omega), decide_eq_false (show ¬ 5 < r1 by omega)]; rfl, rfl⟩
          · go_wp2_with fail
            go_meet
            case rel => exact ⟨by rw [decide_eq_false (show ¬ r1 < 1 by omega), decide_eq_false (show ¬ 5 < r1 by omega)]; rfl, rfl⟩
        case rest =>
          obtain ⟨rfl, rfl⟩ := hcut
          clear hne1 hne2 ha1 ha2 ha3
          go_upto_if 86 with fail
          go_cut [16] from 83 to 90 (fun v wx => ∃ x : Int, v = .int .i64 x ∧ As (K64 x) ∧ wx = wc)
          case first =>
            by_cases hlv : k < vs.length
            · have hlvI : (k : Int) < (vs.length : Int) := by omega
              obtain ⟨x, hx⟩ : ∃ x, vs[k]? = some x := ⟨_, List.getElem?_eq_getElem hlv⟩
              obtain ⟨b', off', ds', hA2, rfl, _, hcs⟩ := HV.out.at_ k x hx
              subst hA2
              have e0 := HRA3.out.gr.cell (hcs 0 _ rfl) (by simp)
              simp only [Nat.add_zero, Nat.mul_one] at e0
              have HXK := As.mk (HWV.out x (List.mem_of_getElem? hx))
              clear hcs hx
              go_wp2_with fail
              go_meet
              case rel => exact ⟨x, rfl, HXK, rfl⟩
            · have hlvI : ¬ ((k : Int) < (vs.length : Int)) := by omega
              go_wp2_with fail
              go_meet
              case rel => exact ⟨(k : Int), rfl, ⟨by omega, by omega⟩, rfl⟩
          case rest =>
            obtain ⟨x, rfl, HXK, hww⟩ := hcut
            rename World => w5
            subst hww
            by_cases h3 : (k : Int) % 3 = 2
            · have h3' : ((k : Int) % 3 == 2) = true := by simpa using h3
              by_cases hcr : 0 ≤ c ∧ c ≤ 15
              · obtain ⟨kc, rfl⟩ : ∃ kc : Nat, c = (kc : Int) := ⟨c.toNat, by omega⟩
                have h16 : (kc : Int) < 16 := by omega
                have h00 : (0 : Int) ≤ (kc : Int) := by omega
                clear hcr h3
                go_wp2_with fail
                refine (took_c HRA3.out kc (by omega)).mono ?_
                rintro e w6 ⟨rfl, G4, hra, hng⟩
                have HRA4 := As.mk hra
                have HM4 := As.mk (HM3.out.1.ng hng HM3.out.2)
                clear hra hng
                go_wp2_with fail
                go_roundw
                case measure => simp [intOf]; omega
                case rel => exact ⟨k + 1, by omega, by go_num, ⟨_, G4, f, HRA4.out.mono (by omega), HRI3.out.tk _, HM4.out.1.mono (by omega), HM4.out.2, by show Linked f s2.rd; rw [HRD.out]; exact HLK.out⟩⟩
              · have hcr' : c < 0 ∨ 16 ≤ c := by omega
                have HCR := As.mk hcr'
                clear hcr h3
                go_upto_region 20 with fail
                rcases hcr' with hcr' | hcr'
                · go_wp2_with fail
                  refine (took_no _ _ (.inr ⟨rb, rfl⟩) c (.inr HCR.out)).mono ?_
                  rintro e w6 ⟨rfl, rfl⟩
                  go_wp2_with fail
                  go_roundw
                  case measure => simp [intOf]; omega
                  case rel => exact ⟨k + 1, by omega, by go_num, ⟨_, G3, f, HRA3.out.mono (by omega), HRI3.out, HM3.out.1.mono (by omega), HM3.out.2, by rw [HRD.out]; exact HLK.out⟩⟩
                · have h00 : 0 ≤ c := by omega
                  have h16 : ¬ c < 16 := by omega
                  go_wp2_with fail
                  refine (took_no _ _ (.inr ⟨rb, rfl⟩) c (.inr HCR.out)).mono ?_
                  rintro e w6 ⟨rfl, rfl⟩
                  go_wp2_with fail
                  go_roundw
                  case measure => simp [intOf]; omega
                  case rel => exact ⟨k + 1, by omega, by go_num, ⟨_, G3, f, HRA3.out.mono (by omega), HRI3.out, HM3.out.1.mono (by omega), HM3.out.2, by rw [HRD.out]; exact HLK.out⟩⟩
            · have h3' : ((k : Int) % 3 == 2) = false := by simpa using h3
              clear h3
              by_cases hcn : c < 0
              · have HS := As.mk (sawE_out (rd := s2.rd) (v := (k : Int)) (.inl hcn))
                go_wp2_with fail
                refine (give_c HRA3.out c (k : Int) x HKC.out ⟨by omega, by omega⟩ HXK.out (by omega)).mono ?_
                rintro e w6 ⟨rfl, G4, hra, hng⟩
                rw [HS.out]
                have HRA4 := As.mk hra
                have HM4 := As.mk (HM3.out.1.ng hng HM3.out.2)
                have HLK4 := As.mk (show Linked (updF f c true) (sawR s2.rd c (k : Int) x) from by rw [HRD.out]; exact HLK.out.give c (k : Int) x ⟨hk0, by omega⟩)
                clear hra hng
                go_wp2_with (at_mapUpdate; refine wpList_put_F elB _ rfl _ _ _ rfl mb k f rfl HM4.out.1 (by omega) c true rfl rfl HKC.out trivial ?_; intro w7 hm7 hg7; have HM7 := As.mk hm7; have HG7 := As.mk hg7; clear hm7 hg7)
                have HO7 := As.mk (HRA4.out.other (NG.ofgr (F := fun q => q = mb) HG7.out (fun q e => .inl (by injection e with e; exact e.symm))) (fun q hq => by rw [hq]; exact HLO.out) (fun q hq e => HM4.out.2 (e ▸ hq)))
                go_roundw
                case measure => simp [intOf]; omega
                case rel => exact ⟨k + 1, by omega, by go_num, ⟨_, G4, updF f c true, HO7.out.1.mono (by omega), HRI3.out.rd _, HM7.out, HM4.out.2, HLK4.out⟩⟩
              by_cases hcp : 15 < c
              · have HS := As.mk (sawE_out (rd := s2.rd) (v := (k : Int)) (.inr hcp))
                go_wp2_with fail
                refine (give_c HRA3.out c (k : Int) x HKC.out ⟨by omega, by omega⟩ HXK.out (by omega)).mono ?_
                rintro e w6 ⟨rfl, G4, hra, hng⟩
                rw [HS.out]
                have HRA4 := As.mk hra
                have HM4 := As.mk (HM3.out.1.ng hng HM3.out.2)
                have HLK4 := As.mk (show Linked (updF f c true) (sawR s2.rd c (k : Int) x) from by rw [HRD.out]; exact HLK.out.give c (k : Int) x ⟨hk0, by omega⟩)
                clear hra hng
                go_wp2_with (at_mapUpdate; refine wpList_put_F elB _ rfl _ _ _ rfl mb k f rfl HM4.out.1 (by omega) c true rfl rfl HKC.out trivial ?_; intro w7 hm7 hg7; have HM7 := As.mk hm7; have HG7 := As.mk hg7; clear hm7 hg7)
                have HO7 := As.mk (HRA4.out.other (NG.ofgr (F := fun q => q = mb) HG7.out (fun q e => .inl (by injection e with e; exact e.symm))) (fun q hq => by rw [hq]; exact HLO.out) (fun q hq e => HM4.out.2 (e ▸ hq)))
                go_roundw
                case measure => simp [intOf]; omega
                case rel => exact ⟨k + 1, by omega, by go_num, ⟨_, G4, updF f c true, HO7.out.1.mono (by omega), HRI3.out.rd _, HM7.out, HM4.out.2, HLK4.out⟩⟩
              have HS := As.mk (sawE_in (rd := s2.rd) (c := c) (v := (k : Int)) ⟨by omega, by omega⟩ ⟨hk0, by omega⟩)
              have HLC := As.mk (show (f c).getD false = (s2.rd.2 c).isSome by rw [HRD.out]; exact HLK.out c (cellOk_in ⟨by omega, by omega⟩))
              cases hf : f c with
              | none =>
                have HF := As.mk hf
                have HS2 := As.mk (show sawE s2.rd c (k : Int) = 0 by rw [HS.out, ← HLC.out, hf]; rfl)
                clear hf
                go_wp2_with (at_lookup; refine wpList_look1_F elB _ rfl _ _ rfl mb k f rfl HM3.out.1 c rfl HKC.out none HF.out ?_)
                refine (give_c HRA3.out c (k : Int) x HKC.out ⟨by omega, by omega⟩ HXK.out (by omega)).mono ?_
                rintro e w6 ⟨rfl, G4, hra, hng⟩
                rw [HS2.out]
                have HRA4 := As.mk hra
                have HM4 := As.mk (HM3.out.1.ng hng HM3.out.2)
                have HLK4 := As.mk (show Linked (updF f c true) (sawR s2.rd c (k : Int) x) from by rw [HRD.out]; exact HLK.out.give c (k : Int) x ⟨hk0, by omega⟩)
                clear hra hng
                go_wp2_with (at_mapUpdate; refine wpList_put_F elB _ rfl _ _ _ rfl mb k f rfl HM4.out.1 (by omega) c true rfl rfl HKC.out trivial ?_; intro w7 hm7 hg7; have HM7 := As.mk hm7; have HG7 := As.mk hg7; clear hm7 hg7)
                have HO7 := As.mk (HRA4.out.other (NG.ofgr (F := fun q => q = mb) HG7.out (fun q e => .inl (by injection e with e; exact e.symm))) (fun q hq => by rw [hq]; exact HLO.out) (fun q hq e => HM4.out.2 (e ▸ hq)))
                go_roundw
                case measure => simp [intOf]; omega
                case rel => exact ⟨k + 1, by omega, by go_num, ⟨_, G4, updF f c true, HO7.out.1.mono (by omega), HRI3.out.rd _, HM7.out, HM4.out.2, HLK4.out⟩⟩
              | some bb =>
                cases bb with
                | false =>
                  have HF := As.mk hf
                  have HS2 := As.mk (show sawE s2.rd c (k : Int) = 0 by rw [HS.out, ← HLC.out, hf]; rfl)
                  clear hf
                  go_wp2_with (at_lookup; refine wpList_look1_F elB _ rfl _ _ rfl mb k f rfl HM3.out.1 c rfl HKC.out (some false) HF.out ?_)
                  refine (give_c HRA3.out c (k : Int) x HKC.out ⟨by omega, by omega⟩ HXK.out (by omega)).mono ?_
                  rintro e w6 ⟨rfl, G4, hra, hng⟩
                  rw [HS2.out]
                  have HRA4 := As.mk hra
                  have HM4 := As.mk (HM3.out.1.ng hng HM3.out.2)
                  have HLK4 := As.mk (show Linked (updF f c true) (sawR s2.rd c (k : Int) x) from by rw [HRD.out]; exact HLK.out.give c (k : Int) x ⟨hk0, by omega⟩)
                  clear hra hng
                  go_wp2_with (at_mapUpdate; refine wpList_put_F elB _ rfl _ _ _ rfl mb k f rfl HM4.out.1 (by omega) c true rfl rfl HKC.out trivial ?_; intro w7 hm7 hg7; have HM7 := As.mk hm7; have HG7 := As.mk hg7; clear hm7 hg7)
                  have HO7 := As.mk (HRA4.out.other (NG.ofgr (F := fun q => q = mb) HG7.out (fun q e => .inl (by injection e with e; exact e.symm))) (fun q hq => by rw [hq]; exact HLO.out) (fun q hq e => HM4.out.2 (e ▸ hq)))
                  go_roundw
                  case measure => simp [intOf]; omega
                  case rel => exact ⟨k + 1, by omega, by go_num, ⟨_, G4, updF f c true, HO7.out.1.mono (by omega), HRI3.out.rd _, HM7.out, HM4.out.2, HLK4.out⟩⟩
                | true =>
                  have HF := As.mk hf
                  have HS2 := As.mk (show sawE s2.rd c (k : Int) = 9 by rw [HS.out, ← HLC.out, hf]; rfl)
                  clear hf
                  go_wp2_with (at_lookup; refine wpList_look1_F elB _ rfl _ _ rfl mb k f rfl HM3.out.1 c rfl HKC.out (some true) HF.out ?_)
                  refine (give_c HRA3.out c (k : Int) x HKC.out ⟨by omega, by omega⟩ HXK.out (by omega)).mono ?_
                  rintro e w6 ⟨rfl, G4, hra, hng⟩
                  rw [HS2.out]
                  have HRA4 := As.mk hra
                  have HM4 := As.mk (HM3.out.1.ng hng HM3.out.2)
                  have HLK4 := As.mk (show Linked (updF f c true) (sawR s2.rd c (k : Int) x) from by rw [HRD.out]; exact HLK.out.give c (k : Int) x ⟨hk0, by omega⟩)
                  clear hra hng
                  go_wp2_with (at_mapUpdate; refine wpList_put_F elB _ rfl _ _ _ rfl mb k f rfl HM4.out.1 (by omega) c true rfl rfl HKC.out trivial ?_; intro w7 hm7 hg7; have HM7 := As.mk hm7; have HG7 := As.mk hg7; clear hm7 hg7)
                  have HO7 := As.mk (HRA4.out.other (NG.ofgr (F := fun q => q = mb) HG7.out (fun q e => .inl (by injection e with e; exact e.symm))) (fun q hq => by rw [hq]; exact HLO.out) (fun q hq e => HM4.out.2 (e ▸ hq)))
                  go_roundw
                  case measure => simp [intOf]; omega
                  case rel => exact ⟨k + 1, by omega, by go_num, ⟨_, G4, updF f c true, HO7.out.1.mono (by omega), HRI3.out.rd _, HM7.out, HM4.out.2, HLK4.out⟩⟩
      · obtain rfl : k = cs.length := by omega
        have hq8 := eqA8
        have HGR := As.mk HRA.out.gr
        go_wp2_with fail
        refine (again_n _).mono ?_
        rintro e w3 ⟨rfl, rfl⟩
        go_wp2_with fail
        refine (gon_n _).mono ?_
        rintro e w4 ⟨rfl, rfl⟩
        go_wp2_with fail
        refine (give_n _ _ _ _).mono ?_
        rintro e w5 ⟨rfl, rfl⟩
        go_wp2_with fail
        refine (took_no _ _ (.inl rfl) _ (.inl rfl)).mono ?_
        rintro e w6 ⟨rfl, rfl⟩
        go_wp2_with fail
        refine (regs_n _).mono ?_
        rintro e w7 ⟨rfl, hg⟩
        replace HGR := As.mk (gr_then HGR.out hg (.inl rfl))
        clear hg
        go_wp2_with fail
        refine (ritems_n _).mono ?_
        rintro e w8 ⟨rfl, rfl⟩
        go_wp2_with fail
        go_ret
        exact ⟨rfl, HGR.out⟩
end Go.Proofs.Ytgmhopkajopfcaa
