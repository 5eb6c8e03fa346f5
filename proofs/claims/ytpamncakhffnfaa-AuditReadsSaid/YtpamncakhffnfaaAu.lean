/- The walks of Serial and Final; awake's and great's. -/
import Derived.Test.YtpamncakhffnfaaAq
import Derived.Test.YtpamncakhffnfaaAp1
namespace Go.Proofs.Ytpamncakhffnfaa
open Go.RowKit Go.Maps
set_option linter.unusedVariables false
set_option linter.unusedSimpArgs false

noncomputable def plC (n : Nat) (l : List PCo) : List (Int × Int) × Int × Int := playFrom (startR n) (fun _ => none) l
set_option maxRecDepth 100000 in
set_option maxHeartbeats 1600000 in
theorem serial_c (w : World) (v : Value) (l : List PCo) (hv : Arr CoE 5 w v l) (hl100 : l.length ≤ 100) (n : Nat) (h1 : 1 ≤ n) (h16 : n ≤ 16) (c e0 : Int) (hc : (plC n l).2.1 = c) (he : (plC n l).2.2 = e0) :
    Calls Try.prog 7 #[.int .i64 (n : Int), v] w fun e w' => e = .returned (.tuple #[.int .i64 c, .int .i64 e0]) ∧ w.grownBy w' none := by
  have H := As.mk hv
  have HC := As.mk hc
  have HE := As.mk he
  clear hv hc he
  go_enter Try.func7, Try.ntmps7
  go_wp2_with fail
  refine (play_c w v l H.out hl100 n h1 h16).mono ?_
  rintro e w1 ⟨rb, lb, mb, m, f, rfl, hR, hg⟩
  have HG := As.mk hg
  rw [show (playFrom (startR n) (fun _ => none) l).2.1 = c from HC.out, show (playFrom (startR n) (fun _ => none) l).2.2 = e0 from HE.out]
  clear hR hg
  go_wp2_with fail
  go_ret2
  exact ⟨rfl, HG.out⟩
/-- What Final leaves where all is well. -/
def FinPost (w : World) (rs : List (Int × Int)) (e : Ending) (w' : World) : Prop := ∃ lb, e = .returned (.tuple #[.slice (some ⟨lb, 0, none⟩) rs.length rs.length, .int .i64 0]) ∧ Blk w' lb 37 (regCells rs).toArray ∧ w.heap.size ≤ lb ∧ w.grownBy w' none
set_option maxRecDepth 100000 in
set_option maxHeartbeats 1600000 in
theorem final_no (w : World) (v : Value) (c : Int) (h : c < 1 ∨ 16 < c) : Calls Try.prog 6 #[.int .i64 c, v] w fun e w' => e = .returned (.tuple #[.slice none 0 0, .int .i64 1]) ∧ w' = w := by
  go_enter Try.func6, Try.ntmps6
  go_wp2_with fail
  refine (play_no w v c h).mono ?_
  rintro e w1 ⟨rfl, rfl⟩
  go_wp2_with fail
  go_ret2
  exact ⟨rfl, rfl⟩
set_option maxRecDepth 100000 in
set_option maxHeartbeats 1600000 in
theorem final_bad (w : World) (v : Value) (l : List PCo) (hv : Arr CoE 5 w v l) (hl100 : l.length ≤ 100) (n : Nat) (h1 : 1 ≤ n) (h16 : n ≤ 16) (e0 : Int) (he : (plC n l).2.2 = e0) (hne : e0 ≠ 0) :
    Calls Try.prog 6 #[.int .i64 (n : Int), v] w fun e w' => e = .returned (.tuple #[.slice none 0 0, .int .i64 e0]) ∧ w.grownBy w' none := by
  have H := As.mk hv
  have HE := As.mk he
  have hb : (e0 == 0) = false := by simpa using hne
  clear hv he hne
  go_enter Try.func6, Try.ntmps6
  go_wp2_with fail
  refine (play_c w v l H.out hl100 n h1 h16).mono ?_
  rintro e w1 ⟨rb, lb, mb, m, f, rfl, hR, hg⟩
  have HG := As.mk hg
  rw [show (playFrom (startR n) (fun _ => none) l).2.2 = e0 from HE.out]
  clear hR hg
  go_wp2_with fail
  go_ret2
  exact ⟨rfl, HG.out⟩
set_option maxRecDepth 100000 in
set_option maxHeartbeats 1600000 in
theorem final_ok (w : World) (v : Value) (l : List PCo) (hv : Arr CoE 5 w v l) (hl100 : l.length ≤ 100) (n : Nat) (h1 : 1 ≤ n) (h16 : n ≤ 16) (rs : List (Int × Int)) (hrs : (plC n l).1 = rs) (he : (plC n l).2.2 = 0) :
    Calls Try.prog 6 #[.int .i64 (n : Int), v] w (FinPost w rs) := by
  have H := As.mk hv
  have HE := As.mk he
  have HRS := As.mk hrs
  clear hv he hrs
  go_enter Try.func6, Try.ntmps6
  go_wp2_with fail
  refine (play_c w v l H.out hl100 n h1 h16).mono ?_
  rintro e w1 ⟨rb, lb, mb, m, f, rfl, hR, hg⟩
  rw [show (playFrom (startR n) (fun _ => none) l).1 = rs from HRS.out] at hR
  have HG := As.mk (And.intro hg hR)
  rw [show (playFrom (startR n) (fun _ => none) l).2.2 = 0 from HE.out]
  clear hR hg
  have c0 : w1.cell? ⟨rb, 0, none⟩ = some (.slice (some ⟨lb, 0, none⟩) rs.length rs.length) := HG.out.2.blk.cell 0
  go_wp2_with fail
  go_ret2
  exact ⟨lb, rfl, HG.out.2.row, HG.out.2.lo.2.1, HG.out.1⟩
def grtB (l : List PCo) : Bool := decide (60 < l.length) || l.any (fun c => decide (40 < c.items.length))
set_option maxRecDepth 100000 in
set_option maxHeartbeats 3200000 in
theorem great_c (w : World) (v : Value) (l : List PCo) (hv : Arr CoE 5 w v l) (r : Bool) (hr : grtB l = r) :
    Calls Try.prog 5 #[v] w fun e w' => e = .returned (.bool r) ∧ w.grownBy w' none := by
  subst hr
  obtain ⟨A, cp, rfl⟩ := hv.len
  have hle := hv.le
  have H := As.mk hv
  clear hv
  by_cases h60 : 60 < l.length
  · have HR : As (grtB l = true) := ⟨by unfold grtB; simp [h60]⟩
    have h60I : (60 : Int) < (l.length : Int) := by omega
    go_enter Try.func5, Try.ntmps5
    go_wp2_with fail
    go_ret
    exact ⟨by rw [HR.out]; rfl, gr_refl _ _⟩
  · have h60I : ¬ (60 : Int) < (l.length : Int) := by omega
    have HR : As (grtB l = l.any (fun c => decide (40 < c.items.length))) := ⟨by unfold grtB; simp [h60]⟩
    go_enter Try.func5, Try.ntmps5
    go_wp2_with fail
    go_loopw [10] (fun i wr => ∃ k : Nat, k ≤ l.length ∧ i = .int .i64 k ∧ As (w.grownBy wr none ∧ (l.take k).any (fun c => decide (40 < c.items.length)) = false)) (fun i _ => l.length - (intOf i).toNat)
    case atStart => exact ⟨0, Nat.zero_le _, rfl, ⟨gr_refl _ _, by simp⟩⟩
    case round =>
      obtain ⟨k, hk, rfl, HL⟩ := hrel
      by_cases hlt : k < l.length
      · have hltI : (k : Int) < (l.length : Int) := by omega
        have hk0 : (0 : Int) ≤ (k : Int) := by omega
        obtain ⟨b, o, cs, rfl, ⟨vi, hE, hIt⟩, hcs, hcell⟩ := H.out.at_ k l[k] (List.getElem?_eq_getElem hlt)
        obtain ⟨A2, cc2, rfl⟩ := hIt.len
        obtain rfl := hE
        have hgr := HL.out.1
        have c0 : wr.cell? ⟨b, o + k * 5, none⟩ = _ := hgr.cell (hcell 0 _ rfl) (by simp)
        have c1 := hgr.cell (hcell 1 _ rfl) (by simp)
        have c2 := hgr.cell (hcell 2 _ rfl) (by simp)
        have c3 := hgr.cell (hcell 3 _ rfl) (by simp)
        have c4 := hgr.cell (hcell 4 _ rfl) (by simp)
        have HS := As.mk (any_take_succ (fun c : PCo => decide (40 < c.items.length)) l k hlt)
        have HM := As.mk (List.getElem_mem hlt)
        have hil := hIt.le
        clear hcell hcs hIt
        generalize l[k]'hlt = x at *
        obtain ⟨⟨tn, te, ts⟩, its, ca⟩ := x
        dsimp only at *
        have HG := As.mk (gr_alloc hgr (.cells #[.int .i64 tn, .int .i64 te, .int .i64 ts, .slice A2 its.length cc2, .int .i64 ca] 33))
        clear hgr
        by_cases h40 : 40 < its.length
        · have h40I : (40 : Int) < (its.length : Int) := by omega
          go_wp2_with fail
          go_ret
          exact ⟨by rw [HR.out, List.any_eq_true.2 ⟨_, HM.out, by simp [h40]⟩]; rfl, HG.out⟩
        · have h40I : ¬ (40 : Int) < (its.length : Int) := by omega
          have HA := As.mk HL.out.2
          clear HL
          go_wp2_with fail
          go_roundw
          case measure => simp [intOf]; omega
          case rel => exact ⟨k + 1, by omega, by go_num, ⟨HG.out, by rw [HS.out, HA.out]; simp [h40]⟩⟩
      · obtain rfl : k = l.length := by omega
        rw [List.take_of_length_le (Nat.le_refl _)] at HL
        go_wp2_with fail
        go_ret
        exact ⟨by rw [HR.out, HL.out.2]; rfl, HL.out.1⟩
end Go.Proofs.Ytpamncakhffnfaa
