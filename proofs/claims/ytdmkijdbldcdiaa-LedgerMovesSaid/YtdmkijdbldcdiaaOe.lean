/- The walks of great and reached. (Printed by wip/gen/gen_oe.py.) -/
import Derived.Test.YtdmkijdbldcdiaaOb
import Derived.Test.YtdmkijdbldcdiaaOd
namespace Go.Proofs.Ytdmkijdbldcdiaa
open Go.RowKit
set_option linter.unusedVariables false
set_option linter.unusedSimpArgs false
set_option maxRecDepth 100000

def greatB (l : List PRec) (most : Int) : Bool := decide (most < l.length) || l.any (fun r => decide (60 < r.items.length) || decide (60 < r.nodes.length))
set_option maxHeartbeats 3200000 in
theorem great_c (w : World) (vl : Value) (l : List PRec) (hl : Arr ReE 15 w vl l) (most : Int) (hm : most ≤ 1000) (q : Bool) (hq : greatB l most = q) :
    Calls Try.prog 9 #[vl, .int .i64 most] w fun e w' => e = .returned (.bool q) ∧ w.grownBy w' none := by
  subst hq
  obtain ⟨AL, cL, rfl⟩ := hl.len
  have HLL := As.mk (And.intro hl.le hl.cap)
  have HL := As.mk hl
  clear hl
  have hle := HLL.out.1
  go_enter Try.func9, Try.ntmps9
  by_cases hmost : most < l.length
  · have HE := As.mk (show greatB l most = true by unfold greatB; rw [decide_eq_true hmost]; rfl)
    go_wp2_with fail
    go_ret
    exact ⟨retB HE.out, gr_refl _ _⟩
  · have HE0 := As.mk (show greatB l most = l.any (fun r => decide (60 < r.items.length) || decide (60 < r.nodes.length)) by unfold greatB; rw [decide_eq_false hmost]; rfl)
    go_wp2_with fail
    go_loopw [13] (fun i wr => ∃ k : Nat, k ≤ l.length ∧ i = .int .i64 k ∧ As (w.grownBy wr none ∧ (l.take k).any (fun r => decide (60 < r.items.length) || decide (60 < r.nodes.length)) = false)) (fun i _ => l.length - (intOf i).toNat)
    case atStart => exact ⟨0, Nat.zero_le _, rfl, ⟨gr_refl _ _, rfl⟩⟩
    case round =>
      obtain ⟨k, hk, rfl, HX⟩ := hrel
      obtain ⟨HG, HA⟩ := HX.out
      clear HX
      replace HG := As.mk HG
      replace HA := As.mk HA
      by_cases hlt : k < l.length
      · have hltI : (k : Int) < (l.length : Int) := by omega
        have hk0 : (0 : Int) ≤ (k : Int) := by omega
        obtain ⟨r, hr⟩ : ∃ r, l[k]? = some r := ⟨_, List.getElem?_eq_getElem hlt⟩
        obtain ⟨b, off, cs0, rfl, ⟨AI, cI, AN, cN, rfl, hI, hN⟩, _, hcs⟩ := HL.out.at_ k r hr
        have HRI := As.mk hI
        have HRN := As.mk hN
        have hle := HLL.out.1
        have hle2 := HLL.out.2
        have e0 := HG.out.cell (hcs 0 _ rfl) (by simp)
        have e1 := HG.out.cell (hcs 1 _ rfl) (by simp)
        have e2 := HG.out.cell (hcs 2 _ rfl) (by simp)
        have e3 := HG.out.cell (hcs 3 _ rfl) (by simp)
        have e4 := HG.out.cell (hcs 4 _ rfl) (by simp)
        have e5 := HG.out.cell (hcs 5 _ rfl) (by simp)
        have e6 := HG.out.cell (hcs 6 _ rfl) (by simp)
        have e7 := HG.out.cell (hcs 7 _ rfl) (by simp)
        have e8 := HG.out.cell (hcs 8 _ rfl) (by simp)
        have e9 := HG.out.cell (hcs 9 _ rfl) (by simp)
        have e10 := HG.out.cell (hcs 10 _ rfl) (by simp)
        have e11 := HG.out.cell (hcs 11 _ rfl) (by simp)
        have e12 := HG.out.cell (hcs 12 _ rfl) (by simp)
        have e13 := HG.out.cell (hcs 13 _ rfl) (by simp)
        have e14 := HG.out.cell (hcs 14 _ rfl) (by simp)
        simp only [Nat.add_zero] at e0
        clear hI hN hcs
        have HIL := As.mk (And.intro HRI.out.le HRN.out.le)
        have HTS := As.mk (any_take_succ' (fun r : PRec => decide (60 < r.items.length) || decide (60 < r.nodes.length)) l k hlt)
        have HGE := As.mk (show l[k]'hlt = r from (List.getElem?_eq_some_iff.1 hr).2)
        have HAL := As.mk (fun (h : (decide (60 < r.items.length) || decide (60 < r.nodes.length)) = true) => show l.any (fun r => decide (60 < r.items.length) || decide (60 < r.nodes.length)) = true from List.any_eq_true.2 ⟨r, List.mem_of_getElem? hr, h⟩)
        have hga := gr_alloc (gr_refl wr none) (.cells #[.int .i64 r.kind, .int .i64 r.tid.n, .int .i64 r.tid.e, .int .i64 r.tid.s, .slice AI r.items.length cI, .slice AN r.nodes.length cN, .int .i64 r.node, .int .i64 r.count, .int .i64 r.num, .int .i64 r.cell, .int .i64 r.st, .int .i64 r.hop, .int .i64 r.ver, .int .i64 r.val, .bool r.yes] 43)
        have HG2 := As.mk (gr_then HG.out hga (.inl rfl))
        clear hga hr
        by_cases h1 : (60 : Int) < (r.items.length : Int)
        · have HE := As.mk (HE0.out.trans (HAL.out (by rw [decide_eq_true (show 60 < r.items.length by omega)]; rfl)))
          go_wp2_with fail
          go_ret
          exact ⟨retB HE.out, HG2.out⟩
        · by_cases h2 : (60 : Int) < (r.nodes.length : Int)
          · have HE := As.mk (HE0.out.trans (HAL.out (by rw [decide_eq_true (show 60 < r.nodes.length by omega), Bool.or_true])))
            go_wp2_with fail
            go_ret
            exact ⟨retB HE.out, HG2.out⟩
          · have HN := As.mk (show (l.take (k + 1)).any (fun r => decide (60 < r.items.length) || decide (60 < r.nodes.length)) = false by
              rw [HTS.out, HA.out, HGE.out, decide_eq_false (show ¬ 60 < r.items.length by omega), decide_eq_false (show ¬ 60 < r.nodes.length by omega)]; rfl)
            go_wp2_with fail
            go_roundw
            case measure => simp [intOf]; omega
            case rel => exact ⟨k + 1, by omega, by go_num, ⟨HG2.out, HN.out⟩⟩
      · obtain rfl : k = l.length := by omega
        have HE := As.mk (show greatB l most = false from HE0.out.trans (by have := HA.out; rw [List.take_length] at this; exact this))
        go_wp2_with fail
        go_ret
        exact ⟨retB HE.out, HG.out⟩
theorem greatB_len {l : List PRec} {most : Int} (h : greatB l most = false) : (l.length : Int) ≤ most := by
  unfold greatB at h
  rw [Bool.or_eq_false_iff] at h
  have := of_decide_eq_false h.1
  omega
/-- A state behind one record, if it can follow. -/
def stepS (s : PSt) (r : PRec) : PSt := if (applyL s [r]).1 = 0 then (applyL s [r]).2 else s
theorem stepS_inv {s : PSt} (h : SInv s) (r : PRec) : SInv (stepS s r) := by
  unfold stepS applyL
  cases hr : rightR r
  · simp; exact h
  · by_cases h0 : (applyE s r).1 = 0
    · simp only [if_true, h0, applyL]; exact h.step hr h0
    · simp only [if_true, h0, if_false]; exact h
theorem fold_inv {s : PSt} (h : SInv s) (l : List PRec) : SInv (l.foldl stepS s) := by
  induction l generalizing s with
  | nil => exact h
  | cons r l ih => exact ih (stepS_inv h r)
theorem fold_at1 {s : PSt} {l : List PRec} {k : Nat} {r : PRec} (hr : l[k]? = some r) : (l.take (k + 1)).foldl stepS s = stepS ((l.take k).foldl stepS s) r := by
  rw [List.take_add_one, hr, List.foldl_append]; rfl
theorem firstE_ok {a b n : Int} (h : (firstE a b n).1 = 0) : rightR (fr a b n) = true ∧ firstE a b n = (0, firstS a b n) := by
  unfold firstE at h ⊢
  cases hr : rightR (fr a b n)
  · rw [hr] at h; cases h
  · exact ⟨rfl, rfl⟩
theorem first_inv {a b n : Int} (hr : rightR (fr a b n) = true) : SInv (firstS a b n) := by
  obtain ⟨hb, ha, hn⟩ : (1 ≤ b ∧ b ≤ 16) ∧ (1 ≤ a ∧ a ≤ b) ∧ (1 ≤ n ∧ n ≤ 16) := by
    unfold rightR at hr
    rw [Bool.and_eq_true] at hr
    have h2 := hr.2
    simp [rightK, fr, inR_iff] at h2
    omega
  have h0 := base_inv hb ha hn
  refine ⟨h0.nodes, h0.node, ⟨?_, ?_, ?_⟩, h0.epoch, fun p hp => ?_, h0.tb, h0.cm, h0.prd, h0.ded, h0.dis, fun p hp => (by cases hp), h0.prx, h0.de, fun p hp => (by cases hp), h0.cmd⟩
  · show n = ((firstPl a b n.toNat n.toNat).length : Int)
    rw [firstPl_len]; omega
  · show 1 ≤ (firstPl a b n.toNat n.toNat).length
    rw [firstPl_len]; omega
  · show (firstPl a b n.toNat n.toNat).length ≤ 16
    rw [firstPl_len]; omega
  · have hp' : p ∈ firstPl a b n.toNat n.toNat := hp
    unfold firstPl at hp'
    obtain ⟨c, _, rfl⟩ := List.mem_map.1 hp'
    split
    · exact ⟨⟨by decide, by decide⟩, ⟨by decide, by decide⟩, ⟨by decide, by decide⟩, fun h => absurd h (by decide), fun _ => rfl⟩
    · exact ⟨⟨by decide, by decide⟩, ⟨by decide, by decide⟩, ⟨by decide, by decide⟩, fun h => absurd h (by decide), fun _ => rfl⟩
def reachedE (a b n : Int) (l : List PRec) : PSt × Bool := if (firstE a b n).1 = 0 then (l.foldl stepS (firstS a b n), true) else (zS, false)
theorem reachedE_inv {a b n : Int} {l : List PRec} (h : (reachedE a b n l).2 = true) : SInv (reachedE a b n l).1 := by
  unfold reachedE at h ⊢
  split at h
  · rename_i h0
    rw [if_pos h0]
    exact fold_inv (first_inv (firstE_ok h0).1) l
  · cases h
theorem StO.assign {w : World} {B sb : Nat} {s s' : PSt} {vP vQ vD vC : Value} {qs : List QPr} {cs : List QCm} (h : StO w B sb s) (hr : Rows w B s' vP vQ vD vC qs cs) : StO (put8 w sb (.int .i64 s'.node) (.int .i64 s'.nodes) (.int .i64 s'.cells) (.int .i64 s'.epoch) vP vQ vD vC) B sb s' := by
  obtain ⟨uP, uQ, uD, uC, _, _, hO⟩ := h
  exact ⟨_, _, _, _, _, _, (hr.put8 hO.blk _ _ _ _ _ _ _ _).st (hO.blk.put8 _ _ _ _ _ _ _ _) hO.lo⟩
theorem Rows.grown {w w' : World} {B : Nat} {s : PSt} {vP vQ vD vC : Value} {qs : List QPr} {cs : List QCm} (h : Rows w B s vP vQ vD vC qs cs) (hg : w.grownBy w' none) : Rows w' B s vP vQ vD vC qs cs :=
  ⟨own_gr0 h.pl hg, own_gr0 h.pr hg, own_gr0 h.de hg, own_gr0 h.cm hg, h.qp, h.cp, fun q hq => nest_step (h.qi q hq) hg (fun g e => by cases e), fun q hq => nest_step (h.ci q hq) hg (fun g e => by cases e)⟩
theorem Arr.re1 {w : World} {g : Nat} {r : PRec} {AI AN : Option Addr} {cI cN : Nat} (h : Blk w g 43 (reCells r AI cI AN cN)) (hI : Arr ItE 5 w (.slice AI r.items.length cI) r.items) (hN : Arr IE 1 w (.slice AN r.nodes.length cN) r.nodes) : Arr ReE 15 w (.slice (some ⟨g, 0, none⟩) 1 1) [r] :=
  Arr.block (xs := [r]) h (by simp) (by simp) fun j x hx => by
    obtain rfl : j = 0 := by
      have := (List.getElem?_eq_some_iff.1 hx).1
      simp at this; omega
    simp only [List.getElem?_cons_zero, Option.some.injEq] at hx
    subst hx
    exact ⟨_, ⟨AI, cI, AN, cN, rfl, hI, hN⟩, rfl, fun i u hu => by rw [Nat.zero_mul, Nat.zero_add]; simpa using hu⟩
/-- What answers with a state, all of the call's own, and a Bool. -/
def StPostB (w : World) (q : PSt × Bool) (e : Ending) (w' : World) : Prop := ∃ vP vQ vD vC qs cs, e = .returned (.tuple #[.agg (stCells q.1 vP vQ vD vC), .bool q.2]) ∧ w.grownBy w' none ∧ Rows w' w.heap.size q.1 vP vQ vD vC qs cs
set_option maxHeartbeats 6400000 in
theorem reached_c (w : World) (a b n : Int) (vl : Value) (l : List PRec) (hl : Arr ReE 15 w vl l) :
    Calls Try.prog 10 #[.agg #[.int .i64 a, .int .i64 b, .int .i64 n], vl] w (StPostB w (reachedE a b n l)) := by
  obtain ⟨AL, cL, rfl⟩ := hl.len
  have HLL := As.mk (And.intro hl.le hl.cap)
  have HL := As.mk hl
  clear hl
  have hga := gr_alloc (gr_alloc (gr_refl w none) (.cells #[.int .i64 a, .int .i64 b, .int .i64 n] 23)) (.cells #[.int .i64 0, .int .i64 0, .int .i64 0, .int .i64 0, .slice none 0 0, .slice none 0 0, .slice none 0 0, .slice none 0 0] 32)
  have HG := As.mk hga
  have HZ := As.mk (Blk.new2 w (.cells #[.int .i64 a, .int .i64 b, .int .i64 n] 23) 32 #[.int .i64 0, .int .i64 0, .int .i64 0, .int .i64 0, .slice none 0 0, .slice none 0 0, .slice none 0 0, .slice none 0 0])
  clear hga
  go_enter Try.func10, Try.ntmps10
  go_wp2_with fail
  generalize (w.alloc (.cells #[.int .i64 a, .int .i64 b, .int .i64 n] 23)).alloc (.cells #[.int .i64 0, .int .i64 0, .int .i64 0, .int .i64 0, .slice none 0 0, .slice none 0 0, .slice none 0 0, .slice none 0 0] 32) = W at *
  refine (First_c W a b n).mono ?_
  rintro e w1 ⟨fP, fQ, fD, fC, qs0, cs0, rfl, hg1, hr1⟩
  obtain ⟨fP, fp, rfl⟩ := own_shape hr1.pl
  obtain ⟨fQ, fq, rfl⟩ := own_shape hr1.pr
  obtain ⟨fD, fd, rfl⟩ := own_shape hr1.de
  obtain ⟨fC, fc, rfl⟩ := own_shape hr1.cm
  have HZ1 := As.mk (HZ.out.grown hg1 (by simp))
  have HG1 := As.mk (gr_then HG.out hg1 (.inl rfl))
  have HR1 := As.mk (hr1.mono HG.out.size)
  clear hg1 hr1 HZ HG
  unfold stCells
  by_cases h0 : (firstE a b n).1 = 0
  · obtain ⟨hfr, hfe⟩ := firstE_ok h0
    have HE0 := As.mk (show reachedE a b n l = (l.foldl stepS (firstS a b n), true) by unfold reachedE; rw [if_pos h0])
    have HI := As.mk (first_inv hfr)
    rw [hfe] at HR1 ⊢
    dsimp only at HR1 ⊢
    clear h0 hfr hfe
    generalize firstS a b n = s0 at *
    have hga := gr_alloc (gr_refl w1 none) (.cells #[.int .i64 s0.node, .int .i64 s0.nodes, .int .i64 s0.cells, .int .i64 s0.epoch, .slice fP s0.places.length fp, .slice fQ qs0.length fq, .slice fD s0.decided.length fd, .slice fC cs0.length fc] 32)
    have HS := As.mk (show StO _ w.heap.size w1.heap.size s0 from ⟨_, _, _, _, _, _, (HR1.out.grown hga).st (Blk.new w1 32 #[.int .i64 s0.node, .int .i64 s0.nodes, .int .i64 s0.cells, .int .i64 s0.epoch, .slice fP s0.places.length fp, .slice fQ qs0.length fq, .slice fD s0.decided.length fd, .slice fC cs0.length fc]) HG1.out.size⟩)
    have HSB := As.mk (show w.heap.size + 1 < w1.heap.size from HZ1.out.lt)
    replace HZ1 := As.mk (HZ1.out.grown hga (by simp))
    replace HG1 := As.mk (gr_then HG1.out hga (.inl rfl))
    clear hga HR1
    have hcl := HLL.out.1
    go_wp2_with fail
    generalize w1.alloc (.cells #[.int .i64 s0.node, .int .i64 s0.nodes, .int .i64 s0.cells, .int .i64 s0.epoch, .slice fP s0.places.length fp, .slice fQ qs0.length fq, .slice fD s0.decided.length fd, .slice fC cs0.length fc] 32) = W1 at *
    generalize w1.heap.size = sb at *
    go_loopw [27] (fun i wr => ∃ k : Nat, k ≤ l.length ∧ i = .int .i64 k ∧ ∃ s', As (w.grownBy wr none ∧ StO wr w.heap.size sb s' ∧ Blk wr (w.heap.size + 1) 32 #[.int .i64 0, .int .i64 0, .int .i64 0, .int .i64 0, .slice none 0 0, .slice none 0 0, .slice none 0 0, .slice none 0 0] ∧ (l.take k).foldl stepS s0 = s' ∧ SInv s')) (fun i _ => l.length - (intOf i).toNat)
    case atStart => exact ⟨0, Nat.zero_le _, rfl, s0, ⟨HG1.out, HS.out, HZ1.out, rfl, HI.out⟩⟩
    case round =>
      obtain ⟨k, hk, rfl, s', HX⟩ := hrel
      clear HG1 HS HZ1 HI
      obtain ⟨HG, HS, HZ, HF, HI⟩ := HX.out
      clear HX
      replace HG := As.mk HG
      replace HS := As.mk HS
      replace HZ := As.mk HZ
      replace HF := As.mk HF
      replace HI := As.mk HI
      obtain ⟨_, _, _, _, qs, cs, hO⟩ := HS.out
      obtain ⟨gP, gp, rfl⟩ := own_shape hO.pl
      obtain ⟨gQ, gq, rfl⟩ := own_shape hO.pr
      obtain ⟨gD, gd, rfl⟩ := own_shape hO.de
      obtain ⟨gC, gc, rfl⟩ := own_shape hO.cm
      have HO := As.mk hO
      clear hO
      by_cases hlt : k < l.length
      · have hltI : (k : Int) < (l.length : Int) := by omega
        have hk0 : (0 : Int) ≤ (k : Int) := by omega
        obtain ⟨r, hr⟩ : ∃ r, l[k]? = some r := ⟨_, List.getElem?_eq_getElem hlt⟩
        obtain ⟨b, off, cs0, rfl, ⟨AI, cI, AN, cN, rfl, hI, hN⟩, _, hcs⟩ := HL.out.at_ k r hr
        have HRI := As.mk hI
        have HRN := As.mk hN
        have hle := HLL.out.1
        have hle2 := HLL.out.2
        have e0 := HG.out.cell (hcs 0 _ rfl) (by simp)
        have e1 := HG.out.cell (hcs 1 _ rfl) (by simp)
        have e2 := HG.out.cell (hcs 2 _ rfl) (by simp)
        have e3 := HG.out.cell (hcs 3 _ rfl) (by simp)
        have e4 := HG.out.cell (hcs 4 _ rfl) (by simp)
        have e5 := HG.out.cell (hcs 5 _ rfl) (by simp)
        have e6 := HG.out.cell (hcs 6 _ rfl) (by simp)
        have e7 := HG.out.cell (hcs 7 _ rfl) (by simp)
        have e8 := HG.out.cell (hcs 8 _ rfl) (by simp)
        have e9 := HG.out.cell (hcs 9 _ rfl) (by simp)
        have e10 := HG.out.cell (hcs 10 _ rfl) (by simp)
        have e11 := HG.out.cell (hcs 11 _ rfl) (by simp)
        have e12 := HG.out.cell (hcs 12 _ rfl) (by simp)
        have e13 := HG.out.cell (hcs 13 _ rfl) (by simp)
        have e14 := HG.out.cell (hcs 14 _ rfl) (by simp)
        simp only [Nat.add_zero] at e0
        clear hI hN hcs
        have HRE := As.mk hr
        have hga := gr_alloc (gr_alloc (gr_refl wr none) (.cells #[.int .i64 r.kind, .int .i64 r.tid.n, .int .i64 r.tid.e, .int .i64 r.tid.s, .slice AI r.items.length cI, .slice AN r.nodes.length cN, .int .i64 r.node, .int .i64 r.count, .int .i64 r.num, .int .i64 r.cell, .int .i64 r.st, .int .i64 r.hop, .int .i64 r.ver, .int .i64 r.val, .bool r.yes] 43)) (.cells #[.int .i64 r.kind, .int .i64 r.tid.n, .int .i64 r.tid.e, .int .i64 r.tid.s, .slice AI r.items.length cI, .slice AN r.nodes.length cN, .int .i64 r.node, .int .i64 r.count, .int .i64 r.num, .int .i64 r.cell, .int .i64 r.st, .int .i64 r.hop, .int .i64 r.ver, .int .i64 r.val, .bool r.yes] 43)
        have HG2 := As.mk (gr_then HG.out hga (.inl rfl))
        have HS2 := As.mk (HS.out.grown hga)
        have HZ2 := As.mk (HZ.out.grown hga (by simp))
        have HO2 := As.mk (HO.out.grown hga)
        have HBS := As.mk (show Blk _ (wr.heap.size + 1) 43 (reCells r AI cI AN cN) from Blk.new2 wr (.cells #[.int .i64 r.kind, .int .i64 r.tid.n, .int .i64 r.tid.e, .int .i64 r.tid.s, .slice AI r.items.length cI, .slice AN r.nodes.length cN, .int .i64 r.node, .int .i64 r.count, .int .i64 r.num, .int .i64 r.cell, .int .i64 r.st, .int .i64 r.hop, .int .i64 r.ver, .int .i64 r.val, .bool r.yes] 43) 43 #[.int .i64 r.kind, .int .i64 r.tid.n, .int .i64 r.tid.e, .int .i64 r.tid.s, .slice AI r.items.length cI, .slice AN r.nodes.length cN, .int .i64 r.node, .int .i64 r.count, .int .i64 r.num, .int .i64 r.cell, .int .i64 r.st, .int .i64 r.hop, .int .i64 r.ver, .int .i64 r.val, .bool r.yes])
        clear hga hr
        have HB1 := As.mk (HO.out.blk.alloc (.cells #[.int .i64 r.kind, .int .i64 r.tid.n, .int .i64 r.tid.e, .int .i64 r.tid.s, .slice AI r.items.length cI, .slice AN r.nodes.length cN, .int .i64 r.node, .int .i64 r.count, .int .i64 r.num, .int .i64 r.cell, .int .i64 r.st, .int .i64 r.hop, .int .i64 r.ver, .int .i64 r.val, .bool r.yes] 43))
        unfold stCells at HB1
        obtain ⟨q0, q1, q2, q3, q4, q5, q6, q7⟩ := (HB1.out).c8
        go_wp2_with fail
        clear e0 e1 e2 e3 e4 e5 e6 e7 e8 e9 e10 e11 e12 e13 e14
        clear q0 q1 q2 q3 q4 q5 q6 q7
        generalize (wr.alloc (.cells #[.int .i64 r.kind, .int .i64 r.tid.n, .int .i64 r.tid.e, .int .i64 r.tid.s, .slice AI r.items.length cI, .slice AN r.nodes.length cN, .int .i64 r.node, .int .i64 r.count, .int .i64 r.num, .int .i64 r.cell, .int .i64 r.st, .int .i64 r.hop, .int .i64 r.ver, .int .i64 r.val, .bool r.yes] 43)).alloc (.cells #[.int .i64 r.kind, .int .i64 r.tid.n, .int .i64 r.tid.e, .int .i64 r.tid.s, .slice AI r.items.length cI, .slice AN r.nodes.length cN, .int .i64 r.node, .int .i64 r.count, .int .i64 r.num, .int .i64 r.cell, .int .i64 r.st, .int .i64 r.hop, .int .i64 r.ver, .int .i64 r.val, .bool r.yes] 43) = WX at *
        generalize wr.heap.size + 1 = gx at *
        refine (Apply_c WX s' _ _ _ _ HO2.out.read HI.out _ [r] (Arr.re1 HBS.out (HRI.out.itG HG2.out) (HRN.out.inG HG2.out))).mono ?_
        rintro e w2 ⟨aP, aQ, aD, aC, qs2, cs2, rfl, hg1, hr1⟩
        obtain ⟨aP, ap, rfl⟩ := own_shape hr1.pl
        obtain ⟨aQ, aq, rfl⟩ := own_shape hr1.pr
        obtain ⟨aD, ad, rfl⟩ := own_shape hr1.de
        obtain ⟨aC, ac, rfl⟩ := own_shape hr1.cm
        have HG3 := As.mk (gr_then HG2.out hg1 (.inl rfl))
        have HS3 := As.mk (HS2.out.grown hg1)
        have HZ3 := As.mk (HZ2.out.grown hg1 (by simp))
        have HR3 := As.mk (hr1.mono HG2.out.size)
        have HO3 := As.mk (HO2.out.grown hg1)
        clear hg1 hr1 HG2 HS2 HZ2 HO2
        have HST := As.mk (show stepS s' r = if (applyL s' [r]).1 = 0 then (applyL s' [r]).2 else s' from rfl)
        have HFT := As.mk (show (l.take (k + 1)).foldl stepS s0 = stepS s' r by rw [fold_at1 HRE.out, HF.out])
        have HIN := As.mk (stepS_inv HI.out r)
        generalize applyL s' [r] = q at *
        obtain ⟨er, s2⟩ := q
        dsimp only at HR3 HST ⊢
        unfold stCells
        have hga := gr_alloc (gr_refl w2 none) (.cells #[.int .i64 s2.node, .int .i64 s2.nodes, .int .i64 s2.cells, .int .i64 s2.epoch, .slice aP s2.places.length ap, .slice aQ qs2.length aq, .slice aD s2.decided.length ad, .slice aC cs2.length ac] 32)
        have HG4 := As.mk (gr_then HG3.out hga (.inl rfl))
        have HS4 := As.mk (HS3.out.grown hga)
        have HZ4 := As.mk (HZ3.out.grown hga (by simp))
        have HR4 := As.mk (HR3.out.grown hga)
        have HO4 := As.mk (HO3.out.grown hga)
        clear hga HG3 HS3 HZ3 HR3 HO3
        by_cases h0 : er = 0
        · subst h0
          rw [if_pos rfl] at HST
          have HS5 := As.mk (HS4.out.assign HR4.out)
          have HZ5 := As.mk (HZ4.out.grown (gr_put8 (gr_refl _ (some sb)) (.inl rfl) (.int .i64 s2.node) (.int .i64 s2.nodes) (.int .i64 s2.cells) (.int .i64 s2.epoch) (.slice aP s2.places.length ap) (.slice aQ qs2.length aq) (.slice aD s2.decided.length ad) (.slice aC cs2.length ac)) (by have := HSB.out; intro e; injection e; omega))
          have HG5 := As.mk (gr_put8 HG4.out (sb := sb) (.inr (by have := HSB.out; omega)) (.int .i64 s2.node) (.int .i64 s2.nodes) (.int .i64 s2.cells) (.int .i64 s2.epoch) (.slice aP s2.places.length ap) (.slice aQ qs2.length aq) (.slice aD s2.decided.length ad) (.slice aC cs2.length ac))
          unfold Go.Proofs.Ytdmkijdbldcdiaa.put8 at HS5 HZ5 HG5
          have HB4 := As.mk HO4.out.blk
          unfold stCells at HB4
          obtain ⟨q0, q1, q2, q3, q4, q5, q6, q7⟩ := (HB4.out).c8
          have fz0 := HB4.out.free 0
          have fz1 := HB4.out.free 1
          have fz2 := HB4.out.free 2
          have fz3 := HB4.out.free 3
          have fz4 := HB4.out.free 4
          have fz5 := HB4.out.free 5
          have fz6 := HB4.out.free 6
          have fz7 := HB4.out.free 7
          go_wp2_with fail
          go_roundw
          case measure => simp [intOf]; omega
          case rel => exact ⟨k + 1, by omega, by go_num, s2, ⟨HG5.out, HS5.out, HZ5.out, by rw [HFT.out, HST.out], by have := HIN.out; rw [HST.out] at this; exact this⟩⟩
        · rw [if_neg h0] at HST
          have h1 : (er == 0) = false := by simpa using h0
          clear h0
          go_wp2_with fail
          go_roundw
          case measure => simp [intOf]; omega
          case rel => exact ⟨k + 1, by omega, by go_num, s', ⟨HG4.out, HS4.out, HZ4.out, by rw [HFT.out, HST.out], HI.out⟩⟩
      · obtain rfl : k = l.length := by omega
        have HE := As.mk (show reachedE a b n l = (s', true) by rw [HE0.out, ← HF.out, List.take_length])
        have HB := As.mk HO.out.blk
        have HRW := As.mk (HO.out.rows.put8 HZ.out (.int .i64 s'.node) (.int .i64 s'.nodes) (.int .i64 s'.cells) (.int .i64 s'.epoch) (.slice gP s'.places.length gp) (.slice gQ qs.length gq) (.slice gD s'.decided.length gd) (.slice gC cs.length gc))
        have HZ5 := As.mk (HZ.out.put8 (.int .i64 s'.node) (.int .i64 s'.nodes) (.int .i64 s'.cells) (.int .i64 s'.epoch) (.slice gP s'.places.length gp) (.slice gQ qs.length gq) (.slice gD s'.decided.length gd) (.slice gC cs.length gc))
        have HG5 := As.mk (gr_put8 HG.out (sb := w.heap.size + 1) (.inr (Nat.le_succ _)) (.int .i64 s'.node) (.int .i64 s'.nodes) (.int .i64 s'.cells) (.int .i64 s'.epoch) (.slice gP s'.places.length gp) (.slice gQ qs.length gq) (.slice gD s'.decided.length gd) (.slice gC cs.length gc))
        unfold Go.Proofs.Ytdmkijdbldcdiaa.put8 at HRW HZ5 HG5
        clear hlt hk
        obtain ⟨q0, q1, q2, q3, q4, q5, q6, q7⟩ := (HB.out).c8
        obtain ⟨z0, z1, z2, z3, z4, z5, z6, z7⟩ := (HZ.out).c8
        have fz0 := HZ.out.free 0
        have fz1 := HZ.out.free 1
        have fz2 := HZ.out.free 2
        have fz3 := HZ.out.free 3
        have fz4 := HZ.out.free 4
        have fz5 := HZ.out.free 5
        have fz6 := HZ.out.free 6
        have fz7 := HZ.out.free 7
        go_wp2_with fail
        refine bodyPost_ret (results_row_tmp (P := Try.prog) rfl _ _ (w.heap.size + 1) 32 _ (0, 0) _ rfl (.bool true) rfl HZ5.out Try.underlying32 rfl (by kernel_rfl)) rfl ?_
        rw [HE.out]
        exact ⟨_, _, _, _, _, _, rfl, HG5.out, HRW.out⟩
  · have HE := As.mk (show reachedE a b n l = (zS, false) by unfold reachedE; rw [if_neg h0])
    have hfe : firstE a b n = (1, zS) := by
      unfold firstE at h0 ⊢
      cases hfr : rightR (fr a b n)
      · rfl
      · rw [hfr] at h0; exact absurd rfl h0
    rw [hfe] at HR1 ⊢
    dsimp only at HR1 ⊢
    clear h0 hfe
    have hga := gr_alloc (gr_refl w1 none) (.cells #[.int .i64 zS.node, .int .i64 zS.nodes, .int .i64 zS.cells, .int .i64 zS.epoch, .slice fP zS.places.length fp, .slice fQ qs0.length fq, .slice fD zS.decided.length fd, .slice fC cs0.length fc] 32)
    have HRW := As.mk ((HR1.out.grown hga).put8 (HZ1.out.grown hga (by simp)) (.int .i64 zS.node) (.int .i64 zS.nodes) (.int .i64 zS.cells) (.int .i64 zS.epoch) (.slice fP zS.places.length fp) (.slice fQ qs0.length fq) (.slice fD zS.decided.length fd) (.slice fC cs0.length fc))
    have HZ5 := As.mk ((HZ1.out.grown hga (by simp)).put8 (.int .i64 zS.node) (.int .i64 zS.nodes) (.int .i64 zS.cells) (.int .i64 zS.epoch) (.slice fP zS.places.length fp) (.slice fQ qs0.length fq) (.slice fD zS.decided.length fd) (.slice fC cs0.length fc))
    have HG5 := As.mk (gr_put8 (gr_then HG1.out hga (.inl rfl)) (sb := w.heap.size + 1) (.inr (Nat.le_succ _)) (.int .i64 zS.node) (.int .i64 zS.nodes) (.int .i64 zS.cells) (.int .i64 zS.epoch) (.slice fP zS.places.length fp) (.slice fQ qs0.length fq) (.slice fD zS.decided.length fd) (.slice fC cs0.length fc))
    unfold Go.Proofs.Ytdmkijdbldcdiaa.put8 at HRW HZ5 HG5
    have HZA := As.mk (HZ1.out.alloc (.cells #[.int .i64 zS.node, .int .i64 zS.nodes, .int .i64 zS.cells, .int .i64 zS.epoch, .slice fP zS.places.length fp, .slice fQ qs0.length fq, .slice fD zS.decided.length fd, .slice fC cs0.length fc] 32))
    clear hga
    obtain ⟨z0, z1, z2, z3, z4, z5, z6, z7⟩ := (HZA.out).c8
    have fz0 := HZA.out.free 0
    have fz1 := HZA.out.free 1
    have fz2 := HZA.out.free 2
    have fz3 := HZA.out.free 3
    have fz4 := HZA.out.free 4
    have fz5 := HZA.out.free 5
    have fz6 := HZA.out.free 6
    have fz7 := HZA.out.free 7
    go_wp2_with fail
    refine bodyPost_ret (results_row_tmp (P := Try.prog) rfl _ _ (w.heap.size + 1) 32 _ (0, 0) _ rfl (.bool false) rfl HZ5.out Try.underlying32 rfl (by kernel_rfl)) rfl ?_
    rw [HE.out]
    exact ⟨_, _, _, _, _, _, rfl, HG5.out, HRW.out⟩
theorem applyL_cons {s : PSt} {r : PRec} {l : List PRec} : applyL s (r :: l) = if rightR r = true then (if (applyE s r).1 = 0 then applyL (applyE s r).2 l else ((applyE s r).1, zS)) else (1, zS) := rfl
theorem applyL_one {s : PSt} {r : PRec} : applyL s [r] = if rightR r = true then (if (applyE s r).1 = 0 then (0, (applyE s r).2) else ((applyE s r).1, zS)) else (1, zS) := rfl
theorem applyL_cons0 {s : PSt} {r : PRec} {l : List PRec} (h : (applyL s [r]).1 = 0) : applyL s (r :: l) = applyL (applyL s [r]).2 l := by
  rw [applyL_cons]
  rw [applyL_one] at h ⊢
  cases hr : rightR r
  · rw [hr] at h; cases h
  · rw [hr] at h
    simp only [if_true] at h ⊢
    by_cases h0 : (applyE s r).1 = 0
    · rw [if_pos h0, if_pos h0]
    · rw [if_neg h0] at h; exact absurd h h0
theorem applyL_cons1 {s : PSt} {r : PRec} {l : List PRec} (h : (applyL s [r]).1 ≠ 0) : applyL s (r :: l) = ((applyL s [r]).1, zS) := by
  rw [applyL_cons]
  rw [applyL_one] at h ⊢
  cases hr : rightR r
  · rfl
  · rw [hr] at h
    simp only [if_true] at h ⊢
    by_cases h0 : (applyE s r).1 = 0
    · rw [if_pos h0] at h; exact absurd rfl h
    · rw [if_neg h0, if_neg h0]
theorem applyL_inv {s : PSt} {r : PRec} (h : SInv s) (h0 : (applyL s [r]).1 = 0) : SInv (applyL s [r]).2 := by
  have := stepS_inv h r
  unfold stepS at this
  rw [if_pos h0] at this
  exact this
theorem drop_at {α : Type} {l : List α} {k : Nat} {r : α} (h : l[k]? = some r) : l.drop k = r :: l.drop (k + 1) := by
  obtain ⟨hk, rfl⟩ := List.getElem?_eq_some_iff.1 h
  exact List.drop_eq_getElem_cons hk
theorem SInv.b4 {s : PSt} (h : SInv s) : s.places.length ≤ 100000 ∧ s.prepared.length ≤ 100000 ∧ s.decided.length ≤ 100000 ∧ s.commits.length ≤ 100000 := by
  have h1 := h.cells.2.2
  have h2 := h.tb
  have h3 := h.cm
  omega
theorem zS_b4 : zS.places.length ≤ 100000 ∧ zS.prepared.length ≤ 100000 ∧ zS.decided.length ≤ 100000 ∧ zS.commits.length ≤ 100000 := by decide
end Go.Proofs.Ytdmkijdbldcdiaa
