/- The walk of prog.Decode. -/
import Derived.Test.YtihibljjbdjeoaaDoorRg
import Derived.Test.YtihibljjbdjeoaaDoorAps
import Derived.Test.YtihibljjbdjeoaaDoorPq
namespace Go.Proofs.YtihibljjbdjeoaaDoor
open Go.RowKit
set_option linter.unusedVariables false

theorem rByte_lt {S : ByteArray} {t t' : St} {n : Nat} (h : rByte S t = (n, t')) : n < 256 := by
  unfold rByte at h
  split at h
  · injection h with h1 h2
    rw [← h1]
    exact byteAt_lt S t.p
  · injection h with h1 h2
    omega
/-- An operation, as it is read. -/
def rOp (S : ByteArray) (t : St) : POp × St :=
  let a := rByte S t
  let b := rByte S a.2
  let c := rByte S b.2
  let d := rByte S c.2
  let e := rNum S d.2
  (⟨a.1, d.1, b.1, c.1, e.1⟩, e.2)
def rOps (S : ByteArray) (t : St) : Nat → List POp × St
  | 0 => ([], t)
  | k + 1 => ((rOps S t k).1 ++ [(rOp S (rOps S t k).2).1], (rOp S (rOps S t k).2).2)
theorem rOps_len (S : ByteArray) (t : St) : ∀ k, (rOps S t k).1.length = k
  | 0 => rfl
  | k + 1 => by rw [rOps, List.length_append, rOps_len S t k]; rfl
/-- What Decode says. -/
def decR (S : ByteArray) : List POp × Int :=
  let c := rCount S ⟨0, false⟩
  if 32 < c.1 then ([], 2) else
  let o := rOps S c.2 c.1
  if rEnd S o.2 = 0 ∧ pRight o.1 = true then (o.1, 0) else ([], 2)
set_option maxRecDepth 100000 in
set_option maxHeartbeats 6400000 in
theorem decode_c (S : ByteArray) (w : World) (hS : S.size ≤ 140737488355328) :
    Calls Tryd.prog 26 #[.string S] w fun e w' => (∃ v, e = .returned (.tuple #[v, .int .i64 (decR S).2]) ∧ Arr OpE 5 w' v (decR S).1) ∧ w.grownBy w' none := by
  obtain ⟨i0, hi, hz0, hz1, hz2⟩ := info_parts infoOp20
  have HI := As.mk (And.intro hi (And.intro hz0 (And.intro hz1 hz2)))
  clear hi hz0 hz1 hz2
  have R0 := As.mk (RdAt.new S w)
  have G0 := As.mk (gr_alloc (gr_refl w none) (.cells #[.string S, .bool false] 121))
  have HD : As (decR S = decR S) := ⟨rfl⟩
  have HD := As.mk (show decR S = (let c := rCount S ⟨0, false⟩; if 32 < c.1 then ([], 2) else let o := rOps S c.2 c.1; if rEnd S o.2 = 0 ∧ pRight o.1 = true then (o.1, 0) else ([], 2)) from rfl)
  generalize decR S = dr at *
  generalize hv : rCount S ⟨0, false⟩ = c at *
  obtain ⟨n, t1⟩ := c
  have HC := As.mk (fun (W : World) (g : Nat) (h : RdAt W g S ⟨0, false⟩) => count_c hv hS h)
  clear hv
  go_enter Tryd.func26, Tryd.ntmps26
  go_wp2_with fail
  refine (new_walk S w).mono ?_
  rintro e w1 ⟨rfl, rfl⟩
  generalize w.alloc (.cells #[.string S, .bool false] 121) = W1 at *
  generalize hg : w.heap.size = g at *
  have HG0 := As.mk hg
  clear hg
  go_wp2_with fail
  refine (HC.out _ _ R0.out).mono ?_
  rintro e w2 ⟨rfl, R1, g1⟩
  have R1 := As.mk R1
  have G1 := As.mk (gr_then G0.out g1 (.inr (.inr (fun q hq => by have := HG0.out; injection hq with hq; omega))))
  clear g1 R0 G0
  by_cases hn : 32 < n
  · have hnI : (32 : Int) < (n : Int) := by omega
    have HE : As (dr = ([], 2)) := ⟨by rw [HD.out]; simp [hn]⟩
    go_wp2_with fail
    go_ret2
    exact ⟨⟨_, by rw [HE.out]; rfl, by rw [HE.out]; exact ⟨none, 0, rfl, by simp, fun h => by simp at h⟩⟩, G1.out⟩
  · have hnI : ¬ (32 : Int) < (n : Int) := by omega
    have HE : As (dr = (if rEnd S (rOps S t1 n).2 = 0 ∧ pRight (rOps S t1 n).1 = true then ((rOps S t1 n).1, 0) else ([], 2))) := ⟨by rw [HD.out]; simp [hn]⟩
    clear HD
    go_wp2_with fail
    have hgl : g < w2.heap.size := by
      have := G1.out.size
      have h9 := R1.out.1
      rcases Nat.lt_or_ge g w2.heap.size with h | h
      · exact h
      · unfold Blk at h9
        rw [Array.getElem?_eq_none h] at h9
        cases h9
    have HGL := As.mk hgl
    clear hgl
    generalize hbase : w2.heap.size = base at *
    have HBS := As.mk hbase
    clear hbase
    go_loopw [6, 14] (fun o i wr => ∃ k : Nat, k ≤ n ∧ i = .int .i64 k ∧ As (wr.ownsRow base 48 5 o k (opsCells (rOps S t1 k).1) ∧ RdAt wr g S (rOps S t1 k).2 ∧ w.grownBy wr none ∧ base ≤ wr.heap.size)) (fun _ i _ => n - (intOf i).toNat)
    case atStart => exact ⟨0, Nat.zero_le _, rfl, ⟨World.ownsRow_nil _ _ _ _, R1.out, G1.out, by have := HBS.out; omega⟩⟩
    case round =>
      obtain ⟨k, hk, rfl, HL⟩ := hrel
      obtain ⟨A', c', rfl⟩ := own_shape HL.out.1
      by_cases hlt : k < n
      · have hltI : (k : Int) < (n : Int) := by omega
        have hk0 : (0 : Int) ≤ (k : Int) := by omega
        have hk9 : k ≤ 32 := by omega
        have HS1 : As ((rOps S t1 (k + 1)) = ((rOps S t1 k).1 ++ [(rOp S (rOps S t1 k).2).1], (rOp S (rOps S t1 k).2).2)) := ⟨rfl⟩
        generalize rOps S t1 k = lt at *
        obtain ⟨l, t⟩ := lt
        dsimp only at *
        have HX := As.mk (show rOp S t = (let a := rByte S t; let b := rByte S a.2; let c := rByte S b.2; let d := rByte S c.2; let e := rNum S d.2; (⟨a.1, d.1, b.1, c.1, e.1⟩, e.2)) from rfl)
        generalize rOp S t = xt at *
        obtain ⟨x, t'⟩ := xt
        generalize ha : rByte S t = pa at *
        obtain ⟨na, ta⟩ := pa
        dsimp only at HX
        have la : na < 256 := rByte_lt ha
        have ia : (na : Int) < 256 := by omega
        have ja : (0 : Int) ≤ (na : Int) := by omega
        have Wa : IntKind.i64.wrap (na : Int) = na := by simp [IntKind.wrap, IntKind.bits, IntKind.signed]; omega
        generalize hb : rByte S ta = pb at *
        obtain ⟨nb, tb⟩ := pb
        dsimp only at HX
        have lb : nb < 256 := rByte_lt hb
        have ib : (nb : Int) < 256 := by omega
        have jb : (0 : Int) ≤ (nb : Int) := by omega
        have Wb : IntKind.i64.wrap (nb : Int) = nb := by simp [IntKind.wrap, IntKind.bits, IntKind.signed]; omega
        generalize hc : rByte S tb = pc at *
        obtain ⟨nc, tc⟩ := pc
        dsimp only at HX
        have lc : nc < 256 := rByte_lt hc
        have ic : (nc : Int) < 256 := by omega
        have jc : (0 : Int) ≤ (nc : Int) := by omega
        have Wc : IntKind.i64.wrap (nc : Int) = nc := by simp [IntKind.wrap, IntKind.bits, IntKind.signed]; omega
        generalize hd : rByte S tc = pd at *
        obtain ⟨nd, td⟩ := pd
        dsimp only at HX
        have ld : nd < 256 := rByte_lt hd
        have id : (nd : Int) < 256 := by omega
        have jd : (0 : Int) ≤ (nd : Int) := by omega
        have Wd : IntKind.i64.wrap (nd : Int) = nd := by simp [IntKind.wrap, IntKind.bits, IntKind.signed]; omega
        generalize he : rNum S td = pe at *
        obtain ⟨ne, te⟩ := pe
        dsimp only at HX
        have HX2 := HX.out
        injection HX2 with hx1 hx2
        subst hx1 hx2
        clear HX
        have HF : As (∀ (W W' : World), W.ownsRow base 48 5 (.slice A' k c') k (opsCells l) → w.grownBy W none → base ≤ W.heap.size → W.grownBy W' (some g) → W'.ownsRow base 48 5 (.slice A' k c') k (opsCells l) ∧ w.grownBy W' none ∧ base ≤ W'.heap.size) := ⟨fun W W' h1 h2 h3 h4 => ⟨own_grown h1 h4 (by
          rcases hq : (Value.slice A' k c').ownBlock with _ | q
          · exact .inl rfl
          · right
            have := (h1.lt q hq).1
            have := HGL.out
            intro e
            injection e with e
            omega), gr_then h2 h4 (.inr (.inr (fun q hq => by have := HG0.out; injection hq with hq; omega))), Nat.le_trans h3 h4.size⟩⟩
        obtain ⟨HO, HR, HGr, HSz⟩ := HL.out
        have HP := As.mk (And.intro HO (And.intro HGr HSz))
        have HRR := As.mk HR
        clear HL HO HR HGr HSz
        go_wp2_with fail
        refine (byte_c ha hS HRR.out).mono ?_
        rintro e wa ⟨rfl, Ra, ga⟩
        have HPa := As.mk (HF.out _ _ HP.out.1 HP.out.2.1 HP.out.2.2 ga)
        clear HP HRR ga
        have HP := HPa
        clear HPa
        have HRR := As.mk Ra
        clear Ra
        go_wp2_with fail
        refine (byte_c hb hS HRR.out).mono ?_
        rintro e wb ⟨rfl, Rb, gb⟩
        have HPb := As.mk (HF.out _ _ HP.out.1 HP.out.2.1 HP.out.2.2 gb)
        clear HP HRR gb
        have HP := HPb
        clear HPb
        have HRR := As.mk Rb
        clear Rb
        go_wp2_with fail
        refine (byte_c hc hS HRR.out).mono ?_
        rintro e wc ⟨rfl, Rc, gc⟩
        have HPc := As.mk (HF.out _ _ HP.out.1 HP.out.2.1 HP.out.2.2 gc)
        clear HP HRR gc
        have HP := HPc
        clear HPc
        have HRR := As.mk Rc
        clear Rc
        go_wp2_with fail
        refine (byte_c hd hS HRR.out).mono ?_
        rintro e wd ⟨rfl, Rd, gd⟩
        have HPd := As.mk (HF.out _ _ HP.out.1 HP.out.2.1 HP.out.2.2 gd)
        clear HP HRR gd
        have HP := HPd
        clear HPd
        have HRR := As.mk Rd
        clear Rd
        go_wp2_with fail
        refine (numR_c he hS HRR.out).mono ?_
        rintro e we ⟨rfl, Re, ge⟩
        have HPe := As.mk (HF.out _ _ HP.out.1 HP.out.2.1 HP.out.2.2 ge)
        clear HP HRR ge
        have HP := HPe
        clear HPe
        have HRR := As.mk Re
        clear Re
        go_wp2_with (at_builtin; refine wpList_append_lies _ (by rfl) _ _ _ (by rfl) base 48 i0 _ 5 40 Tryd.underlying31 HI.out.1 HI.out.2.1 HI.out.2.2.1 HI.out.2.2.2 rfl (by omega) _ k _ (by rfl) (HP.out.1.alloc _) ⟨we.heap.size, 0, none⟩ 1 1 [.int .i64 na, .int .i64 nd, .int .i64 nb, .int .i64 nc, .int .i64 ne] (by rfl) (by rfl) (World.news_of_block (cs := #[.int .i64 na, .int .i64 nd, .int .i64 nb, .int .i64 nc, .int .i64 ne]) (t := 48) (fr := (0, 0)) (heap_alloc_new we _)) (by simp [Value.oneCell']) (by omega) (by simp only [maxLen]; omega) (by omega) (by have := HP.out.2.2; simp; omega) (we.heap.size + 1) (by simp) ?_; intro gg cap w5 hown1 hgrow hat hlt2)
        have HFar : As (∀ q, (Value.slice A' k c').ownBlock = some q → base ≤ q) := ⟨fun q hq => (HP.out.1.lt q hq).1⟩
        go_roundw
        case measure => simp [intOf]; omega
        case rel =>
          refine ⟨k + 1, by omega, by go_num, ⟨?_, ?_, ?_, ?_⟩⟩
          · rw [HS1.out, opsCells_snoc]; exact hown1
          · rw [HS1.out]
            exact (HRR.out.alloc _).grown hgrow (by
              intro e
              have := HFar.out g e.symm
              have := HGL.out
              omega)
          · exact gr_then (gr_alloc HP.out.2.1 _) hgrow (.inr (.inr (fun q hq => by have := HFar.out q hq; have := HGL.out; have := HG0.out; omega)))
          · have := HP.out.2.2
            have := hgrow.size
            simp at this
            omega
      · obtain rfl : k = n := by omega
        have HL1 := HL.out.1
        have HA := As.mk (Arr.of_ops (l := (rOps S t1 k).1) (by rw [rOps_len]; exact HL1))
        have HR := As.mk HL.out.2.1
        have HGr := As.mk HL.out.2.2.1
        clear HL HL1
        generalize hot : rOps S t1 k = ot at *
        obtain ⟨l, t⟩ := ot
        have hlen : l.length = k := by have := rOps_len S t1 k; rw [hot] at this; exact this
        clear hot
        dsimp only at *
        subst hlen
        by_cases he : rEnd S t = 0
        · cases hp : pRight l
          · have HN : As (dr = ([], 2)) := ⟨by rw [HE.out, hp]; simp⟩
            go_wp2_with fail
            refine (end_walk g S t _ hS HR.out).mono ?_
            rintro e w3 ⟨rfl, rfl⟩
            rw [he]
            go_wp2_with fail
            refine (pRight_c _ l _ HA.out _ hp).mono ?_
            rintro e w4 ⟨rfl, g4⟩
            have G4 := As.mk (gr_then HGr.out g4 (.inl rfl))
            clear g4
            go_wp2_with fail
            go_ret2
            exact ⟨⟨_, by rw [HN.out]; rfl, by rw [HN.out]; exact ⟨none, 0, rfl, by simp, fun h => by simp at h⟩⟩, G4.out⟩
          · have HN : As (dr = (l, 0)) := ⟨by rw [HE.out, hp, he]; simp⟩
            go_wp2_with fail
            refine (end_walk g S t _ hS HR.out).mono ?_
            rintro e w3 ⟨rfl, rfl⟩
            rw [he]
            go_wp2_with fail
            refine (pRight_c _ l _ HA.out _ hp).mono ?_
            rintro e w4 ⟨rfl, g4⟩
            have G4 := As.mk (gr_then HGr.out g4 (.inl rfl))
            have HA4 := As.mk (HA.out.below g4 (fun _ _ => OpE.any _ _))
            clear g4
            go_wp2_with fail
            go_ret2
            exact ⟨⟨_, by rw [HN.out]; rfl, by rw [HN.out]; exact HA4.out⟩, G4.out⟩
        · have hne : (rEnd S t != 0) = true := by rw [bne_iff_ne]; exact he
          have HN : As (dr = ([], 2)) := ⟨by rw [HE.out, if_neg (fun h => he h.1)]⟩
          go_wp2_with fail
          refine (end_walk g S t _ hS HR.out).mono ?_
          rintro e w3 ⟨rfl, rfl⟩
          generalize rEnd S t = re at *
          go_wp2_with fail
          go_ret2
          exact ⟨⟨_, by rw [HN.out]; rfl, by rw [HN.out]; exact ⟨none, 0, rfl, by simp, fun h => by simp at h⟩⟩, HGr.out⟩
end Go.Proofs.YtihibljjbdjeoaaDoor
