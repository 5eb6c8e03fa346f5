/- The walk of the law TellCalls. -/
import Derived.Test.YtihibljjbdjeoaaDoorCl
import Derived.Test.YtihibljjbdjeoaaDoorTw
namespace Go.Proofs.YtihibljjbdjeoaaDoor
open Go.RowKit
set_option linter.unusedVariables false

def callS1 (x : PCall) : ByteArray := nameOf x.n x.e x.s ++ ⟨#[32, 97, 116, 32]⟩ ++ num x.at_ ++ ⟨#[58, 32]⟩
def callS2 (x : PCall) : ByteArray := if x.done then (if x.yes then ⟨#[99, 111, 109, 109, 105, 116, 116, 101, 100, 32, 97, 116, 32]⟩ ++ num x.when_ else ⟨#[97, 98, 111, 114, 116, 101, 100, 32]⟩ ++ num x.why ++ ⟨#[32, 97, 116, 32]⟩ ++ num x.when_) else ⟨#[111, 112, 101, 110]⟩
theorem callsS_take {l : List PCall} {k : Nat} (h : k < l.length) : callsS (l.take (k + 1)) = callsS (l.take k) ++ (callS1 (l[k]'h) ++ callS2 (l[k]'h) ++ ⟨#[10]⟩) := by
  apply ByteArray.ext
  unfold callsS
  rw [callsB_take h, callBytes, callTail, callS1, callS2]
  simp only [ByteArray.data_append]
  cases (l[k]'h).done <;> cases (l[k]'h).yes <;> simp [itmBytes, callHead, tailOpen, tailYes, tailNo, Itm.text, num, ByteArray.data_append]
theorem callsS_size (l : List PCall) (h : ∀ x ∈ l, x.ok) : (callsS l).size ≤ 200 * l.length := by
  have := callsB_len l h
  show (callsB l).toArray.size ≤ _
  simpa using this
set_option maxRecDepth 100000 in
set_option maxHeartbeats 6400000 in
theorem cw_walk (u : Value) (l : List PCall) (w : World) (ht : Tab w) (hu : Arr CallE 20 w u l) (hok : ∀ x ∈ l, x.ok) :
    Calls Tryd.prog 4 #[u] w fun e w' => e = .returned (.bool true) ∧ w.grownBy w' none := by
  obtain ⟨A, c, rfl⟩ := hu.len
  have hle := hu.le
  have HT := As.mk ht
  have HU := As.mk hu
  have HOK := As.mk hok
  clear hu hok ht
  go_enter Tryd.func4, Tryd.ntmps4
  go_upto_region 3 with (go_at_call 10; refine (awake28 _ HT.out).mono ?_; rintro e w1 ⟨rfl, hg⟩)
  have G := As.mk hg
  clear hg
  by_cases h40 : 40 < l.length
  · have h40I : (40 : Int) < (l.length : Int) := by omega
    go_wp2_with fail
    go_ret
    exact ⟨rfl, G.out⟩
  · have h40I : ¬ (40 : Int) < (l.length : Int) := by omega
    go_wp2_with fail
    go_loopw [3, 14] (fun s i wr => ∃ k : Nat, k ≤ l.length ∧ i = .int .i64 k ∧ s = .string (callsS (l.take k)) ∧ As (w.grownBy wr none)) (fun _ i _ => l.length - (intOf i).toNat)
    case atStart => exact ⟨0, Nat.zero_le _, rfl, rfl, G⟩
    case round =>
      obtain ⟨k, hk, rfl, rfl, HL⟩ := hrel
      by_cases hlt : k < l.length
      · have hltI : (k : Int) < (l.length : Int) := by omega
        have hk0 : (0 : Int) ≤ (k : Int) := by omega
        obtain ⟨bb, o, cs, rfl, hE, hcs, hcell⟩ := HU.out.at_ k l[k] (List.getElem?_eq_getElem hlt)
        obtain rfl := hE
        have hgr := HL.out
        have HR := As.mk (show wr.rangeAt bb (o + k * 20) (callCells (l[k]'hlt)) from fun i u hu => hgr.cell (hcell i u hu) (by simp))
        have HTK := As.mk (callsS_take hlt)
        have HO := As.mk (HOK.out _ (List.getElem_mem hlt))
        have hz := callsS_size (l.take k) (fun x hx => HOK.out x (List.mem_of_mem_take hx))
        rw [List.length_take] at hz
        clear hgr hcell hcs
        generalize l[k]'hlt = x at *
        generalize callsS (l.take k) = S at *
        have BN : As (In64 x.n ∧ In64 x.e ∧ In64 x.s) := ⟨⟨HO.out.1, HO.out.2.1, HO.out.2.2.1⟩⟩
        have BA : As (In64 x.at_ ∧ In64 x.why ∧ In64 x.when_) := ⟨⟨HO.out.2.2.2.1, HO.out.2.2.2.2.1, HO.out.2.2.2.2.2.1⟩⟩
        have a1 := nameOf_size x.n x.e x.s BN.out.1 BN.out.2.1 BN.out.2.2
        have a2 := num_size x.at_ BA.out.1.1 BA.out.1.2
        have a3 := num_size x.why BA.out.2.1.1 BA.out.2.1.2
        have a4 := num_size x.when_ BA.out.2.2.1 BA.out.2.2.2
        have HS := As.mk (And.intro hz (And.intro a1 (And.intro a2 (And.intro a3 a4))))
        have z1 : ¬ 9223372036854775807 < (nameOf x.n x.e x.s).size + 4 := by omega
        have z2 : ¬ 9223372036854775807 < (nameOf x.n x.e x.s).size + 4 + (num x.at_).size := by omega
        have z3 : ¬ 9223372036854775807 < (nameOf x.n x.e x.s).size + 4 + (num x.at_).size + 2 := by omega
        clear hz a1 a2 a3 a4
        have H1 := As.mk (all_oneCell_toArray (call_one HO.out))
        go_wp2_with (first
          | (refine wpList_load_mid rfl 37 _ rfl bb (o + k * 20) rfl (callCells x) _ HR.out Tryd.underlying37 rfl (szCall x) ?_)
          | (refine wpList_store_new wr rfl 37 _ _ rfl _ (callCells x).toArray rfl rfl (szCall' x) rfl H1.out ?_))
        have K0 := Blk.new wr 37 (callCells x).toArray
        have K := As.mk K0
        have GG := As.mk (gr_alloc HL.out (.cells (callCells x).toArray 37))
        clear K0 HR HL H1
        generalize wr.alloc (.cells (callCells x).toArray 37) = W at *
        generalize wr.heap.size = gx at *
        go_region_held3 (fun w' => (w'.cell? ⟨gx, 0, none⟩ = some (.int .i64 x.n) ∧ w'.cell? ⟨gx, 1, none⟩ = some (.int .i64 x.e) ∧ w'.cell? ⟨gx, 2, none⟩ = some (.int .i64 x.s)) ∧ w'.cell? ⟨gx, 4, none⟩ = some (.int .i64 x.at_))
          (first | exact ⟨⟨K.out.cell 0, K.out.cell 1, K.out.cell 2⟩, K.out.cell 4⟩ | go_keep)
          (first
          | (go_at_call 12; refine (refName_c x.n x.e x.s BN.out.1 BN.out.2.1 BN.out.2.2 _).mono ?_; rintro e0 w2 ⟨rfl, hg⟩
             have nK := As.mk (Blk.grown (t := 37) (cs := (callCells x).toArray) (b := gx) (by first | exact K.out | exact K.out.drew) hg (by simp)); have nG := As.mk (gr_then (row := none) (by first | exact GG.out | exact gr_drew GG.out) hg (.inl rfl)); clear K GG; have K := nK; have GG := nG; clear nK nG; clear hg)
          | (go_at_call 15; refine (digits_c x.at_ BA.out.1.1 BA.out.1.2 _).mono ?_; rintro e0 w3 ⟨rfl, hg⟩
             have nK := As.mk (Blk.grown (t := 37) (cs := (callCells x).toArray) (b := gx) (by first | exact K.out | exact K.out.drew) hg (by simp)); have nG := As.mk (gr_then (row := none) (by first | exact GG.out | exact gr_drew GG.out) hg (.inl rfl)); clear K GG; have K := nK; have GG := nG; clear nK nG; clear hg))
        simp only [Exit.then]
        clear z1 z2 z3
        have hsz1 : (nameOf x.n x.e x.s ++ ⟨#[32, 97, 116, 32]⟩ ++ num x.at_ ++ ⟨#[58, 32]⟩).size ≤ 100 := by
          have h := HS.out
          simp only [ByteArray.size_append]
          have h1 : (⟨#[32, 97, 116, 32]⟩ : ByteArray).size = 4 := rfl
          have h2 : (⟨#[58, 32]⟩ : ByteArray).size = 2 := rfl
          omega
        have HS1 := As.mk (show callS1 x = nameOf x.n x.e x.s ++ ⟨#[32, 97, 116, 32]⟩ ++ num x.at_ ++ ⟨#[58, 32]⟩ from rfl)
        generalize nameOf x.n x.e x.s ++ (⟨#[32, 97, 116, 32]⟩ : ByteArray) ++ num x.at_ ++ (⟨#[58, 32]⟩ : ByteArray) = S1 at *
        have e5 : w3.cell? ⟨gx, 5, none⟩ = some (.bool x.done) := K.out.cell 5
        have e9 : w3.cell? ⟨gx, 9, none⟩ = some (.bool x.yes) := K.out.cell 9
        have e10 : w3.cell? ⟨gx, 10, none⟩ = some (.int .i64 x.why) := K.out.cell 10
        have e19 : w3.cell? ⟨gx, 19, none⟩ = some (.int .i64 x.when_) := K.out.cell 19
        have hzS : S.size ≤ 8000 := by have := HS.out.1; omega
        have hzW : (num x.why).size ≤ 21 := HS.out.2.2.2.1
        have hzN : (num x.when_).size ≤ 21 := HS.out.2.2.2.2
        have HE := As.mk (And.intro e10 e19)
        have HZ := As.mk (And.intro hzS (And.intro hzW (And.intro hzN hsz1)))
        clear hzS hzW hzN hsz1 HS e10 e19
        obtain ⟨hzS, hzW, hzN, hsz1⟩ := HZ.out
        cases hd : x.done
        · rw [hd] at e5
          have y1 : ¬ 9223372036854775807 < S1.size + 4 := by omega
          have y2 : ¬ 9223372036854775807 < S1.size + 4 + 1 := by omega
          have y3 : ¬ 9223372036854775807 < S.size + (S1.size + 4 + 1) := by omega
          clear hzS hzW hzN hsz1
          go_wp2_with fail
          go_roundw
          case measure => simp [intOf]; omega
          case rel =>
            refine ⟨k + 1, by omega, by go_num, ?_, GG⟩
            rw [HTK.out, callS2, hd, if_neg (by simp), HS1.out]
        · rw [hd] at e5
          cases hy : x.yes
          · rw [hy] at e9
            have y1 : ¬ 9223372036854775807 < 8 + (num x.why).size := by omega
            have y2 : ¬ 9223372036854775807 < 8 + (num x.why).size + 4 := by omega
            have y3 : ¬ 9223372036854775807 < 8 + (num x.why).size + 4 + (num x.when_).size := by omega
            have y4 : ¬ 9223372036854775807 < S1.size + (8 + (num x.why).size + 4 + (num x.when_).size) := by omega
            have y5 : ¬ 9223372036854775807 < S1.size + (8 + (num x.why).size + 4 + (num x.when_).size) + 1 := by omega
            have y6 : ¬ 9223372036854775807 < S.size + (S1.size + (8 + (num x.why).size + 4 + (num x.when_).size) + 1) := by omega
            clear hzS hzW hzN hsz1
            go_wp2_with fail
            go_region_held3 (fun w' => w'.cell? ⟨gx, 10, none⟩ = some (.int .i64 x.why) ∧ w'.cell? ⟨gx, 19, none⟩ = some (.int .i64 x.when_))
              (first | exact ⟨K.out.cell 10, K.out.cell 19⟩ | go_keep)
              (first
              | (go_at_call 15; refine (digits_c _ ?q0 ?q1 _).mono ?_; (case q0 => first | exact BA.out.2.1.1 | exact BA.out.2.2.1); (case q1 => first | exact BA.out.2.1.2 | exact BA.out.2.2.2); rintro e0 w4 ⟨rfl, hg⟩
                 have nK := As.mk (Blk.grown (t := 37) (cs := (callCells x).toArray) (b := gx) (by first | exact K.out | exact K.out.drew) hg (by simp)); have nG := As.mk (gr_then (row := none) (by first | exact GG.out | exact gr_drew GG.out) hg (.inl rfl)); clear K GG; have K := nK; have GG := nG; clear nK nG; clear hg))
            go_wp2_with fail
            go_roundw
            case measure => simp [intOf]; omega
            case rel =>
              refine ⟨k + 1, by omega, by go_num, ?_, GG⟩
              rw [HTK.out, callS2, hd, if_pos rfl, hy, if_neg (by simp), HS1.out]
          · rw [hy] at e9
            have y1 : ¬ 9223372036854775807 < 13 + (num x.when_).size := by omega
            have y2 : ¬ 9223372036854775807 < S1.size + (13 + (num x.when_).size) := by omega
            have y3 : ¬ 9223372036854775807 < S1.size + (13 + (num x.when_).size) + 1 := by omega
            have y4 : ¬ 9223372036854775807 < S.size + (S1.size + (13 + (num x.when_).size) + 1) := by omega
            have e19 : w3.cell? ⟨gx, 19, none⟩ = some (.int .i64 x.when_) := HE.out.2
            clear hzS hzW hzN hsz1
            go_wp2_with (go_at_call 15; refine (digits_c x.when_ BA.out.2.2.1 BA.out.2.2.2 _).mono ?_; rintro e0 w4 ⟨rfl, hg⟩)
            have G4 := As.mk (gr_then GG.out hg (.inl rfl))
            clear hg
            go_roundw
            case measure => simp [intOf]; omega
            case rel =>
              refine ⟨k + 1, by omega, by go_num, ?_, G4⟩
              rw [HTK.out, callS2, hd, if_pos rfl, hy, if_pos rfl, HS1.out]
      · obtain rfl : k = l.length := by omega
        have HX := As.mk HL.out
        clear HL
        go_wp2_with (go_at_call 16; refine (calls_c _ (HT.out.gr HX.out) _ l (HU.out.below HX.out (fun _ _ => CallE.any _ _)) HOK.out (by omega)).mono ?_; rintro e w2 ⟨rfl, g2⟩)
        go_ret
        exact ⟨by simp, gr_then HX.out g2 (.inl rfl)⟩
end Go.Proofs.YtihibljjbdjeoaaDoor
