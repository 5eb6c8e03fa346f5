/- Plain: what was written is read again. -/
import Derived.Test.YtihibljjbdjeoaaDoorEq
import Derived.Test.YtihibljjbdjeoaaDoorRc
namespace Go.Proofs.YtihibljjbdjeoaaDoor
open Go.RowKit
set_option linter.unusedVariables false

theorem byteAt_drop {S : ByteArray} {p j : Nat} {pre rest : List UInt8} {c : UInt8} (h : S.data.toList.drop p = pre ++ c :: rest) (hj : pre.length = j) : byteAt S (p + j) = c.toNat := by
  have h1 : (S.data.toList.drop p)[j]? = some c := by rw [h, List.getElem?_append_right (by omega), hj, Nat.sub_self]; rfl
  rw [List.getElem?_drop] at h1
  obtain ⟨h2, h3⟩ := List.getElem?_eq_some_iff.1 h1
  have hl := ba_len S
  have h4 : p + j < S.size := by omega
  rw [← byteAt_get h4]
  congr 1
theorem num8_drop {S : ByteArray} {p : Nat} {rest : List UInt8} {n : Int} (h : S.data.toList.drop p = enc8 n ++ rest) (hn : In64' n) : num8 S p = n := by
  unfold num8
  rw [ext_list, Nat.add_sub_cancel_left, h, List.take_left' (enc8_len n)]
  exact num_enc8 n hn
theorem byteI_small (n : Int) (h0 : 0 ≤ n) (h1 : n < 256) : (((byteI n).toNat : Nat) : Int) = n := by rw [byteI_nat]; omega
theorem opAt_enc {S : ByteArray} {p : Nat} {rest : List UInt8} {x : POp} (h : S.data.toList.drop p = encOp x ++ rest) (hr : opRight x = true) (hw : OpWf x) : opAt S p = x := by
  have hk := inR_true (opRight_k hr)
  unfold opRight at hr
  simp only [Bool.and_eq_true] at hr
  have hc := inR_true hr.2.2.1
  have hg := inR_true hr.2.2.2.1
  have ho := inR_true hr.2.2.2.2
  obtain ⟨k, c, r, o, n⟩ := x
  dsimp only at *
  have e0 := byteAt_drop (j := 0) (pre := []) (c := byteI k) (rest := byteI r :: byteI o :: byteI c :: (enc8 n ++ rest)) (by rw [h]; rfl) rfl
  have e1 := byteAt_drop (j := 1) (pre := [byteI k]) (c := byteI r) (rest := byteI o :: byteI c :: (enc8 n ++ rest)) (by rw [h]; rfl) rfl
  have e2 := byteAt_drop (j := 2) (pre := [byteI k, byteI r]) (c := byteI o) (rest := byteI c :: (enc8 n ++ rest)) (by rw [h]; rfl) rfl
  have e3 := byteAt_drop (j := 3) (pre := [byteI k, byteI r, byteI o]) (c := byteI c) (rest := enc8 n ++ rest) (by rw [h]; rfl) rfl
  have h4 : S.data.toList.drop (p + 4) = enc8 n ++ rest := by
    rw [← List.drop_drop, h]
    rfl
  have e4 := num8_drop h4 hw.2.2.2
  unfold opAt
  rw [Nat.add_zero] at e0
  rw [e0, e1, e2, e3, e4, byteI_small k (by omega) (by omega), byteI_small c (by omega) (by omega), byteI_small r (by omega) (by omega), byteI_small o (by omega) (by omega)]
theorem encOps_drop (l : List POp) : ∀ (i : Nat) (x : POp), l[i]? = some x → ∃ rest, (encOps l).drop (12 * i) = encOp x ++ rest := by
  induction l with
  | nil => intro i x h; simp at h
  | cons y l ih =>
    intro i x h
    have e : encOps (y :: l) = encOp y ++ encOps l := rfl
    cases i with
    | zero =>
      simp at h
      subst h
      exact ⟨encOps l, by rw [e]; rfl⟩
    | succ i =>
      simp at h
      obtain ⟨rest, hr⟩ := ih i x h
      refine ⟨rest, ?_⟩
      rw [e, show 12 * (i + 1) = (encOp y).length + 12 * i by rw [encOp_len]; omega, ← List.drop_drop, List.drop_left]
      exact hr
theorem rdR_enc {l : List POp} (hp : pRight l = true) (hw : ∀ x ∈ l, OpWf x) : rdR ⟨(encL l).toArray⟩ = (l, true) := by
  obtain ⟨h32, hall, _⟩ := pRight_all hp
  have hd : (⟨(encL l).toArray⟩ : ByteArray).data.toList = encL l := by simp
  have hsz : (⟨(encL l).toArray⟩ : ByteArray).size = 2 + 12 * l.length := by
    show (encL l).toArray.size = _
    rw [List.size_toArray, encL_len]
  have b0 : byteAt ⟨(encL l).toArray⟩ (0 + 0) = _ := byteAt_drop (pre := []) (c := byteOf ((l.length : Int) / 256)) (rest := byteOf ((l.length : Int) % 256) :: encOps l) (by rw [hd]; rfl) rfl
  have b1 : byteAt ⟨(encL l).toArray⟩ (0 + 1) = _ := byteAt_drop (pre := [byteOf ((l.length : Int) / 256)]) (c := byteOf ((l.length : Int) % 256)) (rest := encOps l) (by rw [hd]; rfl) rfl
  have v0 := byteOf_nat ((l.length : Int) / 256) (by omega) (by omega)
  have v1 := byteOf_nat ((l.length : Int) % 256) (by omega) (by omega)
  have hc : cnt ⟨(encL l).toArray⟩ = l.length := by
    unfold cnt
    rw [Nat.zero_add] at b0 b1
    rw [b0, b1]
    omega
  have hrd : rdL ⟨(encL l).toArray⟩ = l := by
    apply List.ext_getElem?
    intro i
    unfold rdL
    rw [hc, List.getElem?_map]
    by_cases hi : i < l.length
    · rw [List.getElem?_range hi, Option.map_some]
      have hx := List.getElem?_eq_getElem hi
      obtain ⟨rest, hr⟩ := encOps_drop l i _ hx
      rw [hx, opAt_enc (x := l[i]) (rest := rest) (by
        rw [hd, ← List.drop_drop]
        have : (encL l).drop 2 = encOps l := rfl
        rw [this, hr]) (hall _ (List.getElem_mem hi)) (hw _ (List.getElem_mem hi))]
    · rw [List.getElem?_eq_none (by simpa using hi), List.getElem?_eq_none (by omega)]
      rfl
  unfold rdR
  rw [if_neg (by omega), if_neg (by omega), hrd, hp]
theorem decR_enc {l : List POp} (hp : pRight l = true) (hw : ∀ x ∈ l, OpWf x) : decR ⟨(encL l).toArray⟩ = (l, 0) := by
  rw [decR_eq, rdR_enc hp hw]
  rfl
theorem cells_right {l : List POp} (hp : pRight l = true) : cellsR l = cellsD l 16 := by
  unfold cellsR
  rw [if_pos hp]
  refine cells_eq fun x hx => ?_
  have hr := (pRight_all hp).2.1 x hx
  unfold opRight at hr
  simp only [Bool.and_eq_true] at hr
  exact inR_true hr.2.2.1
theorem lines_right {l : List POp} (hp : pRight l = true) : linesS l = ⟨(linesB l).toArray⟩ := by unfold linesS; rw [if_pos hp]
end Go.Proofs.YtihibljjbdjeoaaDoor
