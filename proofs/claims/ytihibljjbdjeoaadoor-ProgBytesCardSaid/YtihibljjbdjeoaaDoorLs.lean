/- The walk of prog's Lines. -/
import Derived.Test.YtihibljjbdjeoaaDoorPq
import Derived.Test.YtihibljjbdjeoaaDoorLi
import Derived.Test.YtihibljjbdjeoaaDoorIt
namespace Go.Proofs.YtihibljjbdjeoaaDoor
open Go.RowKit
set_option linter.unusedVariables false

def OpWf (x : POp) : Prop := In64' x.c ∧ In64' x.r ∧ In64' x.o ∧ In64' x.n
theorem opRight_k {x : POp} (h : opRight x = true) : inR x.k 1 12 = true := by
  unfold opRight at h
  cases h1 : inR x.k 1 12
  · rw [h1] at h; cases h
  · rfl
theorem pRight_all {l : List POp} (h : pRight l = true) : l.length ≤ 32 ∧ (∀ x ∈ l, opRight x = true) ∧ pairsOk l = true := by
  unfold pRight at h
  simp only [Bool.and_eq_true, decide_eq_true_eq, Bool.not_eq_true', List.any_eq_false] at h
  exact ⟨h.1, fun x hx => by have := h.2.1 x hx; simpa using this, h.2.2⟩
theorem nameK_size (k : Int) : (nameK k).size ≤ 6 := by
  unfold nameK
  repeat' (first | (show (_ : Nat) ≤ 6; decide) | split)
theorem lineOf_size (x : POp) (h : OpWf x) : (lineOf x).size ≤ 60 := by
  have a := num_size _ h.1.1 h.1.2
  have b := num_size _ h.2.1.1 h.2.1.2
  have c := num_size _ h.2.2.1.1 h.2.2.1.2
  have d := num_size _ h.2.2.2.1 h.2.2.2.2
  have n1 := nameK_size 1
  have n2 := nameK_size 2
  have n3 := nameK_size 3
  have n4 := nameK_size 4
  have n5 := nameK_size 5
  have n6 := nameK_size 6
  have n9 := nameK_size 9
  have nk := nameK_size x.k
  have e : (⟨#[32]⟩ : ByteArray).size = 1 := rfl
  unfold lineOf
  repeat' (first | (simp only [ByteArray.size_append, regS_size, celS_size]; omega) | (exact Nat.le_trans nk (by decide)) | split)
def linesB (l : List POp) : List UInt8 := l.flatMap fun x => (lineOf x).data.toList ++ [10]
theorem linesB_take {l : List POp} {k : Nat} (h : k < l.length) : linesB (l.take (k + 1)) = linesB (l.take k) ++ ((lineOf (l[k]'h)).data.toList ++ [10]) := by
  unfold linesB
  rw [List.take_succ_eq_append_getElem h, List.flatMap_append]
  simp
theorem linesB_len (l : List POp) (h : ∀ x ∈ l, OpWf x) : (linesB l).length ≤ 61 * l.length := by
  induction l with
  | nil => simp [linesB]
  | cons x l ih =>
    have h1 := ih (fun y hy => h y (List.mem_cons_of_mem _ hy))
    have h2 := lineOf_size x (h x (List.mem_cons_self ..))
    have h3 : (lineOf x).data.toList.length = (lineOf x).size := by rw [Array.length_toList]; rfl
    unfold linesB at *
    rw [List.flatMap_cons, List.length_append, List.length_append]
    simp only [List.length_cons, List.length_nil]
    omega
def linesS (l : List POp) : ByteArray := if pRight l then ⟨(linesB l).toArray⟩ else ⟨#[]⟩
theorem headsB : Heads 73 0 := ⟨by kernel_rfl, by decide⟩
abbrev BdW (w : World) (B b : Nat) (v : Value) (l : List UInt8) : Prop := WrAt w B b 73 [] v l
theorem bd_new {w : World} {B : Nat} (hB : B ≤ w.heap.size) : BdW (w.alloc (.cells #[.pointer none, .slice none 0 0] 73)) B w.heap.size (.slice none 0 0) [] :=
  ⟨hB, by simp; omega, ⟨_, .inl rfl, Blk.new w _ _⟩, World.ownsRow_nil _ _ _ _⟩
set_option maxRecDepth 100000 in
set_option maxHeartbeats 6400000 in
theorem lines_c (v : Value) (l : List POp) (w : World) (ht : Tab w) (h : Arr OpE 5 w v l) (hwf : ∀ x ∈ l, OpWf x) :
    Calls Tryd.prog 19 #[v] w fun e w' => e = .returned (.string (linesS l)) ∧ w.grownBy w' none := by
  obtain ⟨A, c, rfl⟩ := h.len
  have H := As.mk h
  have HT := As.mk ht
  have HWF := As.mk hwf
  clear h ht hwf
  go_enter Tryd.func19, Tryd.ntmps19
  go_wp2_with fail
  refine (pRight_c _ l _ H.out _ rfl).mono ?_
  rintro e w1 ⟨rfl, g1⟩
  have G1 := As.mk g1
  clear g1
  cases hp : pRight l
  · go_wp2_with fail
    go_ret
    exact ⟨by rw [linesS, hp]; rfl, G1.out⟩
  · have HA := As.mk (pRight_all hp)
    have h32 := HA.out.1
    go_wp2_with fail
    have P0 := As.mk (bd_new (w := w1) (Nat.le_of_eq rfl))
    generalize hb : w1.heap.size = b at *
    have HB := As.mk hb
    clear hb
    go_loopw [11] (fun i wr => ∃ k : Nat, k ≤ l.length ∧ i = .int .i64 k ∧ As (∃ vr, BdW wr b b vr (linesB (l.take k)) ∧ (k = 0 → vr = .slice none 0 0) ∧ w1.grownBy wr none)) (fun i _ => l.length - (intOf i).toNat)
    case atStart => exact ⟨0, Nat.zero_le _, rfl, ⟨_, by simpa [linesB, HB.out] using P0.out, fun _ => rfl, gr_alloc (gr_refl _ _) _⟩⟩
    case round =>
      obtain ⟨k, hk, rfl, HL⟩ := hrel
      by_cases hlt : k < l.length
      · have hltI : (k : Int) < (l.length : Int) := by omega
        have hk0 : (0 : Int) ≤ (k : Int) := by omega
        obtain ⟨bb, o, cs, rfl, hE, hcs, hcell⟩ := H.out.at_ k l[k] (List.getElem?_eq_getElem hlt)
        obtain rfl := hE
        obtain ⟨vr, hw, hv0, hgr⟩ := HL.out
        have hgr2 := gr_then G1.out hgr (.inl rfl)
        have c0 : wr.cell? ⟨bb, o + k * 5, none⟩ = _ := hgr2.cell (hcell 0 _ rfl) (by simp)
        have c1 := hgr2.cell (hcell 1 _ rfl) (by simp)
        have c2 := hgr2.cell (hcell 2 _ rfl) (by simp)
        have c3 := hgr2.cell (hcell 3 _ rfl) (by simp)
        have c4 := hgr2.cell (hcell 4 _ rfl) (by simp)
        have HTK := As.mk (linesB_take hlt)
        have HO := As.mk (And.intro (HA.out.2.1 _ (List.getElem_mem hlt)) (HWF.out _ (List.getElem_mem hlt)))
        have HZ := As.mk (linesB_len (l.take k) (fun x hx => HWF.out x (List.mem_of_mem_take hx)))
        have HW := As.mk (And.intro hw (And.intro hgr hgr2))
        clear hw hgr hgr2 HL hv0 hcell hcs P0
        generalize l[k]'hlt = x at *
        have hzl := lineOf_size x HO.out.2
        have zl : ¬ 9223372036854775807 < (lineOf x).size + 1 := by omega
        clear hzl
        go_wp2_with fail
        refine (opline_c x _ (HT.out.gr (gr_alloc HW.out.2.2 _)) (opRight_k HO.out.1) HO.out.2.1 HO.out.2.2.1 HO.out.2.2.2.1 HO.out.2.2.2.2).mono ?_
        rintro e w2 ⟨rfl, g2⟩
        have g2' := gr_then (World.grownBy_alloc wr (.cells #[.int .i64 x.k, .int .i64 x.c, .int .i64 x.r, .int .i64 x.o, .int .i64 x.n] 48) none) g2 (.inl rfl)
        have P2 := As.mk (And.intro (HW.out.1.gr0 g2') (gr_then HW.out.2.1 g2' (.inl rfl)))
        clear g2 g2' HW c0 c1 c2 c3 c4
        go_wp2_with fail
        have hsz : (lineOf x ++ (⟨#[10]⟩ : ByteArray)).size ≤ 61 := by
          have h2 := lineOf_size x HO.out.2
          rw [ByteArray.size_append]
          exact Nat.add_le_add h2 (Nat.le_refl 1)
        have hll : (linesB (l.take k)).length ≤ 2000 := by
          have h1 := HZ.out
          rw [List.length_take] at h1
          omega
        have HC := As.mk (fun (S : ByteArray) (h : S.size ≤ 61) => ws_c headsB P2.out.1 S (by omega))
        refine (HC.out _ hsz).mono ?_
        rintro e w3 ⟨rfl, v3, p3, g3⟩
        have P3 := As.mk (And.intro p3 (g3.gr P2.out.2 (by have := HB.out; omega) (fun q hq => by have := (P2.out.1.row.lt q hq).1; have := HB.out; omega)))
        clear p3 g3 P2
        go_wp2_with fail
        go_roundw
        case measure => simp [intOf]; omega
        case rel =>
          refine ⟨k + 1, by omega, by go_num, ⟨v3, ?_, fun h => by omega, P3.out.2⟩⟩
          have h3 := P3.out.1
          rw [HTK.out]
          rw [show (lineOf x ++ (⟨#[10]⟩ : ByteArray)).data.toList = (lineOf x).data.toList ++ [10] by rw [ByteArray.data_append, Array.toList_append]] at h3
          exact h3
      · obtain rfl : k = l.length := by omega
        have HX := As.mk HL.out
        clear HL
        obtain ⟨vr, hw, hv0, hgr⟩ := HX.out
        rw [List.take_length] at hw
        by_cases h0 : l = []
        · subst h0
          obtain rfl := hv0 rfl
          have HW := As.mk (And.intro hw hgr)
          clear hw hgr hv0 HX
          go_wp2_with (go_at_call 35; refine (bs0_c headsB HW.out.1).mono ?_; rintro e w2 ⟨rfl, g2⟩)
          go_ret
          exact ⟨by rw [linesS, hp]; rfl, gr_then (gr_then G1.out HW.out.2 (.inl rfl)) g2 (.inl rfl)⟩
        · have HW := As.mk (And.intro hw hgr)
          have hne : linesB l ≠ [] := by
            cases l with
            | nil => exact absurd rfl h0
            | cons x l => simp [linesB]
          clear hw hgr hv0 HX h0
          go_wp2_with (go_at_call 35; refine (bs_c headsB HW.out.1 hne).mono ?_; rintro e w2 ⟨rfl, g2⟩)
          go_ret
          exact ⟨by rw [linesS, hp]; rfl, gr_then (gr_then G1.out HW.out.2 (.inl rfl)) g2 (.inr (.inr fun k hk => by have := (HW.out.1.row.lt k hk).1; have := HB.out; have := G1.out.size; omega))⟩
end Go.Proofs.YtihibljjbdjeoaaDoor
