/- The walk of the document's Items. -/
import Derived.Test.YtihibljjbdjeoaaDoorIt
namespace Go.Proofs.YtihibljjbdjeoaaDoor
open Go.RowKit
set_option linter.unusedVariables false

theorem itemsS_take {l : List PIt} {k : Nat} (h : k < l.length) : itemsS (l.take (k + 1)) = itemsS (l.take k) ++ ⟨#[32, 99]⟩ ++ num (l[k]'h).c ++ ⟨#[64]⟩ ++ num (l[k]'h).v ++ ⟨#[61]⟩ ++ num (l[k]'h).a ++ (if (l[k]'h).wr then ⟨#[62]⟩ ++ num (l[k]'h).nw else ⟨#[]⟩) := by
  apply ByteArray.ext
  unfold itemsS
  rw [itemsB_take h, itBytes_eq]
  simp only [ByteArray.data_append]
  cases (l[k]'h).wr <;> simp [num, ByteArray.data_append]
theorem itemsS_size (l : List PIt) (h : ∀ x ∈ l, x.ok) : (itemsS l).size ≤ 100 * l.length := by
  have := itemsB_len l h
  show (itemsB l).toArray.size ≤ _
  simpa using this
set_option maxRecDepth 100000 in
set_option maxHeartbeats 6400000 in
theorem refItems_c (w : World) (u : Value) (l : List PIt) (hu : Arr ItE 5 w u l) (hok : ∀ x ∈ l, x.ok) (hl : l.length ≤ 1000) :
    Calls Tryd.prog 14 #[u] w fun e' w' => e' = .returned (.string (itemsS l)) ∧ w.grownBy w' none := by
  obtain ⟨A, c, rfl⟩ := hu.len
  have HU := As.mk hu
  have HOK := As.mk hok
  clear hu hok
  go_enter Tryd.func14, Tryd.ntmps14
  go_wp2_with fail
  go_loopw [3, 4] (fun s i wr => ∃ k : Nat, k ≤ l.length ∧ i = .int .i64 k ∧ s = .string (itemsS (l.take k)) ∧ As (w.grownBy wr none)) (fun _ i _ => l.length - (intOf i).toNat)
  case atStart => exact ⟨0, Nat.zero_le _, rfl, rfl, ⟨gr_refl _ _⟩⟩
  case round =>
    obtain ⟨k, hk, rfl, rfl, HL⟩ := hrel
    by_cases hlt : k < l.length
    · have hltI : (k : Int) < (l.length : Int) := by omega
      have hk0 : (0 : Int) ≤ (k : Int) := by omega
      obtain ⟨bb, o, cs, rfl, hE, hcs, hcell⟩ := HU.out.at_ k l[k] (List.getElem?_eq_getElem hlt)
      obtain rfl := hE
      have hgr := HL.out
      have c0 : wr.cell? ⟨bb, o + k * 5, none⟩ = _ := hgr.cell (hcell 0 _ rfl) (by simp)
      have c1 := hgr.cell (hcell 1 _ rfl) (by simp)
      have c2 := hgr.cell (hcell 2 _ rfl) (by simp)
      have c3 := hgr.cell (hcell 3 _ rfl) (by simp)
      have c4 := hgr.cell (hcell 4 _ rfl) (by simp)
      have HTK := As.mk (itemsS_take hlt)
      have HO := As.mk (HOK.out _ (List.getElem_mem hlt))
      have hz := itemsS_size (l.take k) (fun x hx => HOK.out x (List.mem_of_mem_take hx))
      rw [List.length_take] at hz
      have HC := As.mk (And.intro c0 (And.intro c1 (And.intro c2 (And.intro c3 c4))))
      clear hgr hcell hcs c0 c1 c2 c3 c4
      generalize l[k]'hlt = x at *
      generalize itemsS (l.take k) = S at *
      have a1 := num_size _ HO.out.1.1 HO.out.1.2
      have a2 := num_size _ HO.out.2.1.1 HO.out.2.1.2
      have a3 := num_size _ HO.out.2.2.1.1 HO.out.2.2.1.2
      have a4 := num_size _ HO.out.2.2.2.1 HO.out.2.2.2.2
      have z1 : ¬ 9223372036854775807 < S.size + 2 := by omega
      have z2 : ¬ 9223372036854775807 < S.size + 2 + (num x.c).size := by omega
      have z3 : ¬ 9223372036854775807 < S.size + 2 + (num x.c).size + 1 := by omega
      have z4 : ¬ 9223372036854775807 < S.size + 2 + (num x.c).size + 1 + (num x.v).size := by omega
      have z5 : ¬ 9223372036854775807 < S.size + 2 + (num x.c).size + 1 + (num x.v).size + 1 := by omega
      have z6 : ¬ 9223372036854775807 < S.size + 2 + (num x.c).size + 1 + (num x.v).size + 1 + (num x.a).size := by omega
      have z7 : ¬ 9223372036854775807 < S.size + 2 + (num x.c).size + 1 + (num x.v).size + 1 + (num x.a).size + 1 := by omega
      have z8 : ¬ 9223372036854775807 < S.size + 2 + (num x.c).size + 1 + (num x.v).size + 1 + (num x.a).size + 1 + (num x.nw).size := by omega
      clear a1 a2 a3 a4 hz
      have GW := As.mk (gr_refl wr none)
      go_wp2_with fail
      go_region_held3 (fun w' => w'.cell? ⟨bb, o + k * 5, none⟩ = some (.int .i64 x.c) ∧ w'.cell? ⟨bb, o + k * 5 + 1, none⟩ = some (.int .i64 x.v) ∧ w'.cell? ⟨bb, o + k * 5 + 2, none⟩ = some (.int .i64 x.a))
        (first | exact ⟨GW.out.cell HC.out.1 (by simp), GW.out.cell HC.out.2.1 (by simp), GW.out.cell HC.out.2.2.1 (by simp)⟩ | go_keep)
        (first
        | (go_at_call 36; refine (num_c _ ?h0 ?h1 _).mono ?_; (case h0 => first | exact HO.out.1.1 | exact HO.out.2.1.1 | exact HO.out.2.2.1.1); (case h1 => first | exact HO.out.1.2 | exact HO.out.2.1.2 | exact HO.out.2.2.1.2); rintro e w1 ⟨rfl, hg⟩
           have nG := As.mk (gr_then (row := none) (by first | exact GW.out | exact gr_drew GW.out) hg (.inl rfl)); clear GW; have GW := nG; clear nG; clear hg))
      simp only [Exit.then]
      have e3 : w1.cell? ⟨bb, o + k * 5 + 3, none⟩ = some (.bool x.wr) := GW.out.cell HC.out.2.2.2.1 (by simp)
      have e4 : w1.cell? ⟨bb, o + k * 5 + 4, none⟩ = some (.int .i64 x.nw) := GW.out.cell HC.out.2.2.2.2 (by simp)
      have hS2 : (S ++ ⟨#[32, 99]⟩ ++ num x.c ++ ⟨#[64]⟩ ++ num x.v ++ ⟨#[61]⟩ ++ num x.a).size = S.size + 2 + (num x.c).size + 1 + (num x.v).size + 1 + (num x.a).size := by simp only [ByteArray.size_append]; rfl
      rw [← hS2] at z7 z8
      clear z1 z2 z3 z4 z5 z6 hS2
      have HC4 := As.mk HC.out.2.2.2.2
      have HG := As.mk (gr_then HL.out GW.out (.inl rfl))
      clear HC GW HL
      generalize S ++ ⟨#[32, 99]⟩ ++ num x.c ++ ⟨#[64]⟩ ++ num x.v ++ ⟨#[61]⟩ ++ num x.a = S2 at *
      cases hwr : x.wr
      · rw [hwr] at e3 HTK
        clear z7 z8
        go_wp2_with fail
        go_roundw
        case measure => simp [intOf]; omega
        case rel =>
          refine ⟨k + 1, by omega, by go_num, ?_, HG⟩
          rw [HTK.out, if_neg (by simp)]
          congr 1
          apply ByteArray.ext
          simp [ByteArray.data_append]
      · rw [hwr] at e3 HTK
        go_wp2_with (go_at_call 36; refine (num_c _ HO.out.2.2.2.1 HO.out.2.2.2.2 _).mono ?_; rintro e w2 ⟨rfl, hg⟩)
        have HG2 := As.mk (gr_then HG.out hg (.inl rfl))
        clear hg
        go_roundw
        case measure => simp [intOf]; omega
        case rel =>
          refine ⟨k + 1, by omega, by go_num, ?_, HG2⟩
          rw [HTK.out, if_pos (by simp), ByteArray.append_assoc]
    · obtain rfl : k = l.length := by omega
      have HX := As.mk HL.out
      clear HL
      go_wp2_with fail
      go_ret
      exact ⟨by rw [List.take_length]; rfl, HX.out⟩
end Go.Proofs.YtihibljjbdjeoaaDoor
