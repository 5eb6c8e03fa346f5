/- The walk of item.in's test. -/
import Derived.Test.YtdmkijdbldcdiaaAr
namespace Go.Proofs.Ytdmkijdbldcdiaa
open Go.RowKit
set_option linter.unusedVariables false
set_option linter.unusedSimpArgs false

def inR (n lo hi : Int) : Bool := decide (lo ≤ n) && decide (n ≤ hi)
set_option maxRecDepth 100000 in
theorem in1_c (w : World) (n lo hi : Int) (b1 b2 : Nat) (h1 : w.cell? ⟨b1, 0, none⟩ = some (.int .i64 lo)) (h2 : w.cell? ⟨b2, 0, none⟩ = some (.int .i64 hi)) (r : Bool) (hr : inR n lo hi = r) :
    Calls Try.prog 84 #[.int .i64 n, .pointer (some ⟨b1, 0, none⟩), .pointer (some ⟨b2, 0, none⟩)] w fun e w' => e = .returned (.bool (!r)) ∧ w' = w := by
  subst hr
  unfold inR
  by_cases a : n < lo
  · have a' : ¬ lo ≤ n := by omega
    go_enter Try.func84, Try.ntmps84
    go_wp2_with fail
    go_ret
    exact ⟨by simp [a'], rfl⟩
  · have a' : lo ≤ n := by omega
    by_cases b : hi < n
    · have b' : ¬ n ≤ hi := by omega
      go_enter Try.func84, Try.ntmps84
      go_wp2_with fail
      go_ret
      exact ⟨by simp [b'], rfl⟩
    · have b' : n ≤ hi := by omega
      go_enter Try.func84, Try.ntmps84
      go_wp2_with fail
      go_ret
      exact ⟨by simp [a', b'], rfl⟩
def IE (w : World) (x : Int) (cs : List Value) : Prop := cs = [.int .i64 x]
theorem any_take_succ {α : Type} (p : α → Bool) (l : List α) (k : Nat) (hk : k < l.length) : (l.take (k + 1)).any p = ((l.take k).any p || p (l[k]'hk)) := by
  rw [List.take_succ_eq_append_getElem hk, List.any_append]
  simp
set_option maxRecDepth 100000 in
theorem idxInt_c (w : World) (v : Value) (l : List Int) (h : Arr IE 1 w v l) (lo hi : Int) (b1 b2 : Nat) (h1 : w.cell? ⟨b1, 0, none⟩ = some (.int .i64 lo)) (h2 : w.cell? ⟨b2, 0, none⟩ = some (.int .i64 hi)) :
    Calls Try.prog 92 #[v, .func (.func 84) #[] #[.pointer (some ⟨b1, 0, none⟩), .pointer (some ⟨b2, 0, none⟩)]] w fun e w' => (∃ i : Int, e = .returned (.int .i64 i) ∧ decide (0 ≤ i) = l.any (fun x => !inR x lo hi)) ∧ w' = w := by
  obtain ⟨A, c, rfl⟩ := h.len
  have hl := h.le
  have H := As.mk h
  clear h
  go_enter Try.func92, Try.ntmps92
  go_wp2_with fail
  go_loopw [8] (fun i wr => ∃ k : Nat, k ≤ l.length ∧ i = .int .i64 k ∧ wr = w ∧ As ((l.take k).any (fun x => !inR x lo hi) = false)) (fun i _ => l.length - (intOf i).toNat)
  case atStart => exact ⟨0, Nat.zero_le _, rfl, rfl, ⟨by simp⟩⟩
  case round =>
    obtain ⟨k, hk, rfl, rfl, HL⟩ := hrel
    by_cases hlt : k < l.length
    · have hltI : (k : Int) < (l.length : Int) := by omega
      have hk0 : (0 : Int) ≤ (k : Int) := by omega
      obtain ⟨b, o, cs, rfl, hE, hcs, hcell⟩ := H.out.at_ k l[k] (List.getElem?_eq_getElem hlt)
      obtain rfl := hE
      have c0 : wr.cell? ⟨b, o + k * 1, none⟩ = _ := hcell 0 _ rfl
      rw [Nat.mul_one] at c0
      have HS := As.mk (any_take_succ (fun x => !inR x lo hi) l k hlt)
      have HM := As.mk (List.getElem_mem hlt)
      clear hcell hcs
      generalize l[k] = y at *
      go_wp2_with (go_at_call 84; refine (in1_c _ y lo hi b1 b2 h1 h2 _ rfl).mono ?_)
      rintro e w1 ⟨rfl, rfl⟩
      cases hf : inR y lo hi
      · have HF := As.mk hf
        clear hf
        go_wp2_with fail
        go_ret
        refine ⟨⟨k, rfl, ?_⟩, rfl⟩
        rw [show decide ((0 : Int) ≤ (k : Int)) = true by simp, eq_comm, List.any_eq_true]
        exact ⟨_, HM.out, by simp [HF.out]⟩
      · have HF := As.mk hf
        clear hf
        go_wp2_with fail
        go_roundw
        case measure => simp [intOf]; omega
        case rel => exact ⟨k + 1, by omega, by simp, by trivial, ⟨by rw [HS.out, HL.out, HF.out]; rfl⟩⟩
    · obtain rfl : k = l.length := by omega
      have HX := As.mk HL.out
      clear HL
      go_wp2_with fail
      go_ret
      refine ⟨⟨-1, rfl, ?_⟩, rfl⟩
      have := HX.out
      rw [List.take_of_length_le (Nat.le_refl _)] at this
      rw [this]; rfl
set_option maxRecDepth 100000 in
theorem conInt_c (w : World) (v : Value) (l : List Int) (h : Arr IE 1 w v l) (lo hi : Int) (b1 b2 : Nat) (h1 : w.cell? ⟨b1, 0, none⟩ = some (.int .i64 lo)) (h2 : w.cell? ⟨b2, 0, none⟩ = some (.int .i64 hi)) (r : Bool) (hr : l.any (fun x => !inR x lo hi) = r) :
    Calls Try.prog 83 #[v, .func (.func 84) #[] #[.pointer (some ⟨b1, 0, none⟩), .pointer (some ⟨b2, 0, none⟩)]] w fun e w' => e = .returned (.bool r) ∧ w' = w := by
  have H := As.mk h
  have HR := As.mk hr
  clear h hr
  go_enter Try.func83, Try.ntmps83
  go_wp2_with fail
  refine (idxInt_c w v l H.out lo hi b1 b2 h1 h2).mono ?_
  rintro e w1 ⟨⟨i, rfl, hi⟩, rfl⟩
  rw [HR.out] at hi
  have HI := As.mk hi
  clear hi
  go_wp2_with fail
  go_ret
  exact ⟨by rw [← HI.out]; rfl, rfl⟩
set_option maxRecDepth 100000 in
theorem in_c (w : World) (v : Value) (l : List Int) (h : Arr IE 1 w v l) (lo hi : Int) (r : Bool) (hr : l.all (fun x => inR x lo hi) = r) :
    Calls Try.prog 68 #[.int .i64 lo, .int .i64 hi, v] w fun e w' => e = .returned (.bool r) ∧ w.grownBy w' none := by
  have H := As.mk (h.below (gr_alloc (gr_alloc (gr_refl w none) (.cells #[.int .i64 lo] 3)) (.cells #[.int .i64 hi] 3)) (fun _ _ h => h))
  have HR := As.mk (show l.any (fun x => !inR x lo hi) = !r by rw [← hr, List.not_all_eq_any_not])
  clear h hr
  go_enter Try.func68, Try.ntmps68
  go_wp2_with fail
  refine (conInt_c _ v l H.out lo hi w.heap.size (w.heap.size + 1) (by simp) (by simp) _ HR.out).mono ?_
  rintro e w1 ⟨rfl, rfl⟩
  go_wp2_with fail
  go_ret
  exact ⟨by simp, gr_alloc (gr_alloc (gr_refl w none) _) _⟩
end Go.Proofs.Ytdmkijdbldcdiaa
