/- The walks of slices.ContainsFunc at events, and of the document's Right. -/
import Derived.Test.YtmmgmdfhdhnmaaaFitb
namespace Go.Proofs.Ytmmgmdfhdhnmaaa
open Go.RowKit
set_option linter.unusedVariables false

set_option maxRecDepth 100000 in
set_option maxHeartbeats 1600000 in
theorem format1_c (w : World) (x : PEv) (u : Value) (hu : Arr OpE 5 w u x.ops) (r : Bool) (hr : evRight x = r) :
    Calls Try.prog 22 #[.agg #[.int .i64 x.k, .int .i64 x.a, .int .i64 x.b, .int .i64 x.n, u]] w fun e w' => e = .returned (.bool (!r)) ∧ w.grownBy w' none := by
  have B := As.mk (Blk.new w 37 #[.int .i64 x.k, .int .i64 x.a, .int .i64 x.b, .int .i64 x.n, u])
  have G := As.mk (gr_alloc (gr_refl w none) (.cells #[.int .i64 x.k, .int .i64 x.a, .int .i64 x.b, .int .i64 x.n, u] 37))
  have HU1 := As.mk (hu.below G.out (fun _ _ => OpE.any _ _))
  obtain ⟨A, c, rfl⟩ := hu.len
  clear hu
  go_enter Try.func22, Try.ntmps22
  go_wp2_with (go_at_call 23; refine (right_c _ x _ HU1.out r hr).mono ?_)
  rintro e w1 ⟨rfl, g1⟩
  have G1 := As.mk (gr_then G.out g1 (.inl rfl))
  clear g1 G B HU1
  cases r
  · go_wp2; go_ret; exact ⟨rfl, G1.out⟩
  · go_wp2; go_ret; exact ⟨rfl, G1.out⟩
set_option maxRecDepth 100000 in
set_option maxHeartbeats 1600000 in
theorem idxEv_c (w : World) (v : Value) (l : List PEv) (h : Arr EvE 5 w v l) :
    Calls Try.prog 33 #[v, .func (.func 22) #[] #[]] w fun e w' => (∃ i : Int, e = .returned (.int .i64 i) ∧ decide (0 ≤ i) = l.any (fun x => !evRight x)) ∧ w.grownBy w' none := by
  obtain ⟨A, c, rfl⟩ := h.len
  have hl := h.le
  have H := As.mk h
  clear h
  go_enter Try.func33, Try.ntmps33
  go_wp2_with fail
  go_loopw [8] (fun i wr => ∃ k : Nat, k ≤ l.length ∧ i = .int .i64 k ∧ As ((l.take k).any (fun x => !evRight x) = false ∧ w.grownBy wr none)) (fun i _ => l.length - (intOf i).toNat)
  case atStart => exact ⟨0, Nat.zero_le _, rfl, ⟨by simp, gr_refl _ _⟩⟩
  case round =>
    obtain ⟨k, hk, rfl, HL⟩ := hrel
    by_cases hlt : k < l.length
    · have hltI : (k : Int) < (l.length : Int) := by omega
      have hk0 : (0 : Int) ≤ (k : Int) := by omega
      obtain ⟨b, o, cs, rfl, ⟨u, hE, hu⟩, hcs, hcell⟩ := H.out.at_ k l[k] (List.getElem?_eq_getElem hlt)
      obtain rfl := hE
      have c0 : wr.cell? ⟨b, o + k * 5, none⟩ = _ := HL.out.2.cell (hcell 0 _ rfl) (by simp)
      have c1 := HL.out.2.cell (hcell 1 _ rfl) (by simp)
      have c2 := HL.out.2.cell (hcell 2 _ rfl) (by simp)
      have c3 := HL.out.2.cell (hcell 3 _ rfl) (by simp)
      have c4 := HL.out.2.cell (hcell 4 _ rfl) (by simp)
      have hs := any_take_succ (fun x => !evRight x) l k hlt
      have HU := As.mk (hu.below HL.out.2 (fun _ _ => OpE.any _ _))
      clear hcell hcs hu
      go_wp2_with (go_at_call 22; refine (format1_c _ (l[k]'hlt) _ HU.out _ rfl).mono ?_)
      rintro e w1 ⟨rfl, g1⟩
      have G1 := As.mk (gr_then HL.out.2 g1 (.inl rfl))
      clear g1 c0 c1 c2 c3 c4
      rw [HL.out.1] at hs
      have HS := As.mk hs
      clear hs
      cases hf : evRight (l[k]'hlt)
      · go_wp2_with fail
        go_ret
        refine ⟨⟨k, rfl, ?_⟩, G1.out⟩
        rw [show decide ((0 : Int) ≤ (k : Int)) = true by simp]
        rw [eq_comm, List.any_eq_true]
        exact ⟨_, List.getElem_mem hlt, by simp [hf]⟩
      · go_wp2_with fail
        go_roundw
        case measure => simp [intOf]; omega
        case rel => exact ⟨k + 1, by omega, by go_num, ⟨by have h1 := HS.out; rw [hf] at h1; simpa using h1, G1.out⟩⟩
    · obtain rfl : k = l.length := by omega
      have HX := As.mk HL.out
      clear HL
      go_wp2
      go_ret
      refine ⟨⟨-1, rfl, ?_⟩, HX.out.2⟩
      have := HX.out.1
      rw [List.take_of_length_le (Nat.le_refl _)] at this
      rw [this]; rfl
set_option maxRecDepth 100000 in
theorem conEv_c (w : World) (v : Value) (l : List PEv) (h : Arr EvE 5 w v l) (r : Bool) (hr : l.any (fun x => !evRight x) = r) :
    Calls Try.prog 21 #[v, .func (.func 22) #[] #[]] w fun e w' => e = .returned (.bool r) ∧ w.grownBy w' none := by
  have H := As.mk h
  clear h
  go_enter Try.func21, Try.ntmps21
  go_wp2_with (go_at_call 33; refine (idxEv_c _ _ l H.out).mono ?_)
  rintro e w1 ⟨⟨i, rfl, hi⟩, g1⟩
  have G1 := As.mk g1
  clear g1
  rw [hr] at hi
  cases r
  · have h0 : ¬ (0 ≤ i) := by simpa using hi
    go_wp2; go_ret; exact ⟨rfl, G1.out⟩
  · have h0 : 0 ≤ i := by simpa using hi
    go_wp2; go_ret; exact ⟨rfl, G1.out⟩
set_option maxRecDepth 100000 in
theorem byteful_c (w : World) (n : Int) (r : Bool) (hr : inR n 0 255 = r) : Calls Try.prog 19 #[.int .i64 n] w fun e w' => e = .returned (.bool r) ∧ w' = w := by
  go_enter Try.func19, Try.ntmps19
  by_cases h0 : 0 ≤ n
  · by_cases h1 : n < 256
    · have : r = true := by rw [← hr]; unfold inR; simp; omega
      subst this
      go_wp2; go_ret; exact ⟨rfl, rfl⟩
    · have : r = false := by rw [← hr]; unfold inR; simp; omega
      subst this
      go_wp2; go_ret; exact ⟨rfl, rfl⟩
  · have : r = false := by rw [← hr]; simp [inR, h0]
    subst this
    go_wp2; go_ret; exact ⟨rfl, rfl⟩
end Go.Proofs.Ytmmgmdfhdhnmaaa
