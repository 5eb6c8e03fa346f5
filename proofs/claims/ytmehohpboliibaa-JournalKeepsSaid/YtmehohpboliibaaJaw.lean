/- The walks of layer 5's law: the example, great, begins. -/
import Derived.Test.YtmehohpboliibaaJkPure
import Derived.Test.YtmehohpboliibaaRall
namespace Go.Proofs.Ytmehohpboliibaa
open Go.RowKit
set_option linter.unusedVariables false

def jd0 : DK := ⟨false, false, 0, ⟨#[]⟩, 0, 100⟩
def jdA : DK := (japp jd0 true [⟨#[97]⟩]).2.2
def jdB : DK := (japp jdA false [⟨#[98]⟩]).2.2
theorem jd0_inv (n : Int) : JInv ⟨false, false, 0, ⟨#[]⟩, 0, n⟩ [] [] :=
  ⟨⟨⟨fun e => (by cases e), Int.le_refl _, Int.le_refl _, Nat.zero_le _⟩, fun e => (by cases e)⟩, rfl, rfl, rfl, fun p hp => (by cases hp)⟩
theorem jopen_new (n : Int) : jopen ⟨false, false, 0, ⟨#[]⟩, 0, n⟩ = ⟨false, false, 0, ⟨#[]⟩, 0, n⟩ := by
  have e : allF (⟨#[]⟩ : ByteArray) = ([], ⟨#[]⟩) := allF_no _ open_none
  unfold jopen
  dsimp only
  rw [e]
  dsimp only
  have h0 : ByteArray.size ⟨#[]⟩ = 0 := rfl
  rw [h0]
  rfl
theorem fr_one (a : ByteArray) : (frL [a]).size = a.size + 6 := by
  show (frameOf a ++ ⟨#[]⟩).size = _
  rw [show frameOf a ++ (⟨#[]⟩ : ByteArray) = frameOf a from ByteArray.append_empty, frameOf_size]
theorem stA : japp jd0 true [⟨#[97]⟩] = (0, false, jdA) := by kernel_rfl
theorem stB : japp jdA false [⟨#[98]⟩] = (0, false, jdB) := by kernel_rfl
theorem invA : JInv jdA [⟨#[97]⟩] [] := by
  have h := japp_spec (l := [⟨#[97]⟩]) (jd0_inv 100) true (by show (frL []).size + (frL [(⟨#[97]⟩ : ByteArray)]).size ≤ 1000000; rw [fr_one]; decide)
  rw [show (⟨false, false, 0, ⟨#[]⟩, 0, 100⟩ : DK) = jd0 from rfl, stA] at h
  rcases h with ⟨_, _, h, _⟩ | ⟨h, _⟩ | ⟨h, _⟩
  · exact h rfl
  · exact absurd h (by decide)
  · exact absurd rfl h
theorem invB : JInv jdB [⟨#[97]⟩] [⟨#[98]⟩] := by
  have h := japp_spec (l := [⟨#[98]⟩]) invA false (by show (frL [(⟨#[97]⟩ : ByteArray)]).size + (frL [(⟨#[98]⟩ : ByteArray)]).size ≤ 1000000; rw [fr_one, fr_one]; decide)
  rw [stB] at h
  rcases h with ⟨_, _, _, h⟩ | ⟨h, _⟩ | ⟨h, _⟩
  · exact h rfl
  · exact absurd h (by decide)
  · exact absurd rfl h
theorem crashB : (allF (jdB.crash 3).b).1 = [⟨#[97]⟩] := by
  have hb := invB.b
  have hs := invB.safe
  have z1 : (frL [(⟨#[97]⟩ : ByteArray)]).size = 7 := by kernel_rfl
  have e1 : frL ([(⟨#[97]⟩ : ByteArray)] ++ [⟨#[98]⟩]) = frL [⟨#[97]⟩] ++ frameOf ⟨#[98]⟩ := by
    rw [frL_append]
    congr 1
  have hz : (frameOf ⟨#[98]⟩).size = 7 := by rw [frameOf_size]; rfl
  have hk : (jdB.keep 3).toNat = (frL [(⟨#[97]⟩ : ByteArray)]).size + 3 := by
    unfold DK.keep
    rw [hb, hs, e1, ByteArray.size_append, z1, hz]
    rfl
  have e : (jdB.crash 3).b = frL [⟨#[97]⟩] ++ (frameOf ⟨#[98]⟩).extract 0 3 := by
    show jdB.b.extract 0 (jdB.keep 3).toNat = _
    rw [hk, hb, e1, pre_app]
  rw [e, all_front _ _ (by intro p hp; simp at hp; subst hp; decide), allF_no _ (open_cut _ 3 (by decide) (by rw [hz]; decide))]
  rfl
set_option maxRecDepth 100000 in
set_option maxHeartbeats 3200000 in
theorem awake5_walk (w : World) : Calls Try.prog 42 #[] w fun e w' => e = .returned (.bool true) ∧ w.grownBy w' none := by
  go_enter Try.func42, Try.ntmps42
  go_wp2_with fail
  refine (new_any 100 _ (by decide)).mono ?_
  rintro e w1 ⟨rfl, hd, hg⟩
  have D1 := As.mk hd
  have G1 := As.mk hg
  have HGE := As.mk (Nat.le_refl w.heap.size)
  clear hd hg
  have HE : ∃ g, g = w.heap.size := ⟨_, rfl⟩
  obtain ⟨g, hg⟩ := HE
  rw [← hg] at D1 ⊢
  have HGE := As.mk (Nat.le_of_eq hg.symm)
  clear hg
  go_wp2_with fail
  refine (jopen_c D1.out rfl (by decide)).mono ?_
  rintro e w2 ⟨gj, v, rfl, hj, hd, hg, hle, ho⟩
  rw [jopen_new] at hd
  have e0 : (allF (⟨#[]⟩ : ByteArray)).1 = [] := by rw [allF_no _ open_none]
  have ho : w2.ownsRow w1.heap.size 9 1 v (allF (⟨#[]⟩ : ByteArray)).1.length (strVals (allF (⟨#[]⟩ : ByteArray)).1) := ho
  rw [e0] at ho
  obtain ⟨A2, c2, rfl⟩ := own_shape ho
  have M2 : As (JS w gj g false jd0 w2) := ⟨hj, hd, Two.step (Two.step (Two.refl w gj g) G1.out (.inl rfl)) hg (.inr (.inr rfl))⟩
  have HGJ : As (w.heap.size ≤ gj) := ⟨by have := G1.out.size; omega⟩
  clear hj hd hg hle ho e0 D1 G1
  go_wp2_with fail
  refine (japp_c true stA (jd0_inv 100).fit.1 (M2.out.grown (gr_alloc (gr_refl _ _) _)) (strs_one _ _ _) (by decide) (by intro s hs; simp at hs; subst hs; decide) (by rw [fr_one]; decide)).mono ?_
  rintro e w3 ⟨rfl, hj⟩
  have M3 := As.mk hj
  clear hj M2
  go_wp2_with fail
  refine (japp_c false stB invA.fit.1 (M3.out.grown (gr_alloc (gr_refl _ _) _)) (strs_one _ _ _) (by decide) (by intro s hs; simp at hs; subst hs; decide) (by rw [fr_one]; decide)).mono ?_
  rintro e w4 ⟨rfl, hj⟩
  have M4 := As.mk hj
  clear hj M3
  go_wp2_with fail
  refine (crash_c 3 invB.fit.1 M4.out.d).mono ?_
  rintro e w5 ⟨rfl, hd, hg⟩
  have M5 := As.mk (M4.out.stepd hd hg)
  clear hd hg M4
  go_wp2_with fail
  refine (jopen_c M5.out.d rfl (by
    have h1 := DK.keep_fits invB.fit.1 3
    have h2 : (jdB.crash 3).b.size ≤ jdB.b.size := by
      show (jdB.b.extract 0 (jdB.keep 3).toNat).size ≤ _
      rw [ByteArray.size_extract]; omega
    have h3 : jdB.b.size ≤ 1000000 := by
      rw [invB.b, frL_append, ByteArray.size_append, fr_one, fr_one]; decide
    omega)).mono ?_
  rintro e w6 ⟨gj2, v2, rfl, hj, hd, hg, hle, ho⟩
  rw [crashB] at ho
  have SO := own_strs ho
  obtain ⟨A3, c3, rfl⟩ := own_shape ho
  obtain ⟨b2, o2, rfl, cj⟩ := SO.at_ 0 (by decide)
  have cj : w6.cell? ⟨b2, o2, none⟩ = some (.string ⟨#[97]⟩) := cj
  have G6 := As.mk ((M5.out.gr.step hg (.inr (.inr rfl))).gr HGJ.out HGE.out)
  clear hj hd hg hle ho SO M5
  go_wp2
  go_ret
  exact ⟨rfl, G6.out⟩
set_option maxHeartbeats 1600000 in
theorem begins_c (v1 v2 : Value) (xs ys : List ByteArray) (w : World) (h1 : Strs w v1 xs) (h2 : Strs w v2 ys) (hN : xs.length ≤ 140737488355328 ∧ ys.length ≤ 140737488355328) :
    Calls Try.prog 48 #[v1, v2] w fun e w' => e = .returned (.bool (decide (xs = ys.take xs.length))) ∧ ∃ n, w' = w.drewN n := by
  by_cases hl : xs.length ≤ ys.length
  · have h3 : ∀ A c, v2 = .slice A ys.length c → Strs w (.slice A xs.length c) (ys.take xs.length) := fun A c e => by
      have hlt : (ys.take xs.length).length = xs.length := by rw [List.length_take]; omega
      rcases h2 with ⟨rfl, A', c', e2⟩ | ⟨bk, o, c', e2, q1, q2, q3⟩
      · exact .inl ⟨by simp, A, c, by rw [show xs.length = 0 by simpa using hl]⟩
      · rw [e] at e2
        injection e2 with e3 e4 e5
        subst e3
        subst e5
        refine .inr ⟨bk, o, c, by rw [hlt], by rw [hlt]; omega, q2, fun j x hx => q3 j x ?_⟩
        have hj := (List.getElem?_eq_some_iff.1 hx).1
        rw [hlt] at hj
        rwa [List.getElem?_take_of_lt hj] at hx
    obtain ⟨A1, c1, rfl⟩ := h1.len
    obtain ⟨A2, c2, rfl⟩ := h2.len
    have hcap : ys.length ≤ c2 ∨ ys.length = 0 := by
      rcases h2 with ⟨rfl, _⟩ | ⟨bk, o, c', e2, q1, _⟩
      · exact .inr rfl
      · injection e2 with _ _ e5
        subst e5
        exact .inl q1
    have H1 := As.mk h1
    have S3 := As.mk (h3 A2 c2 rfl)
    have HL := As.mk (show (ys.take xs.length).length = xs.length by rw [List.length_take]; omega)
    have HN := As.mk hN
    have hlI : ((xs.length : Nat) : Int) ≤ ((ys.length : Nat) : Int) := by omega
    have hcI : ((xs.length : Nat) : Int) ≤ (c2 : Int) := by omega
    clear h1 h2 h3 hl hN hcap
    go_enter Try.func48, Try.ntmps48
    go_wp2_with fail
    refine (same_c _ _ _ _ _ H1.out S3.out (by have := HN.out; have := HL.out; omega)).mono ?_
    rintro e w1 ⟨rfl, nd, rfl⟩
    go_wp2
    go_ret
    exact ⟨rfl, _, rfl⟩
  · have hlI : ¬ ((xs.length : Nat) : Int) ≤ ((ys.length : Nat) : Int) := by omega
    obtain ⟨A1, c1, rfl⟩ := h1.len
    obtain ⟨A2, c2, rfl⟩ := h2.len
    have HL := As.mk hl
    clear h1 h2 hl hN
    go_enter Try.func48, Try.ntmps48
    go_wp2
    go_ret
    exact ⟨congrArg (fun b => Ending.returned (.bool b)) (decide_eq_false (fun e => HL.out (by have := congrArg List.length e; rw [List.length_take] at this; omega))).symm, 0, rfl⟩
end Go.Proofs.Ytmehohpboliibaa
