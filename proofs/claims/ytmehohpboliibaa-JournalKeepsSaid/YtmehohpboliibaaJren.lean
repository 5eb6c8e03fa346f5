/- The walks of journal: Renew, Open. -/
import Derived.Test.YtmehohpboliibaaJput
namespace Go.Proofs.Ytmehohpboliibaa
open Go.RowKit
set_option linter.unusedVariables false

/-- A disk that is right, with a fuse that is a number. -/
def DK.fit (d : DK) : Prop := d.ok ∧ (d.on = true → d.left ≤ 9223372036854775807)
theorem wrap64_le (n : Int) : wrap64 n ≤ 9223372036854775807 := by unfold Go.RowKit.wrap64; omega
theorem DK.spend_left (d : DK) (n : Int) (h : d.on = true → d.left ≤ 9223372036854775807) : (d.spend n).2.on = true → (d.spend n).2.left ≤ 9223372036854775807 := by
  unfold DK.spend
  split
  · intro _; exact wrap64_le _
  · exact h
theorem DK.fit_append {d : DK} (h : d.fit) (s : ByteArray) (hs : d.b.size + s.size ≤ 140737488351232) : (d.append s).2.fit := by
  refine ⟨(DK.ok_append h.1 h.2 s hs).1, ?_⟩
  unfold DK.append
  split
  · exact h.2
  · split
    · exact h.2
    · exact d.spend_left _ h.2
theorem DK.spend_ok {d : DK} (h : d.fit) (n : Int) (hn : 0 ≤ n) : (d.spend n).2.ok := by
  obtain ⟨⟨h0, h1, h2, h3⟩, h4⟩ := h
  unfold DK.spend
  split
  · rename_i hc
    refine ⟨fun e => ?_, h1, h2, h3⟩
    dsimp only at e ⊢
    rcases hc with hc | hc
    · rw [hc] at e; cases e
    · have := h0 e
      have := h4 e
      unfold Go.RowKit.wrap64
      omega
  · exact ⟨h0, h1, h2, h3⟩
theorem DK.fit_step {d : DK} (h : d.fit) : d.step.2.fit := by
  have h1 := DK.spend_ok h 1 (by decide)
  have h2 := d.spend_left 1 h.2
  unfold DK.step
  split
  · exact h
  · split <;> exact ⟨h1, h2⟩
theorem DK.fit_sync {d : DK} (h : d.fit) : d.sync.2.fit := by
  obtain ⟨⟨h0, h1, h2, h3⟩, h4⟩ := DK.fit_step h
  unfold DK.sync
  split
  · exact ⟨⟨h0, by dsimp only; omega, by dsimp only; omega, h3⟩, h4⟩
  · exact ⟨⟨h0, h1, h2, h3⟩, h4⟩
theorem DK.fit_drop {d : DK} (h : d.fit) (n : Int) (hn : 0 ≤ n ∧ n ≤ d.safe) : (d.drop n).2.fit := by
  have hb := d.step_b
  obtain ⟨⟨h0, h1, h2, h3⟩, h4⟩ := DK.fit_step h
  unfold DK.drop
  split
  · exact h
  · split
    · refine ⟨⟨h0, ?_, ?_, ?_⟩, h4⟩ <;> dsimp only
      · rw [hb.2.1]; omega
      · rw [ByteArray.size_extract, hb.1, hb.2.1]
        have := h.1.2.2.1
        omega
      · rw [ByteArray.size_extract, hb.1]
        have := h.1.2.2.2
        omega
    · exact ⟨⟨h0, h1, h2, h3⟩, h4⟩
theorem jput_fit {d : DK} {force : Bool} {fs : List ByteArray} (h : d.fit) (hs : d.b.size + (joinC fs).size ≤ 140737488351232) : (jput d force fs).2.2.fit := by
  have hf : ∀ (o : Bool) (d : DK), d.fit → (jforce o d force).2.2.fit := fun o d h => by
    unfold jforce
    split
    · exact DK.fit_sync h
    · exact h
  unfold jput
  split
  · exact hf _ _ h
  · have ha := DK.fit_append h (joinC fs) hs
    split
    · exact hf _ _ ha
    · exact ha
set_option maxHeartbeats 1600000 in
theorem jrenew_c {w w0 : World} {gj gd : Nat} {d : DK} {v : Value} {l : List ByteArray} {m : Int} {o : Bool} {d' : DK} (hv : jrenew d l = (m, o, d')) (hok : d.fit) (h : JS w gj gd false d w0) (hs : Strs w0 v l) (hN : l.length ≤ 1000) (hz : ∀ s ∈ l, s.size ≤ 140737488351232) (hf : (frL l).size ≤ 1000000) (hb : d.b.size ≤ 1000000) :
    Calls Try.prog 46 #[.pointer (some ⟨gj, 0, none⟩), v] w0 fun e w' => e = .returned (.int .i64 m) ∧ JS w gj gd o d' w' := by
  have H := As.mk h
  have SC := As.mk (sealed_c hs hN hz)
  obtain ⟨A, c, rfl⟩ := hs.len
  have OV := As.mk (over_c h.j)
  have HOK := As.mk hok
  have JF := As.mk (jput_fit (force := true) (fs := l.map frameOf) hok (by rw [joinC_frames]; omega))
  have HB := As.mk hb
  clear h hs hok hz hb
  unfold jrenew at hv
  go_enter Try.func46, Try.ntmps46
  go_wp2_with fail
  refine OV.out.mono ?_
  rintro e w1 ⟨rfl, rfl⟩
  clear OV
  go_wp2_with fail
  refine SC.out.mono ?_
  rintro e w2 ⟨⟨hsh, u, rfl, ho⟩ | ⟨hsh, rfl⟩, hg⟩
  · rw [if_pos hsh] at hv
    have M2 := As.mk (H.out.grown hg)
    have SO := As.mk (own_strs (xs := l.map frameOf) (by rw [List.length_map]; exact ho))
    have HJ := As.mk (show (l.map frameOf).length ≤ 1000 ∧ (joinC (l.map frameOf)).size ≤ 1000000 by rw [List.length_map, joinC_frames]; exact ⟨hN, hf⟩)
    clear hg ho H SC hsh
    obtain ⟨r1, r2, r3, hr⟩ : ∃ a b c, jput d true (l.map frameOf) = (a, b, c) := ⟨_, _, _, rfl⟩
    rw [hr] at hv JF
    have HR := As.mk hr
    clear hr
    dsimp only at hv JF
    have HV := As.mk hv
    clear hv
    go_wp2_with fail
    refine (jlen_c M2.out.j M2.out.d).mono ?_
    rintro e w3 ⟨rfl, hw⟩
    rw [← hw] at M2 SO
    clear hw
    go_wp2_with fail
    refine (put_c true HR.out HOK.out.1 M2.out SO.out HJ.out.1 HJ.out.2).mono ?_
    rintro e w4 ⟨rfl, hj⟩
    have M3 := As.mk hj
    have c3 : w4.cell? ⟨gj, 0, none⟩ = some (.pointer (some ⟨gd, 0, none⟩)) := hj.j.cell 0
    clear hj M2
    by_cases h0 : r1 = 0
    · have hv := HV.out
      rw [if_pos h0] at hv
      simp only [Prod.mk.injEq] at hv
      obtain ⟨rfl, rfl, rfl⟩ := hv
      subst h0
      clear HV
      go_wp2_with fail
      refine (drop_c _ JF.out.1 M3.out.d).mono ?_
      rintro e w5 ⟨rfl, hd, hg⟩
      have M4 := As.mk (M3.out.stepd hd hg)
      clear hd hg M3 c3
      go_wp2_with fail
      refine (did_c _ M4.out.j).mono ?_
      rintro e w6 ⟨rfl, hj, hg⟩
      have M5 := As.mk (M4.out.stepj hj hg)
      clear hj hg M4
      go_wp2
      go_ret
      exact ⟨rfl, M5.out⟩
    · have hv := HV.out
      rw [if_neg h0] at hv
      simp only [Prod.mk.injEq] at hv
      obtain ⟨rfl, rfl, rfl⟩ := hv
      clear HV c3
      go_wp2
      go_ret
      exact ⟨rfl, M3.out⟩
  · rw [if_neg (by rw [hsh]; simp)] at hv
    simp only [Prod.mk.injEq] at hv
    obtain ⟨rfl, rfl, rfl⟩ := hv
    have M2 := As.mk (H.out.grown hg)
    clear hg H SC hsh
    go_wp2
    go_ret
    exact ⟨rfl, M2.out⟩
theorem allK_le : ∀ (k : Nat) (r : ByteArray), (allK k r).2.size ≤ r.size
  | 0, r => Nat.le_refl _
  | k + 1, r => by
    unfold allK
    by_cases h : (openF r).2.2 = 0
    · rw [if_pos h]
      have h1 := open_less r h
      have h2 := allK_le k (openF r).2.1
      dsimp only
      omega
    · rw [if_neg h]; exact Nat.le_refl _
theorem allF_le (r : ByteArray) : (allF r).2.size ≤ r.size := allK_le _ _
/-- A disk, its broken end cut off. -/
def jopen (d : DK) : DK := { d with b := d.b.extract 0 (d.b.size - (allF d.b).2.size), safe := min d.safe ((d.b.size : Int) - (allF d.b).2.size) }
theorem cut_open (d : DK) (h : d.down = false) : d.cut ((d.b.size : Int) - (allF d.b).2.size) = (0, jopen d) := by
  have := allF_le d.b
  unfold DK.cut jopen
  rw [if_neg (by rw [h]; simp), if_neg (by omega), show ((d.b.size : Int) - ((allF d.b).2.size : Int)).toNat = d.b.size - (allF d.b).2.size by omega]
set_option maxHeartbeats 1600000 in
theorem jopen_c {w : World} {gd : Nat} {d : DK} (hd : DkAt w gd d) (hdn : d.down = false) (hb : d.b.size ≤ 1000000) :
    Calls Try.prog 44 #[.pointer (some ⟨gd, 0, none⟩)] w fun e w' => ∃ gj v, e = .returned (.tuple #[.pointer (some ⟨gj, 0, none⟩), v, .int .i64 0]) ∧ JAt w' gj gd false ∧ DkAt w' gd (jopen d) ∧ w.grownBy w' (some gd) ∧ w.heap.size ≤ gj ∧ w'.ownsRow w.heap.size 9 1 v (allF d.b).1.length (strVals (allF d.b).1) := by
  have H := As.mk hd
  have DN := As.mk (down_c hd)
  rw [hdn] at DN
  have CT := As.mk (cut_open d hdn)
  have LT := As.mk hd.lt
  clear hd hdn
  go_enter Try.func44, Try.ntmps44
  go_wp2_with fail
  refine DN.out.mono ?_
  rintro e w1 ⟨rfl, hw⟩
  have H1 : As (DkAt w1 gd d) := ⟨by rw [hw]; exact H.out⟩
  have HW := As.mk hw
  clear hw DN H
  go_wp2_with fail
  refine (bytes_c H1.out).mono ?_
  rintro e w2 ⟨rfl, hw⟩
  have H2 : As (DkAt w2 gd d) := ⟨by rw [hw]; exact H1.out⟩
  have HW2 : As (w2 = w) := ⟨hw.trans HW.out⟩
  clear hw H1 HW
  go_wp2_with fail
  refine (all_c d.b _ hb).mono ?_
  rintro e w3 ⟨⟨v, rfl, ho⟩, hg⟩
  have H3 := As.mk (Blk.grown (show Blk _ _ _ _ from H2.out) hg (by simp))
  have HO := As.mk ho
  have G3 := As.mk hg
  clear ho hg H2
  go_wp2_with fail
  refine (cut_c _ H3.out).mono ?_
  rw [CT.out]
  rintro e w4 ⟨rfl, hd, hg⟩
  have H4 := As.mk hd
  have G4 := As.mk hg
  have hne : v.ownBlock = none ∨ v.ownBlock ≠ some gd := by
    cases hv : v.ownBlock with
    | none => exact .inl rfl
    | some k =>
      right
      intro e
      injection e with e
      have h1 := (HO.out.lt k hv).1
      have h2 := LT.out
      rw [HW2.out] at h1
      omega
  have O4 := As.mk (own_grown HO.out hg hne)
  have GG : As (w.grownBy w4 (some gd)) := ⟨by
    have h3 := G3.out
    rw [HW2.out] at h3
    exact gr_then (row := some gd) ⟨h3.os, h3.tape, h3.output, h3.size, fun k hk _ => h3.block k hk (by simp)⟩ hg (.inl rfl)⟩
  clear hd hg hne H3 HO
  obtain ⟨rfl⟩ := HW2
  go_wp2
  go_ret3
  refine ⟨w4.heap.size, v, rfl, Blk.new _ _ _, (show Blk _ _ _ _ from H4.out).alloc _, gr_alloc GG.out _, GG.out.size, O4.out.alloc _⟩
end Go.Proofs.Ytmehohpboliibaa
