/- The walk of the law DiskKeeps. -/
import Derived.Test.YtmehohpboliibaaDkPure
namespace Go.Proofs.Ytmehohpboliibaa
open Go.RowKit
set_option linter.unusedVariables false

set_option maxHeartbeats 1600000 in
theorem dk_walk (v1 v2 : Value) (l1 l2 : List ByteArray) (f k : Int) (w : World) (h1 : Strs w v1 l1) (h2 : Strs w v2 l2) (hf : (Lit.int .i64 f).wf = true) (hk : (Lit.int .i64 k).wf = true)
    (hz1 : ∀ s ∈ l1, s.size ≤ 140737488351232) (hz2 : ∀ s ∈ l2, s.size ≤ 140737488351232) :
    Calls Try.prog 5 #[v1, v2, .agg #[.int .i64 f, .int .i64 k]] w fun e w' => e = .returned (.bool true) ∧ w.grownBy w' none := by
  obtain ⟨A1, c1, rfl⟩ := h1.len
  obtain ⟨A2, c2, rfl⟩ := h2.len
  have H1 := As.mk h1
  have H2 := As.mk h2
  clear h1 h2
  have HW : ∃ g0, g0 = w.heap.size := ⟨_, rfl⟩
  obtain ⟨g0, hg0⟩ := HW
  have HW := As.mk hg0
  clear hg0
  go_enter Try.func5, Try.ntmps5
  go_wp2_with fail
  refine (awake_walk _).mono ?_
  rintro e w1 ⟨rfl, g1⟩
  have X1 := As.mk ((Blk.new w _ _).grown g1 (by simp))
  have G1 := As.mk (gr_then (gr_alloc (gr_refl w none) _) g1 (.inl rfl))
  clear g1
  go_wp2_with fail
  refine (great_walk _ _ _ (arr_two _ 0 0 0 0 _ _ l1 l2 _ (H1.out.grown G1.out) (H2.out.grown G1.out)) (by
    intro o ho s hs
    simp at ho
    rcases ho with rfl | rfl
    · exact hz1 s hs
    · exact hz2 s hs)).mono ?_
  rintro e w2 ⟨⟨b, rfl, hb⟩, g2⟩
  have X2 := As.mk ((X1.out.alloc _).grown g2 (by simp))
  have G2 := As.mk (gr_then (gr_alloc G1.out _) g2 (.inl rfl))
  clear g2 X1 G1
  cases b with
  | true =>
    clear hb
    go_wp2
    go_ret
    exact ⟨rfl, G2.out⟩
  | false =>
    obtain ⟨ht, hsm⟩ := hb rfl
    have n1 : l1.length ≤ 20 := hsm ⟨0, 0, l1⟩ (by simp)
    have n2 : l2.length ≤ 20 := hsm ⟨0, 0, l2⟩ (by simp)
    clear hsm
    have ht : sumN l1 l1.length + sumN l2 l2.length ≤ 3000 := by simpa [total] using ht
    have HT := As.mk ht
    clear hb ht
    generalize hxg : w.heap.size = xg at *
    go_wp2_with fail
    refine (new_c 65536 _ (by decide) (by decide)).mono ?_
    rintro e w3 ⟨rfl, hd, hg⟩
    have hlt := X2.out.lt
    have M := As.mk (Mid.mk (f := f) (k := k) hd (X2.out.grown hg (by simp)) (gr_then G2.out hg (.inl rfl)))
    have hge : w.heap.size ≤ w2.heap.size := G2.out.size
    have hne : xg ≠ w2.heap.size := by omega
    have HN := As.mk hne
    have HGE := As.mk hge
    clear hd hg X2 G2 hge hne hlt
    generalize w2.heap.size = g at *
    have z1 := joinC_size l1
    have z2 := joinC_size l2
    have ht := HT.out
    have o0 : (⟨false, false, 0, ⟨#[]⟩, 0, 65536⟩ : DK).ok := by unfold DK.ok; decide
    have ea := DK.append_off (d := ⟨false, false, 0, ⟨#[]⟩, 0, 65536⟩) rfl rfl (joinC l1) (by show ((0 : Nat) : Int) + _ ≤ 65536; omega)
    have O0 := As.mk o0
    have EA := As.mk ea
    have Z := As.mk (And.intro z1 z2)
    clear z1 z2 ht o0 ea
    go_wp2_with fail
    refine (append_c O0.out (H1.out.grown M.out.gr) (by omega) (by have := Z.out.1; have := HT.out; omega) M.out.at_).mono ?_
    rw [EA.out]
    rintro e w4 ⟨rfl, hd, hg⟩
    have M4 := As.mk (M.out.step hd hg HN.out HGE.out)
    clear hd hg M
    go_wp2_with fail
    have hs := sync_c M4.out.at_
    have e9 := DK.sync_off (d := { (⟨false, false, 0, ⟨#[]⟩, 0, 65536⟩ : DK) with left := wrap64 (0 - ((joinC l1).size : Int)), b := (⟨#[]⟩ : ByteArray) ++ joinC l1 }) rfl rfl
    rw [e9] at hs
    refine hs.mono ?_
    clear hs e9
    rintro e w5 ⟨rfl, hd, hg⟩
    have M5 := As.mk (M4.out.step hd hg HN.out HGE.out)
    have x0 : w5.cell? ⟨xg, 0, none⟩ = some (.int .i64 f) := M5.out.x.cell 0
    clear hd hg M4
    go_wp2_with fail
    refine (fuse_c f hf M5.out.at_).mono ?_
    rintro e w6 ⟨rfl, hd, hg⟩
    have M6 := As.mk (M5.out.step hd hg HN.out HGE.out)
    clear hd hg M5 x0
    go_wp2_with fail
    have ee : (⟨#[]⟩ : ByteArray) ++ joinC l1 = joinC l1 := ByteArray.empty_append
    have z1 := Z.out.1
    have z2 := Z.out.2
    have ht := HT.out
    have M6' := M6
    rw [ee] at M6'
    clear M6
    have o6 : (DK.mk false false (wrap64 (wrap64 (0 - ((joinC l1).size : Int)) - 1)) (joinC l1) ((joinC l1).size : Int) 65536).ok := ⟨fun e => (by cases e), by dsimp only; omega, by dsimp only; omega, by dsimp only; omega⟩
    have o7 := DK.ok_set o6 f
    obtain ⟨n, hn, hb7, hr7, hs7⟩ := DK.append_on o7 rfl (joinC l2) (by show ((joinC l1).size : Int) + _ ≤ 65536; omega)
    have oka := DK.ok_append o7 (fun _ => by
      have hx : -9223372036854775808 ≤ f ∧ f ≤ 9223372036854775807 := by simpa [Lit.wf, IntKind.min, IntKind.max, IntKind.signed, IntKind.bits] using hf
      unfold DK.set
      dsimp only
      omega) (joinC l2) (by show (joinC l1).size + _ ≤ _; omega)
    have pb : (DK.set (DK.mk false false (wrap64 (wrap64 (0 - ((joinC l1).size : Int)) - 1)) (joinC l1) ((joinC l1).size : Int) 65536) f).b = joinC l1 ∧ (DK.set (DK.mk false false (wrap64 (wrap64 (0 - ((joinC l1).size : Int)) - 1)) (joinC l1) ((joinC l1).size : Int) 65536) f).safe = (joinC l1).size := ⟨rfl, rfl⟩
    generalize DK.set (DK.mk false false (wrap64 (wrap64 (0 - ((joinC l1).size : Int)) - 1)) (joinC l1) ((joinC l1).size : Int) 65536) f = dC at *
    have O7 := As.mk o7
    have P7 := As.mk (And.intro hn (And.intro hb7 (And.intro hr7 (And.intro hs7 (And.intro oka pb)))))
    clear o6 o7 hn hb7 hr7 hs7 oka pb ee z1 z2 ht
    go_wp2_with fail
    refine (append_c O7.out (H2.out.grown M6'.out.gr) (by omega) (by have := Z.out.2; have := HT.out; omega) M6'.out.at_).mono ?_
    rintro e w7 ⟨rfl, hd, hg⟩
    have M7 := As.mk (M6'.out.step hd hg HN.out HGE.out)
    clear hd hg M6'
    go_wp2_with fail
    refine (joined_walk _ l1 _ (H1.out.grown M7.out.gr) (by omega) (fun k => by
      rw [joinN_size]
      have h1 := sumN_mono l1 k
      have h2 := HT.out
      omega)).mono ?_
    rw [← joinC_eq]
    rintro e w8 ⟨rfl, nd0, hw⟩
    have M8 := As.mk (show Mid w xg g f k _ w8 from by rw [hw]; exact Mid.mk (M7.out.at_.drewN nd0) (M7.out.x.drewN nd0) (gr_drewN M7.out.gr nd0))
    clear M7 hw
    go_wp2_with fail
    refine (joined_walk _ l1 _ (H1.out.grown M8.out.gr) (by omega) (fun k => by
      rw [joinN_size]
      have h1 := sumN_mono l1 k
      have h2 := HT.out
      omega)).mono ?_
    rw [← joinC_eq]
    rintro e w9 ⟨rfl, nd1, hw⟩
    have M9 := As.mk (show Mid w xg g f k _ w9 from by rw [hw]; exact Mid.mk (M8.out.at_.drewN nd1) (M8.out.x.drewN nd1) (gr_drewN M8.out.gr nd1))
    clear M8 hw
    go_wp2_with fail
    refine (joined_walk _ l2 _ (H2.out.grown M9.out.gr) (by omega) (fun k => by
      rw [joinN_size]
      have h1 := sumN_mono l2 k
      have h2 := HT.out
      omega)).mono ?_
    rw [← joinC_eq]
    rintro e w10 ⟨rfl, nd2, hw⟩
    have M10 := As.mk (show Mid w xg g f k _ w10 from by rw [hw]; exact Mid.mk (M9.out.at_.drewN nd2) (M9.out.x.drewN nd2) (gr_drewN M9.out.gr nd2))
    clear M9 hw
    have e6 : ¬ 9223372036854775807 < (joinC l1).size + (joinC l2).size := by
      have := Z.out.1
      have := Z.out.2
      have := HT.out
      omega
    go_wp2_with fail
    refine (bytes_c M10.out.at_).mono ?_
    rintro e w11 ⟨rfl, hw⟩
    rw [← hw] at M10
    clear hw
    have x1 : w11.cell? ⟨xg, 1, none⟩ = some (.int .i64 k) := M10.out.x.cell 1
    go_wp2_with fail
    refine (crash_c k P7.out.2.2.2.2.1.1 M10.out.at_).mono ?_
    rintro e w12 ⟨rfl, hd, hg⟩
    have M12 := As.mk (M10.out.step hd hg HN.out HGE.out)
    clear hd hg M10 x1
    go_wp2_with fail
    refine (bytes_c M12.out.at_).mono ?_
    rintro e w13 ⟨rfl, hw⟩
    rw [← hw] at M12
    clear hw
    obtain ⟨hn, hb7, hr7, hs7, oka, pb⟩ := P7.out
    clear P7
    have K := kept oka.1 k hn (by rw [hb7, pb.1]) (by rw [hs7, pb.2])
    have hlt : ((dC.append (joinC l2)).2.crash k).b.size ≤ 70000 := by
      have k1 := K.1.1
      have k2 := K.2.1
      rw [ByteArray.size_append] at k1
      have := Z.out.1
      have := Z.out.2
      have := HT.out
      omega
    have hlb : (dC.append (joinC l2)).2.b.size ≤ 70000 := by
      have k1 := K.1.1
      rw [ByteArray.size_append] at k1
      have := Z.out.1
      have := Z.out.2
      have := HT.out
      omega
    have hlc : (joinC l1).size + (joinC l2).size ≤ 70000 := by
      have := Z.out.1
      have := Z.out.2
      have := HT.out
      omega
    clear oka hb7 hs7 pb O7 HT Z EA O0 H1 H2
    generalize dC.append (joinC l2) = R at *
    obtain ⟨m, D⟩ := R
    dsimp only at *
    generalize D.crash k = D2 at *
    generalize joinC l1 = S1 at *
    generalize joinC l2 = S2 at *
    obtain ⟨⟨k1, k2, k3, k4⟩, k5, k6, k7, k8, k9⟩ := K
    have q0 : (S1 ++ S2).size ≤ 70000 := by rw [ByteArray.size_append]; exact hlc
    generalize S1 ++ S2 = S at *
    generalize D.b = B at *
    have r1 : decide ((S.size : Int) < (B.size : Int)) = false := decide_eq_false (by omega)
    have r2 : (0 : Int) ≤ (B.size : Int) := by omega
    have r3 : (B.size : Int) ≤ (S.size : Int) := by omega
    have r4 : decide ((B.size : Int) < (S1.size : Int)) = false := decide_eq_false (by omega)
    have r5 : S.extract 0 B.size = B := k2
    clear hlc hlt hlb k1 k2 k3
    obtain ⟨hm, hm2⟩ | hm := hr7
    · have k10 := k4 hm2
      rw [k10] at k6
      subst hm
      clear k4 hm2
      go_wp2_with fail
      refine (down_c M12.out.at_).mono ?_
      rintro e w14 ⟨rfl, hw⟩
      rw [← hw] at M12
      clear hw
      go_wp2_with fail
      refine (safe_c M12.out.at_).mono ?_
      rintro e w15 ⟨rfl, hw⟩
      rw [← hw] at M12
      clear hw
      go_wp2
      go_ret
      exact ⟨rfl, M12.out.gr⟩
    · subst hm
      go_wp2_with fail
      refine (down_c M12.out.at_).mono ?_
      rintro e w14 ⟨rfl, hw⟩
      rw [← hw] at M12
      clear hw
      go_wp2_with fail
      refine (safe_c M12.out.at_).mono ?_
      rintro e w15 ⟨rfl, hw⟩
      rw [← hw] at M12
      clear hw
      go_wp2
      go_ret
      exact ⟨rfl, M12.out.gr⟩
end Go.Proofs.Ytmehohpboliibaa
