/- The walk of the law DiskAgain. -/
import Derived.Test.YtmehohpboliibaaDkMath
import Derived.Test.YtmehohpboliibaaDiskAwk
namespace Go.Proofs.Ytmehohpboliibaa
open Go.RowKit
set_option linter.unusedVariables false

theorem arr_two (w : World) (k1 n1 k2 n2 : Int) (u1 u2 : Value) (l1 l2 : List ByteArray) (t : TypeId) (h1 : Strs w u1 l1) (h2 : Strs w u2 l2) :
    Arr DOpE 3 (w.alloc (.cells #[.int .i64 k1, .int .i64 n1, u1, .int .i64 k2, .int .i64 n2, u2] t)) (.slice (some ⟨w.heap.size, 0, none⟩) 2 2) [⟨k1, n1, l1⟩, ⟨k2, n2, l2⟩] := by
  have h := Blk.new w t #[.int .i64 k1, .int .i64 n1, u1, .int .i64 k2, .int .i64 n2, u2]
  have g := gr_alloc (gr_refl w none) (.cells #[.int .i64 k1, .int .i64 n1, u1, .int .i64 k2, .int .i64 n2, u2] t)
  refine ⟨_, 2, rfl, ⟨by simp, by simp⟩, fun _ => ⟨_, rfl, rfl, fun j x hj => ?_⟩⟩
  match j, hj with
  | 0, hj =>
    injection hj with hj; subst hj
    refine ⟨_, ⟨u1, rfl, h1.grown g⟩, rfl, fun i u hu => ?_⟩
    match i, hu with
    | 0, hu => injection hu with hu; subst hu; exact h.cell 0
    | 1, hu => injection hu with hu; subst hu; exact h.cell 1
    | 2, hu => injection hu with hu; subst hu; exact h.cell 2
  | 1, hj =>
    injection hj with hj; subst hj
    refine ⟨_, ⟨u2, rfl, h2.grown g⟩, rfl, fun i u hu => ?_⟩
    match i, hu with
    | 0, hu => injection hu with hu; subst hu; exact h.cell 3
    | 1, hu => injection hu with hu; subst hu; exact h.cell 4
    | 2, hu => injection hu with hu; subst hu; exact h.cell 5

theorem DK.append_off {d : DK} (h1 : d.on = false) (h2 : d.down = false) (s : ByteArray) (h3 : (d.b.size : Int) + s.size ≤ d.size) : d.append s = (0, { d with left := wrap64 (d.left - s.size), b := d.b ++ s }) := by
  unfold DK.append
  rw [if_neg (by rw [h2]; simp), if_neg (by omega)]
  have : d.spend s.size = ((s.size : Int), { d with left := wrap64 (d.left - s.size) }) := by unfold DK.spend; rw [if_pos (.inl h1)]
  rw [this]
  dsimp only
  rw [h2, if_neg (by simp), Int.toNat_natCast, ByteArray.extract_zero_size]
theorem DK.sync_off {d : DK} (h1 : d.on = false) (h2 : d.down = false) : d.sync = (0, { d with left := wrap64 (d.left - 1), safe := (d.b.size : Int) }) := by
  have h : d.spend 1 = (1, { d with left := wrap64 (d.left - 1) }) := by unfold DK.spend; rw [if_pos (.inl h1)]
  have h4 : d.step = (0, { d with left := wrap64 (d.left - 1) }) := by
    unfold DK.step
    rw [if_neg (by rw [h2]; simp), h, if_neg (by dsimp only; decide)]
  unfold DK.sync
  rw [h4]
  rfl
/-- What is carried from step to step. -/
structure Mid (w : World) (xg g : Nat) (f k : Int) (d : DK) (w' : World) : Prop where
  at_ : DkAt w' g d
  x : Blk w' xg 39 #[.int .i64 f, .int .i64 k]
  gr : w.grownBy w' none
theorem Mid.step {w w1 w2 : World} {xg g : Nat} {f k : Int} {d d' : DK} (h : Mid w xg g f k d w1) (hd : DkAt w2 g d') (hg : w1.grownBy w2 (some g)) (hx : xg ≠ g) (hw : w.heap.size ≤ g) : Mid w xg g f k d' w2 :=
  ⟨hd, h.x.grown hg (by simpa using hx), gr_then h.gr hg (.inr (.inr fun j e => by injection e with e; omega))⟩
set_option maxHeartbeats 1600000 in
theorem da_walk (v1 v2 : Value) (l1 l2 : List ByteArray) (f k : Int) (w : World) (h1 : Strs w v1 l1) (h2 : Strs w v2 l2) (hf : (Lit.int .i64 f).wf = true) (hk : (Lit.int .i64 k).wf = true)
    (hz1 : ∀ s ∈ l1, s.size ≤ 140737488351232) (hz2 : ∀ s ∈ l2, s.size ≤ 140737488351232) :
    Calls Try.prog 6 #[v1, v2, .agg #[.int .i64 f, .int .i64 k]] w fun e w' => e = .returned (.bool true) ∧ w.grownBy w' none := by
  obtain ⟨A1, c1, rfl⟩ := h1.len
  obtain ⟨A2, c2, rfl⟩ := h2.len
  have H1 := As.mk h1
  have H2 := As.mk h2
  clear h1 h2
  have HW : ∃ g0, g0 = w.heap.size := ⟨_, rfl⟩
  obtain ⟨g0, hg0⟩ := HW
  have HW := As.mk hg0
  clear hg0
  go_enter Try.func6, Try.ntmps6
  go_wp2_with fail
  refine (awake_walk _).mono ?_
  rintro e w1 ⟨rfl, g1⟩
  have X1 := As.mk ((Blk.new w _ _).grown g1 (by simp))
  have G1 := As.mk (gr_then (gr_alloc (gr_refl w none) _) g1 (.inl rfl))
  clear g1
  go_wp2_with fail
  refine (great_walk _ _ _ (arr_two _ 0 0 0 0 _ _ l1 l2 _ (H1.out.grown G1.out) (H2.out.grown G1.out)) (by
    intro o ho s hs
    simp at ho
    rcases ho with rfl | rfl
    · exact hz1 s hs
    · exact hz2 s hs)).mono ?_
  rintro e w2 ⟨⟨b, rfl, hb⟩, g2⟩
  have X2 := As.mk ((X1.out.alloc _).grown g2 (by simp))
  have G2 := As.mk (gr_then (gr_alloc G1.out _) g2 (.inl rfl))
  clear g2 X1 G1
  cases b with
  | true =>
    clear hb
    go_wp2
    go_ret
    exact ⟨rfl, G2.out⟩
  | false =>
    obtain ⟨ht, hsm⟩ := hb rfl
    have n1 : l1.length ≤ 20 := hsm ⟨0, 0, l1⟩ (by simp)
    have n2 : l2.length ≤ 20 := hsm ⟨0, 0, l2⟩ (by simp)
    clear hsm
    have ht : sumN l1 l1.length + sumN l2 l2.length ≤ 3000 := by simpa [total] using ht
    have HT := As.mk ht
    clear hb ht
    generalize hxg : w.heap.size = xg at *
    go_wp2_with fail
    refine (new_c 65536 _ (by decide) (by decide)).mono ?_
    rintro e w3 ⟨rfl, hd, hg⟩
    have hlt := X2.out.lt
    have M := As.mk (Mid.mk (f := f) (k := k) hd (X2.out.grown hg (by simp)) (gr_then G2.out hg (.inl rfl)))
    have hge : w.heap.size ≤ w2.heap.size := G2.out.size
    have hne : xg ≠ w2.heap.size := by omega
    have HN := As.mk hne
    have HGE := As.mk hge
    clear hd hg X2 G2 hge hne hlt
    generalize w2.heap.size = g at *
    have x0 : w3.cell? ⟨xg, 0, none⟩ = some (.int .i64 f) := M.out.x.cell 0
    go_wp2_with fail
    refine (fuse_c f hf M.out.at_).mono ?_
    rintro e w4 ⟨rfl, hd, hg⟩
    have hfl : f ≤ 9223372036854775807 := by
      have hx : -9223372036854775808 ≤ f ∧ f ≤ 9223372036854775807 := by simpa [Lit.wf, IntKind.min, IntKind.max, IntKind.signed, IntKind.bits] using hf
      exact hx.2
    have z1 := joinC_size l1
    have z2 := joinC_size l2
    have o0 : (⟨false, false, 0, ⟨#[]⟩, 0, 65536⟩ : DK).ok := by unfold DK.ok; decide
    have o1 := DK.ok_set o0 f
    have p1 : (DK.set ⟨false, false, 0, ⟨#[]⟩, 0, 65536⟩ f).b.size = 0 := rfl
    have p2 : (DK.set ⟨false, false, 0, ⟨#[]⟩, 0, 65536⟩ f).size = 65536 := rfl
    have p3 : (DK.set ⟨false, false, 0, ⟨#[]⟩, 0, 65536⟩ f).left ≤ 9223372036854775807 := by unfold DK.set; dsimp only; omega
    generalize DK.set ⟨false, false, 0, ⟨#[]⟩, 0, 65536⟩ f = d1 at *
    have M4 := As.mk (M.out.step hd hg HN.out HGE.out)
    have ht := HT.out
    obtain ⟨o2, q1, q2, q3⟩ := DK.ok_append o1 (fun _ => p3) (joinC l1) (by omega)
    have O1 := As.mk o1
    have hj1 : (joinC l1).size ≤ 140737488351232 := by omega
    have HJ1 := As.mk hj1
    have hd2 : ∃ d2, d2 = (d1.append (joinC l1)).2 := ⟨_, rfl⟩
    obtain ⟨d2, hd2⟩ := hd2
    rw [← hd2] at o2 q1 q2 q3
    have r1 : d2.b.size ≤ 3000 := by omega
    have r2 : d2.size = 65536 := by omega
    have HD2 := As.mk hd2
    have O2 := As.mk o2
    have R := As.mk (And.intro r1 r2)
    have Z := As.mk (And.intro z1 z2)
    clear hd hg M x0 hfl z1 z2 o0 o1 p1 p2 p3 ht o2 q1 q2 q3 hd2 hj1 r1 r2
    go_wp2_with fail
    refine (append_c O1.out (H1.out.grown M4.out.gr) (by omega) HJ1.out M4.out.at_).mono ?_
    rw [← HD2.out]
    rintro e w5 ⟨rfl, hd, hg⟩
    have M5 := As.mk (M4.out.step hd hg HN.out HGE.out)
    have x1 : w5.cell? ⟨xg, 1, none⟩ = some (.int .i64 k) := M5.out.x.cell 1
    clear hd hg M4
    go_wp2_with fail
    refine (crash_c k O2.out M5.out.at_).mono ?_
    rintro e w6 ⟨rfl, hd, hg⟩
    have o3 := DK.ok_crash O2.out k
    have k3 := DK.keep_fits O2.out k
    have a3 := DK.crash_again O2.out k f
    have s3 : (d2.crash k).size = 65536 := R.out.2
    have t3 : (d2.crash k).on = false ∧ (d2.crash k).down = false := ⟨rfl, rfl⟩
    have b3 : (d2.crash k).b.size ≤ 3000 := by
      have := R.out.1
      have h2 : (d2.crash k).safe = d2.keep k := rfl
      have := o3.2
      omega
    generalize d2.crash k = d3 at *
    have M6 := As.mk (M5.out.step hd hg HN.out HGE.out)
    have O3 := As.mk o3
    have A3 := As.mk a3
    have S3 := As.mk (And.intro s3 (And.intro t3 b3))
    clear hd hg M5 x1 o3 k3 a3 s3 t3 b3
    go_wp2_with fail
    refine (bytes_c M6.out.at_).mono ?_
    rintro e w7 ⟨rfl, rfl⟩
    have x1 : w7.cell? ⟨xg, 0, none⟩ = some (.int .i64 f) := M6.out.x.cell 0
    go_wp2_with fail
    refine (crash_c f O3.out.1 M6.out.at_).mono ?_
    rw [A3.out]
    rintro e w8 ⟨rfl, hd, hg⟩
    have M8 := As.mk (M6.out.step hd hg HN.out HGE.out)
    clear hd hg M6 x1
    go_wp2_with fail
    refine (bytes_c M8.out.at_).mono ?_
    rintro e w9 ⟨rfl, rfl⟩
    go_wp2_with fail
    have hb := safe_c M8.out.at_
    rw [O3.out.2] at hb
    refine hb.mono ?_
    clear hb
    rintro e w10 ⟨rfl, rfl⟩
    have z2 := Z.out.2
    have ht := HT.out
    have h35 := S3.out.2.2
    have h36 := S3.out.1
    have ea := DK.append_off S3.out.2.1.1 S3.out.2.1.2 (joinC l2) (by omega)
    have j2 : joinC l2 = joinN l2 l2.length := joinC_eq l2
    have hj2 : (joinC l2).size ≤ 3000 := by omega
    have e6 : ¬ 9223372036854775807 < d3.b.size + (joinC l2).size := by omega
    have EA := As.mk ea
    have J2 := As.mk j2
    have HJ2 := As.mk hj2
    have E6 := As.mk e6
    clear z2 ht h35 h36 ea j2 hj2 e6
    go_wp2_with fail
    refine (append_c O3.out.1 (H2.out.grown M8.out.gr) (by omega) (by have := HJ2.out; omega) M8.out.at_).mono ?_
    rw [EA.out]
    rintro e w11 ⟨rfl, hd, hg⟩
    have M11 := As.mk (M8.out.step hd hg HN.out HGE.out)
    clear hd hg M8
    go_wp2_with fail
    refine (bytes_c M11.out.at_).mono ?_
    dsimp only
    rintro e w12 ⟨rfl, rfl⟩
    go_wp2_with fail
    refine (joined_walk _ l2 _ (H2.out.grown M11.out.gr) (by omega) (fun k => by
      rw [joinN_size]
      have h1 := sumN_mono l2 k
      have h2 := HT.out
      omega)).mono ?_
    rw [← J2.out]
    rintro e w13 ⟨rfl, nd, rfl⟩
    have e6 := E6.out
    generalize joinC l2 = s2 at *
    have M13 := As.mk (Mid.mk (f := f) (k := k) (M11.out.at_.drewN nd) (M11.out.x.drewN nd) (gr_drewN M11.out.gr nd))
    clear M11
    go_wp2_with fail
    have hs := sync_c M13.out.at_
    have e9 := DK.sync_off (d := { d3 with left := wrap64 (d3.left - s2.size), b := d3.b ++ s2 }) S3.out.2.1.1 S3.out.2.1.2
    rw [e9] at hs
    clear e9
    refine hs.mono ?_
    clear hs
    rintro e w14 ⟨rfl, hd, hg⟩
    have M14 := As.mk (M13.out.step hd hg HN.out HGE.out)
    clear hd hg M13
    go_wp2_with fail
    refine (safe_c M14.out.at_).mono ?_
    dsimp only
    rintro e w15 ⟨rfl, rfl⟩
    go_wp2_with fail
    refine (bytes_c M14.out.at_).mono ?_
    dsimp only
    rintro e w16 ⟨rfl, rfl⟩
    go_wp2
    go_ret
    exact ⟨rfl, M14.out.gr⟩
end Go.Proofs.Ytmehohpboliibaa
