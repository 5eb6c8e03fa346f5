/- The disk and the document's disk do alike. -/
import Derived.Test.YtmehohpboliibaaRap
namespace Go.Proofs.Ytmehohpboliibaa
open Go.RowKit
set_option linter.unusedVariables false

/-- They have the same; the fuse is the same while they are up. -/
structure Sim (d : DK) (r : RK) (B : Nat) : Prop where
  b : r.b = d.b
  safe : r.safe = d.safe
  size : r.size = d.size
  down : r.down = d.down
  fuse : d.down = false → (d.on = false ∧ r.fuse < 0) ∨ (d.on = true ∧ r.fuse = d.left)
  left : 0 ≤ d.left ∨ d.on = false
  top : d.left ≤ 9223372036854775807 ∨ d.on = false
  rtop : r.fuse ≤ 9223372036854775807
  s0 : 0 ≤ d.safe
  s1 : d.safe ≤ d.b.size
  much : d.b.size ≤ B
  z0 : 0 ≤ d.size
  z1 : d.size ≤ 1048576
theorem Sim.dok {d : DK} {r : RK} {B : Nat} (h : Sim d r B) (hB : B ≤ 140737488351232) : d.ok := by
  have h1 := h.left
  have h2 := h.s0
  have h3 := h.s1
  have h4 := h.much
  refine ⟨fun e => ?_, h2, h3, by omega⟩
  rcases h1 with h1 | h1
  · exact h1
  · rw [h1] at e; cases e
theorem Sim.rok {d : DK} {r : RK} {B : Nat} (h : Sim d r B) (hB : B ≤ 140737488351232) : r.ok := by
  have h2 := h.s0
  have h3 := h.s1
  have h4 := h.much
  have h5 := h.z0
  have h6 := h.z1
  have h7 := h.rtop
  have e1 := h.b
  have e2 := h.safe
  have e3 := h.size
  unfold RK.ok
  rw [e1, e2, e3]
  omega
theorem DK.spend_all {d : DK} {n : Int} (h : d.on = false ∨ n ≤ d.left) : d.spend n = (n, { d with left := wrap64 (d.left - n) }) := by unfold DK.spend; rw [if_pos h]
theorem DK.spend_not {d : DK} {n : Int} (h : ¬ (d.on = false ∨ n ≤ d.left)) : d.spend n = (d.left, { d with down := true }) := by unfold DK.spend; rw [if_neg h]
theorem Sim.new (n : Int) (h : 0 ≤ n ∧ n ≤ 1048576) : Sim ⟨false, false, 0, ⟨#[]⟩, 0, n⟩ ⟨⟨#[]⟩, 0, n, -1, false⟩ 0 :=
  ⟨rfl, rfl, rfl, rfl, fun _ => .inl ⟨rfl, (by show (-1 : Int) < 0; decide)⟩, .inr rfl, .inr rfl, (by show (-1 : Int) ≤ _; decide), (by show (0 : Int) ≤ 0; decide), (by show (0 : Int) ≤ ((0 : Nat) : Int); decide), Nat.le_refl _, h.1, h.2⟩
theorem Sim.more {d : DK} {r : RK} {B C : Nat} (h : Sim d r B) (hC : B ≤ C) : Sim d r C := { h with much := Nat.le_trans h.much hC }
theorem Sim.set {d : DK} {r : RK} {B : Nat} (h : Sim d r B) (n : Int) (hn : -9223372036854775808 ≤ n ∧ n ≤ 9223372036854775807) : Sim (d.set n) (r.set n) B := by
  obtain ⟨b, safe, size, down, fuse, left, top, rtop, s0, s1, much, z0, z1⟩ := h
  refine ⟨b, safe, size, down, fun _ => ?_, ?_, ?_, ?_, s0, s1, much, z0, z1⟩ <;> (try unfold DK.set) <;> (try unfold RK.set) <;> dsimp only
  · by_cases h0 : n < 0
    · rw [if_pos h0]; exact .inl ⟨by simp; omega, by decide⟩
    · rw [if_neg h0]; exact .inr ⟨by simp; omega, by omega⟩
  · exact .inl (by omega)
  · exact .inl (by omega)
  · split <;> omega
theorem Sim.crash {d : DK} {r : RK} {B : Nat} (h : Sim d r B) (hB : B ≤ 140737488351232) (k : Int) : Sim (d.crash k) (r.crash k) B := by
  have hk := DK.keep_fits (h.dok hB) k
  have ho := DK.ok_crash (h.dok hB) k
  obtain ⟨b, safe, size, down, fuse, left, top, rtop, s0, s1, much, z0, z1⟩ := h
  have e : r.keep k = d.keep k := by unfold RK.keep DK.keep; rw [b, safe]
  have hz : (d.crash k).b.size = (d.keep k).toNat := by
    show (d.b.extract 0 (d.keep k).toNat).size = _
    rw [ByteArray.size_extract]; omega
  refine ⟨?_, ?_, size, rfl, fun _ => .inl ⟨rfl, (by show (-1 : Int) < 0; decide)⟩, .inr rfl, .inr rfl, (by show (-1 : Int) ≤ _; decide), ho.1.2.1, ho.1.2.2.1, by rw [hz]; omega, z0, z1⟩
  · show r.b.extract 0 (r.keep k).toNat = d.b.extract 0 (d.keep k).toNat
    rw [e, b]
  · exact e
/-- A step: done on both, or on none. -/
theorem Sim.step {d : DK} {r : RK} {B : Nat} (h : Sim d r B) (hd : d.down = false) : Sim d.step.2 r.step.2 B ∧ (d.step.1 = 0 ∧ r.step.1 = true ∨ d.step.1 = 7 ∧ r.step.1 = false) := by
  obtain ⟨b, safe, size, down, fuse, left, top, rtop, s0, s1, much, z0, z1⟩ := h
  obtain ⟨on, dn, dl, db, ds, dz⟩ := d
  obtain ⟨rb, rs, rz, rf, rd⟩ := r
  dsimp only at *
  subst hd b safe size down
  rcases fuse rfl with ⟨rfl, hf⟩ | ⟨rfl, rfl⟩
  · have e1 : (DK.mk false false dl rb rs rz).step = (0, DK.mk false false (wrap64 (dl - 1)) rb rs rz) := by
      unfold DK.step
      rw [if_neg (by simp), DK.spend_all (.inl rfl), if_neg (by dsimp only; omega)]
    have e2 : (RK.mk rb rs rz rf false).step = (true, RK.mk rb rs rz rf false) := by
      unfold RK.step
      rw [if_neg (by dsimp only; omega), if_neg (by dsimp only; omega)]
    rw [e1, e2]
    exact ⟨⟨rfl, rfl, rfl, rfl, fun _ => .inl ⟨rfl, hf⟩, .inr rfl, .inr rfl, rtop, s0, s1, much, z0, z1⟩, .inl ⟨rfl, rfl⟩⟩
  · have l0 : 0 ≤ rf := by simpa using left
    have l1 : rf ≤ 9223372036854775807 := by simpa using top
    by_cases h1 : rf = 0
    · subst h1
      have e1 : (DK.mk true false 0 rb rs rz).step = (7, DK.mk true true 0 rb rs rz) := by
        unfold DK.step
        rw [if_neg (by simp), DK.spend_not (by simp), if_pos (by dsimp only; omega)]
      have e2 : (RK.mk rb rs rz 0 false).step = (false, RK.mk rb rs rz 0 true) := by unfold RK.step; rw [if_pos rfl]
      rw [e1, e2]
      exact ⟨⟨rfl, rfl, rfl, rfl, fun e => (by cases e), .inl (by show (0 : Int) ≤ 0; decide), .inl (by show (0 : Int) ≤ _; decide), (by show (0 : Int) ≤ _; decide), s0, s1, much, z0, z1⟩, .inr ⟨rfl, rfl⟩⟩
    · have e1 : (DK.mk true false rf rb rs rz).step = (0, DK.mk true false (rf - 1) rb rs rz) := by
        have : wrap64 (rf - 1) = rf - 1 := by unfold Go.RowKit.wrap64; omega
        unfold DK.step
        rw [if_neg (by simp), DK.spend_all (.inr (by show (1 : Int) ≤ rf; omega)), if_neg (by dsimp only; omega)]
        dsimp only
        rw [this]
      have e2 : (RK.mk rb rs rz rf false).step = (true, RK.mk rb rs rz (rf - 1) false) := by
        unfold RK.step
        rw [if_neg (by dsimp only; omega), if_pos (by dsimp only; omega)]
      rw [e1, e2]
      exact ⟨⟨rfl, rfl, rfl, rfl, fun _ => .inr ⟨rfl, rfl⟩, .inl (by dsimp only; omega), .inl (by dsimp only; omega), by dsimp only; omega, s0, s1, much, z0, z1⟩, .inl ⟨rfl, rfl⟩⟩
theorem Sim.sync {d : DK} {r : RK} {B : Nat} (h : Sim d r B) : Sim d.sync.2 r.sync.2 B ∧ d.sync.1 = r.sync.1 := by
  by_cases hd : d.down = true
  · have e1 : d.step = (7, d) := by unfold DK.step; rw [if_pos hd]
    have e2 : d.sync = (7, d) := by unfold DK.sync; rw [e1]; rfl
    have e3 : r.sync = (7, r) := by unfold RK.sync; rw [if_pos (h.down.trans hd)]
    rw [e2, e3]
    exact ⟨h, rfl⟩
  · have hd : d.down = false := by simpa using hd
    obtain ⟨h1, h2⟩ := h.step hd
    have e9 : r.down = false := h.down.trans hd
    unfold DK.sync RK.sync
    rw [if_neg (show ¬ r.down = true by rw [e9]; simp)]
    rcases h2 with ⟨h2, h3⟩ | ⟨h2, h3⟩
    · rw [h2, h3, if_pos rfl, if_pos rfl]
      refine ⟨{ h1 with safe := ?_, s0 := ?_, s1 := ?_ }, rfl⟩ <;> dsimp only
      · rw [h1.b]
      · omega
      · omega
    · rw [h2, h3, if_neg (by decide), if_neg (by simp)]
      exact ⟨h1, rfl⟩
theorem Sim.drop {d : DK} {r : RK} {B : Nat} (h : Sim d r B) (n : Int) : Sim (d.drop n).2 (r.drop n).2 B ∧ (d.drop n).1 = (r.drop n).1 := by
  by_cases hd : d.down = true
  · have e1 : d.step = (7, d) := by unfold DK.step; rw [if_pos hd]
    have e2 : d.drop n = (7, d) := by unfold DK.drop; rw [if_neg (by rw [hd]; simp), e1]; rfl
    have e3 : r.drop n = (7, r) := by unfold RK.drop; rw [if_pos (h.down.trans hd)]
    rw [e2, e3]
    exact ⟨h, rfl⟩
  · have hd : d.down = false := by simpa using hd
    have e9 : r.down = false := h.down.trans hd
    have es := h.safe
    unfold DK.drop RK.drop
    rw [if_neg (show ¬ r.down = true by rw [e9]; simp)]
    by_cases hn : n < 0 ∨ d.safe < n
    · rw [if_pos ⟨hd, hn⟩, if_pos (by rw [es]; exact hn)]
      exact ⟨h, rfl⟩
    · obtain ⟨h1, h2⟩ := h.step hd
      obtain ⟨b1, b2, b3⟩ := d.step_b
      have s1 := h.s1
      have mu := h.much
      rw [if_neg (fun q => hn q.2), if_neg (show ¬ (n < 0 ∨ r.safe < n) by rw [es]; exact hn)]
      rcases h2 with ⟨h2, h3⟩ | ⟨h2, h3⟩
      · rw [h2, h3, if_pos rfl, if_pos rfl]
        refine ⟨{ h1 with b := ?_, safe := ?_, s0 := ?_, s1 := ?_, much := ?_ }, rfl⟩ <;> dsimp only
        · rw [h1.b]
        · rw [h1.safe]
        · rw [b2]; omega
        · rw [b1, b2, ByteArray.size_extract]; omega
        · rw [b1, ByteArray.size_extract]; omega
      · rw [h2, h3, if_neg (by decide), if_neg (by simp)]
        exact ⟨h1, rfl⟩
theorem Sim.cut {d : DK} {r : RK} {B : Nat} (h : Sim d r B) (n : Int) : Sim (d.cut n).2 (r.cut n).2 B ∧ (d.cut n).1 = (r.cut n).1 := by
  unfold DK.cut RK.cut
  have eb := h.b
  have es := h.safe
  have ed := h.down
  by_cases hd : d.down = true
  · rw [if_pos hd, if_pos (ed.trans hd)]; exact ⟨h, rfl⟩
  · rw [if_neg hd, if_neg (show ¬ r.down = true by rw [ed]; exact hd), eb]
    by_cases hn : n < 0 ∨ (d.b.size : Int) < n
    · rw [if_pos hn, if_pos hn]; exact ⟨h, rfl⟩
    · rw [if_neg hn, if_neg hn]
      have s0 := h.s0
      have s1 := h.s1
      have mu := h.much
      refine ⟨{ h with b := ?_, safe := ?_, s0 := ?_, s1 := ?_, much := ?_ }, rfl⟩ <;> dsimp only
      · rw [es]; split <;> omega
      · omega
      · rw [ByteArray.size_extract]; omega
      · rw [ByteArray.size_extract]; omega
theorem Sim.append {d : DK} {r : RK} {B : Nat} (h : Sim d r B) (hB : B ≤ 1000000) (s : ByteArray) (hs : s.size ≤ 1000000) : Sim (d.append s).2 (r.append s).2 (B + s.size) ∧ (d.append s).1 = (r.append s).1 := by
  by_cases hd : d.down = true
  · have e2 : d.append s = (7, d) := by unfold DK.append; rw [if_pos hd]
    have e3 : r.append s = (7, r) := by unfold RK.append; rw [if_pos (h.down.trans hd)]
    rw [e2, e3]
    exact ⟨h.more (by omega), rfl⟩
  · have hd : d.down = false := by simpa using hd
    have hm := h.more (C := B + s.size) (by omega)
    obtain ⟨b, safe, size, down, fuse, left, top, rtop, s0, s1, much, z0, z1⟩ := h
    obtain ⟨on, dn, dl, db, ds, dz⟩ := d
    obtain ⟨rb, rs, rz, rf, rd⟩ := r
    dsimp only at *
    subst hd b safe size down
    unfold RK.append DK.append
    dsimp only
    rw [if_neg (show ¬ (false = true) by simp), if_neg (show ¬ (false = true) by simp)]
    by_cases hf : rz < (rb.size : Int) + s.size
    · rw [if_pos hf, if_pos (show rz - (rb.size : Int) < s.size by omega)]; exact ⟨hm, rfl⟩
    · rw [if_neg hf, if_neg (show ¬ rz - (rb.size : Int) < s.size by omega)]
      have hsz : (rb ++ s).size = rb.size + s.size := ByteArray.size_append
      rcases fuse rfl with ⟨rfl, hf⟩ | ⟨rfl, rfl⟩
      · have e1 : (DK.mk false false dl rb rs rz).spend s.size = ((s.size : Int), DK.mk false false (wrap64 (dl - s.size)) rb rs rz) := by
          unfold DK.spend
          rw [if_pos (.inl rfl)]
        rw [e1]
        unfold RK.run
        rw [if_pos hf]
        dsimp only
        rw [Int.toNat_natCast, ByteArray.extract_zero_size]
        exact ⟨⟨rfl, rfl, rfl, rfl, fun _ => .inl ⟨rfl, hf⟩, .inr rfl, .inr rfl, rtop, s0, by dsimp only; omega, by dsimp only; omega, z0, z1⟩, rfl⟩
      · have l0 : 0 ≤ rf := by simpa using left
        have l1 : rf ≤ 9223372036854775807 := by simpa using top
        unfold RK.run
        dsimp only
        rw [if_neg (show ¬ rf < 0 by omega)]
        by_cases hc : (s.size : Int) ≤ rf
        · have e1 : (DK.mk true false rf rb rs rz).spend s.size = ((s.size : Int), DK.mk true false (rf - s.size) rb rs rz) := by
            have : wrap64 (rf - s.size) = rf - s.size := by unfold Go.RowKit.wrap64; omega
            unfold DK.spend
            rw [if_pos (.inr hc)]
            dsimp only
            rw [this]
          rw [e1, if_pos hc]
          dsimp only
          rw [Int.toNat_natCast, ByteArray.extract_zero_size]
          exact ⟨⟨rfl, rfl, rfl, rfl, fun _ => .inr ⟨rfl, rfl⟩, .inl (by dsimp only; omega), .inl (by dsimp only; omega), by dsimp only; omega, s0, by dsimp only; omega, by dsimp only; omega, z0, z1⟩, rfl⟩
        · have e1 : (DK.mk true false rf rb rs rz).spend s.size = (rf, DK.mk true true rf rb rs rz) := by
            unfold DK.spend
            rw [if_neg (by simpa using hc)]
          rw [e1, if_neg hc]
          have hsz2 : (rb ++ s.extract 0 rf.toNat).size = rb.size + rf.toNat := by rw [ByteArray.size_append, ByteArray.size_extract]; omega
          exact ⟨⟨rfl, rfl, rfl, rfl, fun e => (by cases e), .inl l0, .inl l1, (by show (0 : Int) ≤ _; decide), s0, by dsimp only; omega, by dsimp only; omega, z0, z1⟩, rfl⟩
end Go.Proofs.Ytmehohpboliibaa
