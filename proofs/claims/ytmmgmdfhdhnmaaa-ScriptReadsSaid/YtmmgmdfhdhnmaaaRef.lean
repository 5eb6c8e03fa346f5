/- The walk of the document's Parse. -/
import Derived.Test.YtmmgmdfhdhnmaaaEvs
import Derived.WalkSpells
import Derived.BigRegion
namespace Go.Proofs.Ytmmgmdfhdhnmaaa
open Go.RowKit
set_option linter.unusedVariables false
set_option linter.unusedSimpArgs false

theorem infoREv : (Try.prog.info? 41).map (fun i => (i.zero, i.size, i.bytes)) = some (some (.agg #[.int .i64 0, .int .i64 0, .int .i64 0, .int .i64 0, .slice none 0 0]), 5, 56) := by kernel_rfl
theorem infoROp : (Try.prog.info? 54).map (fun i => (i.zero, i.size, i.bytes)) = some (some (.agg #[.int .i64 0, .int .i64 0, .int .i64 0, .int .i64 0, .int .i64 0]), 5, 40) := by kernel_rfl
abbrev REvs := EvsOwnT 41 54
def RefPost (w : World) (base : Nat) (N C D : Int) (R : List PEv) (e : Ending) (w' : World) : Prop :=
  ∃ v, e = .returned (.tuple #[.int .i64 N, .int .i64 C, .int .i64 D, v]) ∧ REvs w' base v R ∧ w.grownBy w' none
/-- What holds at the head of the document's loop. -/
def RefLoop (w0 : World) (base : Nat) (S : ByteArray) (R : List PEv) (k : Nat) (o : Value) (acc : List PEv) (p : Nat) (wr : World) : Prop :=
  p ≤ S.size ∧ S.size - p < k ∧ acc.length ≤ 400 ∧ acc ++ evsFrom S k p acc.length = R ∧ REvs wr base o acc ∧ w0.grownBy wr none

theorem results_tmp4 {fn : Func} {t u v x : Tmp} (h : fn.results = #[.tmp t, .tmp u, .tmp v, .tmp x]) (tmps : Array Value) (P : Program) (w : World) :
    (results fn tmps).run P w = .ok (.tuple #[tmps.getD t undef, tmps.getD u undef, tmps.getD v undef, tmps.getD x undef]) w := by
  simp [results, h]
theorem evsFrom_end (S : ByteArray) (k p n : Nat) (h : 400 ≤ n ∨ S.size ≤ p) : evsFrom S k p n = [] := by
  cases k with
  | zero => rfl
  | succ k => rw [evsFrom, if_neg (by omega)]
/-- What holds at the head of the document's loop over operations. -/
def RefIn (W wr : World) (H ge : Nat) (A p2 : Nat) (S : ByteArray) (k q : Nat) (v : Value) : Prop :=
  q = p2 + 5 * k ∧ Blk wr ge 41 #[.int .i64 1, .int .i64 A, .int .i64 0, .int .i64 0, v] ∧ wr.ownsRow H 54 5 v k (opsCells (opsAt S p2 k)) ∧ W.grownBy wr (some ge)
theorem opsAt_len (S : ByteArray) (p : Nat) : ∀ n, (opsAt S p n).length = n
  | 0 => rfl
  | n + 1 => by simp [opsAt, opsAt_len S p n]
theorem gr_undrew {w w' : World} {row : Option Nat} (h : w.drew.grownBy w' row) : w.grownBy w' row := ⟨h.os, h.tape, h.output, h.size, h.block⟩
theorem refIn_step {W wr w5 : World} {H ge A p2 k q m y0 y1 y2 y3 gg cap : Nat} {nv : Int} {S : ByteArray} {v : Value} {o : Obj} (hk : k < m)
    (hown : w5.ownsRow H 54 5 (.slice (some ⟨gg, 0, none⟩) (k + 1) cap) (k + 1) (opsCells (opsAt S p2 k) ++ [.int .i64 (y0 : Int), .int .i64 (y3 : Int), .int .i64 (y1 : Int), .int .i64 (y2 : Int), .int .i64 nv])) (hg : (wr.alloc o).grownBy w5 v.ownBlock)
    (h : RefIn W wr H ge A p2 S k q v) (hH : W.heap.size = H) (hy : opAt S q = ⟨y0, y3, y1, y2, nv⟩) :
    w5.cell? ⟨ge, 4, none⟩ = some v ∧ (∀ i, w5.frozen? ⟨ge, i, none⟩ = false) ∧ RefIn W (w5.setCell ⟨ge, 4, none⟩ (.slice (some ⟨gg, 0, none⟩) (k + 1) cap)) H ge A p2 S (k + 1) (q + 5) (.slice (some ⟨gg, 0, none⟩) (k + 1) cap) := by
  obtain ⟨h1, h2, h3, h4⟩ := h
  have n2 := own_ne h2 h3 (by decide)
  have b2 := (h2.alloc o).grown hg n2
  have n3 := own_ne b2 hown (by decide)
  refine ⟨b2.cell 4, b2.free, by omega, ?_, ?_, gr_set (gr_then (gr_alloc h4 o) hg (.inr (.inr (fun x hx => by have := h3.lt x hx; omega)))) (.inl rfl) _⟩
  · have := b2.set 4 (.slice (some ⟨gg, 0, none⟩) (k + 1) cap)
    simpa using this
  · rw [show opsAt S p2 (k + 1) = opsAt S p2 k ++ [opAt S (p2 + 5 * k)] from rfl, ← h1, hy, opsCells_snoc]
    exact own_far hown n3 _
theorem byteAt_eq (S : ByteArray) (p : Nat) (h : p < S.size) : (S[p]'h).toNat = byteAt S p := by simp [byteAt, h]

theorem refLoop_snoc {w0 W w5 : World} {base p' k1 : Nat} {S : ByteArray} {R acc : List PEv} {v v' u : Value} {xs : List Value} {ev : PEv} {o : Obj} (hp : p' ≤ S.size) (hk : S.size - p' < k1) (hl : acc.length < 400)
    (hR : acc ++ ev :: evsFrom S k1 p' (acc.length + 1) = R) (hown : w5.ownsRow base 41 5 v' (acc.length + 1) (xs ++ [.int .i64 ev.k, .int .i64 ev.a, .int .i64 ev.b, .int .i64 ev.n, u])) (hg : (W.alloc o).grownBy w5 v.ownBlock)
    (h5 : W.ownsRow base 41 5 v acc.length xs) (h6 : EvCellsT 54 W base acc xs) (h7 : w0.grownBy W none) (hb : w0.heap.size = base)
    (hu : W.ownsRow base 54 5 u ev.ops.length (opsCells ev.ops)) (hv' : v' = v') : RefLoop w0 base S R k1 v' (acc ++ [ev]) p' w5 := by
  refine ⟨hp, hk, by simp; omega, by simpa using hR, ⟨xs ++ [.int .i64 ev.k, .int .i64 ev.a, .int .i64 ev.b, .int .i64 ev.n, u], by simpa using hown, ?_⟩, gr_then (gr_alloc h7 _) hg (.inr (.inr (fun k hk => by have := h5.lt k hk; omega)))⟩
  have h6' := (h6.grown (World.grownBy_alloc W o none) (by simp)).grown hg (own_row_type (h5.alloc o) (by decide))
  exact EvCellsT.snoc (own_grown (hu.alloc o) hg (own_types hu h5 (by decide))) h6'

set_option maxRecDepth 100000 in
set_option maxHeartbeats 12800000 in
theorem ref_big (S : ByteArray) (w : World) (base : Nat) (R : List PEv) (hR : evsFrom S (S.size + 1) 4 0 = R) (hbase : w.heap.size = base) (h4 : 4 ≤ S.size) (hS : S.size ≤ 140737488355328) :
    Calls Try.prog 8 #[.string S] w (RefPost w base ((byteAt S 0 : Int) % 16 + 1) ((byteAt S 1 : Int) % 16 + 1) (16 * (byteAt S 2 * 256 + byteAt S 3 : Nat)) R) := by
  obtain ⟨i0, hi, hz0, hz1, hz2⟩ := info_parts infoREv
  obtain ⟨j0, hj, jz0, jz1, jz2⟩ := info_parts infoROp
  have h0 : 0 < S.size := by omega
  have h1 : 1 < S.size := by omega
  have h2 : 2 < S.size := by omega
  have h3 : 3 < S.size := by omega
  have h2I : (2 : Int) < (S.size : Int) := by omega
  have h3I : (3 : Int) < (S.size : Int) := by omega
  have q0 := byteAt_eq S 0 h0
  have q1 := byteAt_eq S 1 h1
  have q2 := byteAt_eq S 2 h2
  have q3 := byteAt_eq S 3 h3
  have l0 := byteAt_lt S 0
  have l1 := byteAt_lt S 1
  have l2 := byteAt_lt S 2
  have l3 := byteAt_lt S 3
  have HRR := As.mk hR
  have HB := As.mk hbase
  clear hR
  generalize byteAt S 0 = x0 at *
  generalize byteAt S 1 = x1 at *
  generalize byteAt S 2 = x2 at *
  generalize byteAt S 3 = x3 at *
  have k1 : decide ((1 : Int) ≤ (S.size : Int)) = true := by simp; omega
  have k2 : decide ((2 : Int) ≤ (S.size : Int)) = true := by simp; omega
  have k4 : decide ((4 : Int) ≤ (S.size : Int)) = true := by simp; omega
  go_enter Try.func8, Try.ntmps8
  go_wp2_with fail
  have w1 : IntKind.i64.wrap (x2 : Int) = x2 := i64_wrap_byte l2
  have w2 : IntKind.i64.wrap (x3 : Int) = x3 := i64_wrap_byte l3
  have w3 : IntKind.i64.wrap ((x2 : Int) * 256) = (x2 : Int) * 256 := by rw [IntKind.wrap_i64]; omega
  have w4 : IntKind.i64.wrap ((x2 : Int) * 256 + (x3 : Int)) = (x2 : Int) * 256 + (x3 : Int) := by rw [IntKind.wrap_i64]; omega
  have w5 : IntKind.i64.wrap (16 * ((x2 : Int) * 256 + (x3 : Int))) = 16 * ((x2 : Int) * 256 + (x3 : Int)) := by rw [IntKind.wrap_i64]; omega
  go_quiet (fail)
  clear w1 w2 w3 w4 w5
  go_wp2_with fail
  clear hbase
  go_loopg [9, 10] (S.size + 1) (fun k o at_ wr => ∃ acc p, at_ = .int .i64 (p : Nat) ∧ As (RefLoop w base S R k o acc p wr))
  case atStart => exact ⟨[], 4, rfl, ⟨h4, by omega, by simp, HRR.out, ⟨[], by
      have := World.ownsRow_made (base := base) (e := 41) (size := 5) (w.drewN nq) #[] 0 (by simp; exact Nat.le_of_eq HB.out.symm) (by simp [maxLen]) rfl
      simpa [HB.out] using this, rfl⟩, gr_alloc (gr_drewN (gr_refl _ _) _) _⟩⟩
  case round =>
    clear HRR q0 q1 q2 q3 h0 h1 h2 h3 h2I h3I k1 k2 k4
    obtain ⟨acc, p, rfl, HL⟩ := hrel
    obtain ⟨A', c', rfl⟩ := own_shape HL.out.2.2.2.2.1.choose_spec.1
    have hp0 : p ≤ S.size := HL.out.1
    have hl : acc.length ≤ 400 := HL.out.2.2.1
    by_cases hp : p < S.size
    · by_cases hn : acc.length < 400
      · have hnI : ((acc.length : Int)) < 400 := by omega
        have qp := byteAt_eq S p hp
        have lp := byteAt_lt S p
        have HF := As.mk (show gk ≠ 0 ∧ True from ⟨by have := HL.out.2.1; omega, trivial⟩)
        cases gk with
        | zero => exact absurd rfl HF.out.1
        | succ k1 =>
        obtain ⟨_, D3, _, D4, ⟨xs, D5, D6⟩, D7⟩ := HL.out
        rw [evsFrom, if_pos ⟨hn, hp⟩] at D4
        have E3 := As.mk D3
        have E5 := As.mk D5
        have E6 := As.mk D6
        have E7 := As.mk D7
        clear HL D3 D5 D6 D7 HF
        generalize byteAt S p = x at *
        by_cases hk : x % 12 = 0
        · have hkI : ((x : Int) % 12 == 0) = true := by rw [beq_iff_eq]; omega
          rw [if_pos hk] at D4
          have E4 := As.mk D4
          clear D4 hk
          go_wp2
          go_roundg k1
          case measure => omega
          case rel => exact ⟨acc, p + 1, by go_num, ⟨by omega, by have := E3.out; omega, hl, E4.out, ⟨xs, E5.out, E6.out⟩, E7.out⟩⟩
        · have hkI : ((x : Int) % 12 == 0) = false := by rw [beq_eq_false_iff_ne]; omega
          rw [if_neg hk] at D4
          have E4 := As.mk D4
          clear D4 hk
          obtain ⟨p1, hp1⟩ : ∃ p1, p1 = p + 1 := ⟨_, rfl⟩
          have hc : (p : Int) + 1 = (p1 : Int) := by omega
          have E4' := E4.out
          rw [← hp1] at E4'
          have E4'' := As.mk E4'
          have HP1 := As.mk hp1
          have hp2 : p1 ≤ S.size := by omega
          clear E4 E4' hp1
          by_cases hk1 : x % 12 = 1
          · have hkJ : ((x : Int) % 12 != 1) = false := by rw [bne_eq_false_iff_eq]; omega
            have hk12 : (x : Int) % 12 = 1 := by omega
            by_cases hs2 : p1 + 2 ≤ S.size
            · have hs2I : ¬ (S.size : Int) < (p1 : Int) + 2 := by omega
              have g0 : p1 < S.size := by omega
              have g1 : p1 + 1 < S.size := by omega
              have r0 := byteAt_eq S p1 g0
              have r1 := byteAt_eq S (p1 + 1) g1
              have m0 := byteAt_lt S p1
              have m1 := byteAt_lt S (p1 + 1)
              by_cases hs5 : p1 + 2 + 5 * (byteAt S (p1 + 1) % 33) ≤ S.size
              · have E8 := E4''.out
                rw [evAt, if_neg (by omega), if_pos ⟨hs2, hs5⟩] at E8
                have E9 := As.mk E8
                clear E8 E4'' hk1
                generalize byteAt S p1 = A at *
                generalize byteAt S (p1 + 1) = m at *
                have hmm : (m : Int) % 33 ≤ 32 := by omega
                have hs5I : ¬ (S.size : Int) < (p1 : Int) + 2 + 5 * ((m : Int) % 33) := by omega
                have HG : As (w.heap.size ≤ wr.heap.size) := ⟨E7.out.size⟩
                obtain ⟨p2, hp22⟩ : ∃ p2, p2 = p1 + 2 := ⟨_, rfl⟩
                have HP2 := As.mk hp22
                have hc2 : (p1 : Int) + 2 = (p2 : Int) := by omega
                have hs6 : p2 + 5 * (m % 33) ≤ S.size := by omega
                have hs2J : ¬ (S.size : Int) < (p2 : Int) := by omega
                have hs5J : ¬ (S.size : Int) < (p2 : Int) + 5 * ((m : Int) % 33) := by omega
                clear hp22
                go_wp2_with fail
                have F0 := As.mk (Blk.new wr 41 #[.int .i64 1, .int .i64 A, .int .i64 0, .int .i64 0, .slice none 0 0])
                have F5 := As.mk (E5.out.alloc (.cells #[.int .i64 1, .int .i64 A, .int .i64 0, .int .i64 0, .slice none 0 0] 41))
                have F6 := As.mk (E6.out.grown (World.grownBy_alloc wr (.cells #[.int .i64 1, .int .i64 A, .int .i64 0, .int .i64 0, .slice none 0 0] 41) none) (by simp))
                have F7 := As.mk (gr_alloc E7.out (.cells #[.int .i64 1, .int .i64 A, .int .i64 0, .int .i64 0, .slice none 0 0] 41))
                have FN := As.mk (own_new_ne E5.out)
                clear E5 E6 E7
                generalize wr.alloc (.cells #[.int .i64 1, .int .i64 A, .int .i64 0, .int .i64 0, .slice none 0 0] 41) = W at *
                generalize wr.heap.size = ge at *
                obtain ⟨H, hH⟩ : ∃ H, W.heap.size = H := ⟨_, rfl⟩
                have HH := As.mk hH
                clear hH
                go_loopw [10, 14, 15] (fun at_ i nm wq => ∃ k q : Nat, ∃ v : Value, k ≤ m % 33 ∧ at_ = .int .i64 q ∧ i = .int .i64 k ∧ As (RefIn W wq H ge A p2 S k q v)) (fun _ i _ _ => m % 33 - (intOf i).toNat)
                case atStart => exact ⟨0, p2, .slice none 0 0, Nat.zero_le _, rfl, rfl, ⟨by omega, F0.out, World.ownsRow_nil _ _ _ _, gr_refl _ _⟩⟩
                case round =>
                  obtain ⟨k, q, v, hk, rfl, rfl, HI⟩ := hrel
                  by_cases hkm : k < m % 33
                  · have hkI : (k : Int) < (m : Int) % 33 := by omega
                    have hq5 : q + 5 ≤ S.size := by have := HI.out.1; omega
                    have v0 : (q : Int) < (S.size : Int) := by omega
                    have i0' : q < S.size := by omega
                    have i1' : q + 1 < S.size := by omega
                    have i2' : q + 2 < S.size := by omega
                    have i3' : q + 3 < S.size := by omega
                    have i4' : q + 4 < S.size := by omega
                    have t0 := byteAt_eq S q i0'
                    have t1 := byteAt_eq S (q + 1) i1'
                    have t2 := byteAt_eq S (q + 2) i2'
                    have t3 := byteAt_eq S (q + 3) i3'
                    have t4 := byteAt_eq S (q + 4) i4'
                    have n0 := byteAt_lt S q
                    have n1 := byteAt_lt S (q + 1)
                    have n2 := byteAt_lt S (q + 2)
                    have n3 := byteAt_lt S (q + 3)
                    have n4 := byteAt_lt S (q + 4)
                    have Y := As.mk (show ∀ y0 y1 y2 y3 y4, byteAt S q = y0 → byteAt S (q + 1) = y1 → byteAt S (q + 2) = y2 → byteAt S (q + 3) = y3 → byteAt S (q + 4) = y4 → opAt S q = ⟨y0, y3, y1, y2, sgn8 y4⟩ by intro y0 y1 y2 y3 y4 h0 h1 h2 h3 h4; unfold opAt; rw [h0, h1, h2, h3, h4])
                    obtain ⟨y0, y0e⟩ : ∃ y, byteAt S q = y := ⟨_, rfl⟩
                    obtain ⟨y1, y1e⟩ : ∃ y, byteAt S (q + 1) = y := ⟨_, rfl⟩
                    obtain ⟨y2, y2e⟩ : ∃ y, byteAt S (q + 2) = y := ⟨_, rfl⟩
                    obtain ⟨y3, y3e⟩ : ∃ y, byteAt S (q + 3) = y := ⟨_, rfl⟩
                    obtain ⟨y4, y4e⟩ : ∃ y, byteAt S (q + 4) = y := ⟨_, rfl⟩
                    rw [y0e] at t0 n0
                    rw [y1e] at t1 n1
                    rw [y2e] at t2 n2
                    rw [y3e] at t3 n3
                    rw [y4e] at t4 n4
                    have HY := As.mk (Y.out _ _ _ _ _ y0e y1e y2e y3e y4e)
                    clear Y y0e y1e y2e y3e y4e
                    have s1 : IntKind.i64.wrap ((q : Int) + 1) = (q : Int) + 1 := by rw [IntKind.wrap_i64]; omega
                    have s2 : IntKind.i64.wrap ((q : Int) + 2) = (q : Int) + 2 := by rw [IntKind.wrap_i64]; omega
                    have s3 : IntKind.i64.wrap ((q : Int) + 3) = (q : Int) + 3 := by rw [IntKind.wrap_i64]; omega
                    have s4 := i64_wrap_byte n0
                    have s5 := i64_wrap_byte n1
                    have s6 := i64_wrap_byte n2
                    have s7 := i64_wrap_byte n3
                    have b1 : (0 : Int) ≤ (q : Int) + 1 := by omega
                    have b2 : (0 : Int) ≤ (q : Int) + 2 := by omega
                    have b3 : (0 : Int) ≤ (q : Int) + 3 := by omega
                    have u1 : (q : Int) + 1 < (S.size : Int) := by omega
                    have u2 : (q : Int) + 2 < (S.size : Int) := by omega
                    have u3 : (q : Int) + 3 < (S.size : Int) := by omega
                    have v1 : ((q : Int) + 1).toNat = q + 1 := by omega
                    have v2 : ((q : Int) + 2).toNat = q + 2 := by omega
                    have v3 : ((q : Int) + 3).toNat = q + 3 := by omega
                    have c4 : wr.cell? ⟨ge, 4, none⟩ = some v := HI.out.2.1.cell 4
                    have hgw := HI.out.2.1.lt
                    have HO := HI.out.2.2.1
                    go_upto_if 154 with (fail)
                    go_cut [15] (fun n15 wx => n15 = .int .i64 (sgn8 y4) ∧ wx = wr)
                    case first =>
                      by_cases hb : y4 > 127
                      · have hbI : (127 : Int) < (y4 : Int) := by omega
                        have HSG : As (sgn8 y4 = (y4 : Int) - 256) := ⟨by unfold sgn8; rw [if_pos hb]⟩
                        clear hb
                        go_wp2_with fail
                        go_meet
                        exact ⟨by rw [HSG.out], rfl⟩
                      · have hbI : ¬ (127 : Int) < (y4 : Int) := by omega
                        have HSG : As (sgn8 y4 = (y4 : Int)) := ⟨by unfold sgn8; rw [if_neg hb]⟩
                        clear hb
                        go_wp2_with fail
                        go_meet
                        exact ⟨by rw [HSG.out], rfl⟩
                    case rest =>
                      obtain ⟨rfl, hwc⟩ := hcut
                      subst hwc
                      generalize sgn8 y4 = nv at *
                      go_wp2_with fail
                      refine wp_region_noPanic ?_
                      refine wp_region_held_drew (S := fun _ => True) (by kernel_rfl) trivial (fun _ => ?_)
                      refine wpAnyH_take (i := 0) (v := ?v0) rfl (by kernel_rfl) (by kernel_rfl) (by kernel_rfl) (fun _ _ _ h => h) (Or.inl ⟨by rfl, ?y0⟩) trivial ?r0
                      case y0 => (intro w0_ _; go_simp; try with_reducible rfl)
                      try simp only [Act.put, List.setIfInBounds_toArray, List.set_cons_zero, List.set_cons_succ]
                      refine wpAnyH_take (i := 2) (v := ?v2) rfl (by kernel_rfl) (by kernel_rfl) (by kernel_rfl) (fun _ _ _ h => h) (Or.inl ⟨by rfl, ?y2⟩) trivial ?r2
                      case y2 => (intro w0_ _; go_simp; try with_reducible rfl)
                      try simp only [Act.put, List.setIfInBounds_toArray, List.set_cons_zero, List.set_cons_succ]
                      refine wpAnyH_take (i := 3) (v := ?v3) rfl (by kernel_rfl) (by kernel_rfl) (by kernel_rfl) (fun _ _ _ h => h) (Or.inl ⟨by rfl, ?y3⟩) trivial ?r3
                      case y3 => (intro w0_ _; go_simp; try with_reducible rfl)
                      try simp only [Act.put, List.setIfInBounds_toArray, List.set_cons_zero, List.set_cons_succ]
                      refine wpAnyH_take (i := 4) (v := ?v4) rfl (by kernel_rfl) (by kernel_rfl) (by kernel_rfl) (fun _ _ _ h => h) (Or.inl ⟨by rfl, ?y4⟩) trivial ?r4
                      case y4 => (intro w0_ _; go_simp; try with_reducible rfl)
                      try simp only [Act.put, List.setIfInBounds_toArray, List.set_cons_zero, List.set_cons_succ]
                      refine wpAnyH_take (i := 5) (v := ?v5) rfl (by kernel_rfl) (by kernel_rfl) (by kernel_rfl) (fun _ _ _ h => h) (Or.inl ⟨by rfl, ?y5⟩) trivial ?r5
                      case y5 => (intro w0_ _; go_simp; try with_reducible rfl)
                      try simp only [Act.put, List.setIfInBounds_toArray, List.set_cons_zero, List.set_cons_succ]
                      refine wpAnyH_take (i := 6) (v := ?v6) rfl (by kernel_rfl) (by kernel_rfl) (by kernel_rfl) (fun _ _ _ h => h) (Or.inl ⟨by rfl, ?y6⟩) trivial ?r6
                      case y6 => (intro w0_ _; go_simp; try with_reducible rfl)
                      try simp only [Act.put, List.setIfInBounds_toArray, List.set_cons_zero, List.set_cons_succ]
                      refine wpAnyH_take (i := 7) (v := ?v7) rfl (by kernel_rfl) (by kernel_rfl) (by kernel_rfl) (fun _ _ _ h => h) (Or.inl ⟨by rfl, ?y7⟩) trivial ?r7
                      case y7 => (intro w0_ _; go_simp; try with_reducible rfl)
                      try simp only [Act.put, List.setIfInBounds_toArray, List.set_cons_zero, List.set_cons_succ]
                      refine wpAnyH_take (i := 8) (v := ?v8) rfl (by kernel_rfl) (by kernel_rfl) (by kernel_rfl) (fun _ _ _ h => h) (Or.inl ⟨by rfl, ?y8⟩) trivial ?r8
                      case y8 => (intro w0_ _; go_simp; try with_reducible rfl)
                      try simp only [Act.put, List.setIfInBounds_toArray, List.set_cons_zero, List.set_cons_succ]
                      refine wpAnyH_take (i := 9) (v := ?v9) rfl (by kernel_rfl) (by kernel_rfl) (by kernel_rfl) (fun _ _ _ h => h) (Or.inl ⟨by rfl, ?y9⟩) trivial ?r9
                      case y9 => (intro w0_ _; go_simp; try with_reducible rfl)
                      try simp only [Act.put, List.setIfInBounds_toArray, List.set_cons_zero, List.set_cons_succ]
                      refine wpAnyH_take (i := 10) (v := ?v10) rfl (by kernel_rfl) (by kernel_rfl) (by kernel_rfl) (fun _ _ _ h => h) (Or.inl ⟨by rfl, ?y10⟩) trivial ?r10
                      case y10 => (intro w0_ _; go_simp; try with_reducible rfl)
                      try simp only [Act.put, List.setIfInBounds_toArray, List.set_cons_zero, List.set_cons_succ]
                      refine wpAnyH_take (i := 11) (v := ?v11) rfl (by kernel_rfl) (by kernel_rfl) (by kernel_rfl) (fun _ _ _ h => h) (Or.inl ⟨by rfl, ?y11⟩) trivial ?r11
                      case y11 => (intro w0_ _; go_simp; try with_reducible rfl)
                      try simp only [Act.put, List.setIfInBounds_toArray, List.set_cons_zero, List.set_cons_succ]
                      refine wpAnyH_take (i := 12) (v := ?v12) rfl (by kernel_rfl) (by kernel_rfl) (by kernel_rfl) (fun _ _ _ h => h) (Or.inl ⟨by rfl, ?y12⟩) trivial ?r12
                      case y12 => (intro w0_ _; go_simp; try with_reducible rfl)
                      try simp only [Act.put, List.setIfInBounds_toArray, List.set_cons_zero, List.set_cons_succ]
                      refine wpAnyH_take (i := 13) (v := ?v13) rfl (by kernel_rfl) (by kernel_rfl) (by kernel_rfl) (fun _ _ _ h => h) (Or.inl ⟨by rfl, ?y13⟩) trivial ?r13
                      case y13 => (intro w0_ _; go_simp; try with_reducible rfl)
                      try simp only [Act.put, List.setIfInBounds_toArray, List.set_cons_zero, List.set_cons_succ]
                      refine wpAnyH_take (i := 14) (v := ?v14) rfl (by kernel_rfl) (by kernel_rfl) (by kernel_rfl) (fun _ _ _ h => h) (Or.inl ⟨by rfl, ?y14⟩) trivial ?r14
                      case y14 => (intro w0_ _; go_simp; try with_reducible rfl)
                      try simp only [Act.put, List.setIfInBounds_toArray, List.set_cons_zero, List.set_cons_succ]
                      refine wpAnyH_take (i := 15) (v := ?v15) rfl (by kernel_rfl) (by kernel_rfl) (by kernel_rfl) (fun _ _ _ h => h) (Or.inl ⟨by rfl, ?y15⟩) trivial ?r15
                      case y15 => (intro w0_ _; go_simp; try with_reducible rfl)
                      try simp only [Act.put, List.setIfInBounds_toArray, List.set_cons_zero, List.set_cons_succ]
                      refine wpAnyH_take (i := 16) (v := ?v16) rfl (by kernel_rfl) (by kernel_rfl) (by kernel_rfl) (fun _ _ _ h => h) (Or.inl ⟨by rfl, ?y16⟩) trivial ?r16
                      case y16 => (intro w0_ _; go_simp; try with_reducible rfl)
                      try simp only [Act.put, List.setIfInBounds_toArray, List.set_cons_zero, List.set_cons_succ]
                      refine wpAnyH_take (i := 17) (v := ?v17) rfl (by kernel_rfl) (by kernel_rfl) (by kernel_rfl) (fun _ _ _ h => h) (Or.inl ⟨by rfl, ?y17⟩) trivial ?r17
                      case y17 => (intro w0_ _; go_simp; try with_reducible rfl)
                      try simp only [Act.put, List.setIfInBounds_toArray, List.set_cons_zero, List.set_cons_succ]
                      refine wpAnyH_take (i := 18) (v := ?v18) rfl (by kernel_rfl) (by kernel_rfl) (by kernel_rfl) (fun _ _ _ h => h) (Or.inl ⟨by rfl, ?y18⟩) trivial ?r18
                      case y18 => (intro w0_ _; go_simp; try with_reducible rfl)
                      try simp only [Act.put, List.setIfInBounds_toArray, List.set_cons_zero, List.set_cons_succ]
                      refine wpAnyH_take (i := 19) (v := ?v19) rfl (by kernel_rfl) (by kernel_rfl) (by kernel_rfl) (fun _ _ _ h => h) (Or.inl ⟨by rfl, ?y19⟩) trivial ?r19
                      case y19 => (intro w0_ _; go_simp; try with_reducible rfl)
                      try simp only [Act.put, List.setIfInBounds_toArray, List.set_cons_zero, List.set_cons_succ]
                      refine wpAnyH_take (i := 20) (v := ?v20) rfl (by kernel_rfl) (by kernel_rfl) (by kernel_rfl) (fun _ _ _ h => h) (Or.inl ⟨by rfl, ?y20⟩) trivial ?r20
                      case y20 => (intro w0_ _; go_simp; try with_reducible rfl)
                      try simp only [Act.put, List.setIfInBounds_toArray, List.set_cons_zero, List.set_cons_succ]
                      refine wpAnyH_take (i := 21) (v := ?v21) rfl (by kernel_rfl) (by kernel_rfl) (by kernel_rfl) (fun _ _ _ h => h) (Or.inl ⟨by rfl, ?y21⟩) trivial ?r21
                      case y21 => (intro w0_ _; go_simp; try with_reducible rfl)
                      try simp only [Act.put, List.setIfInBounds_toArray, List.set_cons_zero, List.set_cons_succ]
                      refine wpAnyH_take (i := 22) (v := ?v22) rfl (by kernel_rfl) (by kernel_rfl) (by kernel_rfl) (fun _ _ _ h => h) (Or.inl ⟨by rfl, ?y22⟩) trivial ?r22
                      case y22 => (intro w0_ _; go_simp; try with_reducible rfl)
                      try simp only [Act.put, List.setIfInBounds_toArray, List.set_cons_zero, List.set_cons_succ]
                      refine wpAnyH_ready (rs := [1, 23]) (by kernel_rfl) (by simp) (AllReadyH.cons (i := 1) rfl (fun K hK => ?f1) (AllReadyH.cons (i := 23) rfl (fun K hK => ?f23) AllReadyH.nil))
                      case f1 =>
                        go_simp
                        refine hK.out _ _ trivial (fun _ => ?_)
                        clear hK K
                        try simp only [Act.put, List.setIfInBounds_toArray, List.set_cons_zero, List.set_cons_succ]
                        refine wpAnyH_ready (rs := [23]) (by kernel_rfl) (by simp) (AllReadyH.cons (i := 23) rfl (fun K hK => ?_) AllReadyH.nil)
                        go_simp
                        refine hK.out _ _ trivial (fun _ => ?_)
                        clear hK K
                        try simp only [Act.put, List.setIfInBounds_toArray, List.set_cons_zero, List.set_cons_succ]
                        refine wpAnyH_ready (rs := [24]) (by kernel_rfl) (by simp) (AllReadyH.cons (i := 24) rfl (fun K hK => ?_) AllReadyH.nil)
                        refine step_append_lies _ (by rfl) _ _ _ (by rfl) H 54 j0 _ 5 40 Try.underlying39 hj jz0 jz1 jz2 rfl (by omega) _ k _ (by rfl) (by first | with_reducible exact own_drew (HO.alloc _) | with_reducible exact (own_drew HO).alloc _) ⟨wc.heap.size, 0, none⟩ 1 1 [.int .i64 (y0 : Int), .int .i64 (y3 : Int), .int .i64 (y1 : Int), .int .i64 (y2 : Int), .int .i64 nv] (by rfl) (by rfl) (World.news_of_block (cs := #[.int .i64 (y0 : Int), .int .i64 (y3 : Int), .int .i64 (y1 : Int), .int .i64 (y2 : Int), .int .i64 nv]) (t := 54) (fr := (0, 0)) (heap_alloc_new wc _)) (by simp [Value.oneCell']) (by omega) (by simp only [maxLen]; omega) (by omega) (by have := HI.out.2.2.2.size; have := HH.out; simp; omega) (wc.heap.size + 1) (by simp) ?_
                        intro gg cap w5 hown1 hgrow hat hlt
                        have HX := As.mk (refIn_step hkm hown1 (gr_undrew hgrow) HI.out HH.out HY.out)
                        have g4 := HX.out.1
                        have f4 := HX.out.2.1
                        clear hown1 hgrow hat hlt
                        refine hK.out _ _ trivial (fun _ => ?_)
                        clear hK K
                        try simp only [Act.put, List.setIfInBounds_toArray, List.set_cons_zero, List.set_cons_succ]
                        refine wpAnyH_take (i := 25) (v := ?v25) rfl (by kernel_rfl) (by kernel_rfl) (by kernel_rfl) (fun _ _ _ h => h) (Or.inl ⟨by rfl, ?y25⟩) trivial ?r25
                        case y25 => (intro w0_ _; go_simp; try with_reducible rfl)
                        try simp only [Act.put, List.setIfInBounds_toArray, List.set_cons_zero, List.set_cons_succ]
                        refine wpAnyH_ready (rs := [26]) (by kernel_rfl) (by simp) (AllReadyH.cons (i := 26) rfl (fun K hK => ?_) AllReadyH.nil)
                        go_simp
                        refine hK.out _ _ trivial (fun _ => ?_)
                        clear hK K
                        try simp only [Act.put, List.setIfInBounds_toArray, List.set_cons_zero, List.set_cons_succ]
                        refine wpAnyH_done (by kernel_rfl) ?_ _
                        refine NoPanic.normal ?_
                        clear s1 s2 s3 b1 b2 b3 u1 u2 u3 v0 v1 v2 v3
                        go_wp2_with fail
                        go_roundw
                        case measure => simp [intOf]; omega
                        case rel => exact ⟨k + 1, q + 5, _, by omega, by go_num, by go_num, ⟨HX.out.2.2⟩⟩
                      case f23 =>
                        go_simp
                        refine hK.out _ _ trivial (fun _ => ?_)
                        clear hK K
                        try simp only [Act.put, List.setIfInBounds_toArray, List.set_cons_zero, List.set_cons_succ]
                        refine wpAnyH_ready (rs := [1]) (by kernel_rfl) (by simp) (AllReadyH.cons (i := 1) rfl (fun K hK => ?_) AllReadyH.nil)
                        go_simp
                        refine hK.out _ _ trivial (fun _ => ?_)
                        clear hK K
                        try simp only [Act.put, List.setIfInBounds_toArray, List.set_cons_zero, List.set_cons_succ]
                        refine wpAnyH_ready (rs := [24]) (by kernel_rfl) (by simp) (AllReadyH.cons (i := 24) rfl (fun K hK => ?_) AllReadyH.nil)
                        refine step_append_lies _ (by rfl) _ _ _ (by rfl) H 54 j0 _ 5 40 Try.underlying39 hj jz0 jz1 jz2 rfl (by omega) _ k _ (by rfl) (by first | with_reducible exact own_drew (HO.alloc _) | with_reducible exact (own_drew HO).alloc _) ⟨wc.heap.size, 0, none⟩ 1 1 [.int .i64 (y0 : Int), .int .i64 (y3 : Int), .int .i64 (y1 : Int), .int .i64 (y2 : Int), .int .i64 nv] (by rfl) (by rfl) (World.news_of_block (cs := #[.int .i64 (y0 : Int), .int .i64 (y3 : Int), .int .i64 (y1 : Int), .int .i64 (y2 : Int), .int .i64 nv]) (t := 54) (fr := (0, 0)) (heap_alloc_new wc _)) (by simp [Value.oneCell']) (by omega) (by simp only [maxLen]; omega) (by omega) (by have := HI.out.2.2.2.size; have := HH.out; simp; omega) (wc.heap.size + 1) (by simp) ?_
                        intro gg cap w5 hown1 hgrow hat hlt
                        have HX := As.mk (refIn_step hkm hown1 (gr_undrew hgrow) HI.out HH.out HY.out)
                        have g4 := HX.out.1
                        have f4 := HX.out.2.1
                        clear hown1 hgrow hat hlt
                        refine hK.out _ _ trivial (fun _ => ?_)
                        clear hK K
                        try simp only [Act.put, List.setIfInBounds_toArray, List.set_cons_zero, List.set_cons_succ]
                        refine wpAnyH_take (i := 25) (v := ?v25b) rfl (by kernel_rfl) (by kernel_rfl) (by kernel_rfl) (fun _ _ _ h => h) (Or.inl ⟨by rfl, ?y25b⟩) trivial ?r25b
                        case y25b => (intro w0_ _; go_simp; try with_reducible rfl)
                        try simp only [Act.put, List.setIfInBounds_toArray, List.set_cons_zero, List.set_cons_succ]
                        refine wpAnyH_ready (rs := [26]) (by kernel_rfl) (by simp) (AllReadyH.cons (i := 26) rfl (fun K hK => ?_) AllReadyH.nil)
                        go_simp
                        refine hK.out _ _ trivial (fun _ => ?_)
                        clear hK K
                        try simp only [Act.put, List.setIfInBounds_toArray, List.set_cons_zero, List.set_cons_succ]
                        refine wpAnyH_done (by kernel_rfl) ?_ _
                        refine NoPanic.normal ?_
                        clear s1 s2 s3 b1 b2 b3 u1 u2 u3 v0 v1 v2 v3
                        go_wp2_with fail
                        go_roundw
                        case measure => simp [intOf]; omega
                        case rel => exact ⟨k + 1, q + 5, _, by omega, by go_num, by go_num, ⟨HX.out.2.2⟩⟩
                  · obtain rfl : k = m % 33 := by omega
                    have hkI : ¬ (((m % 33 : Nat) : Int)) < (m : Int) % 33 := by omega
                    obtain ⟨A2, c2, rfl⟩ := own_shape HI.out.2.2.1
                    have e0 := HI.out.2.1.cell 0
                    have e1 := HI.out.2.1.cell 1
                    have e2 := HI.out.2.1.cell 2
                    have e3 := HI.out.2.1.cell 3
                    have e4 := HI.out.2.1.cell 4
                    simp at e0 e1 e2 e3 e4
                    have Q5 := As.mk (own_grown F5.out HI.out.2.2.2 (.inr (Ne.symm FN.out)))
                    have Q6 := As.mk (F6.out.grown HI.out.2.2.2 (fun g e => by injection e with e; subst e; exact ⟨_, _, F0.out, by decide⟩))
                    have Q7 := As.mk (gr_then F7.out HI.out.2.2.2 (.inr (.inr (fun k hk => by injection hk; have := HG.out; omega))))
                    go_wp2_with (at_builtin; refine wpList_append_lies _ (by rfl) _ _ _ (by rfl) base 41 i0 _ 5 56 Try.underlying28 hi hz0 hz1 hz2 rfl (by omega) _ acc.length xs (by rfl) (Q5.out.alloc _) ⟨wr.heap.size, 0, none⟩ 1 1 [.int .i64 1, .int .i64 A, .int .i64 0, .int .i64 0, .slice A2 (m % 33) c2] (by rfl) (by rfl) (World.news_of_block (cs := #[.int .i64 1, .int .i64 A, .int .i64 0, .int .i64 0, .slice A2 (m % 33) c2]) (t := 41) (fr := (0, 0)) (heap_alloc_new wr _)) (by simp [Value.oneCell']) (by omega) (by simp only [maxLen]; omega) (by omega) (by have := Q7.out.size; have := HB.out; simp; omega) (wr.heap.size + 1) (by simp) ?_; intro gg cap w5 hown1 hgrow hat hlt)
                    go_roundg k1
                    case measure => omega
                    case rel => exact ⟨acc ++ [⟨1, (A : Int), 0, 0, opsAt S p2 (m % 33)⟩], q, by go_num, ⟨refLoop_snoc (u := .slice A2 (m % 33) c2) (by have := HI.out.1; omega) (by have := HI.out.1; have := E3.out; have := HP1.out; have := HP2.out; omega) (by omega) (by have h9 := E9.out; have h1 := HI.out.1; rw [← HP2.out, ← h1] at h9; exact h9) hown1 hgrow Q5.out Q6.out Q7.out HB.out (by dsimp only; rw [opsAt_len]; exact own_mono HI.out.2.2.1 (by have := F7.out.size; have := HB.out; have := HH.out; omega)) rfl⟩⟩
              · have hs5I : (S.size : Int) < (p1 : Int) + 2 + 5 * ((byteAt S (p1 + 1) : Int) % 33) := by omega
                have E8 := E4''.out
                rw [evAt, if_neg (by omega), if_neg (fun h => hs5 h.2)] at E8
                have E9 := As.mk E8
                clear E8 E4'' hk1 hs5
                generalize byteAt S p1 = A at *
                generalize byteAt S (p1 + 1) = m at *
                go_wp2
                refine bodyPost_ret (results_tmp4 rfl _ _ _) rfl ⟨_, rfl, ?_, gr_alloc E7.out _⟩
                rw [← E9.out, List.append_nil]
                exact EvsOwnT.below ⟨xs, E5.out, E6.out⟩ (World.grownBy_alloc wr _ none)
            · have hs2I : (S.size : Int) < (p1 : Int) + 2 := by omega
              have E8 := E4''.out
              rw [evAt, if_neg (by omega), if_neg (fun h => hs2 h.1)] at E8
              have E9 := As.mk E8
              clear E8 E4'' hk1 hs2
              go_wp2
              refine bodyPost_ret (results_tmp4 rfl _ _ _) rfl ⟨_, rfl, ?_, gr_alloc E7.out _⟩
              rw [← E9.out, List.append_nil]
              exact EvsOwnT.below ⟨xs, E5.out, E6.out⟩ (World.grownBy_alloc wr _ none)
          · have hkJ : ((x : Int) % 12 != 1) = true := by rw [bne_iff_ne]; omega
            by_cases hs : p1 + 4 ≤ S.size
            · have hsI : ¬ (S.size : Int) < (p1 : Int) + 4 := by omega
              have E8 := E4''.out
              rw [evAt, if_pos hk1, if_pos hs] at E8
              have E9 := As.mk E8
              clear E8 E4'' hk1
              have g0 : p1 < S.size := by omega
              have g1 : p1 + 1 < S.size := by omega
              have g2 : p1 + 2 < S.size := by omega
              have g3 : p1 + 3 < S.size := by omega
              have r0 := byteAt_eq S p1 g0
              have r1 := byteAt_eq S (p1 + 1) g1
              have r2 := byteAt_eq S (p1 + 2) g2
              have r3 := byteAt_eq S (p1 + 3) g3
              have m0 := byteAt_lt S p1
              have m1 := byteAt_lt S (p1 + 1)
              have m2 := byteAt_lt S (p1 + 2)
              have m3 := byteAt_lt S (p1 + 3)
              generalize byteAt S p1 = y0 at *
              generalize byteAt S (p1 + 1) = y1 at *
              generalize byteAt S (p1 + 2) = y2 at *
              generalize byteAt S (p1 + 3) = y3 at *
              have HG : As (w.heap.size ≤ wr.heap.size) := ⟨E7.out.size⟩
              go_wp2_with fail
              have F0 := As.mk (Blk.new wr 41 #[.int .i64 ((x : Int) % 12), .int .i64 0, .int .i64 0, .int .i64 0, .slice none 0 0])
              have F5 := As.mk (E5.out.alloc (.cells #[.int .i64 ((x : Int) % 12), .int .i64 0, .int .i64 0, .int .i64 0, .slice none 0 0] 41))
              have F6 := As.mk (E6.out.grown (World.grownBy_alloc wr (.cells #[.int .i64 ((x : Int) % 12), .int .i64 0, .int .i64 0, .int .i64 0, .slice none 0 0] 41) none) (by simp))
              have F7 := As.mk (gr_alloc E7.out (.cells #[.int .i64 ((x : Int) % 12), .int .i64 0, .int .i64 0, .int .i64 0, .slice none 0 0] 41))
              have FN := As.mk (own_new_ne E5.out)
              clear E5 E6 E7
              generalize wr.alloc (.cells #[.int .i64 ((x : Int) % 12), .int .i64 0, .int .i64 0, .int .i64 0, .slice none 0 0] 41) = W at *
              generalize wr.heap.size = ge at *
              have d1 : W.cell? ⟨ge, 1, none⟩ = some (.int .i64 0) := F0.out.cell 1
              have d2 : W.cell? ⟨ge, 2, none⟩ = some (.int .i64 0) := F0.out.cell 2
              have d3 : W.cell? ⟨ge, 3, none⟩ = some (.int .i64 0) := F0.out.cell 3
              have df := F0.out.free
              have s1 : IntKind.i64.wrap ((p1 : Int) + 1) = (p1 : Int) + 1 := by rw [IntKind.wrap_i64]; omega
              have s2 : IntKind.i64.wrap ((p1 : Int) + 2) = (p1 : Int) + 2 := by rw [IntKind.wrap_i64]; omega
              have s3 : IntKind.i64.wrap ((p1 : Int) + 3) = (p1 : Int) + 3 := by rw [IntKind.wrap_i64]; omega
              have s4 := i64_wrap_byte m2
              have s5 := i64_wrap_byte m3
              have s4' := i64_wrap_byte m0
              have s5' := i64_wrap_byte m1
              have s6 : IntKind.i64.wrap ((y2 : Int) * 256) = (y2 : Int) * 256 := by rw [IntKind.wrap_i64]; omega
              have s7 : IntKind.i64.wrap ((y2 : Int) * 256 + (y3 : Int)) = (y2 : Int) * 256 + (y3 : Int) := by rw [IntKind.wrap_i64]; omega
              have b1 : (0 : Int) ≤ (p1 : Int) + 1 := by omega
              have b2 : (0 : Int) ≤ (p1 : Int) + 2 := by omega
              have b3 : (0 : Int) ≤ (p1 : Int) + 3 := by omega
              have u1 : (p1 : Int) + 1 < (S.size : Int) := by omega
              have u2 : (p1 : Int) + 2 < (S.size : Int) := by omega
              have u3 : (p1 : Int) + 3 < (S.size : Int) := by omega
              have v0 : (p1 : Int) < (S.size : Int) := by omega
              have v1 : ((p1 : Int) + 1).toNat = p1 + 1 := by omega
              have v2 : ((p1 : Int) + 2).toNat = p1 + 2 := by omega
              have v3 : ((p1 : Int) + 3).toNat = p1 + 3 := by omega
              go_region
              clear s1 s2 s3 s4 s5 s4' s5' s6 s7 b1 b2 b3 u1 u2 u3 v0 v1 v2 v3
              have P0 := As.mk (((F0.out.set 1 (.int .i64 y0)).set 2 (.int .i64 y1)).set 3 (.int .i64 ((y2 : Int) * 256 + (y3 : Int)))).drew
              have PG := gr_drew (gr_set (gr_set (gr_set (gr_refl W (some ge)) (a := ⟨ge, 1, none⟩) (.inl rfl) (.int .i64 y0)) (a := ⟨ge, 2, none⟩) (.inl rfl) (.int .i64 y1)) (a := ⟨ge, 3, none⟩) (.inl rfl) (.int .i64 ((y2 : Int) * 256 + (y3 : Int))))
              have P5 := As.mk (own_grown F5.out PG (.inr (Ne.symm FN.out)))
              have P6 := As.mk (F6.out.grown PG (fun g e => by injection e with e; subst e; exact ⟨_, _, F0.out, by decide⟩))
              have P7 := As.mk (gr_then F7.out PG (.inr (.inr (fun k hk => by injection hk; have := HG.out; omega))))
              clear F0 F5 F6 F7 PG d1 d2 d3 df r0 r1 r2 r3 qp
              generalize (((W.setCell _ _).setCell _ _).setCell _ _).drew = W1 at *
              have P0' := P0.out
              simp at P0'
              have e0 : W1.cell? ⟨ge, 0, none⟩ = some (.int .i64 ((x : Int) % 12)) := P0'.cell 0
              have e1 : W1.cell? ⟨ge, 1, none⟩ = some (.int .i64 y0) := P0'.cell 1
              have e2 : W1.cell? ⟨ge, 2, none⟩ = some (.int .i64 y1) := P0'.cell 2
              have e3 : W1.cell? ⟨ge, 3, none⟩ = some (.int .i64 ((y2 : Int) * 256 + (y3 : Int))) := P0'.cell 3
              have e4 : W1.cell? ⟨ge, 4, none⟩ = some (.slice none 0 0) := P0'.cell 4
              clear P0 P0'
              go_wp2_with (at_builtin; refine wpList_append_lies _ (by rfl) _ _ _ (by rfl) base 41 i0 _ 5 56 Try.underlying28 hi hz0 hz1 hz2 rfl (by omega) _ acc.length xs (by rfl) (P5.out.alloc _) ⟨W1.heap.size, 0, none⟩ 1 1 [.int .i64 ((x : Int) % 12), .int .i64 y0, .int .i64 y1, .int .i64 ((y2 : Int) * 256 + (y3 : Int)), .slice none 0 0] (by rfl) (by rfl) (World.news_of_block (cs := #[.int .i64 ((x : Int) % 12), .int .i64 y0, .int .i64 y1, .int .i64 ((y2 : Int) * 256 + (y3 : Int)), .slice none 0 0]) (t := 41) (fr := (0, 0)) (heap_alloc_new W1 _)) (by simp [Value.oneCell']) (by omega) (by simp only [maxLen]; omega) (by omega) (by have := P7.out.size; have := HB.out; simp; omega) (W1.heap.size + 1) (by simp) ?_; intro gg cap w5 hown1 hgrow hat hlt)
              go_roundg k1
              case measure => omega
              case rel => exact ⟨acc ++ [⟨(x : Int) % 12, (y0 : Int), (y1 : Int), (y2 : Int) * 256 + (y3 : Int), []⟩], p1 + 4, by go_num, ⟨refLoop_snoc hs (by have := E3.out; have := HP1.out; omega) (by omega) (by have h9 := E9.out; simpa using h9) hown1 hgrow P5.out P6.out P7.out HB.out (World.ownsRow_nil _ _ _ _) rfl⟩⟩
            · have hsI : (S.size : Int) < (p1 : Int) + 4 := by omega
              have E8 := E4''.out
              rw [evAt, if_pos hk1, if_neg hs] at E8
              have E9 := As.mk E8
              clear E8 E4'' hk1
              go_wp2
              refine bodyPost_ret (results_tmp4 rfl _ _ _) rfl ⟨_, rfl, ?_, gr_alloc E7.out _⟩
              rw [← E9.out, List.append_nil]
              exact EvsOwnT.below ⟨xs, E5.out, E6.out⟩ (World.grownBy_alloc wr _ none)
      · have hnI : ¬ ((acc.length : Int)) < 400 := by omega
        have HN := As.mk (evsFrom_end S gk p acc.length (.inl (by omega)))
        go_wp2
        refine bodyPost_ret (results_tmp4 rfl _ _ _) rfl ⟨_, rfl, ?_, HL.out.2.2.2.2.2⟩
        have D4 := HL.out.2.2.2.1
        rw [HN.out, List.append_nil] at D4
        rw [← D4]
        exact HL.out.2.2.2.2.1
    · have hpI : ¬ (p : Int) < (S.size : Int) := by omega
      have HN := As.mk (evsFrom_end S gk p acc.length (.inr (by omega)))
      go_wp2
      refine bodyPost_ret (results_tmp4 rfl _ _ _) rfl ⟨_, rfl, ?_, HL.out.2.2.2.2.2⟩
      have D4 := HL.out.2.2.2.1
      rw [HN.out, List.append_nil] at D4
      rw [← D4]
      exact HL.out.2.2.2.2.1
end Go.Proofs.Ytmmgmdfhdhnmaaa
