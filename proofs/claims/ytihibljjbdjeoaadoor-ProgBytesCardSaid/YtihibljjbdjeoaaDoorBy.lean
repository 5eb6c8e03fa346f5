/- The walk of the document's Bytes. -/
import Derived.Test.YtihibljjbdjeoaaDoorBg
import Derived.Test.YtihibljjbdjeoaaDoorEn
namespace Go.Proofs.YtihibljjbdjeoaaDoor
open Go.RowKit
set_option linter.unusedVariables false
set_option linter.unusedSimpArgs false

theorem lowB_two (n : Nat) (h : n < 65536) : lowB n 2 = countBytes (n : Int) := by
  have e1 : (n / 256 ^ 1).toUInt8 = byteOf ((n : Int) / 256) := by
    apply UInt8.toNat.inj
    have := byteOf_nat ((n : Int) / 256) (by omega) (by omega)
    simp
    omega
  have e0 : (n / 256 ^ 0).toUInt8 = byteOf ((n : Int) % 256) := by
    apply UInt8.toNat.inj
    have := byteOf_nat ((n : Int) % 256) (by omega) (by omega)
    simp
    omega
  unfold countBytes
  rw [← e0, ← e1]
  rfl
theorem four_vals2 (a b c d : Int) : #[Value.int .u8 (IntKind.u8.wrap a), Value.int .u8 (IntKind.u8.wrap b), Value.int .u8 (IntKind.u8.wrap c), Value.int .u8 (IntKind.u8.wrap d)] = (byteVals [byteI a, byteI b, byteI c, byteI d]).toArray := by simp only [u8_wrap]; exact four_vals a b c d
def u64N (n : Int) : Nat := (n % 18446744073709551616).toNat
theorem u64N_val (n : Int) : ((u64N n : Nat) : Int) = IntKind.u64.wrap n := by rw [u64_shr]; unfold u64N; omega
theorem u64N_lt (n : Int) : u64N n < 18446744073709551616 := by unfold u64N; omega
theorem low_byte (n d : Int) (j : Nat) (hd : (256 ^ j : Nat) = d.toNat) (h0 : 0 < d) (h : (n % 18446744073709551616) / d % 256 = n / d % 256) : (u64N n / 256 ^ j).toUInt8 = byteI (n / d) := by
  apply UInt8.toNat.inj
  have e := byteI_nat (n / d)
  have e2 : ((u64N n / 256 ^ j : Nat) : Int) = (n % 18446744073709551616) / d := by
    rw [hd, Int.natCast_ediv]
    congr 1
    · unfold u64N; omega
    · omega
  have e3 : (u64N n / 256 ^ j).toUInt8.toNat = (u64N n / 256 ^ j) % 256 := by simp
  omega
theorem lowB_eight (n : Int) : lowB (u64N n) 8 = enc8 n := by
  unfold enc8
  simp only [lowB]
  rw [low_byte n 72057594037927936 7 (by decide) (by decide) (by omega), low_byte n 281474976710656 6 (by decide) (by decide) (by omega), low_byte n 1099511627776 5 (by decide) (by decide) (by omega), low_byte n 4294967296 4 (by decide) (by decide) (by omega), low_byte n 16777216 3 (by decide) (by decide) (by omega), low_byte n 65536 2 (by decide) (by decide) (by omega), low_byte n 256 1 (by decide) (by decide) (by omega)]
  have := low_byte n 1 0 (by decide) (by decide) (by omega)
  rw [Int.ediv_one] at this
  rw [this]
theorem conv_back {W : World} {blk : Nat} {cs : List UInt8} (h : Blk W blk 5 (byteVals cs).toArray) : (convert 71 9 (.slice (some ⟨blk, 0, none⟩) cs.length cs.length)).run Tryd.prog W = .ok (.string ⟨cs.toArray⟩) W :=
  run_convert_bytes_back (P := Tryd.prog) W 71 9 5 ⟨blk, 0, none⟩ cs.length cs Tryd.underlying71 Tryd.underlying5 Tryd.underlying9 (fun q hq => by
    rw [Go.WideShapes.add_plain, Nat.zero_add, h.cell q]
    simp [byteVals, hq])
theorem ba_app (l m : List UInt8) : (⟨l.toArray⟩ : ByteArray) ++ ⟨m.toArray⟩ = ⟨(l ++ m).toArray⟩ := by
  apply ByteArray.ext
  simp
set_option maxRecDepth 100000 in
set_option maxHeartbeats 6400000 in
theorem bytes_c (v : Value) (l : List POp) (w : World) (h : Arr OpE 5 w v l) (hl : l.length ≤ 1000) :
    Calls Tryd.prog 30 #[v] w fun e w' => e = .returned (.string ⟨(encL l).toArray⟩) ∧ w.grownBy w' none := by
  obtain ⟨A, c, rfl⟩ := h.len
  have H := As.mk h
  clear h
  have HB2 := As.mk (fun W => big_c l.length 2 (by omega) (by decide) (by decide) W)
  have hW : IntKind.u64.wrap (l.length : Int) = (l.length : Int) := by rw [u64_shr]; omega
  go_enter Tryd.func30, Tryd.ntmps30
  go_wp2_with fail
  refine (HB2.out _).mono ?_
  rintro e w1 ⟨rfl, g1⟩
  rw [lowB_two _ (by omega)]
  have G1 := As.mk g1
  clear g1 HB2 hW
  have HE := As.mk (show encL l = countBytes l.length ++ encOps l from rfl)
  have HLN := As.mk (encL_len l)
  generalize hel : encL l = el at *
  have HEL := As.mk hel
  clear hel
  have HCL : As ((countBytes (l.length : Int)).length = 2) := ⟨rfl⟩
  generalize countBytes (l.length : Int) = cb at *
  go_wp2_with fail
  go_loopw [3, 4] (fun s i wr => ∃ k : Nat, k ≤ l.length ∧ i = .int .i64 k ∧ s = .string ⟨(cb ++ encOps (l.take k)).toArray⟩ ∧ As (w.grownBy wr none)) (fun _ i _ => l.length - (intOf i).toNat)
  case atStart => exact ⟨0, Nat.zero_le _, rfl, by simp [encOps], G1⟩
  case round =>
    obtain ⟨k, hk, rfl, rfl, HG⟩ := hrel
    clear G1
    by_cases hlt : k < l.length
    · have hltI : (k : Int) < (l.length : Int) := by omega
      have hk0 : (0 : Int) ≤ (k : Int) := by omega
      obtain ⟨bb, o, cs, rfl, hE, hcs, hcell⟩ := H.out.at_ k l[k] (List.getElem?_eq_getElem hlt)
      obtain rfl := hE
      have HT := As.mk (encOps_take hlt)
      have hsz : (⟨(cb ++ encOps (l.take k)).toArray⟩ : ByteArray).size ≤ 20000 := by
        show (cb ++ encOps (l.take k)).toArray.size ≤ 20000
        rw [List.size_toArray, List.length_append, encOps_len, List.length_take]
        have := HCL.out
        omega
      have HAP := As.mk (show ∀ x : POp, (⟨(cb ++ encOps (l.take k)).toArray⟩ : ByteArray) ++ ⟨[byteI x.k, byteI x.r, byteI x.o, byteI x.c].toArray⟩ ++ ⟨(enc8 x.n).toArray⟩ = ⟨(cb ++ (encOps (l.take k) ++ encOp x)).toArray⟩ by intro x; rw [ba_app, ba_app]; unfold encOp; simp only [List.append_assoc])
      generalize (⟨(cb ++ encOps (l.take k)).toArray⟩ : ByteArray) = s at *
      generalize l[k]'hlt = x at *
      obtain ⟨xk, xc, xr, xo, xn⟩ := x
      dsimp only at hcell HT
      have HC := As.mk (fun (W : World) (hg : w.grownBy W none) => (show W.cell? ⟨bb, o + k * 5, none⟩ = some (.int .i64 xk) ∧ W.cell? ⟨bb, o + k * 5 + 1, none⟩ = some (.int .i64 xc) ∧ W.cell? ⟨bb, o + k * 5 + 2, none⟩ = some (.int .i64 xr) ∧ W.cell? ⟨bb, o + k * 5 + 3, none⟩ = some (.int .i64 xo) ∧ W.cell? ⟨bb, o + k * 5 + 4, none⟩ = some (.int .i64 xn) from ⟨hg.cell (hcell 0 _ rfl) (by simp), hg.cell (hcell 1 _ rfl) (by simp), hg.cell (hcell 2 _ rfl) (by simp), hg.cell (hcell 3 _ rfl) (by simp), hg.cell (hcell 4 _ rfl) (by simp)⟩))
      clear hcell hcs
      have HX := As.mk (HAP.out ⟨xk, xc, xr, xo, xn⟩)
      clear HAP
      dsimp only at HX
      have HBN := As.mk (fun W => big_c (u64N xn) 8 (u64N_lt xn) (by decide) (by decide) W)
      rw [lowB_eight, u64N_val] at HBN
      have z0 : ¬ 9223372036854775807 < s.size + 4 := by omega
      have z1 : ¬ 9223372036854775807 < s.size + 4 + (enc8 xn).length := by rw [enc8_len]; omega
      go_upto_region 5 with fail
      have GG := As.mk (gr_drew HG.out)
      refine wp_region_noPanic ?_
      refine wp_region_held_drew (S := fun w' => w'.cell? ⟨bb, o + k * 5, none⟩ = some (.int .i64 xk) ∧ w'.cell? ⟨bb, o + k * 5 + 1, none⟩ = some (.int .i64 xc) ∧ w'.cell? ⟨bb, o + k * 5 + 2, none⟩ = some (.int .i64 xr) ∧ w'.cell? ⟨bb, o + k * 5 + 3, none⟩ = some (.int .i64 xo) ∧ w'.cell? ⟨bb, o + k * 5 + 4, none⟩ = some (.int .i64 xn)) (by kernel_rfl) (HC.out _ GG.out) (fun _ => ?_)
      generalize wr.drew = W3 at *
      have hS0 := As.mk (HC.out _ GG.out)
      refine wpAnyH_take (i := 0) (v := ?v0) rfl (by kernel_rfl) (by kernel_rfl) (by kernel_rfl) (fun _ _ _ h => h) (Or.inl ⟨by rfl, ?y0⟩) (hS0.out) ?r0
      case y0 => (intro w0_ hs_; obtain ⟨hs0_, hs1_, hs2_, hs3_, hs4_⟩ := hs_; go_simp; try with_reducible rfl)
      try simp only [Act.put, List.setIfInBounds_toArray, List.set_cons_zero, List.set_cons_succ]
      refine wpAnyH_take (i := 1) (v := ?v1) rfl (by kernel_rfl) (by kernel_rfl) (by kernel_rfl) (fun _ _ _ h => h) (Or.inl ⟨by rfl, ?y1⟩) (hS0.out) ?r1
      case y1 => (intro w0_ hs_; obtain ⟨hs0_, hs1_, hs2_, hs3_, hs4_⟩ := hs_; go_simp; try with_reducible rfl)
      try simp only [Act.put, List.setIfInBounds_toArray, List.set_cons_zero, List.set_cons_succ]
      refine wpAnyH_take (i := 2) (v := ?v2) rfl (by kernel_rfl) (by kernel_rfl) (by kernel_rfl) (fun _ _ _ h => h) (Or.inl ⟨by rfl, ?y2⟩) (hS0.out) ?r2
      case y2 => (intro w0_ hs_; obtain ⟨hs0_, hs1_, hs2_, hs3_, hs4_⟩ := hs_; go_simp; try with_reducible rfl)
      try simp only [Act.put, List.setIfInBounds_toArray, List.set_cons_zero, List.set_cons_succ]
      refine wpAnyH_take (i := 3) (v := ?v3) rfl (by kernel_rfl) (by kernel_rfl) (by kernel_rfl) (fun _ _ _ h => h) (Or.inl ⟨by rfl, ?y3⟩) (hS0.out) ?r3
      case y3 => (intro w0_ hs_; obtain ⟨hs0_, hs1_, hs2_, hs3_, hs4_⟩ := hs_; go_simp; try with_reducible rfl)
      try simp only [Act.put, List.setIfInBounds_toArray, List.set_cons_zero, List.set_cons_succ]
      refine wpAnyH_take (i := 4) (v := ?v4) rfl (by kernel_rfl) (by kernel_rfl) (by kernel_rfl) (fun _ _ _ h => h) (Or.inl ⟨by rfl, ?y4⟩) (hS0.out) ?r4
      case y4 => (intro w0_ hs_; obtain ⟨hs0_, hs1_, hs2_, hs3_, hs4_⟩ := hs_; go_simp; try with_reducible rfl)
      try simp only [Act.put, List.setIfInBounds_toArray, List.set_cons_zero, List.set_cons_succ]
      refine wpAnyH_take (i := 5) (v := ?v5) rfl (by kernel_rfl) (by kernel_rfl) (by kernel_rfl) (fun _ _ _ h => h) (Or.inl ⟨by rfl, ?y5⟩) (hS0.out) ?r5
      case y5 => (intro w0_ hs_; obtain ⟨hs0_, hs1_, hs2_, hs3_, hs4_⟩ := hs_; go_simp; try with_reducible rfl)
      try simp only [Act.put, List.setIfInBounds_toArray, List.set_cons_zero, List.set_cons_succ]
      refine wpAnyH_take (i := 6) (v := ?v6) rfl (by kernel_rfl) (by kernel_rfl) (by kernel_rfl) (fun _ _ _ h => h) (Or.inl ⟨by rfl, ?y6⟩) (hS0.out) ?r6
      case y6 => (intro w0_ hs_; obtain ⟨hs0_, hs1_, hs2_, hs3_, hs4_⟩ := hs_; go_simp; try with_reducible rfl)
      try simp only [Act.put, List.setIfInBounds_toArray, List.set_cons_zero, List.set_cons_succ]
      refine wpAnyH_take (i := 7) (v := ?v7) rfl (by kernel_rfl) (by kernel_rfl) (by kernel_rfl) (fun _ _ _ h => h) (Or.inl ⟨by rfl, ?y7⟩) (hS0.out) ?r7
      case y7 => (intro w0_ hs_; obtain ⟨hs0_, hs1_, hs2_, hs3_, hs4_⟩ := hs_; go_simp; try with_reducible rfl)
      try simp only [Act.put, List.setIfInBounds_toArray, List.set_cons_zero, List.set_cons_succ]
      refine wpAnyH_take (i := 8) (v := ?v8) rfl (by kernel_rfl) (by kernel_rfl) (by kernel_rfl) (fun _ _ _ h => h) (Or.inl ⟨by rfl, ?y8⟩) (hS0.out) ?r8
      case y8 => (intro w0_ hs_; obtain ⟨hs0_, hs1_, hs2_, hs3_, hs4_⟩ := hs_; go_simp; try with_reducible rfl)
      try simp only [Act.put, List.setIfInBounds_toArray, List.set_cons_zero, List.set_cons_succ]
      refine wpAnyH_take (i := 9) (v := ?v9) rfl (by kernel_rfl) (by kernel_rfl) (by kernel_rfl) (fun _ _ _ h => h) (Or.inl ⟨by rfl, ?y9⟩) (hS0.out) ?r9
      case y9 => (intro w0_ hs_; obtain ⟨hs0_, hs1_, hs2_, hs3_, hs4_⟩ := hs_; go_simp; try with_reducible rfl)
      try simp only [Act.put, List.setIfInBounds_toArray, List.set_cons_zero, List.set_cons_succ]
      refine wpAnyH_take (i := 10) (v := ?v10) rfl (by kernel_rfl) (by kernel_rfl) (by kernel_rfl) (fun _ _ _ h => h) (Or.inl ⟨by rfl, ?y10⟩) (hS0.out) ?r10
      case y10 => (intro w0_ hs_; obtain ⟨hs0_, hs1_, hs2_, hs3_, hs4_⟩ := hs_; go_simp; try with_reducible rfl)
      try simp only [Act.put, List.setIfInBounds_toArray, List.set_cons_zero, List.set_cons_succ]
      refine wpAnyH_take (i := 11) (v := ?v11) rfl (by kernel_rfl) (by kernel_rfl) (by kernel_rfl) (fun _ _ _ h => h) (Or.inl ⟨by rfl, ?y11⟩) (hS0.out) ?r11
      case y11 => (intro w0_ hs_; obtain ⟨hs0_, hs1_, hs2_, hs3_, hs4_⟩ := hs_; go_simp; try with_reducible rfl)
      try simp only [Act.put, List.setIfInBounds_toArray, List.set_cons_zero, List.set_cons_succ]
      refine wpAnyH_take (i := 12) (v := ?v12) rfl (by kernel_rfl) (by kernel_rfl) (by kernel_rfl) (fun _ _ _ h => h) (Or.inl ⟨by rfl, ?y12⟩) (hS0.out) ?r12
      case y12 => (intro w0_ hs_; obtain ⟨hs0_, hs1_, hs2_, hs3_, hs4_⟩ := hs_; go_simp; try with_reducible rfl)
      try simp only [Act.put, List.setIfInBounds_toArray, List.set_cons_zero, List.set_cons_succ]
      refine wpAnyH_take (i := 13) (v := ?v13) rfl (by kernel_rfl) (by kernel_rfl) (by kernel_rfl) (fun _ _ _ h => h) (Or.inl ⟨by rfl, ?y13⟩) (hS0.out) ?r13
      case y13 => (intro w0_ hs_; obtain ⟨hs0_, hs1_, hs2_, hs3_, hs4_⟩ := hs_; go_simp; try with_reducible rfl)
      try simp only [Act.put, List.setIfInBounds_toArray, List.set_cons_zero, List.set_cons_succ]
      refine wpAnyH_take (i := 14) (v := ?v14) rfl (by kernel_rfl) (by kernel_rfl) (by kernel_rfl) (fun _ _ _ h => h) (Or.inl ⟨by rfl, ?y14⟩) (hS0.out) ?r14
      case y14 => (intro w0_ hs_; obtain ⟨hs0_, hs1_, hs2_, hs3_, hs4_⟩ := hs_; go_simp; try with_reducible rfl)
      try simp only [Act.put, List.setIfInBounds_toArray, List.set_cons_zero, List.set_cons_succ]
      refine wpAnyH_take (i := 15) (v := ?v15) rfl (by kernel_rfl) (by kernel_rfl) (by kernel_rfl) (fun _ _ _ h => h) (Or.inl ⟨by rfl, ?y15⟩) (hS0.out) ?r15
      case y15 => (intro w0_ hs_; obtain ⟨hs0_, hs1_, hs2_, hs3_, hs4_⟩ := hs_; go_simp; try with_reducible rfl)
      try simp only [Act.put, List.setIfInBounds_toArray, List.set_cons_zero, List.set_cons_succ]
      refine wpAnyH_take (i := 16) (v := ?v16) rfl (by kernel_rfl) (by kernel_rfl) (by kernel_rfl) (fun _ _ _ h => h) (Or.inl ⟨by rfl, ?y16⟩) (hS0.out) ?r16
      case y16 => (intro w0_ hs_; obtain ⟨hs0_, hs1_, hs2_, hs3_, hs4_⟩ := hs_; go_simp; try with_reducible rfl)
      try simp only [Act.put, List.setIfInBounds_toArray, List.set_cons_zero, List.set_cons_succ]
      refine wpAnyH_take (i := 17) (v := ?v17) rfl (by kernel_rfl) (by kernel_rfl) (by kernel_rfl) (fun _ _ _ h => h) (Or.inl ⟨by rfl, ?y17⟩) (hS0.out) ?r17
      case y17 => (intro w0_ hs_; obtain ⟨hs0_, hs1_, hs2_, hs3_, hs4_⟩ := hs_; go_simp; try with_reducible rfl)
      try simp only [Act.put, List.setIfInBounds_toArray, List.set_cons_zero, List.set_cons_succ]
      refine wpAnyH_take (i := 18) (v := ?v18) rfl (by kernel_rfl) (by kernel_rfl) (by kernel_rfl) (fun _ _ _ h => h) (Or.inl ⟨by rfl, ?y18⟩) (hS0.out) ?r18
      case y18 => (intro w0_ hs_; obtain ⟨hs0_, hs1_, hs2_, hs3_, hs4_⟩ := hs_; go_simp; try with_reducible rfl)
      try simp only [Act.put, List.setIfInBounds_toArray, List.set_cons_zero, List.set_cons_succ]
      refine wpAnyH_take (i := 19) (v := ?v19) rfl (by kernel_rfl) (by kernel_rfl) (by kernel_rfl) (fun _ _ _ h => h) (Or.inl ⟨by rfl, ?y19⟩) (hS0.out) ?r19
      case y19 => (intro w0_ hs_; obtain ⟨hs0_, hs1_, hs2_, hs3_, hs4_⟩ := hs_; go_simp; try with_reducible rfl)
      try simp only [Act.put, List.setIfInBounds_toArray, List.set_cons_zero, List.set_cons_succ]
      refine wpAnyH_take (i := 20) (v := ?v20) rfl (by kernel_rfl) (by kernel_rfl) (by kernel_rfl) (fun _ _ _ h => h) (Or.inl ⟨by rfl, ?y20⟩) (hS0.out) ?r20
      case y20 => (intro w0_ hs_; obtain ⟨hs0_, hs1_, hs2_, hs3_, hs4_⟩ := hs_; go_simp; try with_reducible rfl)
      try simp only [Act.put, List.setIfInBounds_toArray, List.set_cons_zero, List.set_cons_succ]
      refine wpAnyH_take (i := 21) (v := ?v21) rfl (by kernel_rfl) (by kernel_rfl) (by kernel_rfl) (fun _ _ _ h => h) (Or.inl ⟨by rfl, ?y21⟩) (hS0.out) ?r21
      case y21 => (intro w0_ hs_; obtain ⟨hs0_, hs1_, hs2_, hs3_, hs4_⟩ := hs_; go_simp; try with_reducible rfl)
      try simp only [Act.put, List.setIfInBounds_toArray, List.set_cons_zero, List.set_cons_succ]
      refine wpAnyH_take (i := 22) (v := ?v22) rfl (by kernel_rfl) (by kernel_rfl) (by kernel_rfl) (fun _ _ _ h => h) (Or.inl ⟨by rfl, ?y22⟩) (hS0.out) ?r22
      case y22 => (intro w0_ hs_; obtain ⟨hs0_, hs1_, hs2_, hs3_, hs4_⟩ := hs_; go_simp; try with_reducible rfl)
      try simp only [Act.put, List.setIfInBounds_toArray, List.set_cons_zero, List.set_cons_succ]
      refine wpAnyH_take (i := 23) (v := ?v23) rfl (by kernel_rfl) (by kernel_rfl) (by kernel_rfl) (fun _ _ _ h => h) (Or.inl ⟨by rfl, ?y23⟩) (hS0.out) ?r23
      case y23 => (intro w0_ hs_; obtain ⟨hs0_, hs1_, hs2_, hs3_, hs4_⟩ := hs_; go_simp; try with_reducible rfl)
      try simp only [Act.put, List.setIfInBounds_toArray, List.set_cons_zero, List.set_cons_succ]
      refine wpAnyH_take (i := 24) (v := ?v24) rfl (by kernel_rfl) (by kernel_rfl) (by kernel_rfl) (fun _ _ _ h => h) (Or.inl ⟨by rfl, ?y24⟩) (hS0.out) ?r24
      case y24 => (intro w0_ hs_; obtain ⟨hs0_, hs1_, hs2_, hs3_, hs4_⟩ := hs_; go_simp; try with_reducible rfl)
      try simp only [Act.put, List.setIfInBounds_toArray, List.set_cons_zero, List.set_cons_succ]
      refine wpAnyH_take (i := 28) (v := ?v28) rfl (by kernel_rfl) (by kernel_rfl) (by kernel_rfl) (fun _ _ _ h => h) (Or.inl ⟨by rfl, ?y28⟩) (hS0.out) ?r28
      case y28 => (intro w0_ hs_; obtain ⟨hs0_, hs1_, hs2_, hs3_, hs4_⟩ := hs_; go_simp; try with_reducible rfl)
      try simp only [Act.put, List.setIfInBounds_toArray, List.set_cons_zero, List.set_cons_succ]
      refine wpAnyH_take (i := 29) (v := ?v29) rfl (by kernel_rfl) (by kernel_rfl) (by kernel_rfl) (fun _ _ _ h => h) (Or.inl ⟨by rfl, ?y29⟩) (hS0.out) ?r29
      case y29 => (intro w0_ hs_; obtain ⟨hs0_, hs1_, hs2_, hs3_, hs4_⟩ := hs_; go_simp; try with_reducible rfl)
      try simp only [Act.put, List.setIfInBounds_toArray, List.set_cons_zero, List.set_cons_succ]
      refine wpAnyH_take (i := 30) (v := ?v30) rfl (by kernel_rfl) (by kernel_rfl) (by kernel_rfl) (fun _ _ _ h => h) (Or.inl ⟨by rfl, ?y30⟩) (hS0.out) ?r30
      case y30 => (intro w0_ hs_; obtain ⟨hs0_, hs1_, hs2_, hs3_, hs4_⟩ := hs_; go_simp; try with_reducible rfl)
      try simp only [Act.put, List.setIfInBounds_toArray, List.set_cons_zero, List.set_cons_succ]
      refine wpAnyH_take (i := 31) (v := ?v31) rfl (by kernel_rfl) (by kernel_rfl) (by kernel_rfl) (fun _ _ _ h => h) (Or.inl ⟨by rfl, ?y31⟩) (hS0.out) ?r31
      case y31 => (intro w0_ hs_; obtain ⟨hs0_, hs1_, hs2_, hs3_, hs4_⟩ := hs_; go_simp; try with_reducible rfl)
      try simp only [Act.put, List.setIfInBounds_toArray, List.set_cons_zero, List.set_cons_succ]
      refine wpAnyH_take (i := 32) (v := ?v32) rfl (by kernel_rfl) (by kernel_rfl) (by kernel_rfl) (fun _ _ _ h => h) (Or.inl ⟨by rfl, ?y32⟩) (hS0.out) ?r32
      case y32 => (intro w0_ hs_; obtain ⟨hs0_, hs1_, hs2_, hs3_, hs4_⟩ := hs_; go_simp; try with_reducible rfl)
      try simp only [Act.put, List.setIfInBounds_toArray, List.set_cons_zero, List.set_cons_succ]
      refine wpAnyH_take (i := 33) (v := ?v33) rfl (by kernel_rfl) (by kernel_rfl) (by kernel_rfl) (fun _ _ _ h => h) (Or.inl ⟨by rfl, ?y33⟩) (hS0.out) ?r33
      case y33 => (intro w0_ hs_; obtain ⟨hs0_, hs1_, hs2_, hs3_, hs4_⟩ := hs_; go_simp; try with_reducible rfl)
      try simp only [Act.put, List.setIfInBounds_toArray, List.set_cons_zero, List.set_cons_succ]
      refine wpAnyH_ready (rs := [25, 34]) (by kernel_rfl) (by simp) (AllReadyH.cons (i := 25) rfl (fun K hK => ?f25a) (AllReadyH.cons (i := 34) rfl (fun K hK => ?f34a) AllReadyH.nil))
      case f25a =>
        go_simp
        refine hK.out _ _ (HC.out _ (gr_alloc GG.out _)) (fun _ => ?_)
        clear hK K
        try simp only [Act.put, List.setIfInBounds_toArray, List.set_cons_zero, List.set_cons_succ]
        rw [four_vals2]
        have HA := As.mk (Blk.new W3 5 (byteVals [byteI xk, byteI xr, byteI xo, byteI xc]).toArray)
        have GA := As.mk (gr_alloc GG.out (.cells (byteVals [byteI xk, byteI xr, byteI xo, byteI xc]).toArray 5))
        generalize W3.alloc (.cells (byteVals [byteI xk, byteI xr, byteI xo, byteI xc]).toArray 5) = WA at *
        generalize W3.heap.size = g0 at *
        refine wpAnyH_ready (rs := [26, 34]) (by kernel_rfl) (by simp) (AllReadyH.cons (i := 26) rfl (fun K hK => ?f26b) (AllReadyH.cons (i := 34) rfl (fun K hK => ?f34b) AllReadyH.nil))
        case f26b =>
          have hcv : (convert 71 9 (.slice (some ⟨g0, 0, none⟩) 4 4)).run Tryd.prog WA = .ok (.string ⟨[byteI xk, byteI xr, byteI xo, byteI xc].toArray⟩) WA := conv_back HA.out
          go_simp
          refine hK.out _ _ (HC.out _ GA.out) (fun _ => ?_)
          clear hK K hcv
          try simp only [Act.put, List.setIfInBounds_toArray, List.set_cons_zero, List.set_cons_succ]
          refine wpAnyH_take (i := 27) (v := ?v27b) rfl (by kernel_rfl) (by kernel_rfl) (by kernel_rfl) (fun _ _ _ h => h) (Or.inl ⟨by rfl, ?y27b⟩) (HC.out _ GA.out) ?r27b
          case y27b => (intro w0_ hs_; obtain ⟨hs0_, hs1_, hs2_, hs3_, hs4_⟩ := hs_; go_simp; try with_reducible rfl)
          try simp only [Act.put, List.setIfInBounds_toArray, List.set_cons_zero, List.set_cons_succ]
          refine wpAnyH_ready (rs := [34]) (by kernel_rfl) (by simp) (AllReadyH.cons (i := 34) rfl (fun K hK => ?_) AllReadyH.nil)
          go_simp
          refine (HBN.out _).mono ?_
          rintro e wn ⟨rfl, gN⟩
          have GN := As.mk (gr_then GA.out gN (.inl rfl))
          clear gN
          go_simp
          refine hK.out _ _ (HC.out _ GN.out) (fun _ => ?_)
          clear hK K
          try simp only [Act.put, List.setIfInBounds_toArray, List.set_cons_zero, List.set_cons_succ]
          refine wpAnyH_take (i := 35) (v := ?v35b) rfl (by kernel_rfl) (by kernel_rfl) (by kernel_rfl) (fun _ _ _ h => h) (Or.inl ⟨by rfl, ?y35b⟩) (HC.out _ GN.out) ?r35b
          case y35b => (intro w0_ hs_; obtain ⟨hs0_, hs1_, hs2_, hs3_, hs4_⟩ := hs_; go_simp; try with_reducible rfl)
          try simp only [Act.put, List.setIfInBounds_toArray, List.set_cons_zero, List.set_cons_succ]
          refine wpAnyH_ready (rs := [36]) (by kernel_rfl) (by simp) (AllReadyH.cons (i := 36) rfl (fun K hK => ?_) AllReadyH.nil)
          go_simp
          refine hK.out _ _ (HC.out _ GN.out) (fun _ => ?_)
          clear hK K
          try simp only [Act.put, List.setIfInBounds_toArray, List.set_cons_zero, List.set_cons_succ]
          refine wpAnyH_done (by kernel_rfl) ?_ _
          refine NoPanic.normal ?_
          clear z0 z1
          go_wp2_with fail
          go_roundw
          case measure => simp [intOf]; omega
          case rel => exact ⟨k + 1, by omega, by go_num, by rw [HX.out, HT.out], GN⟩
        case f34b =>
          go_simp
          refine (HBN.out _).mono ?_
          rintro e wn ⟨rfl, gN⟩
          have GN := As.mk (gr_then GA.out gN (.inl rfl))
          replace HA := As.mk (HA.out.grown gN (by simp))
          clear gN
          go_simp
          refine hK.out _ _ (HC.out _ GN.out) (fun _ => ?_)
          clear hK K
          try simp only [Act.put, List.setIfInBounds_toArray, List.set_cons_zero, List.set_cons_succ]
          refine wpAnyH_ready (rs := [26]) (by kernel_rfl) (by simp) (AllReadyH.cons (i := 26) rfl (fun K hK => ?_) AllReadyH.nil)
          have hcv : (convert 71 9 (.slice (some ⟨g0, 0, none⟩) 4 4)).run Tryd.prog wn = .ok (.string ⟨[byteI xk, byteI xr, byteI xo, byteI xc].toArray⟩) wn := conv_back HA.out
          go_simp
          refine hK.out _ _ (HC.out _ GN.out) (fun _ => ?_)
          clear hK K hcv
          try simp only [Act.put, List.setIfInBounds_toArray, List.set_cons_zero, List.set_cons_succ]
          refine wpAnyH_take (i := 27) (v := ?v27c) rfl (by kernel_rfl) (by kernel_rfl) (by kernel_rfl) (fun _ _ _ h => h) (Or.inl ⟨by rfl, ?y27c⟩) (HC.out _ GN.out) ?r27c
          case y27c => (intro w0_ hs_; obtain ⟨hs0_, hs1_, hs2_, hs3_, hs4_⟩ := hs_; go_simp; try with_reducible rfl)
          try simp only [Act.put, List.setIfInBounds_toArray, List.set_cons_zero, List.set_cons_succ]
          refine wpAnyH_take (i := 35) (v := ?v35c) rfl (by kernel_rfl) (by kernel_rfl) (by kernel_rfl) (fun _ _ _ h => h) (Or.inl ⟨by rfl, ?y35c⟩) (HC.out _ GN.out) ?r35c
          case y35c => (intro w0_ hs_; obtain ⟨hs0_, hs1_, hs2_, hs3_, hs4_⟩ := hs_; go_simp; try with_reducible rfl)
          try simp only [Act.put, List.setIfInBounds_toArray, List.set_cons_zero, List.set_cons_succ]
          refine wpAnyH_ready (rs := [36]) (by kernel_rfl) (by simp) (AllReadyH.cons (i := 36) rfl (fun K hK => ?_) AllReadyH.nil)
          go_simp
          refine hK.out _ _ (HC.out _ GN.out) (fun _ => ?_)
          clear hK K
          try simp only [Act.put, List.setIfInBounds_toArray, List.set_cons_zero, List.set_cons_succ]
          refine wpAnyH_done (by kernel_rfl) ?_ _
          refine NoPanic.normal ?_
          clear z0 z1
          go_wp2_with fail
          go_roundw
          case measure => simp [intOf]; omega
          case rel => exact ⟨k + 1, by omega, by go_num, by rw [HX.out, HT.out], GN⟩
      case f34a =>
        go_simp
        refine (HBN.out _).mono ?_
        rintro e wn ⟨rfl, gN⟩
        have GN := As.mk (gr_then GG.out gN (.inl rfl))
        clear gN
        go_simp
        refine hK.out _ _ (HC.out _ GN.out) (fun _ => ?_)
        clear hK K
        try simp only [Act.put, List.setIfInBounds_toArray, List.set_cons_zero, List.set_cons_succ]
        refine wpAnyH_ready (rs := [25]) (by kernel_rfl) (by simp) (AllReadyH.cons (i := 25) rfl (fun K hK => ?_) AllReadyH.nil)
        go_simp
        refine hK.out _ _ (HC.out _ (gr_alloc GN.out _)) (fun _ => ?_)
        clear hK K
        try simp only [Act.put, List.setIfInBounds_toArray, List.set_cons_zero, List.set_cons_succ]
        rw [four_vals2]
        have HA := As.mk (Blk.new wn 5 (byteVals [byteI xk, byteI xr, byteI xo, byteI xc]).toArray)
        have GA := As.mk (gr_alloc GN.out (.cells (byteVals [byteI xk, byteI xr, byteI xo, byteI xc]).toArray 5))
        generalize wn.alloc (.cells (byteVals [byteI xk, byteI xr, byteI xo, byteI xc]).toArray 5) = WA at *
        generalize wn.heap.size = g0 at *
        refine wpAnyH_ready (rs := [26]) (by kernel_rfl) (by simp) (AllReadyH.cons (i := 26) rfl (fun K hK => ?_) AllReadyH.nil)
        have hcv : (convert 71 9 (.slice (some ⟨g0, 0, none⟩) 4 4)).run Tryd.prog WA = .ok (.string ⟨[byteI xk, byteI xr, byteI xo, byteI xc].toArray⟩) WA := conv_back HA.out
        go_simp
        refine hK.out _ _ (HC.out _ GA.out) (fun _ => ?_)
        clear hK K hcv
        try simp only [Act.put, List.setIfInBounds_toArray, List.set_cons_zero, List.set_cons_succ]
        refine wpAnyH_take (i := 27) (v := ?v27d) rfl (by kernel_rfl) (by kernel_rfl) (by kernel_rfl) (fun _ _ _ h => h) (Or.inl ⟨by rfl, ?y27d⟩) (HC.out _ GA.out) ?r27d
        case y27d => (intro w0_ hs_; obtain ⟨hs0_, hs1_, hs2_, hs3_, hs4_⟩ := hs_; go_simp; try with_reducible rfl)
        try simp only [Act.put, List.setIfInBounds_toArray, List.set_cons_zero, List.set_cons_succ]
        refine wpAnyH_take (i := 35) (v := ?v35d) rfl (by kernel_rfl) (by kernel_rfl) (by kernel_rfl) (fun _ _ _ h => h) (Or.inl ⟨by rfl, ?y35d⟩) (HC.out _ GA.out) ?r35d
        case y35d => (intro w0_ hs_; obtain ⟨hs0_, hs1_, hs2_, hs3_, hs4_⟩ := hs_; go_simp; try with_reducible rfl)
        try simp only [Act.put, List.setIfInBounds_toArray, List.set_cons_zero, List.set_cons_succ]
        refine wpAnyH_ready (rs := [36]) (by kernel_rfl) (by simp) (AllReadyH.cons (i := 36) rfl (fun K hK => ?_) AllReadyH.nil)
        go_simp
        refine hK.out _ _ (HC.out _ GA.out) (fun _ => ?_)
        clear hK K
        try simp only [Act.put, List.setIfInBounds_toArray, List.set_cons_zero, List.set_cons_succ]
        refine wpAnyH_done (by kernel_rfl) ?_ _
        refine NoPanic.normal ?_
        clear z0 z1
        go_wp2_with fail
        go_roundw
        case measure => simp [intOf]; omega
        case rel => exact ⟨k + 1, by omega, by go_num, by rw [HX.out, HT.out], GA⟩
    · obtain rfl : k = l.length := by omega
      have HQ : As ((⟨(cb ++ encOps (l.take l.length)).toArray⟩ : ByteArray) = ⟨el.toArray⟩) := ⟨by rw [HE.out, List.take_of_length_le (Nat.le_refl _)]⟩
      rw [HQ.out]
      go_wp2_with fail
      go_ret
      exact ⟨by rw [HEL.out]; rfl, HG.out⟩
end Go.Proofs.YtihibljjbdjeoaaDoor
