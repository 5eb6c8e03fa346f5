/- The inner loops of LedgerStays. (Printed by wip/gen/gen_on.py.) -/
import Derived.Test.YtdmkijdbldcdiaaOf
import Derived.Test.YtdmkijdbldcdiaaOm
import Derived.Test.YtdmkijdbldcdiaaPie
namespace Go.Proofs.Ytdmkijdbldcdiaa
open Go.RowKit
set_option linter.unusedVariables false
set_option linter.unusedSimpArgs false
set_option maxRecDepth 100000

noncomputable def lpS2 : Code := piece [1, 1, 1, 1, 1, 0, 1, 2, 2, 1, 1, 0, 2, 1, 1, 1, 1, 0, 1, 2] (Try.f4.body.getD .skip)
set_option maxHeartbeats 6400000 in
theorem stays_l2 (w WT : World) (sb tb rb : Nat) (s' t : PSt) (r : PRec) (gP gQ gD gC aP aQ aD aC : Option Addr) (gp gq gd gc ap aq ad ac : Nat) (qs qs2 : List QPr) (cs cs2 : List QCm) (AI AN : Option Addr) (cI cN : Nat) (HST : As (OwnSt WT w.heap.size sb s' (.slice gP s'.places.length gp) (.slice gQ qs.length gq) (.slice gD s'.decided.length gd) (.slice gC cs.length gc) qs cs)) (HTB : As (Blk WT tb 32 #[.int .i64 t.node, .int .i64 t.nodes, .int .i64 t.cells, .int .i64 t.epoch, .slice aP t.places.length ap, .slice aQ qs2.length aq, .slice aD t.decided.length ad, .slice aC cs2.length ac])) (HTR : As (Rows WT w.heap.size t (.slice aP t.places.length ap) (.slice aQ qs2.length aq) (.slice aD t.decided.length ad) (.slice aC cs2.length ac) qs2 cs2)) (HRB : As (Blk WT rb 43 #[.int .i64 r.kind, .int .i64 r.tid.n, .int .i64 r.tid.e, .int .i64 r.tid.s, .slice AI r.items.length cI, .slice AN r.nodes.length cN, .int .i64 r.node, .int .i64 r.count, .int .i64 r.num, .int .i64 r.cell, .int .i64 r.st, .int .i64 r.hop, .int .i64 r.ver, .int .i64 r.val, .bool r.yes])) (HP : As (StaysP s' t (r.kind == 9))) (HIT : As (SInv t)) (W0 : World) (HV0 : As (WT.grownBy W0 none)) {Q0 : Exit → Act → World → Prop} {x0 x1 x2 x3 x4 x6 x7 x8 x10 x11 x12 x13 x14 x15 x16 x17 x18 x19 x20 x21 x22 x23 x24 x25 x26 x27 x28 x29 x30 x31 x32 x33 x34 x35 x36 x37 x38 x39 x40 x41 x42 x43 x44 x45 x46 x47 x48 x49 x50 x51 x52 x53 x54 x55 x56 x57 x58 x59 x60 x61 x65 x66 x67 x68 x69 x70 x71 x72 x73 x74 x75 x76 x77 x78 x79 x80 x81 x82 x83 x84 x85 x86 x87 x88 x89 x90 x91 x92 x93 x94 x95 x96 x97 x98 x99 x100 x101 x102 x103 x104 x105 x106 x107 x108 x109 x110 x111 x112 x113 x114 x115 x116 x117 x118 x119 x120 x121 x122 x123 x124 x125 x126 x127 x128 x129 x130 x131 x132 x133 x134 x135 x136 x137 x138 x139 x140 x141 x142 x143 x144 x145 x146 x147 x148 x149 x150 x151 x152 x153 x154 x155 x156 x157 x158 x159 x160 x161 x162 x163 x164 x165 x166 x167 x168 x169 x170 x171 x172 x173 x174 x175 x176 x177 x178 x179 x180 x181 x182 x183 x184 x185 x186 x187 x188 x189 x190 x191 x192 x193 x194 x195 x196 x197 x198 x199 x200 x201 x202 : Value}
    (hexit : ∀ (u4 u12 u13 u64 u65 u66 u67 u68 u69 u70 u71 u72 u73 u74 u75 u76 u77 u78 u79 u80 u81 u82 u83 : Value) (wi : World), As (WT.grownBy wi none) → Q0 (.exit 2) (⟨(x0 :: x1 :: x2 :: x3 :: u4 :: .pointer (some ⟨sb, 0, none⟩) :: x6 :: x7 :: x8 :: .pointer (some ⟨tb, 0, none⟩) :: x10 :: x11 :: u12 :: u13 :: x14 :: x15 :: x16 :: x17 :: x18 :: x19 :: x20 :: x21 :: x22 :: x23 :: x24 :: x25 :: x26 :: x27 :: x28 :: x29 :: x30 :: x31 :: x32 :: x33 :: x34 :: x35 :: x36 :: x37 :: x38 :: x39 :: x40 :: x41 :: x42 :: x43 :: x44 :: x45 :: x46 :: x47 :: x48 :: x49 :: x50 :: x51 :: x52 :: x53 :: x54 :: x55 :: x56 :: x57 :: x58 :: x59 :: x60 :: x61 :: .slice gD s'.decided.length gd :: .int .i64 s'.decided.length :: u64 :: u65 :: u66 :: u67 :: u68 :: u69 :: u70 :: u71 :: u72 :: u73 :: u74 :: u75 :: u76 :: u77 :: u78 :: u79 :: u80 :: u81 :: u82 :: u83 :: x84 :: x85 :: x86 :: x87 :: x88 :: x89 :: x90 :: x91 :: x92 :: x93 :: x94 :: x95 :: x96 :: x97 :: x98 :: x99 :: x100 :: x101 :: x102 :: x103 :: x104 :: x105 :: x106 :: x107 :: x108 :: x109 :: x110 :: x111 :: x112 :: x113 :: x114 :: x115 :: x116 :: x117 :: x118 :: x119 :: x120 :: x121 :: x122 :: x123 :: x124 :: x125 :: x126 :: x127 :: x128 :: x129 :: x130 :: x131 :: x132 :: x133 :: x134 :: x135 :: x136 :: x137 :: x138 :: x139 :: x140 :: x141 :: x142 :: x143 :: x144 :: x145 :: x146 :: x147 :: x148 :: x149 :: x150 :: x151 :: x152 :: x153 :: x154 :: x155 :: x156 :: x157 :: x158 :: x159 :: x160 :: x161 :: x162 :: x163 :: x164 :: x165 :: x166 :: x167 :: x168 :: x169 :: x170 :: x171 :: x172 :: x173 :: x174 :: x175 :: x176 :: x177 :: x178 :: x179 :: x180 :: x181 :: x182 :: x183 :: x184 :: x185 :: x186 :: x187 :: x188 :: x189 :: x190 :: x191 :: x192 :: x193 :: x194 :: x195 :: x196 :: x197 :: x198 :: x199 :: x200 :: x201 :: x202 :: [] : List Value).toArray, []⟩ : Act) wi) :
    Code.wp Try.prog lpS2 Q0 (⟨(x0 :: x1 :: x2 :: x3 :: x4 :: .pointer (some ⟨sb, 0, none⟩) :: x6 :: x7 :: x8 :: .pointer (some ⟨tb, 0, none⟩) :: x10 :: x11 :: x12 :: x13 :: x14 :: x15 :: x16 :: x17 :: x18 :: x19 :: x20 :: x21 :: x22 :: x23 :: x24 :: x25 :: x26 :: x27 :: x28 :: x29 :: x30 :: x31 :: x32 :: x33 :: x34 :: x35 :: x36 :: x37 :: x38 :: x39 :: x40 :: x41 :: x42 :: x43 :: x44 :: x45 :: x46 :: x47 :: x48 :: x49 :: x50 :: x51 :: x52 :: x53 :: x54 :: x55 :: x56 :: x57 :: x58 :: x59 :: x60 :: x61 :: .slice gD s'.decided.length gd :: .int .i64 s'.decided.length :: .int .i64 0 :: x65 :: x66 :: x67 :: x68 :: x69 :: x70 :: x71 :: x72 :: x73 :: x74 :: x75 :: x76 :: x77 :: x78 :: x79 :: x80 :: x81 :: x82 :: x83 :: x84 :: x85 :: x86 :: x87 :: x88 :: x89 :: x90 :: x91 :: x92 :: x93 :: x94 :: x95 :: x96 :: x97 :: x98 :: x99 :: x100 :: x101 :: x102 :: x103 :: x104 :: x105 :: x106 :: x107 :: x108 :: x109 :: x110 :: x111 :: x112 :: x113 :: x114 :: x115 :: x116 :: x117 :: x118 :: x119 :: x120 :: x121 :: x122 :: x123 :: x124 :: x125 :: x126 :: x127 :: x128 :: x129 :: x130 :: x131 :: x132 :: x133 :: x134 :: x135 :: x136 :: x137 :: x138 :: x139 :: x140 :: x141 :: x142 :: x143 :: x144 :: x145 :: x146 :: x147 :: x148 :: x149 :: x150 :: x151 :: x152 :: x153 :: x154 :: x155 :: x156 :: x157 :: x158 :: x159 :: x160 :: x161 :: x162 :: x163 :: x164 :: x165 :: x166 :: x167 :: x168 :: x169 :: x170 :: x171 :: x172 :: x173 :: x174 :: x175 :: x176 :: x177 :: x178 :: x179 :: x180 :: x181 :: x182 :: x183 :: x184 :: x185 :: x186 :: x187 :: x188 :: x189 :: x190 :: x191 :: x192 :: x193 :: x194 :: x195 :: x196 :: x197 :: x198 :: x199 :: x200 :: x201 :: x202 :: [] : List Value).toArray, []⟩ : Act) W0 := by
  have HEX := As.mk hexit
  clear hexit
  conv => arg 2; whnf
  go_loopw [64] (fun i wi => ∃ j : Nat, j ≤ s'.decided.length ∧ i = .int .i64 j ∧ As (WT.grownBy wi none)) (fun i _ => s'.decided.length - (intOf i).toNat)
  case atStart => exact ⟨0, Nat.zero_le _, rfl, HV0⟩
  case round =>
    obtain ⟨j, hj, rfl, HV⟩ := hrel
    rename World => wi
    by_cases hjt : j < s'.decided.length
    · have hjI : (j : Int) < (s'.decided.length : Int) := by omega
      have hj0 : (0 : Int) ≤ (j : Int) := by omega
      obtain ⟨x, hx⟩ : ∃ x, s'.decided[j]? = some x := ⟨_, List.getElem?_eq_getElem hjt⟩
      have HXJ := As.mk hx
      have HSR := As.mk (HST.out.rows.grown HV.out)
      obtain ⟨gV, kgV, egV⟩ := own_some HSR.out.de (by omega)
      injection egV with egV1 _ egV3
      subst egV1 egV3
      have hcgd : s'.decided.length ≤ gd ∧ gd ≤ 9223372036854775807 := by
        obtain ⟨_, _, _, _, h1, h2⟩ := own_whole HSR.out.de
        exact ⟨h1, by simp only [maxLen] at h2; omega⟩
      have c0 := own_cellAt HSR.out.de (j * 4 + 0) _ (flat_at deC 4 (fun _ => rfl) s'.decided j x hx 0 _ rfl)
      have c1 := own_cellAt HSR.out.de (j * 4 + 1) _ (flat_at deC 4 (fun _ => rfl) s'.decided j x hx 1 _ rfl)
      have c2 := own_cellAt HSR.out.de (j * 4 + 2) _ (flat_at deC 4 (fun _ => rfl) s'.decided j x hx 2 _ rfl)
      have c3 := own_cellAt HSR.out.de (j * 4 + 3) _ (flat_at deC 4 (fun _ => rfl) s'.decided j x hx 3 _ rfl)
      simp only [Nat.add_zero] at c0
      have HXB := As.mk (Blk.new wi 55 #[.int .i64 x.tid.n, .int .i64 x.tid.e, .int .i64 x.tid.s, .bool x.yes])
      have HV2 := As.mk (gr_alloc HV.out (.cells #[.int .i64 x.tid.n, .int .i64 x.tid.e, .int .i64 x.tid.s, .bool x.yes] 55))
      have HSB := As.mk (HST.out.blk.grown HV2.out (by simp))
      have HTB2 := As.mk (HTB.out.grown HV2.out (by simp))
      have HTR2 := As.mk (HTR.out.grown HV2.out)
      clear hx
      obtain ⟨u0, u1, u2, u3, u4, u5, u6, u7⟩ := (HTB2.out).c8
      go_wp2_with fail
      clear u0 u1 u2 u3 u4 u5 u6 u7 c0 c1 c2 c3
      generalize wi.alloc (.cells #[.int .i64 x.tid.n, .int .i64 x.tid.e, .int .i64 x.tid.s, .bool x.yes] 55) = WI at *
      generalize wi.heap.size = xb at *
      obtain ⟨i, hi⟩ := List.getElem?_of_mem (HP.out.de x (List.mem_of_getElem? HXJ.out))
      refine (findDe_c WI t _ _ _ _ HTR2.out.read x.tid).mono ?_
      rintro e w5 ⟨rfl, hg1⟩
      rw [show findI (fun d : PDe => eqT d.tid x.tid) t.decided = (i : Int) from by unfold findI; rw [findI_one (fun d : PDe => d.tid) HIT.out.den hi]]
      have hil : i < t.decided.length := (List.getElem?_eq_some_iff.1 hi).1
      have hi0 : (0 : Int) ≤ (i : Int) := by omega
      have hiI : (i : Int) < (t.decided.length : Int) := by omega
      have hiN : decide ((i : Int) < 0) = false := decide_eq_false (by omega)
      have HTB5 := As.mk (HTB2.out.grown hg1 (by simp))
      have HXB5 := As.mk (HXB.out.grown hg1 (by simp))
      have HTR5 := As.mk (HTR2.out.grown hg1)
      have HV5 := As.mk (gr_then HV2.out hg1 (.inl rfl))
      clear hg1
      obtain ⟨gU, kgU, egU⟩ := own_some HTR5.out.de (by omega)
      injection egU with egU1 _ egU3
      subst egU1 egU3
      have hcad : t.decided.length ≤ ad ∧ ad ≤ 9223372036854775807 := by
        obtain ⟨_, _, _, _, h1, h2⟩ := own_whole HTR5.out.de
        exact ⟨h1, by simp only [maxLen] at h2; omega⟩
      have y0 := own_cellAt HTR5.out.de (i * 4 + 0) _ (flat_at deC 4 (fun _ => rfl) t.decided i x hi 0 _ rfl)
      have y1 := own_cellAt HTR5.out.de (i * 4 + 1) _ (flat_at deC 4 (fun _ => rfl) t.decided i x hi 1 _ rfl)
      have y2 := own_cellAt HTR5.out.de (i * 4 + 2) _ (flat_at deC 4 (fun _ => rfl) t.decided i x hi 2 _ rfl)
      have y3 := own_cellAt HTR5.out.de (i * 4 + 3) _ (flat_at deC 4 (fun _ => rfl) t.decided i x hi 3 _ rfl)
      simp only [Nat.add_zero] at y0
      clear hi
      obtain ⟨u0, u1, u2, u3, u4, u5, u6, u7⟩ := (HTB5.out).c8
      obtain ⟨x0, x1, x2, x3⟩ := (HXB5.out).c4
      go_wp2_with fail
      go_quiet (fail)
      go_wp2_with fail
      go_roundw
      case measure => simp [intOf]; omega
      case rel => exact ⟨j + 1, by omega, by go_num, ⟨gr_drewN HV5.out _⟩⟩
    · obtain rfl : j = s'.decided.length := by omega
      go_wp2_with fail
      exact HEX.out _ _ _ _ _ _ _ _ _ _ _ _ _ _ _ _ _ _ _ _ _ _ _ _ HV
noncomputable def lpS3 : Code := piece [1, 1, 1, 1, 1, 0, 1, 2, 2, 1, 1, 0, 2, 1, 1, 1, 1, 1, 0, 1, 2] (Try.f4.body.getD .skip)
set_option maxHeartbeats 6400000 in
theorem stays_l3 (w WT : World) (sb tb rb : Nat) (s' t : PSt) (r : PRec) (gP gQ gD gC aP aQ aD aC : Option Addr) (gp gq gd gc ap aq ad ac : Nat) (qs qs2 : List QPr) (cs cs2 : List QCm) (AI AN : Option Addr) (cI cN : Nat) (HST : As (OwnSt WT w.heap.size sb s' (.slice gP s'.places.length gp) (.slice gQ qs.length gq) (.slice gD s'.decided.length gd) (.slice gC cs.length gc) qs cs)) (HTB : As (Blk WT tb 32 #[.int .i64 t.node, .int .i64 t.nodes, .int .i64 t.cells, .int .i64 t.epoch, .slice aP t.places.length ap, .slice aQ qs2.length aq, .slice aD t.decided.length ad, .slice aC cs2.length ac])) (HTR : As (Rows WT w.heap.size t (.slice aP t.places.length ap) (.slice aQ qs2.length aq) (.slice aD t.decided.length ad) (.slice aC cs2.length ac) qs2 cs2)) (HRB : As (Blk WT rb 43 #[.int .i64 r.kind, .int .i64 r.tid.n, .int .i64 r.tid.e, .int .i64 r.tid.s, .slice AI r.items.length cI, .slice AN r.nodes.length cN, .int .i64 r.node, .int .i64 r.count, .int .i64 r.num, .int .i64 r.cell, .int .i64 r.st, .int .i64 r.hop, .int .i64 r.ver, .int .i64 r.val, .bool r.yes])) (HP : As (StaysP s' t (r.kind == 9))) (HIT : As (SInv t)) (W0 : World) (HV0 : As (WT.grownBy W0 none)) {Q0 : Exit → Act → World → Prop} {x0 x1 x2 x3 x4 x6 x7 x8 x10 x11 x12 x13 x14 x15 x16 x17 x18 x19 x20 x21 x22 x23 x24 x25 x26 x27 x28 x29 x30 x31 x32 x33 x34 x35 x36 x37 x38 x39 x40 x41 x42 x43 x44 x45 x46 x47 x48 x49 x50 x51 x52 x53 x54 x55 x56 x57 x58 x59 x60 x61 x62 x63 x64 x65 x66 x67 x68 x69 x70 x71 x72 x73 x74 x75 x76 x77 x78 x79 x80 x81 x82 x83 x84 x88 x89 x90 x91 x92 x93 x94 x95 x96 x97 x98 x99 x100 x101 x102 x103 x104 x105 x106 x107 x108 x109 x110 x111 x112 x113 x114 x115 x116 x117 x118 x119 x120 x121 x122 x123 x124 x125 x126 x127 x128 x129 x130 x131 x132 x133 x134 x135 x136 x137 x138 x139 x140 x141 x142 x143 x144 x145 x146 x147 x148 x149 x150 x151 x152 x153 x154 x155 x156 x157 x158 x159 x160 x161 x162 x163 x164 x165 x166 x167 x168 x169 x170 x171 x172 x173 x174 x175 x176 x177 x178 x179 x180 x181 x182 x183 x184 x185 x186 x187 x188 x189 x190 x191 x192 x193 x194 x195 x196 x197 x198 x199 x200 x201 x202 : Value}
    (hexit : ∀ (u4 u14 u15 u87 u88 u89 u90 u91 u92 u93 u94 u95 u96 u97 u98 u99 u100 u101 u102 u103 u104 u105 u106 u107 u108 u109 u110 u111 u112 u113 u114 u115 u116 u117 u118 u119 u120 u121 : Value) (wi : World), As (WT.grownBy wi none) → Q0 (.exit 4) (⟨(x0 :: x1 :: x2 :: x3 :: u4 :: .pointer (some ⟨sb, 0, none⟩) :: x6 :: x7 :: x8 :: .pointer (some ⟨tb, 0, none⟩) :: x10 :: x11 :: x12 :: x13 :: u14 :: u15 :: x16 :: x17 :: x18 :: x19 :: x20 :: x21 :: x22 :: x23 :: x24 :: x25 :: x26 :: x27 :: x28 :: x29 :: x30 :: x31 :: x32 :: x33 :: x34 :: x35 :: x36 :: x37 :: x38 :: x39 :: x40 :: x41 :: x42 :: x43 :: x44 :: x45 :: x46 :: x47 :: x48 :: x49 :: x50 :: x51 :: x52 :: x53 :: x54 :: x55 :: x56 :: x57 :: x58 :: x59 :: x60 :: x61 :: x62 :: x63 :: x64 :: x65 :: x66 :: x67 :: x68 :: x69 :: x70 :: x71 :: x72 :: x73 :: x74 :: x75 :: x76 :: x77 :: x78 :: x79 :: x80 :: x81 :: x82 :: x83 :: x84 :: .slice gC cs.length gc :: .int .i64 cs.length :: u87 :: u88 :: u89 :: u90 :: u91 :: u92 :: u93 :: u94 :: u95 :: u96 :: u97 :: u98 :: u99 :: u100 :: u101 :: u102 :: u103 :: u104 :: u105 :: u106 :: u107 :: u108 :: u109 :: u110 :: u111 :: u112 :: u113 :: u114 :: u115 :: u116 :: u117 :: u118 :: u119 :: u120 :: u121 :: x122 :: x123 :: x124 :: x125 :: x126 :: x127 :: x128 :: x129 :: x130 :: x131 :: x132 :: x133 :: x134 :: x135 :: x136 :: x137 :: x138 :: x139 :: x140 :: x141 :: x142 :: x143 :: x144 :: x145 :: x146 :: x147 :: x148 :: x149 :: x150 :: x151 :: x152 :: x153 :: x154 :: x155 :: x156 :: x157 :: x158 :: x159 :: x160 :: x161 :: x162 :: x163 :: x164 :: x165 :: x166 :: x167 :: x168 :: x169 :: x170 :: x171 :: x172 :: x173 :: x174 :: x175 :: x176 :: x177 :: x178 :: x179 :: x180 :: x181 :: x182 :: x183 :: x184 :: x185 :: x186 :: x187 :: x188 :: x189 :: x190 :: x191 :: x192 :: x193 :: x194 :: x195 :: x196 :: x197 :: x198 :: x199 :: x200 :: x201 :: x202 :: [] : List Value).toArray, []⟩ : Act) wi) :
    Code.wp Try.prog lpS3 Q0 (⟨(x0 :: x1 :: x2 :: x3 :: x4 :: .pointer (some ⟨sb, 0, none⟩) :: x6 :: x7 :: x8 :: .pointer (some ⟨tb, 0, none⟩) :: x10 :: x11 :: x12 :: x13 :: x14 :: x15 :: x16 :: x17 :: x18 :: x19 :: x20 :: x21 :: x22 :: x23 :: x24 :: x25 :: x26 :: x27 :: x28 :: x29 :: x30 :: x31 :: x32 :: x33 :: x34 :: x35 :: x36 :: x37 :: x38 :: x39 :: x40 :: x41 :: x42 :: x43 :: x44 :: x45 :: x46 :: x47 :: x48 :: x49 :: x50 :: x51 :: x52 :: x53 :: x54 :: x55 :: x56 :: x57 :: x58 :: x59 :: x60 :: x61 :: x62 :: x63 :: x64 :: x65 :: x66 :: x67 :: x68 :: x69 :: x70 :: x71 :: x72 :: x73 :: x74 :: x75 :: x76 :: x77 :: x78 :: x79 :: x80 :: x81 :: x82 :: x83 :: x84 :: .slice gC cs.length gc :: .int .i64 cs.length :: .int .i64 0 :: x88 :: x89 :: x90 :: x91 :: x92 :: x93 :: x94 :: x95 :: x96 :: x97 :: x98 :: x99 :: x100 :: x101 :: x102 :: x103 :: x104 :: x105 :: x106 :: x107 :: x108 :: x109 :: x110 :: x111 :: x112 :: x113 :: x114 :: x115 :: x116 :: x117 :: x118 :: x119 :: x120 :: x121 :: x122 :: x123 :: x124 :: x125 :: x126 :: x127 :: x128 :: x129 :: x130 :: x131 :: x132 :: x133 :: x134 :: x135 :: x136 :: x137 :: x138 :: x139 :: x140 :: x141 :: x142 :: x143 :: x144 :: x145 :: x146 :: x147 :: x148 :: x149 :: x150 :: x151 :: x152 :: x153 :: x154 :: x155 :: x156 :: x157 :: x158 :: x159 :: x160 :: x161 :: x162 :: x163 :: x164 :: x165 :: x166 :: x167 :: x168 :: x169 :: x170 :: x171 :: x172 :: x173 :: x174 :: x175 :: x176 :: x177 :: x178 :: x179 :: x180 :: x181 :: x182 :: x183 :: x184 :: x185 :: x186 :: x187 :: x188 :: x189 :: x190 :: x191 :: x192 :: x193 :: x194 :: x195 :: x196 :: x197 :: x198 :: x199 :: x200 :: x201 :: x202 :: [] : List Value).toArray, []⟩ : Act) W0 := by
  have HEX := As.mk hexit
  clear hexit
  conv => arg 2; whnf
  go_loopw [87] (fun i wi => ∃ j : Nat, j ≤ cs.length ∧ i = .int .i64 j ∧ As (WT.grownBy wi none)) (fun i _ => cs.length - (intOf i).toNat)
  case atStart => exact ⟨0, Nat.zero_le _, rfl, HV0⟩
  case round =>
    obtain ⟨j, hj, rfl, HV⟩ := hrel
    rename World => wi
    by_cases hjt : j < cs.length
    · have hjI : (j : Int) < (cs.length : Int) := by omega
      have hj0 : (0 : Int) ≤ (j : Int) := by omega
      obtain ⟨x, hx⟩ : ∃ x, cs[j]? = some x := ⟨_, List.getElem?_eq_getElem hjt⟩
      have HXJ := As.mk hx
      have HSR := As.mk (HST.out.rows.grown HV.out)
      obtain ⟨gV, kgV, egV⟩ := own_some HSR.out.cm (by omega)
      injection egV with egV1 _ egV3
      subst egV1 egV3
      have hcgc : cs.length ≤ gc ∧ gc ≤ 9223372036854775807 := by
        obtain ⟨_, _, _, _, h1, h2⟩ := own_whole HSR.out.cm
        exact ⟨h1, by simp only [maxLen] at h2; omega⟩
      have c0 := own_cellAt HSR.out.cm (j * 6 + 0) _ (flat_at qcC 6 (fun _ => rfl) cs j x hx 0 _ rfl)
      have c1 := own_cellAt HSR.out.cm (j * 6 + 1) _ (flat_at qcC 6 (fun _ => rfl) cs j x hx 1 _ rfl)
      have c2 := own_cellAt HSR.out.cm (j * 6 + 2) _ (flat_at qcC 6 (fun _ => rfl) cs j x hx 2 _ rfl)
      have c3 := own_cellAt HSR.out.cm (j * 6 + 3) _ (flat_at qcC 6 (fun _ => rfl) cs j x hx 3 _ rfl)
      have c4 := own_cellAt HSR.out.cm (j * 6 + 4) _ (flat_at qcC 6 (fun _ => rfl) cs j x hx 4 _ rfl)
      have c5 := own_cellAt HSR.out.cm (j * 6 + 5) _ (flat_at qcC 6 (fun _ => rfl) cs j x hx 5 _ rfl)
      simp only [Nat.add_zero] at c0
      have HXB := As.mk (Blk.new wi 58 #[.int .i64 x.p.tid.n, .int .i64 x.p.tid.e, .int .i64 x.p.tid.s, .slice x.A1 x.p.items.length x.c1, .slice x.A2 x.p.nodes.length x.c2, .bool x.p.over])
      have HV2 := As.mk (gr_alloc HV.out (.cells #[.int .i64 x.p.tid.n, .int .i64 x.p.tid.e, .int .i64 x.p.tid.s, .slice x.A1 x.p.items.length x.c1, .slice x.A2 x.p.nodes.length x.c2, .bool x.p.over] 58))
      have HSB := As.mk (HST.out.blk.grown HV2.out (by simp))
      have HTB2 := As.mk (HTB.out.grown HV2.out (by simp))
      have HTR2 := As.mk (HTR.out.grown HV2.out)
      clear hx
      go_wp2_with fail
      clear c0 c1 c2 c3 c4 c5
      generalize wi.alloc (.cells #[.int .i64 x.p.tid.n, .int .i64 x.p.tid.e, .int .i64 x.p.tid.s, .slice x.A1 x.p.items.length x.c1, .slice x.A2 x.p.nodes.length x.c2, .bool x.p.over] 58) = WI at *
      generalize wi.heap.size = xb at *
      obtain ⟨c', hc', htid, hov⟩ := HP.out.cm j x.p (by rw [← HST.out.cp, List.getElem?_map, HXJ.out]; rfl)
      have hcq := hc'
      rw [← HTR2.out.cp, List.getElem?_map, Option.map_eq_some_iff] at hcq
      obtain ⟨z, hz, rfl⟩ := hcq
      have hjl : j < cs2.length := (List.getElem?_eq_some_iff.1 hz).1
      have hjJ : (j : Int) < (cs2.length : Int) := by omega
      have hjN : decide (cs2.length ≤ j) = false := decide_eq_false (by omega)
      have hjM : decide ((cs2.length : Int) ≤ (j : Int)) = false := decide_eq_false (by omega)
      obtain ⟨gU, kgU, egU⟩ := own_some HTR2.out.cm (by omega)
      injection egU with egU1 _ egU3
      subst egU1 egU3
      have hcac : cs2.length ≤ ac ∧ ac ≤ 9223372036854775807 := by
        obtain ⟨_, _, _, _, h1, h2⟩ := own_whole HTR2.out.cm
        exact ⟨h1, by simp only [maxLen] at h2; omega⟩
      have y0 := own_cellAt HTR2.out.cm (j * 6 + 0) _ (flat_at qcC 6 (fun _ => rfl) cs2 j z hz 0 _ rfl)
      have y1 := own_cellAt HTR2.out.cm (j * 6 + 1) _ (flat_at qcC 6 (fun _ => rfl) cs2 j z hz 1 _ rfl)
      have y2 := own_cellAt HTR2.out.cm (j * 6 + 2) _ (flat_at qcC 6 (fun _ => rfl) cs2 j z hz 2 _ rfl)
      have y3 := own_cellAt HTR2.out.cm (j * 6 + 3) _ (flat_at qcC 6 (fun _ => rfl) cs2 j z hz 3 _ rfl)
      have y4 := own_cellAt HTR2.out.cm (j * 6 + 4) _ (flat_at qcC 6 (fun _ => rfl) cs2 j z hz 4 _ rfl)
      have y5 := own_cellAt HTR2.out.cm (j * 6 + 5) _ (flat_at qcC 6 (fun _ => rfl) cs2 j z hz 5 _ rfl)
      simp only [Nat.add_zero] at y0
      rw [htid] at y0 y1 y2
      clear hz hc'
      obtain ⟨u0, u1, u2, u3, u4, u5, u6, u7⟩ := (HTB2.out).c8
      obtain ⟨x0, x1, x2, x3, x4, x5⟩ := (HXB.out).c6
      rcases bool_cases x.p.over with ho | ho
      · rw [ho] at x5
        clear hov htid y5
        go_wp2_with fail
        go_quiet (fail)
        go_wp2_with fail
        go_roundw
        case measure => simp [intOf]; omega
        case rel => exact ⟨j + 1, by omega, by go_num, ⟨gr_drewN HV2.out _⟩⟩
      · rw [ho] at x5
        rw [hov ho] at y5
        clear hov htid
        go_wp2_with fail
        go_quiet (fail)
        go_wp2_with fail
        go_roundw
        case measure => simp [intOf]; omega
        case rel => exact ⟨j + 1, by omega, by go_num, ⟨gr_drewN HV2.out _⟩⟩
    · obtain rfl : j = cs.length := by omega
      go_wp2_with fail
      exact HEX.out _ _ _ _ _ _ _ _ _ _ _ _ _ _ _ _ _ _ _ _ _ _ _ _ _ _ _ _ _ _ _ _ _ _ _ _ _ _ _ HV
noncomputable def lpS4 : Code := piece [1, 1, 1, 1, 1, 0, 1, 2, 2, 1, 1, 0, 2, 1, 1, 1, 1, 1, 1, 0, 1, 2] (Try.f4.body.getD .skip)
set_option maxHeartbeats 6400000 in
theorem stays_l4 (w WT : World) (sb tb rb : Nat) (s' t : PSt) (r : PRec) (gP gQ gD gC aP aQ aD aC : Option Addr) (gp gq gd gc ap aq ad ac : Nat) (qs qs2 : List QPr) (cs cs2 : List QCm) (AI AN : Option Addr) (cI cN : Nat) (HST : As (OwnSt WT w.heap.size sb s' (.slice gP s'.places.length gp) (.slice gQ qs.length gq) (.slice gD s'.decided.length gd) (.slice gC cs.length gc) qs cs)) (HTB : As (Blk WT tb 32 #[.int .i64 t.node, .int .i64 t.nodes, .int .i64 t.cells, .int .i64 t.epoch, .slice aP t.places.length ap, .slice aQ qs2.length aq, .slice aD t.decided.length ad, .slice aC cs2.length ac])) (HTR : As (Rows WT w.heap.size t (.slice aP t.places.length ap) (.slice aQ qs2.length aq) (.slice aD t.decided.length ad) (.slice aC cs2.length ac) qs2 cs2)) (HRB : As (Blk WT rb 43 #[.int .i64 r.kind, .int .i64 r.tid.n, .int .i64 r.tid.e, .int .i64 r.tid.s, .slice AI r.items.length cI, .slice AN r.nodes.length cN, .int .i64 r.node, .int .i64 r.count, .int .i64 r.num, .int .i64 r.cell, .int .i64 r.st, .int .i64 r.hop, .int .i64 r.ver, .int .i64 r.val, .bool r.yes])) (HP : As (StaysP s' t (r.kind == 9))) (HIT : As (SInv t)) (W0 : World) (HV0 : As (WT.grownBy W0 none)) {Q0 : Exit → Act → World → Prop} {x0 x1 x2 x3 x4 x6 x7 x8 x10 x11 x12 x13 x14 x15 x16 x17 x18 x19 x20 x21 x22 x23 x24 x25 x26 x27 x28 x29 x30 x31 x32 x33 x34 x35 x36 x37 x38 x39 x40 x41 x42 x43 x44 x45 x46 x47 x48 x49 x50 x51 x52 x53 x54 x55 x56 x57 x58 x59 x60 x61 x62 x63 x64 x65 x66 x67 x68 x69 x70 x71 x72 x73 x74 x75 x76 x77 x78 x79 x80 x81 x82 x83 x84 x85 x86 x87 x88 x89 x90 x91 x92 x93 x94 x95 x96 x97 x98 x99 x100 x101 x102 x103 x104 x105 x106 x107 x108 x109 x110 x111 x112 x113 x114 x115 x116 x117 x118 x119 x120 x121 x122 x126 x127 x128 x129 x130 x131 x132 x133 x134 x135 x136 x137 x138 x139 x140 x141 x142 x143 x144 x145 x146 x147 x148 x149 x150 x151 x152 x153 x154 x155 x156 x157 x158 x159 x160 x161 x162 x163 x164 x165 x166 x167 x168 x169 x170 x171 x172 x173 x174 x175 x176 x177 x178 x179 x180 x181 x182 x183 x184 x185 x186 x187 x188 x189 x190 x191 x192 x193 x194 x195 x196 x197 x198 x199 x200 x201 x202 : Value}
    (hexit : ∀ (u4 u17 u125 u126 u127 u128 u129 u130 u131 u132 u133 u134 u135 u136 u137 u138 u139 u140 u141 : Value) (wi : World), As (WT.grownBy wi none) → Q0 (.exit 6) (⟨(x0 :: x1 :: x2 :: x3 :: u4 :: .pointer (some ⟨sb, 0, none⟩) :: x6 :: x7 :: x8 :: .pointer (some ⟨tb, 0, none⟩) :: x10 :: x11 :: x12 :: x13 :: x14 :: x15 :: x16 :: u17 :: x18 :: x19 :: x20 :: x21 :: x22 :: x23 :: x24 :: x25 :: x26 :: x27 :: x28 :: x29 :: x30 :: x31 :: x32 :: x33 :: x34 :: x35 :: x36 :: x37 :: x38 :: x39 :: x40 :: x41 :: x42 :: x43 :: x44 :: x45 :: x46 :: x47 :: x48 :: x49 :: x50 :: x51 :: x52 :: x53 :: x54 :: x55 :: x56 :: x57 :: x58 :: x59 :: x60 :: x61 :: x62 :: x63 :: x64 :: x65 :: x66 :: x67 :: x68 :: x69 :: x70 :: x71 :: x72 :: x73 :: x74 :: x75 :: x76 :: x77 :: x78 :: x79 :: x80 :: x81 :: x82 :: x83 :: x84 :: x85 :: x86 :: x87 :: x88 :: x89 :: x90 :: x91 :: x92 :: x93 :: x94 :: x95 :: x96 :: x97 :: x98 :: x99 :: x100 :: x101 :: x102 :: x103 :: x104 :: x105 :: x106 :: x107 :: x108 :: x109 :: x110 :: x111 :: x112 :: x113 :: x114 :: x115 :: x116 :: x117 :: x118 :: x119 :: x120 :: x121 :: x122 :: .slice gQ qs.length gq :: .int .i64 qs.length :: u125 :: u126 :: u127 :: u128 :: u129 :: u130 :: u131 :: u132 :: u133 :: u134 :: u135 :: u136 :: u137 :: u138 :: u139 :: u140 :: u141 :: x142 :: x143 :: x144 :: x145 :: x146 :: x147 :: x148 :: x149 :: x150 :: x151 :: x152 :: x153 :: x154 :: x155 :: x156 :: x157 :: x158 :: x159 :: x160 :: x161 :: x162 :: x163 :: x164 :: x165 :: x166 :: x167 :: x168 :: x169 :: x170 :: x171 :: x172 :: x173 :: x174 :: x175 :: x176 :: x177 :: x178 :: x179 :: x180 :: x181 :: x182 :: x183 :: x184 :: x185 :: x186 :: x187 :: x188 :: x189 :: x190 :: x191 :: x192 :: x193 :: x194 :: x195 :: x196 :: x197 :: x198 :: x199 :: x200 :: x201 :: x202 :: [] : List Value).toArray, []⟩ : Act) wi) :
    Code.wp Try.prog lpS4 Q0 (⟨(x0 :: x1 :: x2 :: x3 :: x4 :: .pointer (some ⟨sb, 0, none⟩) :: x6 :: x7 :: x8 :: .pointer (some ⟨tb, 0, none⟩) :: x10 :: x11 :: x12 :: x13 :: x14 :: x15 :: x16 :: x17 :: x18 :: x19 :: x20 :: x21 :: x22 :: x23 :: x24 :: x25 :: x26 :: x27 :: x28 :: x29 :: x30 :: x31 :: x32 :: x33 :: x34 :: x35 :: x36 :: x37 :: x38 :: x39 :: x40 :: x41 :: x42 :: x43 :: x44 :: x45 :: x46 :: x47 :: x48 :: x49 :: x50 :: x51 :: x52 :: x53 :: x54 :: x55 :: x56 :: x57 :: x58 :: x59 :: x60 :: x61 :: x62 :: x63 :: x64 :: x65 :: x66 :: x67 :: x68 :: x69 :: x70 :: x71 :: x72 :: x73 :: x74 :: x75 :: x76 :: x77 :: x78 :: x79 :: x80 :: x81 :: x82 :: x83 :: x84 :: x85 :: x86 :: x87 :: x88 :: x89 :: x90 :: x91 :: x92 :: x93 :: x94 :: x95 :: x96 :: x97 :: x98 :: x99 :: x100 :: x101 :: x102 :: x103 :: x104 :: x105 :: x106 :: x107 :: x108 :: x109 :: x110 :: x111 :: x112 :: x113 :: x114 :: x115 :: x116 :: x117 :: x118 :: x119 :: x120 :: x121 :: x122 :: .slice gQ qs.length gq :: .int .i64 qs.length :: .int .i64 0 :: x126 :: x127 :: x128 :: x129 :: x130 :: x131 :: x132 :: x133 :: x134 :: x135 :: x136 :: x137 :: x138 :: x139 :: x140 :: x141 :: x142 :: x143 :: x144 :: x145 :: x146 :: x147 :: x148 :: x149 :: x150 :: x151 :: x152 :: x153 :: x154 :: x155 :: x156 :: x157 :: x158 :: x159 :: x160 :: x161 :: x162 :: x163 :: x164 :: x165 :: x166 :: x167 :: x168 :: x169 :: x170 :: x171 :: x172 :: x173 :: x174 :: x175 :: x176 :: x177 :: x178 :: x179 :: x180 :: x181 :: x182 :: x183 :: x184 :: x185 :: x186 :: x187 :: x188 :: x189 :: x190 :: x191 :: x192 :: x193 :: x194 :: x195 :: x196 :: x197 :: x198 :: x199 :: x200 :: x201 :: x202 :: [] : List Value).toArray, []⟩ : Act) W0 := by
  have HEX := As.mk hexit
  clear hexit
  conv => arg 2; whnf
  go_loopw [125] (fun i wi => ∃ j : Nat, j ≤ qs.length ∧ i = .int .i64 j ∧ As (WT.grownBy wi none)) (fun i _ => qs.length - (intOf i).toNat)
  case atStart => exact ⟨0, Nat.zero_le _, rfl, HV0⟩
  case round =>
    obtain ⟨j, hj, rfl, HV⟩ := hrel
    rename World => wi
    by_cases hjt : j < qs.length
    · have hjI : (j : Int) < (qs.length : Int) := by omega
      have hj0 : (0 : Int) ≤ (j : Int) := by omega
      obtain ⟨x, hx⟩ : ∃ x, qs[j]? = some x := ⟨_, List.getElem?_eq_getElem hjt⟩
      have HXJ := As.mk hx
      have HSR := As.mk (HST.out.rows.grown HV.out)
      obtain ⟨gV, kgV, egV⟩ := own_some HSR.out.pr (by omega)
      injection egV with egV1 _ egV3
      subst egV1 egV3
      have hcgq : qs.length ≤ gq ∧ gq ≤ 9223372036854775807 := by
        obtain ⟨_, _, _, _, h1, h2⟩ := own_whole HSR.out.pr
        exact ⟨h1, by simp only [maxLen] at h2; omega⟩
      have c0 := own_cellAt HSR.out.pr (j * 5 + 0) _ (flat_at qpC 5 (fun _ => rfl) qs j x hx 0 _ rfl)
      have c1 := own_cellAt HSR.out.pr (j * 5 + 1) _ (flat_at qpC 5 (fun _ => rfl) qs j x hx 1 _ rfl)
      have c2 := own_cellAt HSR.out.pr (j * 5 + 2) _ (flat_at qpC 5 (fun _ => rfl) qs j x hx 2 _ rfl)
      have c3 := own_cellAt HSR.out.pr (j * 5 + 3) _ (flat_at qpC 5 (fun _ => rfl) qs j x hx 3 _ rfl)
      have c4 := own_cellAt HSR.out.pr (j * 5 + 4) _ (flat_at qpC 5 (fun _ => rfl) qs j x hx 4 _ rfl)
      simp only [Nat.add_zero] at c0
      have HXB := As.mk (Blk.new wi 60 #[.int .i64 x.p.tid.n, .int .i64 x.p.tid.e, .int .i64 x.p.tid.s, .slice x.A1 x.p.items.length x.c1, .slice x.A2 x.p.nodes.length x.c2])
      have HV2 := As.mk (gr_alloc HV.out (.cells #[.int .i64 x.p.tid.n, .int .i64 x.p.tid.e, .int .i64 x.p.tid.s, .slice x.A1 x.p.items.length x.c1, .slice x.A2 x.p.nodes.length x.c2] 60))
      have HSB := As.mk (HST.out.blk.grown HV2.out (by simp))
      have HTB2 := As.mk (HTB.out.grown HV2.out (by simp))
      have HTR2 := As.mk (HTR.out.grown HV2.out)
      clear hx
      obtain ⟨u0, u1, u2, u3, u4, u5, u6, u7⟩ := (HTB2.out).c8
      go_wp2_with fail
      clear u0 u1 u2 u3 u4 u5 u6 u7 c0 c1 c2 c3 c4
      generalize wi.alloc (.cells #[.int .i64 x.p.tid.n, .int .i64 x.p.tid.e, .int .i64 x.p.tid.s, .slice x.A1 x.p.items.length x.c1, .slice x.A2 x.p.nodes.length x.c2] 60) = WI at *
      generalize wi.heap.size = xb at *
      have HKN := As.mk (HP.out.pr x.p (by rw [← HST.out.qp]; exact List.mem_map.2 ⟨x, List.mem_of_getElem? HXJ.out, rfl⟩))
      refine (findPr_c WI t _ _ _ _ HTR2.out.read x.p.tid).mono ?_
      rintro e w5 ⟨rfl, hg1⟩
      have HTB5 := As.mk (HTB2.out.grown hg1 (by simp))
      have HXB5 := As.mk (HXB.out.grown hg1 (by simp))
      have HTR5 := As.mk (HTR2.out.grown hg1)
      have HV5 := As.mk (gr_then HV2.out hg1 (.inl rfl))
      clear hg1
      have hfn := findI_neg (fun d : PPr => eqT d.tid x.p.tid) t.prepared
      rcases bool_cases (t.prepared.any (fun d : PPr => eqT d.tid x.p.tid)) with hb | hb
      · rw [findI_none hb]
        have HDN := As.mk (show 0 ≤ findI (fun d : PDe => eqT d.tid x.p.tid) t.decided by
          have h1 := HKN.out
          unfold knownB at h1
          rw [hb, Bool.false_or] at h1
          have h2 := findI_neg (fun d : PDe => eqT d.tid x.p.tid) t.decided
          rw [h1] at h2
          exact of_decide_eq_true h2)
        clear hfn hb
        obtain ⟨u0, u1, u2, u3, u4, u5, u6, u7⟩ := (HTB5.out).c8
        obtain ⟨x0, x1, x2, x3, x4⟩ := (HXB5.out).c5
        go_wp2_with fail
        clear u0 u1 u2 u3 u4 u5 u6 u7 x0 x1 x2 x3 x4
        refine (findDe_c w5 t _ _ _ _ HTR5.out.read x.p.tid).mono ?_
        rintro e w6 ⟨rfl, hg1⟩
        have HV6 := As.mk (gr_then HV5.out hg1 (.inl rfl))
        clear hg1
        have hz0 := HDN.out
        generalize findI (fun d : PDe => eqT d.tid x.p.tid) t.decided = z at *
        go_wp2_with fail
        go_roundw
        case measure => simp [intOf]; omega
        case rel => exact ⟨j + 1, by omega, by go_num, HV6⟩
      · rw [hb] at hfn
        have hz0 := of_decide_eq_true hfn
        clear hfn hb
        generalize findI (fun d : PPr => eqT d.tid x.p.tid) t.prepared = z at *
        go_wp2_with fail
        go_roundw
        case measure => simp [intOf]; omega
        case rel => exact ⟨j + 1, by omega, by go_num, HV5⟩
    · obtain rfl : j = qs.length := by omega
      go_wp2_with fail
      exact HEX.out _ _ _ _ _ _ _ _ _ _ _ _ _ _ _ _ _ _ _ _ HV
noncomputable def lpS5 : Code := piece [1, 1, 1, 1, 1, 0, 1, 2, 2, 1, 1, 0, 2, 1, 1, 1, 1, 1, 1, 1, 0, 1, 2] (Try.f4.body.getD .skip)
set_option maxHeartbeats 6400000 in
theorem stays_l5 (w WT : World) (sb tb rb : Nat) (s' t : PSt) (r : PRec) (gP gQ gD gC aP aQ aD aC : Option Addr) (gp gq gd gc ap aq ad ac : Nat) (qs qs2 : List QPr) (cs cs2 : List QCm) (AI AN : Option Addr) (cI cN : Nat) (HST : As (OwnSt WT w.heap.size sb s' (.slice gP s'.places.length gp) (.slice gQ qs.length gq) (.slice gD s'.decided.length gd) (.slice gC cs.length gc) qs cs)) (HTB : As (Blk WT tb 32 #[.int .i64 t.node, .int .i64 t.nodes, .int .i64 t.cells, .int .i64 t.epoch, .slice aP t.places.length ap, .slice aQ qs2.length aq, .slice aD t.decided.length ad, .slice aC cs2.length ac])) (HTR : As (Rows WT w.heap.size t (.slice aP t.places.length ap) (.slice aQ qs2.length aq) (.slice aD t.decided.length ad) (.slice aC cs2.length ac) qs2 cs2)) (HRB : As (Blk WT rb 43 #[.int .i64 r.kind, .int .i64 r.tid.n, .int .i64 r.tid.e, .int .i64 r.tid.s, .slice AI r.items.length cI, .slice AN r.nodes.length cN, .int .i64 r.node, .int .i64 r.count, .int .i64 r.num, .int .i64 r.cell, .int .i64 r.st, .int .i64 r.hop, .int .i64 r.ver, .int .i64 r.val, .bool r.yes])) (HP : As (StaysP s' t (r.kind == 9))) (HIT : As (SInv t)) (W0 : World) (HV0 : As (WT.grownBy W0 none)) {Q0 : Exit → Act → World → Prop} {x0 x1 x2 x3 x4 x6 x7 x10 x11 x12 x13 x14 x15 x16 x17 x18 x19 x20 x21 x22 x23 x24 x25 x26 x27 x28 x29 x30 x31 x32 x33 x34 x35 x36 x37 x38 x39 x40 x41 x42 x43 x44 x45 x46 x47 x48 x49 x50 x51 x52 x53 x54 x55 x56 x57 x58 x59 x60 x61 x62 x63 x64 x65 x66 x67 x68 x69 x70 x71 x72 x73 x74 x75 x76 x77 x78 x79 x80 x81 x82 x83 x84 x85 x86 x87 x88 x89 x90 x91 x92 x93 x94 x95 x96 x97 x98 x99 x100 x101 x102 x103 x104 x105 x106 x107 x108 x109 x110 x111 x112 x113 x114 x115 x116 x117 x118 x119 x120 x121 x122 x123 x124 x125 x126 x127 x128 x129 x130 x131 x132 x133 x134 x135 x136 x137 x138 x139 x140 x141 x142 x146 x147 x148 x149 x150 x151 x152 x153 x154 x155 x156 x157 x158 x159 x160 x161 x162 x163 x164 x165 x166 x167 x168 x169 x170 x171 x172 x173 x174 x175 x176 x177 x178 x179 x180 x181 x182 x183 x184 x185 x186 x187 x188 x189 x190 x191 x192 x193 x194 x195 x196 x197 x198 x199 x200 x201 x202 : Value}
    (hexit : ∀ (u4 u18 u19 u20 u145 u146 u147 u148 u149 u150 u151 u152 u153 u154 u155 u156 u157 u158 u159 u160 u161 u162 u163 u164 u165 u166 u167 u168 u169 u170 u171 u172 u173 u174 u175 u176 u177 u178 u179 u180 u181 u182 u183 u184 u185 u186 u187 u188 u189 u190 u191 u192 u193 u194 u195 : Value) (wi : World), As (WT.grownBy wi none) → Q0 (.exit 8) (⟨(x0 :: x1 :: x2 :: x3 :: u4 :: .pointer (some ⟨sb, 0, none⟩) :: x6 :: x7 :: .pointer (some ⟨rb, 0, none⟩) :: .pointer (some ⟨tb, 0, none⟩) :: x10 :: x11 :: x12 :: x13 :: x14 :: x15 :: x16 :: x17 :: u18 :: u19 :: u20 :: x21 :: x22 :: x23 :: x24 :: x25 :: x26 :: x27 :: x28 :: x29 :: x30 :: x31 :: x32 :: x33 :: x34 :: x35 :: x36 :: x37 :: x38 :: x39 :: x40 :: x41 :: x42 :: x43 :: x44 :: x45 :: x46 :: x47 :: x48 :: x49 :: x50 :: x51 :: x52 :: x53 :: x54 :: x55 :: x56 :: x57 :: x58 :: x59 :: x60 :: x61 :: x62 :: x63 :: x64 :: x65 :: x66 :: x67 :: x68 :: x69 :: x70 :: x71 :: x72 :: x73 :: x74 :: x75 :: x76 :: x77 :: x78 :: x79 :: x80 :: x81 :: x82 :: x83 :: x84 :: x85 :: x86 :: x87 :: x88 :: x89 :: x90 :: x91 :: x92 :: x93 :: x94 :: x95 :: x96 :: x97 :: x98 :: x99 :: x100 :: x101 :: x102 :: x103 :: x104 :: x105 :: x106 :: x107 :: x108 :: x109 :: x110 :: x111 :: x112 :: x113 :: x114 :: x115 :: x116 :: x117 :: x118 :: x119 :: x120 :: x121 :: x122 :: x123 :: x124 :: x125 :: x126 :: x127 :: x128 :: x129 :: x130 :: x131 :: x132 :: x133 :: x134 :: x135 :: x136 :: x137 :: x138 :: x139 :: x140 :: x141 :: x142 :: .slice gP s'.places.length gp :: .int .i64 s'.places.length :: u145 :: u146 :: u147 :: u148 :: u149 :: u150 :: u151 :: u152 :: u153 :: u154 :: u155 :: u156 :: u157 :: u158 :: u159 :: u160 :: u161 :: u162 :: u163 :: u164 :: u165 :: u166 :: u167 :: u168 :: u169 :: u170 :: u171 :: u172 :: u173 :: u174 :: u175 :: u176 :: u177 :: u178 :: u179 :: u180 :: u181 :: u182 :: u183 :: u184 :: u185 :: u186 :: u187 :: u188 :: u189 :: u190 :: u191 :: u192 :: u193 :: u194 :: u195 :: x196 :: x197 :: x198 :: x199 :: x200 :: x201 :: x202 :: [] : List Value).toArray, []⟩ : Act) wi) :
    Code.wp Try.prog lpS5 Q0 (⟨(x0 :: x1 :: x2 :: x3 :: x4 :: .pointer (some ⟨sb, 0, none⟩) :: x6 :: x7 :: .pointer (some ⟨rb, 0, none⟩) :: .pointer (some ⟨tb, 0, none⟩) :: x10 :: x11 :: x12 :: x13 :: x14 :: x15 :: x16 :: x17 :: x18 :: x19 :: x20 :: x21 :: x22 :: x23 :: x24 :: x25 :: x26 :: x27 :: x28 :: x29 :: x30 :: x31 :: x32 :: x33 :: x34 :: x35 :: x36 :: x37 :: x38 :: x39 :: x40 :: x41 :: x42 :: x43 :: x44 :: x45 :: x46 :: x47 :: x48 :: x49 :: x50 :: x51 :: x52 :: x53 :: x54 :: x55 :: x56 :: x57 :: x58 :: x59 :: x60 :: x61 :: x62 :: x63 :: x64 :: x65 :: x66 :: x67 :: x68 :: x69 :: x70 :: x71 :: x72 :: x73 :: x74 :: x75 :: x76 :: x77 :: x78 :: x79 :: x80 :: x81 :: x82 :: x83 :: x84 :: x85 :: x86 :: x87 :: x88 :: x89 :: x90 :: x91 :: x92 :: x93 :: x94 :: x95 :: x96 :: x97 :: x98 :: x99 :: x100 :: x101 :: x102 :: x103 :: x104 :: x105 :: x106 :: x107 :: x108 :: x109 :: x110 :: x111 :: x112 :: x113 :: x114 :: x115 :: x116 :: x117 :: x118 :: x119 :: x120 :: x121 :: x122 :: x123 :: x124 :: x125 :: x126 :: x127 :: x128 :: x129 :: x130 :: x131 :: x132 :: x133 :: x134 :: x135 :: x136 :: x137 :: x138 :: x139 :: x140 :: x141 :: x142 :: .slice gP s'.places.length gp :: .int .i64 s'.places.length :: .int .i64 0 :: x146 :: x147 :: x148 :: x149 :: x150 :: x151 :: x152 :: x153 :: x154 :: x155 :: x156 :: x157 :: x158 :: x159 :: x160 :: x161 :: x162 :: x163 :: x164 :: x165 :: x166 :: x167 :: x168 :: x169 :: x170 :: x171 :: x172 :: x173 :: x174 :: x175 :: x176 :: x177 :: x178 :: x179 :: x180 :: x181 :: x182 :: x183 :: x184 :: x185 :: x186 :: x187 :: x188 :: x189 :: x190 :: x191 :: x192 :: x193 :: x194 :: x195 :: x196 :: x197 :: x198 :: x199 :: x200 :: x201 :: x202 :: [] : List Value).toArray, []⟩ : Act) W0 := by
  have HEX := As.mk hexit
  clear hexit
  conv => arg 2; whnf
  go_loopw [145] (fun i wi => ∃ j : Nat, j ≤ s'.places.length ∧ i = .int .i64 j ∧ As (WT.grownBy wi none)) (fun i _ => s'.places.length - (intOf i).toNat)
  case atStart => exact ⟨0, Nat.zero_le _, rfl, HV0⟩
  case round =>
    obtain ⟨j, hj, rfl, HV⟩ := hrel
    rename World => wi
    by_cases hjt : j < s'.places.length
    · have hjI : (j : Int) < (s'.places.length : Int) := by omega
      have hj0 : (0 : Int) ≤ (j : Int) := by omega
      obtain ⟨x, hx⟩ : ∃ x, s'.places[j]? = some x := ⟨_, List.getElem?_eq_getElem hjt⟩
      have HXJ := As.mk hx
      have HSR := As.mk (HST.out.rows.grown HV.out)
      obtain ⟨gV, kgV, egV⟩ := own_some HSR.out.pl (by omega)
      injection egV with egV1 _ egV3
      subst egV1 egV3
      have hcgp : s'.places.length ≤ gp ∧ gp ≤ 9223372036854775807 := by
        obtain ⟨_, _, _, _, h1, h2⟩ := own_whole HSR.out.pl
        exact ⟨h1, by simp only [maxLen] at h2; omega⟩
      have c0 := own_cellAt HSR.out.pl (j * 5 + 0) _ (flat_at plCells 5 (fun _ => rfl) s'.places j x hx 0 _ rfl)
      have c1 := own_cellAt HSR.out.pl (j * 5 + 1) _ (flat_at plCells 5 (fun _ => rfl) s'.places j x hx 1 _ rfl)
      have c2 := own_cellAt HSR.out.pl (j * 5 + 2) _ (flat_at plCells 5 (fun _ => rfl) s'.places j x hx 2 _ rfl)
      have c3 := own_cellAt HSR.out.pl (j * 5 + 3) _ (flat_at plCells 5 (fun _ => rfl) s'.places j x hx 3 _ rfl)
      have c4 := own_cellAt HSR.out.pl (j * 5 + 4) _ (flat_at plCells 5 (fun _ => rfl) s'.places j x hx 4 _ rfl)
      simp only [Nat.add_zero] at c0
      have HXB := As.mk (Blk.new wi 62 #[.int .i64 x.st, .int .i64 x.hop, .int .i64 x.to_, .int .i64 x.ver, .int .i64 x.val])
      have HV2 := As.mk (gr_alloc HV.out (.cells #[.int .i64 x.st, .int .i64 x.hop, .int .i64 x.to_, .int .i64 x.ver, .int .i64 x.val] 62))
      have HSB := As.mk (HST.out.blk.grown HV2.out (by simp))
      have HTB2 := As.mk (HTB.out.grown HV2.out (by simp))
      have HTR2 := As.mk (HTR.out.grown HV2.out)
      clear hx
      have hjl : j < t.places.length := by rw [HP.out.len]; exact hjt
      obtain ⟨y, hy⟩ : ∃ y, t.places[j]? = some y := ⟨_, List.getElem?_eq_getElem hjl⟩
      have hjJ : (j : Int) < (t.places.length : Int) := by omega
      obtain ⟨hP1, hP2, hP3⟩ := HP.out.pl j x y HXJ.out hy
      have hPd : decide (y.hop < x.hop) = false := decide_eq_false (by omega)
      have HP2 := As.mk hP2
      have HP3 := As.mk hP3
      have HYJ := As.mk hy
      obtain ⟨gU, kgU, egU⟩ := own_some HTR2.out.pl (by omega)
      injection egU with egU1 _ egU3
      subst egU1 egU3
      have hcap : t.places.length ≤ ap ∧ ap ≤ 9223372036854775807 := by
        obtain ⟨_, _, _, _, h1, h2⟩ := own_whole HTR2.out.pl
        exact ⟨h1, by simp only [maxLen] at h2; omega⟩
      have y0 := own_cellAt HTR2.out.pl (j * 5 + 0) _ (flat_at plCells 5 (fun _ => rfl) t.places j y hy 0 _ rfl)
      have y1 := own_cellAt HTR2.out.pl (j * 5 + 1) _ (flat_at plCells 5 (fun _ => rfl) t.places j y hy 1 _ rfl)
      have y2 := own_cellAt HTR2.out.pl (j * 5 + 2) _ (flat_at plCells 5 (fun _ => rfl) t.places j y hy 2 _ rfl)
      have y3 := own_cellAt HTR2.out.pl (j * 5 + 3) _ (flat_at plCells 5 (fun _ => rfl) t.places j y hy 3 _ rfl)
      have y4 := own_cellAt HTR2.out.pl (j * 5 + 4) _ (flat_at plCells 5 (fun _ => rfl) t.places j y hy 4 _ rfl)
      simp only [Nat.add_zero] at y0
      clear hP2 hP3 hy
      obtain ⟨u0, u1, u2, u3, u4, u5, u6, u7⟩ := (HTB2.out).c8
      have HYB := As.mk (Blk.new2 wi (.cells #[.int .i64 x.st, .int .i64 x.hop, .int .i64 x.to_, .int .i64 x.ver, .int .i64 x.val] 62) 62 #[.int .i64 y.st, .int .i64 y.hop, .int .i64 y.to_, .int .i64 y.ver, .int .i64 y.val])
      have HXB2 := As.mk (HXB.out.alloc (.cells #[.int .i64 y.st, .int .i64 y.hop, .int .i64 y.to_, .int .i64 y.ver, .int .i64 y.val] 62))
      have hga := gr_alloc (gr_refl (wi.alloc (.cells #[.int .i64 x.st, .int .i64 x.hop, .int .i64 x.to_, .int .i64 x.ver, .int .i64 x.val] 62)) none) (.cells #[.int .i64 y.st, .int .i64 y.hop, .int .i64 y.to_, .int .i64 y.ver, .int .i64 y.val] 62)
      have HV3 := As.mk (gr_then HV2.out hga (.inl rfl))
      have HSB3 := As.mk (HST.out.grown HV3.out)
      have HTB3 := As.mk (HTB2.out.grown hga (by simp))
      have HTR3 := As.mk (HTR2.out.grown hga)
      have HRB3 := As.mk (HRB.out.grown HV3.out (by simp))
      clear hga HXB HSB HTB2 HTR2
      go_upto_region 38 with fail
      clear u0 u1 u2 u3 u4 u5 u6 u7 c0 c1 c2 c3 c4 y0 y1 y2 y3 y4
      generalize (wi.alloc (.cells #[.int .i64 x.st, .int .i64 x.hop, .int .i64 x.to_, .int .i64 x.ver, .int .i64 x.val] 62)).alloc (.cells #[.int .i64 y.st, .int .i64 y.hop, .int .i64 y.to_, .int .i64 y.ver, .int .i64 y.val] 62) = WI at *
      generalize wi.heap.size = xb at *
      go_cut [181] from 155 to 181 (fun v wx => v = .bool false ∧ As (WI.grownBy wx none))
      case first =>
        obtain ⟨x0, x1, x2, x3, x4⟩ := (HXB2.out).c5
        obtain ⟨y0, y1, y2, y3, y4⟩ := (HYB.out).c5
        obtain ⟨t0, t1, t2, t3, t4, t5, t6, t7, t8, t9, t10, t11, t12, t13, t14⟩ := (HRB3.out).c15
        rcases bool_cases (r.kind == 9) with h9 | h9
        · have h9' : (r.kind != 9) = true := by simp [bne, h9]
          have HS4 := HSB3.out.blk
          unfold stCells at HS4
          obtain ⟨q0, q1, q2, q3, q4, q5, q6, q7⟩ := (HS4).c8
          clear HS4
          go_wp2_with fail
          clear x0 x1 x2 x3 x4 y0 y1 y2 y3 y4 q0 q1 q2 q3 q4 q5 q6 q7
          clear t0 t1 t2 t3 t4 t5 t6 t7 t8 t9 t10 t11 t12 t13 t14
          refine (owns_c WI s' _ _ _ _ HSB3.out.read (j : Int) _ rfl).mono ?_
          rintro e w5 ⟨rfl, hg1⟩
          have HX5 := As.mk (HXB2.out.grown hg1 (by simp))
          have HY5 := As.mk (HYB.out.grown hg1 (by simp))
          have HT5 := As.mk (HTB3.out.grown hg1 (by simp))
          have HR5 := As.mk (HTR3.out.grown hg1)
          have HW5 := As.mk hg1
          clear hg1
          rcases bool_cases (ownsB s' (j : Int)) with ho | ho
          · rw [ho]
            go_wp2_with fail
            go_meet
            case rel => exact ⟨rfl, HW5⟩
          · rw [ho]
            obtain ⟨u0, u1, u2, u3, u4, u5, u6, u7⟩ := (HT5.out).c8
            go_wp2_with fail
            clear u0 u1 u2 u3 u4 u5 u6 u7
            refine (owns_c w5 t _ _ _ _ HR5.out.read (j : Int) _ rfl).mono ?_
            rintro e w6 ⟨rfl, hg1⟩
            have HX6 := As.mk (HX5.out.grown hg1 (by simp))
            have HY6 := As.mk (HY5.out.grown hg1 (by simp))
            have HW6 := As.mk (gr_then HW5.out hg1 (.inl rfl))
            clear hg1
            rcases bool_cases (ownsB t (j : Int)) with hq | hq
            · rw [hq]
              go_wp2_with fail
              go_meet
              case rel => exact ⟨rfl, HW6⟩
            · rw [hq]
              have hver : x.ver ≤ y.ver := by
                have e1 : x.st = 1 := by
                  have h1 := (ownsB_iff.1 ho).2
                  unfold placeAt at h1
                  rw [Int.toNat_natCast, HXJ.out] at h1
                  exact h1
                have e2 : y.st = 1 := by
                  have h1 := (ownsB_iff.1 hq).2
                  unfold placeAt at h1
                  rw [Int.toNat_natCast, HYJ.out] at h1
                  exact h1
                exact HP2.out h9 e1 e2
              have hVd : decide (y.ver < x.ver) = false := decide_eq_false (by omega)
              obtain ⟨x0, x1, x2, x3, x4⟩ := (HX6.out).c5
              obtain ⟨y0, y1, y2, y3, y4⟩ := (HY6.out).c5
              go_wp2_with fail
              go_meet
              case rel => exact ⟨rfl, HW6⟩
        · have h9' : (r.kind != 9) = false := by simp [bne, h9]
          go_wp2_with fail
          go_meet
          case rel => exact ⟨rfl, ⟨gr_refl _ _⟩⟩
      case rest =>
        obtain ⟨rfl, HC⟩ := hcut
        have HX5 := As.mk (HXB2.out.grown HC.out (by simp))
        have HY5 := As.mk (HYB.out.grown HC.out (by simp))
        have HT5 := As.mk (HTB3.out.grown HC.out (by simp))
        have HR5 := As.mk (HTR3.out.grown HC.out)
        have HS5 := As.mk (HSB3.out.grown HC.out)
        have HV5 := As.mk (gr_then HV3.out HC.out (.inl rfl))
        have HS6 := As.mk HS5.out.blk
        unfold stCells at HS6
        obtain ⟨q0, q1, q2, q3, q4, q5, q6, q7⟩ := (HS6.out).c8
        go_wp2_with fail
        clear q0 q1 q2 q3 q4 q5 q6 q7
        refine (locked_c wc s' _ _ _ _ HS5.out.read (j : Int) _ rfl).mono ?_
        rintro e w6 ⟨rfl, hg1⟩
        have HX6 := As.mk (HX5.out.grown hg1 (by simp))
        have HY6 := As.mk (HY5.out.grown hg1 (by simp))
        have HT6 := As.mk (HT5.out.grown hg1 (by simp))
        have HR6 := As.mk (HR5.out.grown hg1)
        have HV6 := As.mk (gr_then HV5.out hg1 (.inl rfl))
        clear hg1
        rcases bool_cases (lockedB s' (j : Int)) with ho | ho
        · rw [ho]
          go_wp2_with fail
          go_roundw
          case measure => simp [intOf]; omega
          case rel => exact ⟨j + 1, by omega, by go_num, HV6⟩
        · rw [ho]
          obtain ⟨u0, u1, u2, u3, u4, u5, u6, u7⟩ := (HT6.out).c8
          go_wp2_with fail
          clear u0 u1 u2 u3 u4 u5 u6 u7
          refine (locked_c w6 t _ _ _ _ HR6.out.read (j : Int) _ rfl).mono ?_
          rintro e w7 ⟨rfl, hg1⟩
          have HX7 := As.mk (HX6.out.grown hg1 (by simp))
          have HY7 := As.mk (HY6.out.grown hg1 (by simp))
          have HV7 := As.mk (gr_then HV6.out hg1 (.inl rfl))
          clear hg1
          rcases bool_cases (lockedB t (j : Int)) with hq | hq
          · rw [hq]
            go_wp2_with fail
            go_roundw
            case measure => simp [intOf]; omega
            case rel => exact ⟨j + 1, by omega, by go_num, HV7⟩
          · rw [hq]
            have hxy := HP3.out ho hq
            have HX8 := As.mk HX7.out
            rw [← hxy] at HX8
            obtain ⟨x0, x1, x2, x3, x4⟩ := (HX8.out).c5
            obtain ⟨y0, y1, y2, y3, y4⟩ := (HY7.out).c5
            go_wp2_with fail
            go_roundw
            case measure => simp [intOf]; omega
            case rel => exact ⟨j + 1, by omega, by go_num, HV7⟩
    · obtain rfl : j = s'.places.length := by omega
      go_wp2_with fail
      exact HEX.out _ _ _ _ _ _ _ _ _ _ _ _ _ _ _ _ _ _ _ _ _ _ _ _ _ _ _ _ _ _ _ _ _ _ _ _ _ _ _ _ _ _ _ _ _ _ _ _ _ _ _ _ _ _ _ _ HV
end Go.Proofs.Ytdmkijdbldcdiaa
