/- Pieces of a function's code, for theorems of their own. What the walk of LedgerMoves uses of its row of states. The walk of LedgerMoves. The walk of LedgerMoves, whole. -/
import Derived.Test.YtdmkijdbldcdiaaBase
import Derived.Test.YtdmkijdbldcdiaaQn
import Derived.Test.YtdmkijdbldcdiaaOg
namespace Go.Proofs.Ytdmkijdbldcdiaa
section

/-- A piece of a code: 0, 1: the ways of a seq; 2: inside a block, loop, scope; 3, 4: the ways of a cond. -/
def piece : List Nat → Code → Code
  | [], c => c
  | 0 :: p, .seq a _ => piece p a
  | 1 :: p, .seq _ b => piece p b
  | 2 :: p, .loop c => piece p c
  | 2 :: p, .block _ c => piece p c
  | 2 :: p, .scope c => piece p c
  | 3 :: p, .cond _ a _ => piece p a
  | 4 :: p, .cond _ _ b => piece p b
  | _, _ => .skip
end
section
open Go.RowKit
set_option linter.unusedVariables false
set_option linter.unusedSimpArgs false
set_option maxRecDepth 100000


def BE : World → Int → List Value → Prop := fun _ x cs => cs = [.int .u8 x]
/-- What a call of the closure leaves. -/
def MK (w0 w w' : World) (N : Nat → Prop) (lb g n cap : Nat) (ss : List PSt) : Prop := w0.grownBy w' none ∧ LRow w' w0.heap.size N (.slice (some ⟨g, 0, none⟩) n cap) ss ∧ Blk w' lb 69 #[(.slice (some ⟨g, 0, none⟩) n cap)] ∧ (∀ b t cs, Blk w b t cs → t ≠ 32 → Blk w' b t cs)
theorem LRow.ne {w : World} {B g n cap : Nat} {N : Nat → Prop} {ss : List PSt} (h : LRow w B N (.slice (some ⟨g, 0, none⟩) n cap) ss) {b : Nat} {t : TypeId} {cs : Array Value} (hb : Blk w b t cs) (ht : t ≠ 32) : some b ≠ some g := by
  obtain ⟨qs, a, _, _⟩ := h
  have hl : ss.length = n := by
    rcases a.2 with ⟨e, _⟩ | ⟨g', cap', cur, hv, _⟩
    · cases e
    · injection hv with _ e _
      exact e.symm
  subst hl
  obtain ⟨u, hu⟩ := own_blk a
  intro e
  injection e with e
  exact Blk.ne hb hu ht e
theorem LRow.lo {w : World} {B g n cap : Nat} {N : Nat → Prop} {ss : List PSt} (h : LRow w B N (.slice (some ⟨g, 0, none⟩) n cap) ss) : B ≤ g := by
  obtain ⟨qs, a, _, _⟩ := h
  have hl : ss.length = n := by
    rcases a.2 with ⟨e, _⟩ | ⟨g', cap', cur, hv, _⟩
    · cases e
    · injection hv with _ e _
      exact e.symm
  subst hl
  exact own_lo a g rfl
section
variable {w0 w : World} {N : Nat → Prop} {lb g n cap : Nat} {ss : List PSt} {i : Nat} {s : PSt}
theorem do_ok (hn : ss.length = n) (hNN : ∀ b, w.heap.size ≤ b → N b) (hg : w0.grownBy w none) (hL : LRow w w0.heap.size N (.slice (some ⟨g, 0, none⟩) n cap) ss) (hb : Blk w lb 69 #[(.slice (some ⟨g, 0, none⟩) n cap)]) (hi : ss[i]? = some s) (hs : SInv s)
    (r : PRec) (s2 : PSt) (ha : applyL s [r] = (0, s2)) (AI : Option Addr) (cI : Nat) (AN : Option Addr) (cN : Nat) (hI : Arr ItE 5 w (.slice AI r.items.length cI) r.items) (hN : Arr IE 1 w (.slice AN r.nodes.length cN) r.nodes) (v : Value) (hv : v = .agg (reCells r AI cI AN cN)) :
    Calls Try.prog 19 #[.int .i64 (i : Int), v, .pointer (some ⟨lb, 0, none⟩)] w fun e w' => e = .returned (.bool true) ∧ MK w0 w w' N lb g n cap (ss.set i s2) := by
  subst hv hn
  refine (do_c w w0.heap.size N lb g cap ss hg.size hNN hL hb i s hi hs r AI cI AN cN hI hN).mono ?_
  rintro e w' ⟨h1, h2, h3, h4⟩
  have h5 : stepS s r = s2 := by unfold stepS; rw [ha]; rfl
  rw [ha] at h1
  rw [h5] at h3
  exact ⟨h1, gr_then hg h2 (.inr (.inr fun k e => by injection e with e; subst e; exact hL.lo)), h3, h4, fun b t cs hb' ht => hb'.grown h2 (hL.ne hb' ht)⟩
theorem do_no (hn : ss.length = n) (hNN : ∀ b, w.heap.size ≤ b → N b) (hg : w0.grownBy w none) (hL : LRow w w0.heap.size N (.slice (some ⟨g, 0, none⟩) n cap) ss) (hb : Blk w lb 69 #[(.slice (some ⟨g, 0, none⟩) n cap)]) (hi : ss[i]? = some s) (hs : SInv s)
    (r : PRec) (er : Int) (he : er ≠ 0) (ha : applyL s [r] = (er, zS)) (AI : Option Addr) (cI : Nat) (AN : Option Addr) (cN : Nat) (hI : Arr ItE 5 w (.slice AI r.items.length cI) r.items) (hN : Arr IE 1 w (.slice AN r.nodes.length cN) r.nodes) (v : Value) (hv : v = .agg (reCells r AI cI AN cN)) :
    Calls Try.prog 19 #[.int .i64 (i : Int), v, .pointer (some ⟨lb, 0, none⟩)] w fun e w' => e = .returned (.bool false) ∧ MK w0 w w' N lb g n cap ss := by
  subst hv hn
  refine (do_c w w0.heap.size N lb g cap ss hg.size hNN hL hb i s hi hs r AI cI AN cN hI hN).mono ?_
  rintro e w' ⟨h1, h2, h3, h4⟩
  have h5 : stepS s r = s := by unfold stepS; rw [ha, if_neg he]
  rw [ha] at h1
  rw [h5, set_same hi] at h3
  rw [show (er == 0) = false by simpa using he] at h1
  exact ⟨h1, gr_then hg h2 (.inr (.inr fun k e => by injection e with e; subst e; exact hL.lo)), h3, h4, fun b t cs hb' ht => hb'.grown h2 (hL.ne hb' ht)⟩
end
/-- A state of one cell, as it lies in the row. -/
def MAt (w : World) (g i : Nat) (s : PSt) (p : PPl) : Prop := ∃ gp cp vQ vD vC, StR w s (.slice (some ⟨gp, 0, none⟩) 1 cp) vQ vD vC ∧
  (w.cell? ⟨g, i * 8, none⟩ = some (.int .i64 s.node) ∧ w.cell? ⟨g, i * 8 + 1, none⟩ = some (.int .i64 s.nodes) ∧ w.cell? ⟨g, i * 8 + 2, none⟩ = some (.int .i64 s.cells) ∧ w.cell? ⟨g, i * 8 + 3, none⟩ = some (.int .i64 s.epoch) ∧
   w.cell? ⟨g, i * 8 + 4, none⟩ = some (.slice (some ⟨gp, 0, none⟩) 1 cp) ∧ w.cell? ⟨g, i * 8 + 5, none⟩ = some vQ ∧ w.cell? ⟨g, i * 8 + 6, none⟩ = some vD ∧ w.cell? ⟨g, i * 8 + 7, none⟩ = some vC) ∧
  (w.cell? ⟨gp, 0, none⟩ = some (.int .i64 p.st) ∧ w.cell? ⟨gp, 1, none⟩ = some (.int .i64 p.hop) ∧ w.cell? ⟨gp, 2, none⟩ = some (.int .i64 p.to_) ∧ w.cell? ⟨gp, 3, none⟩ = some (.int .i64 p.ver) ∧ w.cell? ⟨gp, 4, none⟩ = some (.int .i64 p.val)) ∧
  (∃ a2 c2, vQ = .slice a2 s.prepared.length c2) ∧ (∃ a3 c3, vD = .slice a3 s.decided.length c3) ∧ (∃ a4 c4, vC = .slice a4 s.commits.length c4) ∧ 1 ≤ cp ∧ cp ≤ 9223372036854775807
theorem LRow.at_ {w : World} {B g n cap : Nat} {N : Nat → Prop} {ss : List PSt} (h : LRow w B N (.slice (some ⟨g, 0, none⟩) n cap) ss) (hn : ss.length = n) {i : Nat} {s : PSt} (hi : ss[i]? = some s) {p : PPl} (hp : s.places = [p]) : MAt w g i s p := by
  subst hn
  obtain ⟨qs, hown, hm, hrows⟩ := h
  have hil : i < ss.length := (List.getElem?_eq_some_iff.1 hi).1
  have hql : qs.length = ss.length := by rw [← hm, List.length_map]
  obtain ⟨x, hx⟩ : ∃ x, qs[i]? = some x := ⟨_, List.getElem?_eq_getElem (by omega)⟩
  have hxs : x.s = s := by rw [← hm, List.getElem?_map, hx] at hi; injection hi
  have HX : RowsQ w B x := (hrows x (List.mem_of_getElem? hx)).1
  subst hxs
  have hc : ∀ j u, (qsC x)[j]? = some u → w.cell? ⟨g, i * 8 + j, none⟩ = some u := fun j u hu => own_cellAt (by rw [← hql] at hown; exact hown) (i * 8 + j) _ (flat_at qsC 8 (fun _ => rfl) qs i x hx j u hu)
  have hl1 : x.s.places.length = 1 := by rw [hp]; rfl
  obtain ⟨gp, kp, ep⟩ := own_some HX.pl (by omega)
  injection ep with ep1 _ ep3
  have h1 := HX.pl
  rw [ep1, ep3] at h1
  have hpl : ∀ j u, (plCells p)[j]? = some u → w.cell? ⟨gp, j, none⟩ = some u := fun j u hu => own_cellAt h1 j u (by rw [hp]; simpa using hu)
  have hcap : x.s.places.length ≤ kp ∧ kp ≤ 9223372036854775807 := by
    obtain ⟨_, _, _, _, h3, h4⟩ := own_whole h1
    exact ⟨h3, by simp only [maxLen] at h4; omega⟩
  have hrd := HX.read
  rw [hl1] at h1
  rw [ep1, ep3, hl1] at hrd
  refine ⟨gp, kp, _, _, _, hrd, ⟨hc 0 _ rfl, hc 1 _ rfl, hc 2 _ rfl, hc 3 _ rfl, by rw [hc 4 _ rfl, ep1, ep3, hl1], hc 5 _ rfl, hc 6 _ rfl, hc 7 _ rfl⟩, ⟨hpl 0 _ rfl, hpl 1 _ rfl, hpl 2 _ rfl, hpl 3 _ rfl, hpl 4 _ rfl⟩, ⟨_, _, by rw [← HX.qp, List.length_map]⟩, ⟨_, _, rfl⟩, ⟨_, _, by rw [← HX.cp, List.length_map]⟩, by omega, hcap.2⟩
theorem Arr.it1 {w : World} {b : Nat} {x : PIt} {t : TypeId} (h : Blk w b t #[.int .i64 x.c, .int .i64 x.v, .int .i64 x.a, .bool x.wr, .int .i64 x.nw]) : Arr ItE 5 w (.slice (some ⟨b, 0, none⟩) 1 1) [x] :=
  Arr.block (xs := [x]) h (by simp) (by simp) fun j y hx => by
    obtain rfl : j = 0 := by
      have := (List.getElem?_eq_some_iff.1 hx).1
      simp at this; omega
    simp only [List.getElem?_cons_zero, Option.some.injEq] at hx
    subst hx
    exact ⟨_, rfl, rfl, fun i u hu => by rw [Nat.zero_mul, Nat.zero_add]; simpa using hu⟩
theorem Arr.in1 {w : World} {b : Nat} {x : Int} {t : TypeId} (h : Blk w b t #[.int .i64 x]) : Arr IE 1 w (.slice (some ⟨b, 0, none⟩) 1 1) [x] :=
  Arr.block (xs := [x]) h (by simp) (by simp) fun j y hx => by
    obtain rfl : j = 0 := by
      have := (List.getElem?_eq_some_iff.1 hx).1
      simp at this; omega
    simp only [List.getElem?_cons_zero, Option.some.injEq] at hx
    subst hx
    exact ⟨_, rfl, rfl, fun i u hu => by rw [Nat.zero_mul, Nat.zero_add]; simpa using hu⟩
/-- The row gets one state more. -/
theorem Rows.own {w w' : World} {B : Nat} {s : PSt} {vP vQ vD vC : Value} {qs : List QPr} {cs : List QCm} (h : Rows w B s vP vQ vD vC qs cs) {V : Value} {n : Nat} {xs : List Value} (ho : w.ownsRow B 32 8 V n xs) (hg : w.grownBy w' V.ownBlock) : Rows w' B s vP vQ vD vC qs cs := by
  rcases ho.2 with ⟨rfl, _⟩ | ⟨g, cap, cur, rfl, _, hb, _⟩
  · exact h.grown hg
  · exact h.blk hb hg
theorem LRow.app {w w' : World} {B : Nat} {N : Nat → Prop} {V V' : Value} {qs : List QSt} {ss : List PSt} (ho : w.ownsRow B 32 8 V ss.length (qs.flatMap qsC)) (hm : qs.map QSt.s = ss) (hr : ∀ x ∈ qs, RowsQ w B x ∧ ∀ a, x.P = some a → N a.block) (x : QSt) (hx : RowsQ w B x) (hN : ∀ a, x.P = some a → N a.block)
    (ho' : w'.ownsRow B 32 8 V' (ss.length + 1) (qs.flatMap qsC ++ qsC x)) (hg : w.grownBy w' V.ownBlock) : LRow w' B N V' (ss ++ [x.s]) :=
  ⟨qs ++ [x], by rw [List.length_append, List.flatMap_append]; simpa using ho', by rw [List.map_append, hm]; rfl, fun y hy => by
    rcases List.mem_append.1 hy with hy | hy
    · exact ⟨(hr y hy).1.own ho hg, (hr y hy).2⟩
    · rw [List.mem_singleton] at hy; subst hy; exact ⟨hx.own ho hg, hN⟩⟩
theorem LRow.weak {w : World} {B : Nat} {N N' : Nat → Prop} {V : Value} {ss : List PSt} (h : LRow w B N V ss) (hN : ∀ b, b < w.heap.size → N b → N' b) : LRow w B N' V ss := by
  obtain ⟨qs, a, b, c⟩ := h
  refine ⟨qs, a, b, fun x hx => ⟨(c x hx).1, fun ad ha => hN _ ?_ ((c x hx).2 ad ha)⟩⟩
  rcases (c x hx).1.pl.2 with ⟨e, _⟩ | ⟨g', cap', cur, e, _, hb, _⟩
  · injection e with e
    rw [e] at ha
    cases ha
  · injection e with e
    rw [e] at ha
    injection ha with ha
    subst ha
    exact Blk.lt hb
/-- A place of no row is written. -/
theorem LRow.place {w w' : World} {B pb : Nat} {V : Value} {ss : List PSt} (h : LRow w B (· ≠ pb) V ss) {u : Array Value} (hb : Blk w pb 62 u) (hg : w.grownBy w' (some pb)) : LRow w' B (· ≠ pb) V ss := by
  obtain ⟨qs, a, b, c⟩ := h
  have hn : ∀ k, some pb = some k → ∀ cs, ¬ Blk w k 66 cs ∧ ¬ Blk w k 3 cs := fun k e cs => by
    injection e with e
    subst e
    exact ⟨fun q => Blk.ne hb q (by decide) rfl, fun q => Blk.ne hb q (by decide) rfl⟩
  refine ⟨qs, own_grown a hg (.inr (Ne.symm (own_ne hb a (by decide)))), b, fun x hx => ⟨?_, (c x hx).2⟩⟩
  have h := (c x hx).1
  refine ⟨own_grown h.pl hg (.inr ?_), own_grown h.pr hg (.inr (Ne.symm (own_ne hb h.pr (by decide)))), own_grown h.de hg (.inr (Ne.symm (own_ne hb h.de (by decide)))), own_grown h.cm hg (.inr (Ne.symm (own_ne hb h.cm (by decide)))), h.qp, h.cp,
    fun q hq => nest_step (h.qi q hq) hg hn, fun q hq => nest_step (h.ci q hq) hg hn⟩
  intro e
  cases hP : x.P with
  | none => rw [hP] at e; cases e
  | some ad =>
    rw [hP] at e
    injection e with e
    exact (c x hx).2 ad hP e
/-- A block of another type is written. -/
theorem LRow.far {w w' : World} {B pb : Nat} {N : Nat → Prop} {V : Value} {ss : List PSt} (h : LRow w B N V ss) {t : TypeId} {u : Array Value} (hb : Blk w pb t u) (hg : w.grownBy w' (some pb)) (h1 : t ≠ 32) (h2 : t ≠ 62) (h3 : t ≠ 60) (h4 : t ≠ 55) (h5 : t ≠ 58) (h6 : t ≠ 66) (h7 : t ≠ 3) : LRow w' B N V ss := by
  obtain ⟨qs, a, b, c⟩ := h
  have hn : ∀ k, some pb = some k → ∀ cs, ¬ Blk w k 66 cs ∧ ¬ Blk w k 3 cs := fun k e cs => by
    injection e with e
    subst e
    exact ⟨fun q => Blk.ne hb q h6 rfl, fun q => Blk.ne hb q h7 rfl⟩
  refine ⟨qs, own_grown a hg (.inr (Ne.symm (own_ne hb a h1))), b, fun x hx => ⟨?_, (c x hx).2⟩⟩
  have h := (c x hx).1
  exact ⟨own_grown h.pl hg (.inr (Ne.symm (own_ne hb h.pl h2))), own_grown h.pr hg (.inr (Ne.symm (own_ne hb h.pr h3))), own_grown h.de hg (.inr (Ne.symm (own_ne hb h.de h4))), own_grown h.cm hg (.inr (Ne.symm (own_ne hb h.cm h5))), h.qp, h.cp,
    fun q hq => nest_step (h.qi q hq) hg hn, fun q hq => nest_step (h.ci q hq) hg hn⟩
theorem infoSt : (Try.prog.info? 32).map (fun i => (i.zero, i.size, i.bytes)) = some (some (.agg #[.int .i64 0, .int .i64 0, .int .i64 0, .int .i64 0, .slice none 0 0, .slice none 0 0, .slice none 0 0, .slice none 0 0]), 8, 128) := by kernel_rfl
end
section
open Go.RowKit
set_option linter.unusedVariables false
set_option linter.unusedSimpArgs false
set_option maxRecDepth 100000


/-- The states that were made so far. -/
def made (n k : Nat) : List PSt := (List.range k).map (fun (j : Nat) => firstS ((j : Int) + 1) n 1)
theorem made_len (n k : Nat) : (made n k).length = k := by simp [made]
theorem made_succ (n k : Nat) : made n (k + 1) = made n k ++ [(firstS ((k : Int) + 1) n 1)] := by simp [made, List.range_succ]
noncomputable def lpM1 : Code := piece [1, 1, 1, 1, 1, 0, 1, 2] (Try.f6.body.getD .skip)
set_option maxHeartbeats 6400000 in
theorem moves_l1 (w W0 : World) (lb n : Nat) (hn : 2 ≤ n ∧ n ≤ 16) (hg : w.grownBy W0 none) (hb : Blk W0 lb 69 #[.slice none 0 0]) (hlo : w.heap.size ≤ lb) {Q0 : Exit → Act → World → Prop} {x0 x1 x2 x3 x4 x8 x9 x10 x11 x12 x13 x14 x15 x16 x17 x18 x19 x20 x21 x22 x23 x24 x25 x26 x27 x28 x29 x30 x31 x32 x33 x34 x35 x36 x37 x38 x39 x40 x41 x42 x43 x44 x45 x46 x47 x48 x49 x50 x51 x52 x53 x54 x55 x56 x57 x58 x59 x60 x61 x62 x63 x64 x65 x66 x67 x68 x69 x70 x71 x72 x73 x74 x75 x76 x77 x78 x79 x80 x81 x82 x83 x84 x85 x86 x87 x88 x89 x90 x91 x92 x93 x94 x95 x96 x97 x98 x99 x100 x101 x102 x103 x104 x105 x106 x107 x108 x109 x110 x111 x112 x113 x114 x115 x116 x117 x118 x119 x120 x121 x122 x123 x124 x125 x126 x127 x128 x129 x130 x131 x132 x133 x134 x135 x136 x137 x138 x139 x140 x141 x142 x143 x144 x145 x146 x147 x148 x149 x150 x151 x152 x153 x154 x155 x156 x157 x158 x159 x160 x161 x162 x163 x164 x165 x166 x167 x168 x169 x170 x171 x172 x173 x174 x175 x176 x177 x178 x179 x180 x181 x182 x183 x184 x185 x186 x187 x188 x189 x190 x191 x192 x193 x194 x195 x196 x197 x198 x199 x200 x201 x202 x203 x204 x205 x206 x207 x208 x209 x210 x211 x212 x213 x214 x215 x216 x217 x218 x219 x220 x221 x222 x223 x224 x225 x226 : Value}
    (hexit : ∀ (u4 u7 u8 u9 u31 u32 u33 u34 u35 u36 u37 u38 u39 u40 u41 u42 u43 u44 u45 u46 u47 : Value) (wi : World) (g cap : Nat), As (w.grownBy wi none ∧ Blk wi lb 69 #[(.slice (some ⟨g, 0, none⟩) n cap)] ∧ LRow wi w.heap.size (fun _ => True) (.slice (some ⟨g, 0, none⟩) n cap) (made n n)) → Q0 (.exit 0) (⟨(x0 :: x1 :: x2 :: x3 :: u4 :: .int .i64 n :: .pointer (some ⟨lb, 0, none⟩) :: u7 :: u8 :: u9 :: x10 :: x11 :: x12 :: x13 :: x14 :: x15 :: x16 :: x17 :: x18 :: x19 :: x20 :: x21 :: x22 :: x23 :: x24 :: x25 :: x26 :: x27 :: x28 :: x29 :: x30 :: u31 :: u32 :: u33 :: u34 :: u35 :: u36 :: u37 :: u38 :: u39 :: u40 :: u41 :: u42 :: u43 :: u44 :: u45 :: u46 :: u47 :: x48 :: x49 :: x50 :: x51 :: x52 :: x53 :: x54 :: x55 :: x56 :: x57 :: x58 :: x59 :: x60 :: x61 :: x62 :: x63 :: x64 :: x65 :: x66 :: x67 :: x68 :: x69 :: x70 :: x71 :: x72 :: x73 :: x74 :: x75 :: x76 :: x77 :: x78 :: x79 :: x80 :: x81 :: x82 :: x83 :: x84 :: x85 :: x86 :: x87 :: x88 :: x89 :: x90 :: x91 :: x92 :: x93 :: x94 :: x95 :: x96 :: x97 :: x98 :: x99 :: x100 :: x101 :: x102 :: x103 :: x104 :: x105 :: x106 :: x107 :: x108 :: x109 :: x110 :: x111 :: x112 :: x113 :: x114 :: x115 :: x116 :: x117 :: x118 :: x119 :: x120 :: x121 :: x122 :: x123 :: x124 :: x125 :: x126 :: x127 :: x128 :: x129 :: x130 :: x131 :: x132 :: x133 :: x134 :: x135 :: x136 :: x137 :: x138 :: x139 :: x140 :: x141 :: x142 :: x143 :: x144 :: x145 :: x146 :: x147 :: x148 :: x149 :: x150 :: x151 :: x152 :: x153 :: x154 :: x155 :: x156 :: x157 :: x158 :: x159 :: x160 :: x161 :: x162 :: x163 :: x164 :: x165 :: x166 :: x167 :: x168 :: x169 :: x170 :: x171 :: x172 :: x173 :: x174 :: x175 :: x176 :: x177 :: x178 :: x179 :: x180 :: x181 :: x182 :: x183 :: x184 :: x185 :: x186 :: x187 :: x188 :: x189 :: x190 :: x191 :: x192 :: x193 :: x194 :: x195 :: x196 :: x197 :: x198 :: x199 :: x200 :: x201 :: x202 :: x203 :: x204 :: x205 :: x206 :: x207 :: x208 :: x209 :: x210 :: x211 :: x212 :: x213 :: x214 :: x215 :: x216 :: x217 :: x218 :: x219 :: x220 :: x221 :: x222 :: x223 :: x224 :: x225 :: x226 :: [] : List Value).toArray, []⟩ : Act) wi) :
    Code.wp Try.prog lpM1 Q0 (⟨(x0 :: x1 :: x2 :: x3 :: x4 :: .int .i64 n :: .pointer (some ⟨lb, 0, none⟩) :: .int .i64 1 :: x8 :: x9 :: x10 :: x11 :: x12 :: x13 :: x14 :: x15 :: x16 :: x17 :: x18 :: x19 :: x20 :: x21 :: x22 :: x23 :: x24 :: x25 :: x26 :: x27 :: x28 :: x29 :: x30 :: x31 :: x32 :: x33 :: x34 :: x35 :: x36 :: x37 :: x38 :: x39 :: x40 :: x41 :: x42 :: x43 :: x44 :: x45 :: x46 :: x47 :: x48 :: x49 :: x50 :: x51 :: x52 :: x53 :: x54 :: x55 :: x56 :: x57 :: x58 :: x59 :: x60 :: x61 :: x62 :: x63 :: x64 :: x65 :: x66 :: x67 :: x68 :: x69 :: x70 :: x71 :: x72 :: x73 :: x74 :: x75 :: x76 :: x77 :: x78 :: x79 :: x80 :: x81 :: x82 :: x83 :: x84 :: x85 :: x86 :: x87 :: x88 :: x89 :: x90 :: x91 :: x92 :: x93 :: x94 :: x95 :: x96 :: x97 :: x98 :: x99 :: x100 :: x101 :: x102 :: x103 :: x104 :: x105 :: x106 :: x107 :: x108 :: x109 :: x110 :: x111 :: x112 :: x113 :: x114 :: x115 :: x116 :: x117 :: x118 :: x119 :: x120 :: x121 :: x122 :: x123 :: x124 :: x125 :: x126 :: x127 :: x128 :: x129 :: x130 :: x131 :: x132 :: x133 :: x134 :: x135 :: x136 :: x137 :: x138 :: x139 :: x140 :: x141 :: x142 :: x143 :: x144 :: x145 :: x146 :: x147 :: x148 :: x149 :: x150 :: x151 :: x152 :: x153 :: x154 :: x155 :: x156 :: x157 :: x158 :: x159 :: x160 :: x161 :: x162 :: x163 :: x164 :: x165 :: x166 :: x167 :: x168 :: x169 :: x170 :: x171 :: x172 :: x173 :: x174 :: x175 :: x176 :: x177 :: x178 :: x179 :: x180 :: x181 :: x182 :: x183 :: x184 :: x185 :: x186 :: x187 :: x188 :: x189 :: x190 :: x191 :: x192 :: x193 :: x194 :: x195 :: x196 :: x197 :: x198 :: x199 :: x200 :: x201 :: x202 :: x203 :: x204 :: x205 :: x206 :: x207 :: x208 :: x209 :: x210 :: x211 :: x212 :: x213 :: x214 :: x215 :: x216 :: x217 :: x218 :: x219 :: x220 :: x221 :: x222 :: x223 :: x224 :: x225 :: x226 :: [] : List Value).toArray, []⟩ : Act) W0 := by
  have HEX := As.mk hexit
  have HG := As.mk hg
  have HB := As.mk hb
  have HLO := As.mk hlo
  obtain ⟨iS, hS1, hS2, hS3, hS4⟩ := info_parts infoSt
  have HIS := As.mk (And.intro hS1 (And.intro hS2 (And.intro hS3 hS4)))
  clear hexit hg hb hlo hS1 hS2 hS3 hS4
  conv => arg 2; whnf
  go_loopw [7] (fun i wr => ∃ k : Nat, k ≤ n ∧ i = .int .i64 ((k : Int) + 1) ∧ ∃ V, As (w.grownBy wr none ∧ Blk wr lb 69 #[V] ∧ LRow wr w.heap.size (fun _ => True) V (made n k))) (fun i _ => n + 1 - (intOf i).toNat)
  case atStart => exact ⟨0, Nat.zero_le _, rfl, .slice none 0 0, ⟨HG.out, HB.out, [], own_nilRow _ _ _ _, rfl, fun x hx => by cases hx⟩⟩
  case round =>
    obtain ⟨k, hk, rfl, V, HX⟩ := hrel
    clear HG HB
    obtain ⟨HG, HB, HL⟩ := HX.out
    clear HX
    replace HG := As.mk HG
    replace HB := As.mk HB
    replace HL := As.mk HL
    by_cases hlt : k < n
    · have h1 : (k : Int) + 1 ≤ (n : Int) := by omega
      have HR1 := As.mk (show rightR (fr ((k : Int) + 1) n 1) = true from first_right hn hlt)
      have HE := As.mk (show firstE ((k : Int) + 1) n 1 = (0, (firstS ((k : Int) + 1) n 1)) by unfold firstE; rw [if_pos HR1.out])
      go_wp2_with fail
      refine (First_c wr ((k : Int) + 1) n 1).mono ?_
      rintro e w1 ⟨aP, aQ, aD, aC, qs2, cs2, rfl, hg1, hr1⟩
      rw [HE.out] at hr1 ⊢
      have HB1 := As.mk (HB.out.grown hg1 (by simp))
      have HL1 := As.mk (HL.out.grown hg1)
      have HR := As.mk (hr1.mono HG.out.size)
      replace HG := As.mk (gr_then HG.out hg1 (.inl rfl))
      clear hg1 hr1 HB HL
      obtain ⟨aP, ap, rfl⟩ := own_shape HR.out.pl
      obtain ⟨aQ, aq, rfl⟩ := own_shape HR.out.pr
      obtain ⟨aD, ad, rfl⟩ := own_shape HR.out.de
      obtain ⟨aC, ac, rfl⟩ := own_shape HR.out.cm
      unfold stCells
      dsimp only at HR ⊢
      have hga := gr_alloc (gr_alloc (gr_refl w1 none) (.cells #[.int .i64 (firstS ((k : Int) + 1) n 1).node, .int .i64 (firstS ((k : Int) + 1) n 1).nodes, .int .i64 (firstS ((k : Int) + 1) n 1).cells, .int .i64 (firstS ((k : Int) + 1) n 1).epoch, .slice aP (firstS ((k : Int) + 1) n 1).places.length ap, .slice aQ qs2.length aq, .slice aD (firstS ((k : Int) + 1) n 1).decided.length ad, .slice aC cs2.length ac] 32)) (.cells #[.int .i64 (firstS ((k : Int) + 1) n 1).node, .int .i64 (firstS ((k : Int) + 1) n 1).nodes, .int .i64 (firstS ((k : Int) + 1) n 1).cells, .int .i64 (firstS ((k : Int) + 1) n 1).epoch, .slice aP (firstS ((k : Int) + 1) n 1).places.length ap, .slice aQ qs2.length aq, .slice aD (firstS ((k : Int) + 1) n 1).decided.length ad, .slice aC cs2.length ac] 32)
      have HG2 := As.mk (gr_then HG.out hga (.inl rfl))
      have HB2 := As.mk (HB1.out.grown hga (by simp))
      have HL2 := As.mk (HL1.out.grown hga)
      have HR2 := As.mk (HR.out.grown hga)
      have HBS := As.mk (Blk.new2 w1 (.cells #[.int .i64 (firstS ((k : Int) + 1) n 1).node, .int .i64 (firstS ((k : Int) + 1) n 1).nodes, .int .i64 (firstS ((k : Int) + 1) n 1).cells, .int .i64 (firstS ((k : Int) + 1) n 1).epoch, .slice aP (firstS ((k : Int) + 1) n 1).places.length ap, .slice aQ qs2.length aq, .slice aD (firstS ((k : Int) + 1) n 1).decided.length ad, .slice aC cs2.length ac] 32) 32 #[.int .i64 (firstS ((k : Int) + 1) n 1).node, .int .i64 (firstS ((k : Int) + 1) n 1).nodes, .int .i64 (firstS ((k : Int) + 1) n 1).cells, .int .i64 (firstS ((k : Int) + 1) n 1).epoch, .slice aP (firstS ((k : Int) + 1) n 1).places.length ap, .slice aQ qs2.length aq, .slice aD (firstS ((k : Int) + 1) n 1).decided.length ad, .slice aC cs2.length ac])
      clear hga
      obtain ⟨qs, ho, hm, hrw⟩ := HL2.out
      obtain ⟨aV, cV, rfl⟩ := own_shape ho
      have HO2 := As.mk ho
      have HM2 := As.mk (And.intro hm hrw)
      have b0 := (HB1.out.alloc (.cells #[.int .i64 (firstS ((k : Int) + 1) n 1).node, .int .i64 (firstS ((k : Int) + 1) n 1).nodes, .int .i64 (firstS ((k : Int) + 1) n 1).cells, .int .i64 (firstS ((k : Int) + 1) n 1).epoch, .slice aP (firstS ((k : Int) + 1) n 1).places.length ap, .slice aQ qs2.length aq, .slice aD (firstS ((k : Int) + 1) n 1).decided.length ad, .slice aC cs2.length ac] 32)).c1
      have hml : (made n k).length ≤ 1000000 := by rw [made_len]; omega
      clear ho hm hrw
      go_wp2_with (at_builtin; refine wpList_app1 (by rfl) _ _ _ (by rfl) w.heap.size 32 iS _ 8 128 Try.underlying69 HIS.out.1 HIS.out.2.1 HIS.out.2.2.1 HIS.out.2.2.2 rfl (by omega) (by omega) _ _ _ (by rfl) HO2.out (w1.heap.size + 1) (by rfl) _ HBS.out rfl (by simp [Value.oneCell']) (by omega) HG2.out.size ?_; intro v' w' ho hg' hv'; obtain ⟨aV', cV', rfl⟩ := own_shape ho; have HO3 := As.mk ho; have HW3 := As.mk hg'; have HB3 := As.mk (HB2.out.grown hg' (own_ne HB2.out HO2.out (by decide))); have b3 := HB3.out.c1; have f3 := HB3.out.free 0; clear ho hg' hv')
      have HGS := As.mk (gr_set (gr_refl w' (some lb)) (a := ⟨lb, 0, none⟩) (.inl rfl) (.slice aV' ((made n k).length + 1) cV'))
      have HB4 := As.mk (show Blk (w'.setCell ⟨lb, 0, none⟩ (.slice aV' ((made n k).length + 1) cV')) lb 69 #[(.slice aV' ((made n k).length + 1) cV')] from HB3.out.set 0 (.slice aV' ((made n k).length + 1) cV'))
      have HL3 := As.mk (LRow.app (N := fun _ => True) HO2.out HM2.out.1 HM2.out.2 ⟨(firstS ((k : Int) + 1) n 1), aP, ap, aQ, aq, aD, ad, aC, ac, qs2, cs2⟩ HR2.out (fun _ _ => trivial) HO3.out HW3.out)
      have HL4 := As.mk (HL3.out.far HB3.out HGS.out (by decide) (by decide) (by decide) (by decide) (by decide) (by decide) (by decide))
      have HG4 := As.mk (gr_then (gr_then HG2.out HW3.out (.inr (.inr (own_lo HO2.out)))) HGS.out (.inr (.inr fun k e => by injection e with e; subst e; exact HLO.out)))
      go_roundw
      case measure => simp [intOf]; omega
      case rel => exact ⟨k + 1, by omega, by go_num, (.slice aV' ((made n k).length + 1) cV'), ⟨HG4.out, HB4.out, by rw [made_succ]; exact HL4.out⟩⟩
    · obtain rfl : k = n := by omega
      have h1 : ¬ ((k : Int) + 1 ≤ (k : Int)) := by omega
      have HL2 := As.mk HL.out
      obtain ⟨qs, ho, hm, hrw⟩ := HL.out
      rw [made_len] at ho
      obtain ⟨g, cap, rfl⟩ := own_some ho (by omega)
      clear ho hm hrw
      go_wp2_with fail
      exact HEX.out _ _ _ _ _ _ _ _ _ _ _ _ _ _ _ _ _ _ _ _ _ _ g cap ⟨HG.out, HB.out, HL2.out⟩
noncomputable def lpM3 : Code := piece [1, 1, 1, 1, 1, 1, 1, 1, 0, 1, 2, 2, 1, 1, 0, 2, 1, 1, 1, 1, 1, 1, 1, 1, 1, 1, 1, 1, 1, 1, 1, 0, 1, 2] (Try.f6.body.getD .skip)
def cntO (b j : Nat) : Int := if b < j then 1 else 0
theorem cntO_bd (b j : Nat) : 0 ≤ cntO b j ∧ cntO b j ≤ 1 := by unfold cntO; split <;> omega
theorem cntO_yes (b : Nat) : cntO b b + 1 = cntO b (b + 1) := by unfold cntO; rw [if_neg (by omega), if_pos (by omega)]; rfl
theorem cntO_no {b j : Nat} (h : j ≠ b) : cntO b j = cntO b (j + 1) := by unfold cntO; split <;> split <;> omega
def ownN (ss : List PSt) (b : Nat) : Prop := ∀ (j : Nat) (s : PSt), ss[j]? = some s → ∃ p, s.places = [p] ∧ ownsB s 0 = decide (j = b)
set_option maxHeartbeats 6400000 in
theorem moves_l3 (w W0 : World) (lb n g cap b : Nat) (ss : List PSt) (hn : ss.length = n) (hn2 : n ≤ 16) (hcap : n ≤ cap ∧ cap ≤ 9223372036854775807) (hb : Blk W0 lb 69 #[(.slice (some ⟨g, 0, none⟩) n cap)]) (N : Nat → Prop) (hL : LRow W0 w.heap.size N (.slice (some ⟨g, 0, none⟩) n cap) ss) (hbn : b < n) (ho : ownN ss b) {Q0 : Exit → Act → World → Prop} {x0 x1 x2 x3 x4 x5 x7 x8 x9 x10 x11 x12 x13 x14 x15 x16 x17 x18 x19 x21 x22 x23 x24 x25 x26 x27 x28 x29 x30 x31 x32 x33 x34 x35 x36 x37 x38 x39 x40 x41 x42 x43 x44 x45 x46 x47 x48 x49 x50 x51 x52 x53 x54 x55 x56 x57 x58 x59 x60 x61 x62 x63 x64 x65 x66 x67 x68 x69 x70 x71 x72 x73 x74 x75 x76 x77 x78 x79 x80 x81 x82 x83 x84 x85 x86 x87 x88 x89 x90 x91 x92 x93 x94 x95 x96 x97 x98 x99 x100 x101 x102 x103 x104 x105 x106 x107 x108 x109 x110 x111 x112 x113 x114 x115 x116 x117 x118 x119 x120 x121 x122 x123 x124 x125 x126 x127 x128 x129 x130 x131 x132 x133 x134 x135 x136 x137 x138 x139 x140 x141 x142 x143 x144 x145 x146 x147 x148 x149 x150 x151 x152 x153 x154 x155 x156 x157 x158 x159 x160 x161 x162 x163 x164 x165 x166 x167 x168 x169 x170 x171 x172 x173 x174 x175 x176 x177 x178 x179 x182 x183 x184 x185 x186 x187 x188 x189 x190 x191 x192 x193 x194 x195 x196 x197 x198 x199 x200 x201 x202 x203 x204 x205 x206 x207 x208 x209 x210 x211 x212 x213 x214 x215 x216 x217 x218 x219 x220 x221 x222 x223 x224 x225 x226 : Value}
    (hexit : ∀ (u21 u181 u182 u183 u184 u185 u186 u187 u188 u189 u190 u191 : Value) (wi : World), As (W0.grownBy wi none) → Q0 (.exit 4) (⟨(x0 :: x1 :: x2 :: x3 :: x4 :: x5 :: .pointer (some ⟨lb, 0, none⟩) :: x7 :: x8 :: x9 :: x10 :: x11 :: x12 :: x13 :: x14 :: x15 :: x16 :: x17 :: x18 :: x19 :: .int .i64 1 :: u21 :: x22 :: x23 :: x24 :: x25 :: x26 :: x27 :: x28 :: x29 :: x30 :: x31 :: x32 :: x33 :: x34 :: x35 :: x36 :: x37 :: x38 :: x39 :: x40 :: x41 :: x42 :: x43 :: x44 :: x45 :: x46 :: x47 :: x48 :: x49 :: x50 :: x51 :: x52 :: x53 :: x54 :: x55 :: x56 :: x57 :: x58 :: x59 :: x60 :: x61 :: x62 :: x63 :: x64 :: x65 :: x66 :: x67 :: x68 :: x69 :: x70 :: x71 :: x72 :: x73 :: x74 :: x75 :: x76 :: x77 :: x78 :: x79 :: x80 :: x81 :: x82 :: x83 :: x84 :: x85 :: x86 :: x87 :: x88 :: x89 :: x90 :: x91 :: x92 :: x93 :: x94 :: x95 :: x96 :: x97 :: x98 :: x99 :: x100 :: x101 :: x102 :: x103 :: x104 :: x105 :: x106 :: x107 :: x108 :: x109 :: x110 :: x111 :: x112 :: x113 :: x114 :: x115 :: x116 :: x117 :: x118 :: x119 :: x120 :: x121 :: x122 :: x123 :: x124 :: x125 :: x126 :: x127 :: x128 :: x129 :: x130 :: x131 :: x132 :: x133 :: x134 :: x135 :: x136 :: x137 :: x138 :: x139 :: x140 :: x141 :: x142 :: x143 :: x144 :: x145 :: x146 :: x147 :: x148 :: x149 :: x150 :: x151 :: x152 :: x153 :: x154 :: x155 :: x156 :: x157 :: x158 :: x159 :: x160 :: x161 :: x162 :: x163 :: x164 :: x165 :: x166 :: x167 :: x168 :: x169 :: x170 :: x171 :: x172 :: x173 :: x174 :: x175 :: x176 :: x177 :: x178 :: x179 :: .int .i64 n :: u181 :: u182 :: u183 :: u184 :: u185 :: u186 :: u187 :: u188 :: u189 :: u190 :: u191 :: x192 :: x193 :: x194 :: x195 :: x196 :: x197 :: x198 :: x199 :: x200 :: x201 :: x202 :: x203 :: x204 :: x205 :: x206 :: x207 :: x208 :: x209 :: x210 :: x211 :: x212 :: x213 :: x214 :: x215 :: x216 :: x217 :: x218 :: x219 :: x220 :: x221 :: x222 :: x223 :: x224 :: x225 :: x226 :: [] : List Value).toArray, []⟩ : Act) wi) :
    Code.wp Try.prog lpM3 Q0 (⟨(x0 :: x1 :: x2 :: x3 :: x4 :: x5 :: .pointer (some ⟨lb, 0, none⟩) :: x7 :: x8 :: x9 :: x10 :: x11 :: x12 :: x13 :: x14 :: x15 :: x16 :: x17 :: x18 :: x19 :: .int .i64 0 :: x21 :: x22 :: x23 :: x24 :: x25 :: x26 :: x27 :: x28 :: x29 :: x30 :: x31 :: x32 :: x33 :: x34 :: x35 :: x36 :: x37 :: x38 :: x39 :: x40 :: x41 :: x42 :: x43 :: x44 :: x45 :: x46 :: x47 :: x48 :: x49 :: x50 :: x51 :: x52 :: x53 :: x54 :: x55 :: x56 :: x57 :: x58 :: x59 :: x60 :: x61 :: x62 :: x63 :: x64 :: x65 :: x66 :: x67 :: x68 :: x69 :: x70 :: x71 :: x72 :: x73 :: x74 :: x75 :: x76 :: x77 :: x78 :: x79 :: x80 :: x81 :: x82 :: x83 :: x84 :: x85 :: x86 :: x87 :: x88 :: x89 :: x90 :: x91 :: x92 :: x93 :: x94 :: x95 :: x96 :: x97 :: x98 :: x99 :: x100 :: x101 :: x102 :: x103 :: x104 :: x105 :: x106 :: x107 :: x108 :: x109 :: x110 :: x111 :: x112 :: x113 :: x114 :: x115 :: x116 :: x117 :: x118 :: x119 :: x120 :: x121 :: x122 :: x123 :: x124 :: x125 :: x126 :: x127 :: x128 :: x129 :: x130 :: x131 :: x132 :: x133 :: x134 :: x135 :: x136 :: x137 :: x138 :: x139 :: x140 :: x141 :: x142 :: x143 :: x144 :: x145 :: x146 :: x147 :: x148 :: x149 :: x150 :: x151 :: x152 :: x153 :: x154 :: x155 :: x156 :: x157 :: x158 :: x159 :: x160 :: x161 :: x162 :: x163 :: x164 :: x165 :: x166 :: x167 :: x168 :: x169 :: x170 :: x171 :: x172 :: x173 :: x174 :: x175 :: x176 :: x177 :: x178 :: x179 :: .int .i64 n :: .int .i64 0 :: x182 :: x183 :: x184 :: x185 :: x186 :: x187 :: x188 :: x189 :: x190 :: x191 :: x192 :: x193 :: x194 :: x195 :: x196 :: x197 :: x198 :: x199 :: x200 :: x201 :: x202 :: x203 :: x204 :: x205 :: x206 :: x207 :: x208 :: x209 :: x210 :: x211 :: x212 :: x213 :: x214 :: x215 :: x216 :: x217 :: x218 :: x219 :: x220 :: x221 :: x222 :: x223 :: x224 :: x225 :: x226 :: [] : List Value).toArray, []⟩ : Act) W0 := by
  have HEX := As.mk hexit
  have HB := As.mk hb
  have HL := As.mk hL
  have HO := As.mk ho
  clear hexit hb hL ho
  conv => arg 2; whnf
  go_loopw [20, 181] (fun c i wr => ∃ j : Nat, j ≤ n ∧ c = .int .i64 (cntO b j) ∧ i = .int .i64 j ∧ As (W0.grownBy wr none)) (fun _ i _ => n - (intOf i).toNat)
  case atStart => exact ⟨0, Nat.zero_le _, rfl, rfl, ⟨gr_refl _ _⟩⟩
  case round =>
    obtain ⟨j, hj, rfl, rfl, HG⟩ := hrel
    by_cases hlt : j < n
    · have hjI : (j : Int) < (n : Int) := by omega
      have hj0 : (0 : Int) ≤ (j : Int) := by omega
      have hc1 := hcap.1
      have hc2 := hcap.2
      obtain ⟨s, hs⟩ : ∃ s, ss[j]? = some s := ⟨_, List.getElem?_eq_getElem (by omega)⟩
      obtain ⟨p, hp, how⟩ := HO.out j s hs
      obtain ⟨gp, cp, vQ, vD, vC, hrd, hz, _, ⟨a2, c2, rfl⟩, ⟨a3, c3, rfl⟩, ⟨a4, c4, rfl⟩, _, _⟩ := (HL.out.grown HG.out).at_ hn hs hp
      have HRD := As.mk hrd
      have HOW := As.mk how
      obtain ⟨z0, z1, z2, z3, z4, z5, z6, z7⟩ := hz
      have q0 := (HB.out.grown HG.out (by simp)).c1
      clear hs hp how hrd
      go_wp2_with fail
      clear z0 z1 z2 z3 z4 z5 z6 z7 q0
      refine (owns_c wr s _ _ _ _ HRD.out 0 _ HOW.out).mono ?_
      rintro e w1 ⟨rfl, hg1⟩
      have HG1 := As.mk (gr_then HG.out hg1 (.inl rfl))
      clear hg1
      obtain ⟨hc3, hc4⟩ := cntO_bd b j
      by_cases jb : j = b
      · have HY := As.mk (cntO_yes b)
        subst jb
        rw [decide_eq_true (show j = j from rfl)]
        generalize cntO j j = c at *
        go_wp2_with fail
        go_roundw
        case measure => simp [intOf]; omega
        case rel => exact ⟨j + 1, by omega, by rw [HY.out], by go_num, HG1⟩
      · have HY := As.mk (cntO_no jb)
        rw [decide_eq_false jb]
        generalize cntO b j = c at *
        go_wp2_with fail
        go_roundw
        case measure => simp [intOf]; omega
        case rel => exact ⟨j + 1, by omega, by rw [HY.out], by go_num, HG1⟩
    · obtain rfl : j = n := by omega
      have hbj : cntO b j = 1 := if_pos hbn
      rw [hbj]
      have h1 : ¬ ((j : Int) < (j : Int)) := by omega
      go_wp2_with fail
      exact HEX.out _ _ _ _ _ _ _ _ _ _ _ _ _ HG
theorem set_at (l : List PSt) (a : Nat) (s : PSt) (h : a < l.length) : ∃ l', l' = l.set a s ∧ l'.length = l.length ∧ l'[a]? = some s ∧ ∀ j, j ≠ a → l'[j]? = l[j]? :=
  ⟨_, rfl, by simp, by rw [List.getElem?_set_self h], fun j hj => by rw [List.getElem?_set_ne (Ne.symm hj)]⟩
theorem inv_of {s s2 : PSt} {r : PRec} (h : SInv s) (e : applyL s [r] = (0, s2)) : SInv s2 := by
  have := applyL_inv (r := r) h (by rw [e])
  rw [e] at this
  exact this
noncomputable def lpM2 : Code := piece [1, 1, 1, 1, 1, 1, 1, 1, 0, 1, 2] (Try.f6.body.getD .skip)
set_option maxHeartbeats 25600000 in
theorem moves_l2 (w W0 : World) (lb n g cap : Nat) (AL : Option Addr) (cL : Nat) (ts : List Int) (hn : 2 ≤ n ∧ n ≤ 16) (hcap : n ≤ cap ∧ cap ≤ 9223372036854775807) (hto : ts.length ≤ 40) (hx : ∀ x ∈ ts, 0 ≤ x ∧ x < 256) (hl : Arr BE 1 w (.slice AL ts.length cL) ts)
    (hg : w.grownBy W0 none) (hb : Blk W0 lb 69 #[(.slice (some ⟨g, 0, none⟩) n cap)]) (hL : LRow W0 w.heap.size (fun _ => True) (.slice (some ⟨g, 0, none⟩) n cap) (made n n)) {Q0 : Exit → Act → World → Prop} {x0 x1 x2 x3 x4 x7 x8 x9 x14 x15 x16 x17 x18 x19 x20 x21 x22 x23 x24 x25 x26 x27 x28 x29 x30 x31 x32 x33 x34 x35 x36 x37 x38 x39 x40 x41 x42 x43 x44 x45 x46 x47 x48 x52 x53 x54 x55 x56 x57 x58 x59 x60 x61 x62 x63 x64 x65 x66 x67 x68 x69 x70 x71 x72 x73 x74 x75 x76 x77 x78 x79 x80 x81 x82 x83 x84 x85 x86 x87 x88 x89 x90 x91 x92 x93 x94 x95 x96 x97 x98 x99 x100 x101 x102 x103 x104 x105 x106 x107 x108 x109 x110 x111 x112 x113 x114 x115 x116 x117 x118 x119 x120 x121 x122 x123 x124 x125 x126 x127 x128 x129 x130 x131 x132 x133 x134 x135 x136 x137 x138 x139 x140 x141 x142 x143 x144 x145 x146 x147 x148 x149 x150 x151 x152 x153 x154 x155 x156 x157 x158 x159 x160 x161 x162 x163 x164 x165 x166 x167 x168 x169 x170 x171 x172 x173 x174 x175 x176 x177 x178 x179 x180 x181 x182 x183 x184 x185 x186 x187 x188 x189 x190 x191 x192 x193 x194 x195 x196 x197 x198 x199 x200 x201 x202 x203 x204 x205 x206 x207 x208 x209 x210 x211 x212 x213 x214 x215 x216 x217 x218 x219 x220 x221 x222 x223 x224 x225 x226 : Value}
    (hexit : ∀ (u4 u10 u11 u12 u14 u15 u16 u17 u18 u19 u20 u21 u51 u52 u53 u54 u55 u56 u57 u58 u59 u60 u61 u62 u63 u64 u65 u66 u67 u68 u69 u70 u71 u72 u73 u74 u75 u76 u77 u78 u79 u80 u81 u82 u83 u84 u85 u86 u87 u88 u89 u90 u91 u92 u93 u94 u95 u96 u97 u98 u99 u100 u101 u102 u103 u104 u105 u106 u107 u108 u109 u110 u111 u112 u113 u114 u115 u116 u117 u118 u119 u120 u121 u122 u123 u124 u125 u126 u127 u128 u129 u130 u131 u132 u133 u134 u135 u136 u137 u138 u139 u140 u141 u142 u143 u144 u145 u146 u147 u148 u149 u150 u151 u152 u153 u154 u155 u156 u157 u158 u159 u160 u161 u162 u163 u164 u165 u166 u167 u168 u169 u170 u171 u172 u173 u174 u175 u176 u177 u178 u179 u180 u181 u182 u183 u184 u185 u186 u187 u188 u189 u190 u191 u192 u193 u194 u195 u196 u197 u198 u199 u200 u201 u202 u203 u204 u205 u206 u207 u208 u209 u210 u211 u212 u213 u214 u215 u216 u217 u218 u219 u220 u221 u222 u223 u224 u225 u226 : Value) (wi : World), As (w.grownBy wi none) → Q0 (.exit 2) (⟨(x0 :: x1 :: x2 :: x3 :: u4 :: .int .i64 n :: .pointer (some ⟨lb, 0, none⟩) :: x7 :: x8 :: x9 :: u10 :: u11 :: u12 :: .func (.func 19) #[] #[.pointer (some ⟨lb, 0, none⟩)] :: u14 :: u15 :: u16 :: u17 :: u18 :: u19 :: u20 :: u21 :: x22 :: x23 :: x24 :: x25 :: x26 :: x27 :: x28 :: x29 :: x30 :: x31 :: x32 :: x33 :: x34 :: x35 :: x36 :: x37 :: x38 :: x39 :: x40 :: x41 :: x42 :: x43 :: x44 :: x45 :: x46 :: x47 :: x48 :: .slice AL ts.length cL :: .int .i64 ts.length :: u51 :: u52 :: u53 :: u54 :: u55 :: u56 :: u57 :: u58 :: u59 :: u60 :: u61 :: u62 :: u63 :: u64 :: u65 :: u66 :: u67 :: u68 :: u69 :: u70 :: u71 :: u72 :: u73 :: u74 :: u75 :: u76 :: u77 :: u78 :: u79 :: u80 :: u81 :: u82 :: u83 :: u84 :: u85 :: u86 :: u87 :: u88 :: u89 :: u90 :: u91 :: u92 :: u93 :: u94 :: u95 :: u96 :: u97 :: u98 :: u99 :: u100 :: u101 :: u102 :: u103 :: u104 :: u105 :: u106 :: u107 :: u108 :: u109 :: u110 :: u111 :: u112 :: u113 :: u114 :: u115 :: u116 :: u117 :: u118 :: u119 :: u120 :: u121 :: u122 :: u123 :: u124 :: u125 :: u126 :: u127 :: u128 :: u129 :: u130 :: u131 :: u132 :: u133 :: u134 :: u135 :: u136 :: u137 :: u138 :: u139 :: u140 :: u141 :: u142 :: u143 :: u144 :: u145 :: u146 :: u147 :: u148 :: u149 :: u150 :: u151 :: u152 :: u153 :: u154 :: u155 :: u156 :: u157 :: u158 :: u159 :: u160 :: u161 :: u162 :: u163 :: u164 :: u165 :: u166 :: u167 :: u168 :: u169 :: u170 :: u171 :: u172 :: u173 :: u174 :: u175 :: u176 :: u177 :: u178 :: u179 :: u180 :: u181 :: u182 :: u183 :: u184 :: u185 :: u186 :: u187 :: u188 :: u189 :: u190 :: u191 :: u192 :: u193 :: u194 :: u195 :: u196 :: u197 :: u198 :: u199 :: u200 :: u201 :: u202 :: u203 :: u204 :: u205 :: u206 :: u207 :: u208 :: u209 :: u210 :: u211 :: u212 :: u213 :: u214 :: u215 :: u216 :: u217 :: u218 :: u219 :: u220 :: u221 :: u222 :: u223 :: u224 :: u225 :: u226 :: [] : List Value).toArray, []⟩ : Act) wi) :
    Code.wp Try.prog lpM2 Q0 (⟨(x0 :: x1 :: x2 :: x3 :: x4 :: .int .i64 n :: .pointer (some ⟨lb, 0, none⟩) :: x7 :: x8 :: x9 :: .int .i64 0 :: .int .i64 0 :: .int .i64 0 :: .func (.func 19) #[] #[.pointer (some ⟨lb, 0, none⟩)] :: x14 :: x15 :: x16 :: x17 :: x18 :: x19 :: x20 :: x21 :: x22 :: x23 :: x24 :: x25 :: x26 :: x27 :: x28 :: x29 :: x30 :: x31 :: x32 :: x33 :: x34 :: x35 :: x36 :: x37 :: x38 :: x39 :: x40 :: x41 :: x42 :: x43 :: x44 :: x45 :: x46 :: x47 :: x48 :: .slice AL ts.length cL :: .int .i64 ts.length :: .int .i64 0 :: x52 :: x53 :: x54 :: x55 :: x56 :: x57 :: x58 :: x59 :: x60 :: x61 :: x62 :: x63 :: x64 :: x65 :: x66 :: x67 :: x68 :: x69 :: x70 :: x71 :: x72 :: x73 :: x74 :: x75 :: x76 :: x77 :: x78 :: x79 :: x80 :: x81 :: x82 :: x83 :: x84 :: x85 :: x86 :: x87 :: x88 :: x89 :: x90 :: x91 :: x92 :: x93 :: x94 :: x95 :: x96 :: x97 :: x98 :: x99 :: x100 :: x101 :: x102 :: x103 :: x104 :: x105 :: x106 :: x107 :: x108 :: x109 :: x110 :: x111 :: x112 :: x113 :: x114 :: x115 :: x116 :: x117 :: x118 :: x119 :: x120 :: x121 :: x122 :: x123 :: x124 :: x125 :: x126 :: x127 :: x128 :: x129 :: x130 :: x131 :: x132 :: x133 :: x134 :: x135 :: x136 :: x137 :: x138 :: x139 :: x140 :: x141 :: x142 :: x143 :: x144 :: x145 :: x146 :: x147 :: x148 :: x149 :: x150 :: x151 :: x152 :: x153 :: x154 :: x155 :: x156 :: x157 :: x158 :: x159 :: x160 :: x161 :: x162 :: x163 :: x164 :: x165 :: x166 :: x167 :: x168 :: x169 :: x170 :: x171 :: x172 :: x173 :: x174 :: x175 :: x176 :: x177 :: x178 :: x179 :: x180 :: x181 :: x182 :: x183 :: x184 :: x185 :: x186 :: x187 :: x188 :: x189 :: x190 :: x191 :: x192 :: x193 :: x194 :: x195 :: x196 :: x197 :: x198 :: x199 :: x200 :: x201 :: x202 :: x203 :: x204 :: x205 :: x206 :: x207 :: x208 :: x209 :: x210 :: x211 :: x212 :: x213 :: x214 :: x215 :: x216 :: x217 :: x218 :: x219 :: x220 :: x221 :: x222 :: x223 :: x224 :: x225 :: x226 :: [] : List Value).toArray, []⟩ : Act) W0 := by
  have HEX := As.mk hexit
  have HLL := As.mk (And.intro hl.le hl.cap)
  have HTO := As.mk hl
  have HXX := As.mk hx
  have HG0 := As.mk hg
  have HB0 := As.mk hb
  have HL0 := As.mk hL
  clear hexit hl hx hg hb hL
  conv => arg 2; whnf
  go_loopw [10, 11, 12, 51] (fun av hv vv iv wr => ∃ (k a : Nat) (hop val : Int) (ss : List PSt), k ≤ ts.length ∧ av = .int .i64 a ∧ hv = .int .i64 hop ∧ vv = .int .i64 val ∧ iv = .int .i64 k ∧ As (w.grownBy wr none ∧ Blk wr lb 69 #[(.slice (some ⟨g, 0, none⟩) n cap)] ∧ LRow wr w.heap.size (fun _ => True) (.slice (some ⟨g, 0, none⟩) n cap) ss ∧ MInv n a hop val k ss)) (fun _ _ _ i _ => ts.length - (intOf i).toNat)
  case atStart => exact ⟨0, 0, 0, 0, made n n, Nat.zero_le _, rfl, rfl, rfl, rfl, ⟨HG0.out, HB0.out, HL0.out, MInv.start hn⟩⟩
  case round =>
    obtain ⟨k, a, hop, val, ss, hk, rfl, rfl, rfl, rfl, HX⟩ := hrel
    clear HG0 HB0 HL0
    obtain ⟨HG, HB, HL, HM⟩ := HX.out
    clear HX
    replace HG := As.mk HG
    replace HB := As.mk HB
    replace HL := As.mk HL
    replace HM := As.mk HM
    have hn1 := hn.1
    have hn2 := hn.2
    have hc1 := hcap.1
    have hc2 := hcap.2
    by_cases hlt : k < ts.length
    · have hltI : (k : Int) < (ts.length : Int) := by omega
      have hk0 : (0 : Int) ≤ (k : Int) := by omega
      have hk1 : (k : Int) ≤ 40 := by omega
      have hle := HLL.out.1
      have hle2 := HLL.out.2
      obtain ⟨x, hx⟩ : ∃ x, ts[k]? = some x := ⟨_, List.getElem?_eq_getElem hlt⟩
      obtain ⟨bt, off, cs0, rfl, rfl, _, hcs⟩ := HTO.out.at_ k x hx
      have e0 := HG.out.cell (hcs 0 _ rfl) (by simp)
      simp only [Nat.add_zero, Nat.mul_one] at e0
      obtain ⟨hx0, hx1⟩ := HXX.out x (List.mem_of_getElem? hx)
      clear hcs hx
      have hnI : (0 : Int) < (n : Int) := by omega
      go_upto_region 20 with fail
      clear e0
      have hbb : 0 ≤ x % (n : Int) ∧ x % (n : Int) < (n : Int) := ⟨Int.emod_nonneg _ (by omega), Int.emod_lt_of_pos _ hnI⟩
      generalize x % (n : Int) = bi at *
      obtain ⟨b, rfl⟩ : ∃ b : Nat, bi = (b : Int) := ⟨bi.toNat, by omega⟩
      have hbn : b < n := by omega
      clear hbb
      by_cases hba : b = a
      · subst hba
        go_wp2_with fail
        go_roundw
        case measure => simp [intOf]; omega
        case rel => exact ⟨k + 1, b, hop, val, ss, by omega, rfl, rfl, rfl, by go_num, ⟨HG.out, HB.out, HL.out, HM.out.mono⟩⟩
      · have hE : ((b : Int) == (a : Int)) = false := by simp; omega
        have han := HM.out.at_
        have hlen := HM.out.len
        obtain ⟨sA, hA⟩ : ∃ s, ss[a]? = some s := ⟨_, List.getElem?_eq_getElem (by omega)⟩
        obtain ⟨hSA, p, ds, rfl, hds, hdl, hp0, hp1, hv0, hv1, hat, _⟩ := HM.out.each a sA hA
        obtain ⟨hst, hph, hpv⟩ := hat rfl
        obtain ⟨gp, cp, vQ, vD, vC, _, hz, hy, _, _, _, hcp1, hcp2⟩ := (HL.out.grown (gr_alloc (gr_refl wr none) (.cells #[.int .i64 1, .int .i64 1, .int .i64 ((k : Int) + 1)] 39))).at_ hlen hA rfl
        obtain ⟨z0, z1, z2, z3, z4, z5, z6, z7⟩ := hz
        obtain ⟨y0, y1, y2, y3, y4⟩ := hy
        have q0 := (HB.out.alloc (.cells #[.int .i64 1, .int .i64 1, .int .i64 ((k : Int) + 1)] 39)).c1
        have hA' := As.mk hA
        have HS := As.mk hSA
        have HD := As.mk hds
        subst hph hpv
        have hst1 := hst
        have HST := As.mk hst
        have hanI : (a : Int) < (n : Int) := by omega
        have ha0 : (0 : Int) ≤ (a : Int) := by omega
        have hP41 : p.hop ≤ 40 := by have := HM.out.hopk; omega
        clear hA hSA hds hst hst1 hat
        go_upto_region 24 with fail
        clear q0 z0 z1 z2 z3 z4 z5 z6 z7 y0 y1 y2 y3 y4
        have hga := gr_alloc (gr_alloc (gr_alloc (gr_refl wr none) (.cells #[.int .i64 1, .int .i64 1, .int .i64 ((k : Int) + 1)] 39)) (.cells #[.int .i64 p.st, .int .i64 p.hop, .int .i64 p.to_, .int .i64 p.ver, .int .i64 p.val] 62)) (.cells #[.int .i64 0, .int .i64 p.ver, .int .i64 p.val, .bool true, .int .i64 ((k : Int) + 7)] 66)
        have HG3 := As.mk (gr_then HG.out hga (.inl rfl))
        have HB3 := As.mk (HB.out.grown hga (by simp))
        have HL3 := As.mk ((HL.out.weak (N' := fun b => b ≠ wr.heap.size + 1) (fun b hb _ => by omega)).grown hga)
        have HT := As.mk (((Blk.new wr 39 #[.int .i64 1, .int .i64 1, .int .i64 ((k : Int) + 1)]).alloc (.cells #[.int .i64 p.st, .int .i64 p.hop, .int .i64 p.to_, .int .i64 p.ver, .int .i64 p.val] 62)).alloc (.cells #[.int .i64 0, .int .i64 p.ver, .int .i64 p.val, .bool true, .int .i64 ((k : Int) + 7)] 66))
        have HPB := As.mk ((Blk.new2 wr (.cells #[.int .i64 1, .int .i64 1, .int .i64 ((k : Int) + 1)] 39) 62 #[.int .i64 p.st, .int .i64 p.hop, .int .i64 p.to_, .int .i64 p.ver, .int .i64 p.val]).alloc (.cells #[.int .i64 0, .int .i64 p.ver, .int .i64 p.val, .bool true, .int .i64 ((k : Int) + 7)] 66))
        have HIB := As.mk (Blk.new_at ((wr.alloc (.cells #[.int .i64 1, .int .i64 1, .int .i64 ((k : Int) + 1)] 39)).alloc (.cells #[.int .i64 p.st, .int .i64 p.hop, .int .i64 p.to_, .int .i64 p.ver, .int .i64 p.val] 62)) 66 #[.int .i64 0, .int .i64 p.ver, .int .i64 p.val, .bool true, .int .i64 ((k : Int) + 7)] (g := wr.heap.size + 1 + 1) (by simp))
        have HPL := As.mk (show w.heap.size ≤ wr.heap.size + 1 from Nat.le_succ_of_le HG.out.size)
        clear hga HG HB HL
        generalize ((wr.alloc (.cells #[.int .i64 1, .int .i64 1, .int .i64 ((k : Int) + 1)] 39)).alloc (.cells #[.int .i64 p.st, .int .i64 p.hop, .int .i64 p.to_, .int .i64 p.ver, .int .i64 p.val] 62)).alloc (.cells #[.int .i64 0, .int .i64 p.ver, .int .i64 p.val, .bool true, .int .i64 ((k : Int) + 7)] 66) = W3 at *
        generalize wr.heap.size = tb at *
        have HPZ := As.mk (show tb + 1 < W3.heap.size from HPB.out.lt)
        obtain ⟨t0, t1, t2⟩ := (HT.out).c3
        obtain ⟨p0, p1, p2, p3, p4⟩ := (HPB.out).c5
        obtain ⟨i0, i1, i2, i3, i4⟩ := (HIB.out).c5
        go_wp2_with fail
        clear t0 t1 t2 p0 p1 p2 p3 p4 i0 i1 i2 i3 i4
        have hga := gr_alloc (gr_alloc (gr_refl W3 none) (.cells #[.int .i64 0, .int .i64 p.ver, .int .i64 p.val, .bool true, .int .i64 ((k : Int) + 7)] 66)) (.cells #[.int .i64 ((a : Int) + 1)] 3)
        have HG4 := As.mk (gr_then HG3.out hga (.inl rfl))
        have HB4 := As.mk (HB3.out.grown hga (by simp))
        have HL4 := As.mk (HL3.out.grown hga)
        have HT4 := As.mk (HT.out.grown hga (by simp))
        have HPB4 := As.mk (HPB.out.grown hga (by simp))
        have HI4 := As.mk (Arr.it1 (x := mIt k p) ((Blk.new W3 66 #[.int .i64 0, .int .i64 p.ver, .int .i64 p.val, .bool true, .int .i64 ((k : Int) + 7)]).alloc (.cells #[.int .i64 ((a : Int) + 1)] 3)))
        have HN4 := As.mk (Arr.in1 (x := ((a : Int) + 1)) (Blk.new2 W3 (.cells #[.int .i64 0, .int .i64 p.ver, .int .i64 p.val, .bool true, .int .i64 ((k : Int) + 7)] 66) 3 #[.int .i64 ((a : Int) + 1)]))
        clear hga HG3 HB3 HL3 HT HPB HIB HPZ
        generalize (W3.alloc (.cells #[.int .i64 0, .int .i64 p.ver, .int .i64 p.val, .bool true, .int .i64 ((k : Int) + 7)] 66)).alloc (.cells #[.int .i64 ((a : Int) + 1)] 3) = W4 at *
        have HPZ4 := As.mk (show tb + 1 < W4.heap.size from HPB4.out.lt)
        have HM1 := As.mk (m1 (i := ((a : Int) + 1)) (n := (n : Int)) (p := p) (ds := ds) (k := k) (by omega) ⟨by omega, by omega⟩ (by omega) HST.out ⟨by omega, by omega⟩ (fun d hd => (HD.out d hd).2) (by omega))
        have HM2 := As.mk (m2 (i := ((a : Int) + 1)) (n := (n : Int)) (p := p) (ds := ds) (k := k) (h := p.hop + 1) (b := ((b : Int) + 1)) ⟨by omega, by omega⟩ ⟨by omega, by omega⟩ (by omega) (by omega) HST.out (q := p))
        have HM3 := As.mk (m3 (i := ((a : Int) + 1)) (n := (n : Int)) (p := p) (ds := ds) (k := k) (by omega) ⟨by omega, by omega⟩ HD.out)
        have HM4 := As.mk (m4 (i := ((a : Int) + 1)) (n := (n : Int)) (p := (⟨p.st, p.hop, p.to_, p.ver + 1, (k : Int) + 7⟩ : PPl)) (ds := (ds ++ [⟨mT k, true⟩])) (h := p.hop + 1) (b := ((b : Int) + 1)) ⟨by omega, by omega⟩ ⟨by omega, by omega⟩ (by omega) (by omega) HST.out rfl)
        have HS1 := As.mk (inv_of HS.out HM1.out)
        have HS3 := As.mk (inv_of HS1.out HM3.out)
        have HS4 := As.mk (inv_of HS3.out HM4.out)
        obtain ⟨l1, e1, hl1, ha1, ho1⟩ := set_at ss a (mS ((a : Int) + 1) n p [⟨mT k, [mIt k p], [((a : Int) + 1)]⟩] ds) (by omega)
        obtain ⟨l3, e3, hl3, ha3, ho3⟩ := set_at l1 a (mS ((a : Int) + 1) n (⟨p.st, p.hop, p.to_, p.ver + 1, (k : Int) + 7⟩ : PPl) [] (ds ++ [⟨mT k, true⟩])) (by omega)
        obtain ⟨l4, e4, hl4, ha4, ho4⟩ := set_at l3 a (mS ((a : Int) + 1) n (⟨2, p.hop + 1, (b : Int) + 1, p.ver + 1, (k : Int) + 7⟩ : PPl) [] (ds ++ [⟨mT k, true⟩])) (by omega)
        have HE1 := As.mk e1
        have HE3 := As.mk e3
        have HE4 := As.mk e4
        have HA1 := As.mk ha1
        have HA3 := As.mk ha3
        have HA4 := As.mk ha4
        have HO4 := As.mk (show ∀ j, j ≠ a → l4[j]? = ss[j]? from fun j hj => by rw [ho4 j hj, ho3 j hj, ho1 j hj])
        have hlen1 : l1.length = n := by omega
        have hlen3 : l3.length = n := by omega
        have hlen4 : l4.length = n := by omega
        clear e1 e3 e4 ha1 ha3 ha4 ho1 ho3 ho4 hl1 hl3 hl4
        refine (do_ok (w0 := w) hlen (fun b hb => show b ≠ tb + 1 from by have := HPZ4.out; omega) HG4.out HL4.out HB4.out hA'.out HS.out (mPr k ((a : Int) + 1) p) (mS ((a : Int) + 1) n p [⟨mT k, [mIt k p], [((a : Int) + 1)]⟩] ds) HM1.out _ _ _ _ HI4.out HN4.out _ rfl).mono ?_
        rintro e w5 ⟨rfl, hg, hL, hb, hkk⟩
        have HG5 := As.mk hg
        have HB5 := As.mk hb
        have HT5 := As.mk (hkk _ _ _ HT4.out (by decide))
        have HPB5 := As.mk (hkk _ _ _ HPB4.out (by decide))
        have HPZ5 := As.mk (show tb + 1 < w5.heap.size from HPB5.out.lt)
        have HL5 := As.mk (show LRow w5 _ _ _ l1 by rw [HE1.out]; exact hL)
        clear hg hL hb hkk HG4 HB4 HL4 HT4 HPB4 HPZ4 HI4 HN4
        go_wp2_with fail
        refine (do_no (w0 := w) hlen1 (fun b hb => show b ≠ tb + 1 from by have := HPZ5.out; omega) HG5.out HL5.out HB5.out HA1.out HS1.out (mOut (p.hop + 1) ((b : Int) + 1)) 12 (by decide) HM2.out none 0 none 0 Arr.nil0 Arr.nil0 _ rfl).mono ?_
        rintro e w6 ⟨rfl, hg, hL, hb, hkk⟩
        have HG6 := As.mk hg
        have HB6 := As.mk hb
        have HT6 := As.mk (hkk _ _ _ HT5.out (by decide))
        have HPB6 := As.mk (hkk _ _ _ HPB5.out (by decide))
        have HPZ6 := As.mk (show tb + 1 < w6.heap.size from HPB6.out.lt)
        have HL6 := As.mk hL
        clear hg hL hb hkk HG5 HB5 HL5 HT5 HPB5 HPZ5
        obtain ⟨t0, t1, t2⟩ := (HT6.out).c3
        go_wp2_with fail
        clear t0 t1 t2
        refine (do_ok (w0 := w) hlen1 (fun b hb => show b ≠ tb + 1 from by have := HPZ6.out; omega) HG6.out HL6.out HB6.out HA1.out HS1.out (doneR (mT k) true) (mS ((a : Int) + 1) n (⟨p.st, p.hop, p.to_, p.ver + 1, (k : Int) + 7⟩ : PPl) [] (ds ++ [⟨mT k, true⟩])) HM3.out none 0 none 0 Arr.nil0 Arr.nil0 _ rfl).mono ?_
        rintro e w7 ⟨rfl, hg, hL, hb, hkk⟩
        have HG7 := As.mk hg
        have HB7 := As.mk hb
        have HPB7 := As.mk (hkk _ _ _ HPB6.out (by decide))
        have HPZ7 := As.mk (show tb + 1 < w7.heap.size from HPB7.out.lt)
        have HL7 := As.mk (show LRow w7 _ _ _ l3 by rw [HE3.out]; exact hL)
        clear hg hL hb hkk HG6 HB6 HL6 HT6 HPB6 HPZ6
        go_wp2_with fail
        refine (do_ok (w0 := w) hlen3 (fun b hb => show b ≠ tb + 1 from by have := HPZ7.out; omega) HG7.out HL7.out HB7.out HA3.out HS3.out (mOut (p.hop + 1) ((b : Int) + 1)) (mS ((a : Int) + 1) n (⟨2, p.hop + 1, (b : Int) + 1, p.ver + 1, (k : Int) + 7⟩ : PPl) [] (ds ++ [⟨mT k, true⟩])) HM4.out none 0 none 0 Arr.nil0 Arr.nil0 _ rfl).mono ?_
        rintro e w8 ⟨rfl, hg, hL, hb, hkk⟩
        have HG8 := As.mk hg
        have HB8 := As.mk hb
        have HPB8 := As.mk (hkk _ _ _ HPB7.out (by decide))
        have HPZ8 := As.mk (show tb + 1 < w8.heap.size from HPB8.out.lt)
        have HL8 := As.mk (show LRow w8 _ _ _ l4 by rw [HE4.out]; exact hL)
        clear hg hL hb hkk HG7 HB7 HL7 HPB7 HPZ7
        obtain ⟨gpz, cpz, vQ, vD, vC, hrd, hz, hy, ⟨a2z, c2z, rfl⟩, ⟨a3z, c3z, rfl⟩, ⟨a4z, c4z, rfl⟩, hcp1z, hcp2z⟩ := HL8.out.at_ hlen4 HA4.out rfl
        obtain ⟨z0, z1, z2, z3, z4, z5, z6, z7⟩ := hz
        obtain ⟨y0, y1, y2, y3, y4⟩ := hy
        have HRD := As.mk hrd
        clear hrd
        have q0 := HB8.out.c1
        go_wp2_with fail
        clear q0 z0 z1 z2 z3 z4 z5 z6 z7 y0 y1 y2 y3 y4
        refine (owns_c w8 (mS ((a : Int) + 1) n (⟨2, p.hop + 1, (b : Int) + 1, p.ver + 1, (k : Int) + 7⟩ : PPl) [] (ds ++ [⟨mT k, true⟩])) _ _ _ _ HRD.out 0 false rfl).mono ?_
        rintro e w9 ⟨rfl, hg⟩
        have HG9 := As.mk (gr_then HG8.out hg (.inl rfl))
        have HB9 := As.mk (HB8.out.grown hg (by simp))
        have HL9 := As.mk (HL8.out.grown hg)
        have HPB9 := As.mk (HPB8.out.grown hg (by simp))
        clear hg HG8 HB8 HL8 HPB8 HPZ8 HRD
        obtain ⟨gpy, cpy, vQ, vD, vC, hrd, hz, hy, ⟨a2y, c2y, rfl⟩, ⟨a3y, c3y, rfl⟩, ⟨a4y, c4y, rfl⟩, hcp1y, hcp2y⟩ := HL9.out.at_ hlen4 HA4.out rfl
        obtain ⟨z0, z1, z2, z3, z4, z5, z6, z7⟩ := hz
        obtain ⟨y0, y1, y2, y3, y4⟩ := hy
        have HRD := As.mk hrd
        clear hrd
        have q0 := HB9.out.c1
        obtain ⟨p0, p1, p2, p3, p4⟩ := (HPB9.out).c5
        have fp0 := HPB9.out.free 0
        have fp1 := HPB9.out.free 1
        have fp2 := HPB9.out.free 2
        have fp3 := HPB9.out.free 3
        have fp4 := HPB9.out.free 4
        go_upto_region 31 with fail
        clear p0 p1 p2 p3 p4 fp0 fp1 fp2 fp3 fp4 HRD
        clear q0 z0 z1 z2 z3 z4 z5 z6 z7 y0 y1 y2 y3 y4
        have HGP := As.mk (show w9.grownBy (((((w9.setCell ⟨tb + 1, 0, none⟩ (.int .i64 (2))).setCell ⟨tb + 1, 1, none⟩ (.int .i64 (p.hop + 1))).setCell ⟨tb + 1, 2, none⟩ (.int .i64 ((b : Int) + 1))).setCell ⟨tb + 1, 3, none⟩ (.int .i64 (p.ver + 1))).setCell ⟨tb + 1, 4, none⟩ (.int .i64 ((k : Int) + 7))) (some (tb + 1)) from (gr_set (gr_set (gr_set (gr_set (gr_set (gr_refl w9 (some (tb + 1))) (a := ⟨tb + 1, 0, none⟩) (.inl rfl) (.int .i64 (2))) (a := ⟨tb + 1, 1, none⟩) (.inl rfl) (.int .i64 (p.hop + 1))) (a := ⟨tb + 1, 2, none⟩) (.inl rfl) (.int .i64 ((b : Int) + 1))) (a := ⟨tb + 1, 3, none⟩) (.inl rfl) (.int .i64 (p.ver + 1))) (a := ⟨tb + 1, 4, none⟩) (.inl rfl) (.int .i64 ((k : Int) + 7))))
        have HG10 := As.mk (gr_then HG9.out HGP.out (.inr (.inr fun k e => by injection e with e; subst e; exact HPL.out)))
        have HB10 := As.mk (HB9.out.grown HGP.out (fun e => by injection e with e; exact Blk.ne HB9.out HPB9.out (by decide) e))
        have HL10 := As.mk (HL9.out.place HPB9.out HGP.out)
        have HPB10 := As.mk (HPB9.out.set5 (.int .i64 (2)) (.int .i64 (p.hop + 1)) (.int .i64 ((b : Int) + 1)) (.int .i64 (p.ver + 1)) (.int .i64 ((k : Int) + 7)))
        clear HGP HG9 HB9 HL9 HPB9
        generalize (((((w9.setCell ⟨tb + 1, 0, none⟩ (.int .i64 (2))).setCell ⟨tb + 1, 1, none⟩ (.int .i64 (p.hop + 1))).setCell ⟨tb + 1, 2, none⟩ (.int .i64 ((b : Int) + 1))).setCell ⟨tb + 1, 3, none⟩ (.int .i64 (p.ver + 1))).setCell ⟨tb + 1, 4, none⟩ (.int .i64 ((k : Int) + 7))) = W10 at *
        have HPZ10 := As.mk (show tb + 1 < W10.heap.size from HPB10.out.lt)
        obtain ⟨sB, hB⟩ : ∃ s, ss[b]? = some s := ⟨_, List.getElem?_eq_getElem (by omega)⟩
        obtain ⟨hSB, pb, db, rfl, hdb, _, hbp0, hbp1, hbv0, hbv1, _, hbn'⟩ := HM.out.each b sB hB
        have HSB := As.mk hSB
        have HNB := As.mk (hbn' hba)
        have HBB := As.mk hB
        have HB4' := As.mk ((HO4.out b hba).trans hB)
        clear hSB hdb hbn' hB
        have HM5 := As.mk (m5 (i := ((b : Int) + 1)) (n := (n : Int)) (p := pb) (ds := db) (h := p.hop + 1) (v := p.ver + 1) (a := (k : Int) + 7) ⟨by omega, by omega⟩ ⟨by omega, by omega⟩ HNB.out (by omega))
        have HM6 := As.mk (m6 (i := ((b : Int) + 1)) (n := (n : Int)) (p := (⟨1, p.hop + 1, 0, p.ver + 1, (k : Int) + 7⟩ : PPl)) (ds := db) (h := p.hop + 1) (v := p.ver + 1) (a := 0) ⟨by omega, by omega⟩ ⟨by omega, by omega⟩ rfl)
        have HM7 := As.mk (m7 (i := ((a : Int) + 1)) (n := (n : Int)) (p := (⟨2, p.hop + 1, (b : Int) + 1, p.ver + 1, (k : Int) + 7⟩ : PPl)) (ds := (ds ++ [⟨mT k, true⟩])) (h := p.hop + 1) ⟨by omega, by omega⟩ rfl rfl)
        have HM8 := As.mk (m8 (i := ((a : Int) + 1)) (n := (n : Int)) (p := (⟨0, p.hop + 1, 0, 0, 0⟩ : PPl)) (ds := (ds ++ [⟨mT k, true⟩])) (h := p.hop + 1) ⟨by omega, by omega⟩ (show (0 : Int) ≠ 2 by decide))
        have HS5 := As.mk (inv_of HSB.out HM5.out)
        have HS6 := As.mk (inv_of HS4.out HM7.out)
        obtain ⟨l5, e5, hl5, ha5, ho5⟩ := set_at l4 b (mS ((b : Int) + 1) n (⟨1, p.hop + 1, 0, p.ver + 1, (k : Int) + 7⟩ : PPl) [] db) (by omega)
        obtain ⟨l6, e6, hl6, ha6, ho6⟩ := set_at l5 a (mS ((a : Int) + 1) n (⟨0, p.hop + 1, 0, 0, 0⟩ : PPl) [] (ds ++ [⟨mT k, true⟩])) (by omega)
        have HE5 := As.mk e5
        have HE6 := As.mk e6
        have HA5 := As.mk ha5
        have HA6 := As.mk ha6
        have HA5' := As.mk (show l5[a]? = some (mS ((a : Int) + 1) n (⟨2, p.hop + 1, (b : Int) + 1, p.ver + 1, (k : Int) + 7⟩ : PPl) [] (ds ++ [⟨mT k, true⟩])) by rw [ho5 a (fun e => hba e.symm)]; exact HA4.out)
        have HA6' := As.mk (show l6[b]? = some (mS ((b : Int) + 1) n (⟨1, p.hop + 1, 0, p.ver + 1, (k : Int) + 7⟩ : PPl) [] db) by rw [ho6 b hba]; exact ha5)
        have HO5 := As.mk (show ∀ j, j ≠ a → j ≠ b → l5[j]? = ss[j]? from fun j h1 h2 => by rw [ho5 j h2, HO4.out j h1])
        have HO6 := As.mk (show ∀ j, j ≠ a → j ≠ b → l6[j]? = ss[j]? from fun j h1 h2 => by rw [ho6 j h1, ho5 j h2, HO4.out j h1])
        have hlen5 : l5.length = n := by omega
        have hlen6 : l6.length = n := by omega
        have hbI : (b : Int) < (n : Int) := by omega
        have hb0 : (0 : Int) ≤ (b : Int) := by omega
        clear e5 e6 ha5 ha6 ho5 ho6 hl5 hl6
        obtain ⟨p0, p1, p2, p3, p4⟩ := (HPB10.out).c5
        go_wp2_with fail
        clear p0 p1 p2 p3 p4
        refine (do_ok (w0 := w) hlen4 (fun b hb => show b ≠ tb + 1 from by have := HPZ10.out; omega) HG10.out HL10.out HB10.out HB4'.out HSB.out (mIn (p.hop + 1) (p.ver + 1) ((k : Int) + 7)) (mS ((b : Int) + 1) n (⟨1, p.hop + 1, 0, p.ver + 1, (k : Int) + 7⟩ : PPl) [] db) HM5.out none 0 none 0 Arr.nil0 Arr.nil0 _ rfl).mono ?_
        rintro e w11 ⟨rfl, hg, hL, hb, hkk⟩
        have HG11 := As.mk hg
        have HB11 := As.mk hb
        have HPB11 := As.mk (hkk _ _ _ HPB10.out (by decide))
        have HPZ11 := As.mk (show tb + 1 < w11.heap.size from HPB11.out.lt)
        have HL11 := As.mk (show LRow w11 _ _ _ l5 by rw [HE5.out]; exact hL)
        clear hg hL hb hkk HG10 HB10 HL10 HPB10 HPZ10
        obtain ⟨p0, p1, p2, p3, p4⟩ := (HPB11.out).c5
        go_wp2_with fail
        clear p0 p1 p2 p3 p4
        refine (do_no (w0 := w) hlen5 (fun b hb => show b ≠ tb + 1 from by have := HPZ11.out; omega) HG11.out HL11.out HB11.out HA5.out HS5.out (mIn (p.hop + 1) (p.ver + 1) 0) 9 (by decide) HM6.out none 0 none 0 Arr.nil0 Arr.nil0 _ rfl).mono ?_
        rintro e w12 ⟨rfl, hg, hL, hb, hkk⟩
        have HG12 := As.mk hg
        have HB12 := As.mk hb
        have HPB12 := As.mk (hkk _ _ _ HPB11.out (by decide))
        have HPZ12 := As.mk (show tb + 1 < w12.heap.size from HPB12.out.lt)
        have HL12 := As.mk hL
        clear hg hL hb hkk HG11 HB11 HL11 HPB11 HPZ11
        go_upto_region 33 with fail
        go_cut [177] from 160 to 177 (fun v wx => v = .bool false ∧ ∃ q l', As ((q = (⟨2, p.hop + 1, (b : Int) + 1, p.ver + 1, (k : Int) + 7⟩ : PPl) ∨ q = (⟨0, p.hop + 1, 0, 0, 0⟩ : PPl)) ∧ w.grownBy wx none ∧ Blk wx lb 69 #[(.slice (some ⟨g, 0, none⟩) n cap)] ∧ LRow wx w.heap.size (fun b => b ≠ tb + 1) (.slice (some ⟨g, 0, none⟩) n cap) l' ∧ l'.length = n ∧ l'[a]? = some (mS ((a : Int) + 1) n q [] (ds ++ [⟨mT k, true⟩])) ∧ SInv (mS ((a : Int) + 1) n q [] (ds ++ [⟨mT k, true⟩])) ∧ l'[b]? = some (mS ((b : Int) + 1) n (⟨1, p.hop + 1, 0, p.ver + 1, (k : Int) + 7⟩ : PPl) [] db) ∧ ∀ j, j ≠ a → j ≠ b → l'[j]? = ss[j]?))
        case first =>
          by_cases h3 : 0 < (k : Int) % 3
          · go_wp2_with fail
            refine (do_ok (w0 := w) hlen5 (fun b hb => show b ≠ tb + 1 from by have := HPZ12.out; omega) HG12.out HL12.out HB12.out HA5'.out HS4.out (mGone (p.hop + 1)) (mS ((a : Int) + 1) n (⟨0, p.hop + 1, 0, 0, 0⟩ : PPl) [] (ds ++ [⟨mT k, true⟩])) HM7.out none 0 none 0 Arr.nil0 Arr.nil0 _ rfl).mono ?_
            rintro e w13 ⟨rfl, hg, hL, hb, hkk⟩
            have HG13 := As.mk hg
            have HB13 := As.mk hb
            have HPB13 := As.mk (hkk _ _ _ HPB12.out (by decide))
            have HPZ13 := As.mk (show tb + 1 < w13.heap.size from HPB13.out.lt)
            have HL13 := As.mk (show LRow w13 _ _ _ l6 by rw [HE6.out]; exact hL)
            clear hg hL hb hkk HG12 HB12 HL12 HPB12 HPZ12
            go_wp2_with fail
            refine (do_no (w0 := w) hlen6 (fun b hb => show b ≠ tb + 1 from by have := HPZ13.out; omega) HG13.out HL13.out HB13.out HA6.out HS6.out (mGone (p.hop + 1)) 8 (by decide) HM8.out none 0 none 0 Arr.nil0 Arr.nil0 _ rfl).mono ?_
            rintro e w14 ⟨rfl, hg, hL, hb, hkk⟩
            have HG14 := As.mk hg
            have HB14 := As.mk hb
            have HPB14 := As.mk (hkk _ _ _ HPB13.out (by decide))
            have HPZ14 := As.mk (show tb + 1 < w14.heap.size from HPB14.out.lt)
            have HL14 := As.mk hL
            clear hg hL hb hkk HG13 HB13 HL13 HPB13 HPZ13
            go_wp2_with fail
            go_meet
            case rel => exact ⟨rfl, _, l6, ⟨.inr rfl, HG14.out, HB14.out, HL14.out, hlen6, HA6.out, HS6.out, HA6'.out, HO6.out⟩⟩
          · go_wp2_with fail
            go_meet
            case rel => exact ⟨rfl, _, l5, ⟨.inl rfl, HG12.out, HB12.out, HL12.out, hlen5, HA5'.out, HS4.out, HA5.out, HO5.out⟩⟩
        case rest =>
          obtain ⟨rfl, q, l', HC⟩ := hcut
          obtain ⟨hq, hg, hb, hL, hl', hla, hia, hlb, hlo'⟩ := HC.out
          clear HC HL12 HB12 HG12 HPB12 HPZ12
          have HG15 := As.mk hg
          have HB15 := As.mk hb
          have HL15 := As.mk hL
          have HQ := As.mk hq
          have HLA := As.mk hla
          have HIA := As.mk hia
          have HLBB := As.mk hlb
          have HLOO := As.mk hlo'
          have HMN := As.mk (HM.out.next hbn hba hA'.out HBB.out hl' hq hla hlb hlo' hia HS5.out)
          clear hq hg hb hL hla hia hlb hlo'
          have HOWN := As.mk (show ownN l' b from fun j s hj => by
            obtain ⟨_, pj, dj, rfl, _, _, _, _, _, _, hj1, hj2⟩ := HMN.out.each j s hj
            refine ⟨pj, rfl, ?_⟩
            rw [m_owns]
            by_cases e : j = b
            · rw [(hj1 e).1, decide_eq_true e]; rfl
            · rw [decide_eq_false e]
              simpa using hj2 e)
          have q0 := HB15.out.c1
          go_wp2_with fail
          clear q0
          refine moves_l3 w _ lb n g cap b l' hl' hn2 hcap HB15.out (fun b => b ≠ tb + 1) HL15.out hbn HOWN.out ?_
          intro v21 v181 v182 v183 v184 v185 v186 v187 v188 v189 v190 v191 wi HV
          have HG16 := As.mk (gr_then HG15.out HV.out (.inl rfl))
          have HB16 := As.mk (HB15.out.grown HV.out (by simp))
          have HL16 := As.mk (HL15.out.grown HV.out)
          clear HG15 HB15 HL15 HV
          obtain ⟨gpu, cpu, vQ, vD, vC, hrd, hz, hy, ⟨a2u, c2u, rfl⟩, ⟨a3u, c3u, rfl⟩, ⟨a4u, c4u, rfl⟩, hcp1u, hcp2u⟩ := HL16.out.at_ hl' HLBB.out rfl
          obtain ⟨z0, z1, z2, z3, z4, z5, z6, z7⟩ := hz
          obtain ⟨y0, y1, y2, y3, y4⟩ := hy
          have HRD := As.mk hrd
          clear hrd
          have q0 := HB16.out.c1
          go_wp2_with fail
          clear q0 z0 z1 z2 z3 z4 z5 z6 z7 y0 y1 y2 y3 y4
          refine (owns_c wi (mS ((b : Int) + 1) n (⟨1, p.hop + 1, 0, p.ver + 1, (k : Int) + 7⟩ : PPl) [] db) _ _ _ _ HRD.out 0 true rfl).mono ?_
          rintro e w17 ⟨rfl, hg⟩
          have HG17 := As.mk (gr_then HG16.out hg (.inl rfl))
          have HB17 := As.mk (HB16.out.grown hg (by simp))
          have HL17 := As.mk (HL16.out.grown hg)
          clear hg HG16 HB16 HL16 HRD
          obtain ⟨gpw, cpw, vQ, vD, vC, hrd, hz, hy, ⟨a2w, c2w, rfl⟩, ⟨a3w, c3w, rfl⟩, ⟨a4w, c4w, rfl⟩, hcp1w, hcp2w⟩ := HL17.out.at_ hl' HLBB.out rfl
          obtain ⟨z0, z1, z2, z3, z4, z5, z6, z7⟩ := hz
          obtain ⟨y0, y1, y2, y3, y4⟩ := hy
          have HRD := As.mk hrd
          clear hrd
          have q0 := HB17.out.c1
          go_wp2_with fail
          clear q0 z0 z1 z2 z3 z4 z5 z6 z7 y0 y1 y2 y3 y4
          go_roundw
          case measure => simp [intOf]; omega
          case rel => exact ⟨k + 1, b, p.hop + 1, (k : Int) + 7, l', by omega, rfl, rfl, rfl, by go_num, ⟨HG17.out, HB17.out, HL17.out.weak (fun _ _ _ => trivial), HMN.out⟩⟩
    · obtain rfl : k = ts.length := by omega
      go_wp2_with fail
      exact HEX.out _ _ _ _ _ _ _ _ _ _ _ _ _ _ _ _ _ _ _ _ _ _ _ _ _ _ _ _ _ _ _ _ _ _ _ _ _ _ _ _ _ _ _ _ _ _ _ _ _ _ _ _ _ _ _ _ _ _ _ _ _ _ _ _ _ _ _ _ _ _ _ _ _ _ _ _ _ _ _ _ _ _ _ _ _ _ _ _ _ _ _ _ _ _ _ _ _ _ _ _ _ _ _ _ _ _ _ _ _ _ _ _ _ _ _ _ _ _ _ _ _ _ _ _ _ _ _ _ _ _ _ _ _ _ _ _ _ _ _ _ _ _ _ _ _ _ _ _ _ _ _ _ _ _ _ _ _ _ _ _ _ _ _ _ _ _ _ _ _ _ _ _ _ _ _ _ _ _ _ _ _ _ _ _ _ _ _ _ _ HG
end
section
open Go.RowKit
set_option linter.unusedVariables false
set_option linter.unusedSimpArgs false
set_option maxRecDepth 100000


theorem wf_u8 {x : Int} (h : (Lit.int .u8 x).wf = true) : 0 ≤ x ∧ x < 256 := by
  simp [Lit.wf, IntKind.min, IntKind.max, IntKind.signed, IntKind.bits] at h
  omega
theorem b_trod {H : Type} {enc : TypeId × Value → H} {P : Program} {W : World} {base : Nat} {held : Bool} {e : TypeId} (he : P.underlying e = some (.int .u8))
    (cs : List Value) (n : Nat) (D : DataW H) (pl : List MemPlace) (h : DataW.trod enc P W base (fun _ => true) held n e cs = some (D, pl)) (hsz : ∀ m ∈ D.weights P e, m ≤ reachBytes) : ∃ x, BE W x cs ∧ (Lit.int .u8 x).wf = true := by
  obtain ⟨k, k1, _, k3⟩ := DataW.trod_int he h
  exact ⟨k, k1, k3⟩
theorem LRow.caps {w : World} {B g n cap : Nat} {N : Nat → Prop} {ss : List PSt} (h : LRow w B N (.slice (some ⟨g, 0, none⟩) n cap) ss) (hn : ss.length = n) : n ≤ cap ∧ cap ≤ 9223372036854775807 := by
  subst hn
  obtain ⟨qs, ho, _, _⟩ := h
  obtain ⟨_, _, _, _, h1, h2⟩ := own_whole ho
  exact ⟨h1, by simp only [maxLen] at h2; omega⟩
set_option maxHeartbeats 6400000 in
theorem moves_walk (w : World) (nb : Int) (v1 : Value) (ts : List Int) (hnb : (Lit.int .u8 nb).wf = true) (hx : ∀ x ∈ ts, (Lit.int .u8 x).wf = true) (hl : Arr BE 1 w v1 ts) :
    Calls Try.prog 6 #[.int .u8 nb, v1] w fun e w' => e = .returned (.bool true) ∧ w.grownBy w' none := by
  obtain ⟨AL, cL, rfl⟩ := hl.len
  obtain ⟨hb0, hb1⟩ := wf_u8 hnb
  have HX := As.mk (fun x (h : x ∈ ts) => wf_u8 (hx x h))
  have HLL := As.mk (And.intro hl.le hl.cap)
  have HL := As.mk hl
  clear hl hnb hx
  go_enter Try.func6, Try.ntmps6
  go_wp2_with fail
  refine (awake_c w).mono ?_
  rintro e w1 ⟨rfl, hg1⟩
  have HG := As.mk hg1
  clear hg1
  go_upto_region 4 with fail
  have hnn : 2 ≤ 2 + nb % 15 ∧ 2 + nb % 15 ≤ 16 := by omega
  generalize 2 + nb % 15 = ni at *
  obtain ⟨n, rfl⟩ : ∃ n : Nat, ni = (n : Int) := ⟨ni.toNat, by omega⟩
  have hn : 2 ≤ n ∧ n ≤ 16 := by omega
  clear hnn
  by_cases h40 : (40 : Int) < (ts.length : Int)
  · go_wp2_with fail
    go_ret
    exact ⟨rfl, HG.out⟩
  · have hcl := HLL.out.1
    go_wp2_with fail
    refine moves_l1 w _ w1.heap.size n hn (gr_alloc HG.out (.cells #[.slice none 0 0] 69)) (Blk.new w1 69 #[.slice none 0 0]) HG.out.size ?_
    intro u4 u7 u8 u9 u31 u32 u33 u34 u35 u36 u37 u38 u39 u40 u41 u42 u43 u44 u45 u46 u47 wi g cap HXX
    obtain ⟨hg2, hb2, hl2⟩ := HXX.out
    have HG2 := As.mk hg2
    have HB2 := As.mk hb2
    have HL2 := As.mk hl2
    clear HXX hg2 hb2 hl2
    generalize w1.heap.size = lb at *
    go_wp2_with fail
    refine moves_l2 w _ lb n g cap AL cL ts hn (HL2.out.caps (made_len n n)) (by omega) HX.out HL.out HG2.out HB2.out HL2.out ?_
    intro v4 v10 v11 v12 v14 v15 v16 v17 v18 v19 v20 v21 v51 v52 v53 v54 v55 v56 v57 v58 v59 v60 v61 v62 v63 v64 v65 v66 v67 v68 v69 v70 v71 v72 v73 v74 v75 v76 v77 v78 v79 v80 v81 v82 v83 v84 v85 v86 v87 v88 v89 v90 v91 v92 v93 v94 v95 v96 v97 v98 v99 v100 v101 v102 v103 v104 v105 v106 v107 v108 v109 v110 v111 v112 v113 v114 v115 v116 v117 v118 v119 v120 v121 v122 v123 v124 v125 v126 v127 v128 v129 v130 v131 v132 v133 v134 v135 v136 v137 v138 v139 v140 v141 v142 v143 v144 v145 v146 v147 v148 v149 v150 v151 v152 v153 v154 v155 v156 v157 v158 v159 v160 v161 v162 v163 v164 v165 v166 v167 v168 v169 v170 v171 v172 v173 v174 v175 v176 v177 v178 v179 v180 v181 v182 v183 v184 v185 v186 v187 v188 v189 v190 v191 v192 v193 v194 v195 v196 v197 v198 v199 v200 v201 v202 v203 v204 v205 v206 v207 v208 v209 v210 v211 v212 v213 v214 v215 v216 v217 v218 v219 v220 v221 v222 v223 v224 v225 v226 wj HV
    go_wp2_with fail
    go_ret
    exact ⟨rfl, HV.out⟩
end
end Go.Proofs.Ytdmkijdbldcdiaa
