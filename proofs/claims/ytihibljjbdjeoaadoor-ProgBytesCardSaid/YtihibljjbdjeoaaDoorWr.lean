/- The walks of strings.Builder where it is the head of a struct of the call's own (wire's Writer, a page, a Builder): copyCheck, WriteByte. -/
import Derived.Test.YtihibljjbdjeoaaDoorBase
import Derived.Lib.Builder
import Derived.Maps.AppendAt
import Derived.Laws.Externs
import Derived.Laws.Entries
namespace Go.Proofs.YtihibljjbdjeoaaDoor
open Go.RowKit
set_option linter.unusedVariables false

def byteVals (l : List UInt8) : List Value := l.map fun x => .int .u8 ((x.toNat : Nat) : Int)
/-- A Builder at the head of block b (of type T; behind it the cells ex), the call's own (blocks from B on): what was put is l; its buffer is v. -/
structure WrAt (w : World) (B b : Nat) (T : TypeId) (ex : List Value) (v : Value) (l : List UInt8) : Prop where
  low : B ≤ b
  base : B ≤ w.heap.size
  blk : ∃ p, (p = .pointer none ∨ p = .pointer (some ⟨b, 0, none⟩)) ∧ Blk w b T (p :: v :: ex).toArray
  row : w.ownsRow B 5 1 v l.length (byteVals l)
/-- What its methods leave as it was. -/
structure WrG (w w' : World) (b : Nat) (v v' : Value) : Prop where
  os : w'.os = w.os
  tape : w'.tape = w.tape
  output : w'.output = w.output
  size : w.heap.size ≤ w'.heap.size
  old : ∀ k, k < w.heap.size → k ≠ b → v.ownBlock ≠ some k → w'.heap[k]? = w.heap[k]? ∧ v'.ownBlock ≠ some k
theorem WrG.refl (w : World) (b : Nat) (v : Value) : WrG w w b v v := ⟨rfl, rfl, rfl, Nat.le_refl _, fun _ _ _ h => ⟨rfl, h⟩⟩
theorem WrG.comp {w w1 w2 : World} {b : Nat} {v v1 v2 : Value} (h : WrG w w1 b v v1) (h' : WrG w1 w2 b v1 v2) : WrG w w2 b v v2 :=
  ⟨h'.os.trans h.os, h'.tape.trans h.tape, h'.output.trans h.output, Nat.le_trans h.size h'.size, fun k hk hb hv => by
    have h1 := h.old k hk hb hv
    have h2 := h'.old k (Nat.lt_of_lt_of_le hk h.size) hb h1.2
    exact ⟨h2.1.trans h1.1, h2.2⟩⟩
theorem WrG.alloc {w w' : World} {b : Nat} {v v' : Value} (h : WrG w w' b v v') (o : Obj) : WrG w (w'.alloc o) b v v' :=
  ⟨h.os, h.tape, h.output, by have := h.size; simp; omega, fun k hk hb hv => ⟨by
    have := h.size
    rw [show (w'.alloc o).heap = w'.heap.push o from rfl, Array.getElem?_push, if_neg (by omega)]; exact (h.old k hk hb hv).1, (h.old k hk hb hv).2⟩⟩
theorem WrG.drew {w w' : World} {b : Nat} {v v' : Value} (h : WrG w w' b v v') : WrG w w'.drew b v v' := ⟨h.os, h.tape, h.output, h.size, h.old⟩
theorem WrG.ofgr {w w' : World} {b : Nat} {v : Value} (h : w.grownBy w' (some b)) : WrG w w' b v v := ⟨h.os, h.tape, h.output, h.size, fun k hk hb hv => ⟨h.block k hk (by simpa using hb), hv⟩⟩
theorem WrG.ofnone {w w' : World} {b : Nat} {v : Value} (h : w.grownBy w' none) : WrG w w' b v v := ⟨h.os, h.tape, h.output, h.size, fun k hk hb hv => ⟨h.block k hk (by simp), hv⟩⟩
/-- From a world ahead of the Builder. -/
theorem WrG.gr {w0 w w' : World} {b : Nat} {v v' : Value} (h : WrG w w' b v v') {row : Option Nat} (h0 : w0.grownBy w row) (hb : w0.heap.size ≤ b) (hv : ∀ k, v.ownBlock = some k → w0.heap.size ≤ k) : w0.grownBy w' row :=
  ⟨h.os.trans h0.os, h.tape.trans h0.tape, h.output.trans h0.output, Nat.le_trans h0.size h.size, fun k hk hr => by
    have := h0.size
    exact (h.old k (by omega) (by omega) (fun e => by have := hv k e; omega)).1.trans (h0.block k hk hr)⟩
theorem Blk.wr {w w' : World} {b : Nat} {v v' : Value} {k : Nat} {t : TypeId} {cs : Array Value} (h : Blk w k t cs) (g : WrG w w' b v v') (hb : k ≠ b) (hv : v.ownBlock ≠ some k) : Blk w' k t cs := (g.old k h.lt hb hv).1.trans h
theorem WrAt.ne {w : World} {B b : Nat} {T : TypeId} {ex : List Value} {v : Value} {l : List UInt8} (h : WrAt w B b T ex v l) {k : Nat} {t : TypeId} {cs : Array Value} (hk : Blk w k t cs) (ht : t ≠ 5) : v.ownBlock ≠ some k :=
  Ne.symm (own_ne hk h.row ht)
theorem WrAt.lt {w : World} {B b : Nat} {T : TypeId} {ex : List Value} {v : Value} {l : List UInt8} (h : WrAt w B b T ex v l) : b < w.heap.size := by
  obtain ⟨p, _, h2⟩ := h.blk
  exact h2.lt
theorem WrAt.new_ne {w : World} {B b : Nat} {T : TypeId} {ex : List Value} {v : Value} {l : List UInt8} (h : WrAt w B b T ex v l) : v.ownBlock ≠ some w.heap.size := Ne.symm (own_new_ne h.row)
theorem own_alloc' {w : World} {base : Nat} {e : TypeId} {size n : Nat} {v : Value} {xs : List Value} (h : w.ownsRow base e size v n xs) (o : Obj) : (w.alloc o).ownsRow base e size v n xs :=
  own_grown h (gr_alloc (gr_refl w none) o) (by rcases hv : v.ownBlock with _ | x; exact .inl rfl; exact .inr (by simp))
theorem WrAt.alloc {w : World} {B b : Nat} {T : TypeId} {ex : List Value} {v : Value} {l : List UInt8} (h : WrAt w B b T ex v l) (o : Obj) : WrAt (w.alloc o) B b T ex v l :=
  ⟨h.low, by have := h.base; simp; omega, let ⟨p, h1, h2⟩ := h.blk; ⟨p, h1, h2.alloc o⟩, own_alloc' h.row o⟩
theorem WrAt.gr {w w' : World} {B b : Nat} {T : TypeId} {ex : List Value} {v : Value} {l : List UInt8} (h : WrAt w B b T ex v l) {row : Option Nat} (g : w.grownBy w' row) (hb : some b ≠ row) (hv : v.ownBlock = none ∨ v.ownBlock ≠ row) : WrAt w' B b T ex v l :=
  ⟨h.low, Nat.le_trans h.base g.size, let ⟨p, h1, h2⟩ := h.blk; ⟨p, h1, h2.grown g hb⟩, own_grown h.row g hv⟩
theorem WrAt.gr0 {w w' : World} {B b : Nat} {T : TypeId} {ex : List Value} {v : Value} {l : List UInt8} (h : WrAt w B b T ex v l) (g : w.grownBy w' none) : WrAt w' B b T ex v l :=
  h.gr g (by simp) (by rcases hv : v.ownBlock with _ | x; exact .inl rfl; exact .inr (by simp))
theorem WrAt.store {w : World} {B b : Nat} {T : TypeId} {ex : List Value} {v : Value} {l : List UInt8} (h : WrAt w B b T ex v l) {a : Addr} (hb : b ≠ a.block) (hv : v.ownBlock ≠ some a.block) (u : Value) : WrAt (w.setCell a u) B b T ex v l :=
  ⟨h.low, by have := h.base; simpa [World.setCell] using this, let ⟨p, h1, h2⟩ := h.blk; ⟨p, h1, h2.far hb u⟩, own_far h.row (Ne.symm hv) u⟩
theorem infoU8 : (Tryd.prog.info? 5).map (fun i => (i.zero, i.size, i.bytes)) = some (some (.int .u8 0), 1, 1) := by kernel_rfl
theorem infoBuilder : (Tryd.prog.info? 73).map (fun i => i.size) = some 2 := by kernel_rfl
/-- A type at whose head a Builder lies. -/
structure Heads (T : TypeId) (n : Nat) : Prop where
  lies : liesAt Tryd.prog Tryd.prog.depth T ((n + 1 + 1) / Tryd.prog.cellsOf T) 0 73 1 = true
  ne : T ≠ 5
set_option maxRecDepth 100000 in
set_option maxHeartbeats 1000000 in
theorem cc_c {w : World} {b : Nat} {T : TypeId} {ex : List Value} {p v : Value} (H : Heads T ex.length) (hp : p = .pointer none ∨ p = .pointer (some ⟨b, 0, none⟩)) (h : Blk w b T (p :: v :: ex).toArray) :
    Calls Tryd.prog 64 #[.pointer (some ⟨b, 0, none⟩)] w fun e w' => e = .returned (.tuple #[]) ∧ Blk w' b T (.pointer (some ⟨b, 0, none⟩) :: v :: ex).toArray ∧ w.grownBy w' (some b) := by
  obtain ⟨j, hj, hjs⟩ := Option.map_eq_some_iff.1 infoBuilder
  have c0 : w.cell? ⟨b, 0, none⟩ = some p := h.cell 0
  have f0 := h.free 0
  have hsh : w.shape? b = some (T, ex.length + 1 + 1) := by
    unfold World.shape?
    rw [show w.heap[b]? = _ from h]
    rfl
  have M := As.mk h
  clear h
  rcases hp with rfl | rfl
  · have hto := Lib.run_to_unsafe (P := Tryd.prog) w (src := 70) (dst := 129) ⟨b, 0, none⟩ Tryd.underlying70 Tryd.underlying129 hj (by rw [hjs]; decide) hsh (Nat.zero_lt_succ _)
    have hfrom := Lib.run_from_unsafe (P := Tryd.prog) w (src := 129) (dst := 70) ⟨b, 0, none⟩ Tryd.underlying129 Tryd.underlying70 hj hsh H.lies
    have hne : ∀ x w, (callFunc 75 #[x]).run Tryd.prog w = .ok (.value x) w := fun x w => by
      obtain ⟨fn, hfn⟩ : ∃ fn, Tryd.prog.funcs[75]? = some fn := ⟨_, Tryd.func75⟩
      have hfn' : fn = _ := Option.some.inj (hfn.symm.trans Tryd.func75)
      subst hfn'
      rw [run_callFunc_extern hfn (by kernel_rfl) (by kernel_rfl) (by kernel_rfl) (e := Extern.AbiNoEscape.same) (by kernel_rfl)]
      rfl
    clear hsh hj hjs
    go_enter Tryd.func64, Tryd.ntmps64
    go_wp2
    go_end0
    exact ⟨rfl, by simpa using M.out.set 0 (.pointer (some ⟨b, 0, none⟩)), gr_set (gr_refl w _) (.inl rfl) _⟩
  · have hnq := Lib.run_neq_ptr_same (P := Tryd.prog) w (tp := 70) ⟨b, 0, none⟩ Tryd.underlying70 hj
    clear hsh hj hjs
    go_enter Tryd.func64, Tryd.ntmps64
    go_wp2
    go_end0
    exact ⟨rfl, M.out, gr_refl w _⟩
set_option maxRecDepth 100000 in
set_option maxHeartbeats 1000000 in
theorem wb_c {w : World} {B b : Nat} {T : TypeId} {ex : List Value} {v : Value} {l : List UInt8} (H : Heads T ex.length) (h : WrAt w B b T ex v l) (c : UInt8) (hl : l.length < 1000000) :
    Calls Tryd.prog 71 #[.pointer (some ⟨b, 0, none⟩), .int .u8 ((c.toNat : Nat) : Int)] w fun e w' => e = .returned .nilIface ∧ ∃ v', WrAt w' B b T ex v' (l ++ [c]) ∧ WrG w w' b v v' := by
  obtain ⟨hlow, hbase, ⟨p, hp, hb⟩, hr⟩ := h
  obtain ⟨i0, hi, hz0, hz1, hz2⟩ : ∃ i, Tryd.prog.info? 5 = some i ∧ i.zero = some (.int .u8 0) ∧ i.size = 1 ∧ i.bytes = 1 := by
    obtain ⟨i, h1, h2⟩ := Option.map_eq_some_iff.1 infoU8
    simp only [Prod.mk.injEq] at h2
    exact ⟨i, h1, h2.1, h2.2.1, h2.2.2⟩
  have hnb : some b ≠ v.ownBlock := own_ne hb hr H.ne
  obtain ⟨A, cp, rfl⟩ := own_shape hr
  have M : As (w.ownsRow B 5 1 (.slice A l.length cp) l.length (byteVals l)) := ⟨hr⟩
  have Mb : As (Blk w b T (p :: Value.slice A l.length cp :: ex).toArray) := ⟨hb⟩
  clear hb hr
  go_enter Tryd.func71, Tryd.ntmps71
  go_wp2_with (go_at_call 64; refine (cc_c H hp Mb.out).mono ?_)
  rintro e w1 ⟨rfl, hb1, g1⟩
  have hr1 := own_grown M.out g1 (.inr (Ne.symm hnb))
  have c0 : w1.cell? ⟨b, 0, none⟩ = some (.pointer (some ⟨b, 0, none⟩)) := hb1.cell 0
  have c1 : w1.cell? ⟨b, 1, none⟩ = some (.slice A l.length cp) := hb1.cell 1
  have hs1 := g1.size
  have N : As (w1.ownsRow B 5 1 (.slice A l.length cp) l.length (byteVals l) ∧ Blk w1 b T (.pointer (some ⟨b, 0, none⟩) :: Value.slice A l.length cp :: ex).toArray ∧ w.grownBy w1 (some b)) := ⟨hr1, hb1, g1⟩
  clear hr1 hb1 g1
  go_wp2_with (at_builtin; refine wpList_append_own_at _ rfl _ _ 71 rfl B 5 i0 (.int .u8 0) 1 1 Tryd.underlying71 hi hz0 hz1 hz2 rfl (by decide) _ _ _ rfl (own_alloc' N.out.1 _) ⟨w1.heap.size, 0, none⟩ 1 1 [.int .u8 ((c.toNat : Nat) : Int)] rfl rfl ?c1 ?c2 ?c3 ?c4 ?c5 ?_)
  case c1 =>
    intro j u hj
    match j, hj with
    | 0, hj => simp at hj; subst hj; simp [Addr.add]
  case c2 => intro u hu; simp at hu; subst hu; rfl
  case c3 => unfold maxLen; omega
  case c4 => omega
  case c5 => simp; omega
  intro v' w2 hown' hgrow _ hat
  obtain ⟨hr1, hb1, g1⟩ := N.out
  have hlt1 := hb1.lt
  have hb2 := (hb1.alloc (.cells #[.int .u8 ((c.toNat : Nat) : Int)] 5)).grown hgrow hnb
  have hnb' : some b ≠ v'.ownBlock := own_ne hb2 hown' H.ne
  obtain ⟨A', c', rfl⟩ := own_shape hown'
  have d0 : w2.cell? ⟨b, 0, none⟩ = some (.pointer (some ⟨b, 0, none⟩)) := hb2.cell 0
  have d1 : w2.cell? ⟨b, 1, none⟩ = some (.slice A l.length cp) := hb2.cell 1
  have f1 := hb2.free 1
  have K : As (WrAt (w2.setCell ⟨b, 1, none⟩ (.slice A' (l.length + 1) c')) B b T ex (.slice A' (l.length + 1) c') (l ++ [c]) ∧ WrG w (w2.setCell ⟨b, 1, none⟩ (.slice A' (l.length + 1) c')) b (.slice A l.length cp) (.slice A' (l.length + 1) c')) := by
    have hsz := hgrow.size
    simp at hsz
    refine ⟨⟨hlow, by simp [World.setCell]; omega, ⟨_, .inr rfl, by simpa using hb2.set 1 (.slice A' (l.length + 1) c')⟩, ?_⟩, ⟨?_, ?_, ?_, ?_, ?_⟩⟩
    · have := own_far hown' (a := ⟨b, 1, none⟩) hnb' (.slice A' (l.length + 1) c')
      simpa [byteVals] using this
    · exact hgrow.os.trans g1.os
    · exact hgrow.tape.trans g1.tape
    · exact hgrow.output.trans g1.output
    · simp [World.setCell]; omega
    · intro k hk hkb hkv
      have hk1 : k < w1.heap.size := by omega
      refine ⟨?_, ?_⟩
      · rw [heap_setCell_other _ _ _ _ (by simpa using hkb), hgrow.block k (by simp; omega) (Ne.symm hkv), show (w1.alloc (.cells #[.int .u8 ((c.toNat : Nat) : Int)] 5)).heap = w1.heap.push _ from rfl, Array.getElem?_push, if_neg (by omega)]
        exact g1.block k hk (by simpa using hkb)
      · rcases hat with hat | hat
        · rw [hat]; exact hkv
        · rw [hat]; simp; omega
  clear hb2 hown' hgrow hat
  go_wp2
  go_ret
  exact ⟨rfl, _, K.out⟩
end Go.Proofs.YtihibljjbdjeoaaDoor
