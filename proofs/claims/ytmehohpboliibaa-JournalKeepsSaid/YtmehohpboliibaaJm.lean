/- What the law JournalKeeps carries from step to step. -/
import Derived.Test.YtmehohpboliibaaJaw
import Derived.Test.YtmehohpboliibaaGr5
import Derived.Test.YtmehohpboliibaaApp
namespace Go.Proofs.Ytmehohpboliibaa
open Go.RowKit
set_option linter.unusedVariables false

structure JM (w : World) (gj gd : Nat) (over : Bool) (d : DK) (su : Value) (s : List ByteArray) (ma : Value) (m : List ByteArray) (wx : World) : Prop where
  js : JS w gj gd over d wx
  hj : w.heap.size ≤ gj
  hd : w.heap.size ≤ gd
  rs : wx.ownsRow w.heap.size 9 1 su s.length (strVals s)
  rm : wx.ownsRow w.heap.size 9 1 ma m.length (strVals m)
  sep : su.ownBlock = none ∨ su.ownBlock ≠ ma.ownBlock
variable {w : World} {gj gd : Nat} {over : Bool} {d : DK} {su : Value} {s : List ByteArray} {ma : Value} {m : List ByteArray} {wx wy : World}
theorem JM.gr (h : JM w gj gd over d su s ma m wx) : w.grownBy wx none := h.js.gr.gr h.hj h.hd
theorem JM.call {o : Bool} {d' : DK} (h : JM w gj gd over d su s ma m wx) (h' : JS wx gj gd o d' wy) : JM w gj gd o d' su s ma m wy :=
  ⟨⟨h'.j, h'.d, h.js.gr.comp h'.gr⟩, h.hj, h.hd, h'.gr.own h.rs (own_ne h.js.j h.rs (by decide)) (own_ne h.js.d h.rs (by decide)), h'.gr.own h.rm (own_ne h.js.j h.rm (by decide)) (own_ne h.js.d h.rm (by decide)), h.sep⟩
theorem JM.grown (h : JM w gj gd over d su s ma m wx) (hg : wx.grownBy wy none) : JM w gj gd over d su s ma m wy :=
  ⟨h.js.grown hg, h.hj, h.hd, own_grown h.rs hg (by cases su.ownBlock <;> simp), own_grown h.rm hg (by cases ma.ownBlock <;> simp), h.sep⟩
theorem JM.disk {d' : DK} (h : JM w gj gd over d su s ma m wx) (hd : DkAt wy gd d') (hg : wx.grownBy wy (some gd)) : JM w gj gd over d' su s ma m wy :=
  ⟨h.js.stepd hd hg, h.hj, h.hd, own_grown h.rs hg (.inr (Ne.symm (own_ne h.js.d h.rs (by decide)))), own_grown h.rm hg (.inr (Ne.symm (own_ne h.js.d h.rm (by decide)))), h.sep⟩
/-- A row of the call's own has turned. -/
theorem JS.row {row : Option Nat} (h : JS w gj gd over d wx) (hg : wx.grownBy wy row) (h1 : some gj ≠ row) (h2 : some gd ≠ row) (hb : ∀ k, row = some k → w.heap.size ≤ k) : JS w gj gd over d wy :=
  ⟨Blk.grown (show Blk _ _ _ _ from h.j) hg h1, Blk.grown (show Blk _ _ _ _ from h.d) hg h2, hg.os.trans h.gr.os, hg.tape.trans h.gr.tape, hg.output.trans h.gr.output, Nat.le_trans h.gr.size hg.size, fun k hk ha hb' => (hg.block k (Nat.lt_of_lt_of_le hk h.gr.size) (fun e => by have := hb k e.symm; omega)).trans (h.gr.block k hk ha hb')⟩
theorem JM.app_ma {ma' : Value} {l : List ByteArray} (h : JM w gj gd over d su s ma m wx) (ho : wy.ownsRow w.heap.size 9 1 ma' (m ++ l).length (strVals (m ++ l))) (hg : wx.grownBy wy ma.ownBlock) (hat : ma'.ownBlock = ma.ownBlock ∨ ma'.ownBlock = some wx.heap.size) : JM w gj gd over d su s ma' (m ++ l) wy :=
  ⟨h.js.row hg (own_ne h.js.j h.rm (by decide)) (own_ne h.js.d h.rm (by decide)) (fun k e => (h.rm.lt k e).1), h.hj, h.hd, own_grown h.rs hg h.sep, ho, by
    rcases hat with e | e
    · rw [e]; exact h.sep
    · right; rw [e]; exact fun q => own_new_ne h.rs q.symm⟩
theorem JM.app_su {su' : Value} (h : JM w gj gd over d su s ma m wx) (ho : wy.ownsRow w.heap.size 9 1 su' (s ++ m).length (strVals (s ++ m))) (hg : wx.grownBy wy su.ownBlock) : JM w gj gd over d su' (s ++ m) (.slice none 0 0) [] wy :=
  ⟨h.js.row hg (own_ne h.js.j h.rs (by decide)) (own_ne h.js.d h.rs (by decide)) (fun k e => (h.rs.lt k e).1), h.hj, h.hd, ho, World.ownsRow_nil _ _ _ _, by
    show su'.ownBlock = none ∨ su'.ownBlock ≠ none
    cases su'.ownBlock <;> simp⟩
theorem JM.anew {su' : Value} {l : List ByteArray} {row : Option Nat} (h : JM w gj gd over d su s ma m wx) (ho : wy.ownsRow w.heap.size 9 1 su' l.length (strVals l)) (hg : wx.grownBy wy row) (hr : ∀ k, row = some k → wx.heap.size ≤ k) : JM w gj gd over d su' l (.slice none 0 0) [] wy :=
  have hn : wx.grownBy wy none := ⟨hg.os, hg.tape, hg.output, hg.size, fun k hk _ => hg.block k hk (fun e => by have := hr k e.symm; omega)⟩
  ⟨h.js.grown hn, h.hj, h.hd, ho, World.ownsRow_nil _ _ _ _, by
    show su'.ownBlock = none ∨ su'.ownBlock ≠ none
    cases su'.ownBlock <;> simp⟩
theorem frL_size (l : List ByteArray) : (frL l).size = sumN l l.length + 6 * l.length := by
  rw [← framesN_size l l.length, framesN_eq l l.length (Nat.le_refl _), List.take_length]
end Go.Proofs.Ytmehohpboliibaa
