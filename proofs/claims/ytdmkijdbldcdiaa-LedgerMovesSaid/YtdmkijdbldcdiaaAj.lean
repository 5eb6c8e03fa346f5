/- NOT BUILT YET: item.RightTid. Left: the new row's block is written g + 1 by the walk: rewrite Arr.newI's address by an equation W.heap.size = g + 1. -/
import Derived.Test.YtdmkijdbldcdiaaAi
namespace Go.Proofs.Ytdmkijdbldcdiaa
open Go.RowKit
set_option linter.unusedVariables false
theorem Arr.newI (w : World) (l : List Int) (hl : l.length ≤ 100) {g : Nat} (hg : g = w.heap.size) : Arr IE 1 (w.alloc (.cells (l.map (Value.int .i64)).toArray 3)) (.slice (some ⟨g, 0, none⟩) l.length l.length) l := by
  subst hg
  refine ⟨_, _, rfl, ⟨by omega, Nat.le_refl _⟩, fun _ => ⟨_, rfl, rfl, fun j x hx => ⟨_, rfl, rfl, fun i u hu => ?_⟩⟩⟩
  have hi : i = 0 := by
    have := (List.getElem?_eq_some_iff.1 hu).1
    simp at this
    exact this
  subst hi
  simp at hu
  subst hu
  have := (Blk.new w 3 (l.map (Value.int .i64)).toArray).cell j
  have e2 : ((l.map (Value.int .i64)).toArray)[j]? = some (.int .i64 x) := by simp [hx]
  rw [e2] at this
  rw [← this]
  congr 1
  simp
structure PTid where
  n : Int
  e : Int
  s : Int
def tidOk (t : PTid) : Bool := inR t.n 1 16 && (inR t.e 1 1099511627776 && inR t.s 1 1099511627776)
set_option maxRecDepth 100000 in
set_option maxHeartbeats 3200000 in
theorem rightTid_c (w : World) (t : PTid) (r : Bool) (hr : tidOk t = r) :
    Calls Try.prog 49 #[.agg #[.int .i64 t.n, .int .i64 t.e, .int .i64 t.s]] w fun e w' => e = .returned (.bool r) ∧ w.grownBy w' none := by
  obtain ⟨n, e, s⟩ := t
  have HB := As.mk (Blk.new w 39 #[.int .i64 n, .int .i64 e, .int .i64 s])
  have HG := As.mk (gr_alloc (gr_refl w none) (.cells #[.int .i64 n, .int .i64 e, .int .i64 s] 39))
  have HR := As.mk hr
  unfold tidOk at HR
  dsimp only at HR ⊢
  clear hr
  go_enter Try.func49, Try.ntmps49
  go_wp2_with fail
  have HZ := As.mk (show w.heap.size + 1 = (w.alloc (.cells #[.int .i64 n, .int .i64 e, .int .i64 s] 39)).heap.size by simp)
  generalize w.alloc (.cells #[.int .i64 n, .int .i64 e, .int .i64 s] 39) = W at *
  generalize w.heap.size = g at *
  refine (in_c _ _ [n] (Arr.newI W [n] (by simp) HZ.out) 1 16 (inR n 1 16) (by simp)).mono ?_
  rintro e1 w1 ⟨rfl, g1⟩
  have HW := As.mk ((gr_alloc (gr_refl W none) _).trans g1)
  have HB1 := As.mk (HB.out.grown HW.out (by simp))
  have f1 := HB1.out.cell 1
  have f2 := HB1.out.cell 2
  cases hn : inR n 1 16
  · rw [hn] at HR
    go_wp2_with fail
    go_ret
    exact ⟨by rw [← HR.out]; rfl, HG.out.trans HW.out⟩
  · rw [hn] at HR
    go_wp2_with fail
    refine (in_c _ _ [e, s] (Arr.newI w1 [e, s] (by simp) rfl) 1 1099511627776 (inR e 1 1099511627776 && inR s 1 1099511627776) (by simp)).mono ?_
    rintro e2 w2 ⟨rfl, g2⟩
    have HW2 := As.mk ((gr_alloc (gr_refl w1 none) _).trans g2)
    clear g2
    rw [Bool.true_and] at HR
    rw [HR.out]
    go_wp2_with fail
    go_ret
    exact ⟨rfl, (HG.out.trans HW.out).trans HW2.out⟩
end Go.Proofs.Ytdmkijdbldcdiaa
