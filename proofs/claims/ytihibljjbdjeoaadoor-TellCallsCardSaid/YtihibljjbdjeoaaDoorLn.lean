/- The walk of tell's page.line. -/
import Derived.Test.YtihibljjbdjeoaaDoorNm
namespace Go.Proofs.YtihibljjbdjeoaaDoor
open Go.RowKit
set_option linter.unusedVariables false

set_option maxRecDepth 100000 in
set_option maxHeartbeats 3200000 in
theorem line_c {w0 w : World} {b g : Nat} {v : Value} {l : List UInt8} (ht : Tab w0) (hg : w0.grownBy w none) (h : PgW w w0.heap.size b v l) (xs : List Itm) (hu : Blk w g 20 (xs.map Itm.val).toArray) (hok : ∀ x ∈ xs, x.ok) (hl : l.length + 100000000 * xs.length < 80000000000) :
    Calls Tryd.prog 37 #[.pointer (some ⟨b, 0, none⟩), .slice (some ⟨g, 0, none⟩) xs.length xs.length] w fun e w' => e = .returned (.tuple #[]) ∧ ∃ v', PgW w' w0.heap.size b v' (l ++ (itmBytes xs ++ [10])) ∧ WrG w w' b v v' := by
  have hz := itmBytes_len xs hok
  have H := As.mk (And.intro ht (And.intro hg h))
  have P := As.mk (put_c ht hg h xs hu hok (by omega))
  clear ht hg h hu hok
  go_enter Tryd.func37, Tryd.ntmps37
  go_wp2_with fail
  refine P.out.mono ?_
  rintro e w1 ⟨rfl, v1, p1, g1⟩
  have G1 := g1.gr H.out.2.1 H.out.2.2.low (fun k hk => (H.out.2.2.row.lt k hk).1)
  have M := As.mk (And.intro p1 (And.intro g1 G1))
  clear p1 g1 G1 P
  go_wp2_with fail
  refine (put_c (g := w1.heap.size) H.out.1 (gr_alloc M.out.2.2 _) (M.out.1.alloc _) [.s ⟨#[10]⟩] (Blk.new_at _ _ _ rfl) (by
    intro x hx
    rw [List.mem_singleton.1 hx]
    show (1 : Nat) ≤ _; omega) (by rw [List.length_append]; simp only [List.length_singleton]; omega)).mono ?_
  rintro e w2 ⟨rfl, v2, p2, g2⟩
  have M2 := As.mk (And.intro p2 (M.out.2.1.comp ((WrG.ofnone (World.grownBy_alloc w1 _ none)).comp g2)))
  clear p2 g2 M
  go_wp2_with fail
  go_end0
  have e10 : itmBytes [.s ⟨#[10]⟩] = [10] := by simp [itmBytes, Itm.text]
  have h2 := M2.out.1
  rw [List.append_assoc, e10] at h2
  exact ⟨rfl, v2, h2, M2.out.2⟩
end Go.Proofs.YtihibljjbdjeoaaDoor
