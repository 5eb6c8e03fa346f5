/- The walks of tell's Name and Items, and of the document's. -/
import Derived.Test.YtihibljjbdjeoaaDoorPg
namespace Go.Proofs.YtihibljjbdjeoaaDoor
open Go.RowKit
set_option linter.unusedVariables false

def In64 (n : Int) : Prop := -9223372036854775808 ≤ n ∧ n ≤ 9223372036854775807
def dot : ByteArray := ⟨#[46]⟩
def nameOf (n e s : Int) : ByteArray := num n ++ dot ++ num e ++ dot ++ num s
theorem nameOf_bytes (n e s : Int) : (⟨(itmBytes [.n n, .s ⟨#[46]⟩, .n e, .s ⟨#[46]⟩, .n s]).toArray⟩ : ByteArray) = nameOf n e s := by
  apply ByteArray.ext
  simp [itmBytes, Itm.text, nameOf, dot, ByteArray.data_append]
theorem nameOf_list (n e s : Int) : (nameOf n e s).data.toList = Lib.itoa n ++ 46 :: (Lib.itoa e ++ 46 :: Lib.itoa s) := by
  simp [nameOf, dot, num, ByteArray.data_append]
theorem nameOf_inj {n e s n' e' s' : Int} (h : nameOf n e s = nameOf n' e' s') : n = n' ∧ e = e' ∧ s = s' := by
  have h := congrArg (fun b : ByteArray => b.data.toList) h
  simp only [nameOf_list] at h
  obtain ⟨h1, h2⟩ := split_at (itoa_no (by decide) n) (itoa_no (by decide) n') h
  obtain ⟨h3, h4⟩ := split_at (itoa_no (by decide) e) (itoa_no (by decide) e') h2
  exact ⟨itoa_inj h1, itoa_inj h3, itoa_inj h4⟩
theorem nameOf_size (n e s : Int) (h1 : In64 n) (h2 : In64 e) (h3 : In64 s) : (nameOf n e s).size ≤ 65 := by
  have a := num_size n h1.1 h1.2
  have b := num_size e h2.1 h2.2
  have c := num_size s h3.1 h3.2
  have d : dot.size = 1 := rfl
  simp only [nameOf, ByteArray.size_append]
  omega
set_option maxRecDepth 100000 in
set_option maxHeartbeats 3200000 in
theorem name_c (n e s : Int) (h1 : In64 n) (h2 : In64 e) (h3 : In64 s) (w : World) (ht : Tab w) :
    Calls Tryd.prog 11 #[.agg #[.int .i64 n, .int .i64 e, .int .i64 s]] w fun e' w' => e' = .returned (.string (nameOf n e s)) ∧ w.grownBy w' none := by
  have OK := As.mk (show ∀ x ∈ [Itm.n n, .s ⟨#[46]⟩, .n e, .s ⟨#[46]⟩, .n s], x.ok by
    intro x hx
    simp only [List.mem_cons, List.not_mem_nil, or_false] at hx
    rcases hx with rfl | rfl | rfl | rfl | rfl
    · exact h1
    · show (1 : Nat) ≤ _; omega
    · exact h2
    · show (1 : Nat) ≤ _; omega
    · exact h3)
  have HT := As.mk ht
  have HB := As.mk (Blk.new w 23 #[.int .i64 n, .int .i64 e, .int .i64 s])
  clear ht h1 h2 h3
  go_enter Tryd.func11, Tryd.ntmps11
  go_wp2_with fail
  have P0 := (pg_new (w := w.alloc (.cells #[.int .i64 n, .int .i64 e, .int .i64 s] 23)) (B := w.heap.size) (by simp)).alloc (.cells #[.iface 3 (.int .i64 n), .iface 9 (.string ⟨#[46]⟩), .iface 3 (.int .i64 e), .iface 9 (.string ⟨#[46]⟩), .iface 3 (.int .i64 s)] 20)
  have G0 := gr_alloc (gr_alloc (gr_alloc (gr_refl w none) (.cells #[.int .i64 n, .int .i64 e, .int .i64 s] 23)) (.cells #[.pointer none, .slice none 0 0] 75)) (.cells #[.iface 3 (.int .i64 n), .iface 9 (.string ⟨#[46]⟩), .iface 3 (.int .i64 e), .iface 9 (.string ⟨#[46]⟩), .iface 3 (.int .i64 s)] 20)
  rw [show (w.alloc (.cells #[.int .i64 n, .int .i64 e, .int .i64 s] 23)).heap.size = w.heap.size + 1 by simp] at P0
  refine (put_c (g := w.heap.size + 1 + 1) HT.out G0 P0 [.n n, .s ⟨#[46]⟩, .n e, .s ⟨#[46]⟩, .n s] (Blk.new_at _ _ _ (by simp)) OK.out (by simp)).mono ?_
  rintro e1 w1 ⟨rfl, v1, p1, g1⟩
  have P1 := As.mk (And.intro p1 (g1.gr G0 (by simp) (by simp [Value.ownBlock])))
  clear P0 G0 p1 g1
  go_wp2_with (go_at_call 35; refine (bs_c headsP P1.out.1 (by simp [itmBytes, Itm.text])).mono ?_; rintro e w2 ⟨rfl, g2⟩)
  go_ret
  exact ⟨by rw [nameOf_bytes]; rfl, gr_then P1.out.2 g2 (.inr (.inr fun k hk => (P1.out.1.row.lt k hk).1))⟩
set_option maxRecDepth 100000 in
set_option maxHeartbeats 3200000 in
theorem refName_c (n e s : Int) (h1 : In64 n) (h2 : In64 e) (h3 : In64 s) (w : World) :
    Calls Tryd.prog 12 #[.agg #[.int .i64 n, .int .i64 e, .int .i64 s]] w fun e' w' => e' = .returned (.string (nameOf n e s)) ∧ w.grownBy w' none := by
  have BN := As.mk h1
  have BE := As.mk h2
  have BS := As.mk h3
  have a1 := num_size n h1.1 h1.2
  have a2 := num_size e h2.1 h2.2
  have a3 := num_size s h3.1 h3.2
  have z1 : ¬ 9223372036854775807 < (num n).size + 1 := by omega
  have z2 : ¬ 9223372036854775807 < (num n).size + 1 + (num e).size := by omega
  have z3 : ¬ 9223372036854775807 < (num n).size + 1 + (num e).size + 1 := by omega
  have z4 : ¬ 9223372036854775807 < (num n).size + 1 + (num e).size + 1 + (num s).size := by omega
  clear a1 a2 a3
  have K := As.mk (Blk.new w 23 #[.int .i64 n, .int .i64 e, .int .i64 s])
  have G := As.mk (gr_alloc (gr_refl w none) (.cells #[.int .i64 n, .int .i64 e, .int .i64 s] 23))
  clear h1 h2 h3
  go_enter Tryd.func12, Tryd.ntmps12
  go_wp2_with fail
  go_region_held3 (fun w' => w'.cell? ⟨w.heap.size, 0, none⟩ = some (.int .i64 n) ∧ w'.cell? ⟨w.heap.size, 1, none⟩ = some (.int .i64 e) ∧ w'.cell? ⟨w.heap.size, 2, none⟩ = some (.int .i64 s))
    (first | exact ⟨K.out.cell 0, K.out.cell 1, K.out.cell 2⟩ | go_keep)
    (first
    | (go_at_call 36; refine (num_c _ ?h0 ?h1 _).mono ?_; (case h0 => first | exact BN.out.1 | exact BE.out.1 | exact BS.out.1); (case h1 => first | exact BN.out.2 | exact BE.out.2 | exact BS.out.2); rintro e w1 ⟨rfl, hg⟩
       have nK := As.mk (Blk.grown (t := 23) (cs := #[.int .i64 n, .int .i64 e, .int .i64 s]) (b := w.heap.size) (by first | exact K.out | exact K.out.drew) hg (by simp)); clear K; have K := nK; clear nK
       have nG := As.mk (gr_then (row := none) (by first | exact G.out | exact gr_drew G.out) hg (.inl rfl)); clear G; have G := nG; clear nG; clear hg))
  simp only [Exit.then]
  go_wp2_with fail
  go_ret
  exact ⟨rfl, G.out⟩
end Go.Proofs.YtihibljjbdjeoaaDoor
