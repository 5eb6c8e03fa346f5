/- The walk of the law DiskNone. -/
import Derived.Test.YtmehohpboliibaaDiskAwk
namespace Go.Proofs.Ytmehohpboliibaa
open Go.RowKit
set_option linter.unusedVariables false

set_option maxHeartbeats 1600000 in
theorem dn_walk (n : Int) (s : ByteArray) (w : World) : Calls Try.prog 10 #[.int .i64 n, .string s] w fun e w' => e = .returned (.bool true) ∧ w.grownBy w' none := by
  go_enter Try.func10, Try.ntmps10
  go_wp2_with fail
  refine (awake_walk _).mono ?_
  rintro e w1 ⟨rfl, g⟩
  have G1 := As.mk g
  clear g
  go_wp2_with fail
  refine (fuse_n _ _).mono ?_
  rintro e w2 ⟨rfl, g⟩
  have G2 := As.mk (gr_then G1.out g (.inl rfl))
  clear g G1
  go_wp2_with fail
  refine (crash_n _ _).mono ?_
  rintro e w3 ⟨rfl, g⟩
  have G3 := As.mk (gr_then G2.out g (.inl rfl))
  clear g G2
  go_wp2_with fail
  refine (append_n _ _).mono ?_
  rintro e w4 ⟨rfl, g⟩
  have G4 := As.mk (gr_then (gr_alloc G3.out _) g (.inl rfl))
  clear g G3
  go_wp2_with fail
  refine (sync_n _).mono ?_
  rintro e w5 ⟨rfl, g⟩
  have G5 := As.mk (gr_then G4.out g (.inl rfl))
  clear g G4
  go_wp2_with fail
  refine (drop_n _ _).mono ?_
  rintro e w6 ⟨rfl, g⟩
  have G6 := As.mk (gr_then G5.out g (.inl rfl))
  clear g G5
  go_wp2_with fail
  refine (cut_n _ _).mono ?_
  rintro e w7 ⟨rfl, g⟩
  have G7 := As.mk (gr_then G6.out g (.inl rfl))
  clear g G6
  go_wp2_with fail
  refine (bytes_n _).mono ?_
  rintro e w8 ⟨rfl, g⟩
  have G8 := As.mk (gr_then G7.out g (.inl rfl))
  clear g G7
  go_wp2_with fail
  refine (safe_n _).mono ?_
  rintro e w9 ⟨rfl, g⟩
  have G9 := As.mk (gr_then G8.out g (.inl rfl))
  clear g G8
  go_wp2_with fail
  refine (size_n _).mono ?_
  rintro e w10 ⟨rfl, g⟩
  have G10 := As.mk (gr_then G9.out g (.inl rfl))
  clear g G9
  go_wp2_with fail
  refine (down_n _).mono ?_
  rintro e w11 ⟨rfl, g⟩
  have G11 := As.mk (gr_then G10.out g (.inl rfl))
  clear g G10
  go_wp2
  go_ret
  exact ⟨rfl, G11.out⟩
theorem dn_law (n : Int) (s : ByteArray) (w : World) (hn : (Lit.int .i64 n).wf = true) (hs : s.size ≤ 140737488351232) :
    Calls Try.prog 10 #[.int .i64 n, .string s] w fun e w' => e = .returned (.bool true) ∧ Below w.heap.size w w' :=
  (dn_walk n s w).mono fun _ _ ⟨h1, h2⟩ => ⟨h1, gr_below h2⟩
end Go.Proofs.Ytmehohpboliibaa
