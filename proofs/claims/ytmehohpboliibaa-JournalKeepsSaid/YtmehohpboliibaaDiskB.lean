/- The walks of disk: reads, Fuse, step, Sync, New. -/
import Derived.Test.YtmehohpboliibaaDisk
namespace Go.Proofs.Ytmehohpboliibaa
open Go.RowKit
set_option linter.unusedVariables false

theorem down_n (w : World) : Calls Try.prog 26 #[.pointer none] w fun e w' => e = .returned (.bool true) ∧ w.grownBy w' none := by
  go_enter Try.func26, Try.ntmps26
  go_wp2
  go_ret
  exact ⟨rfl, gr_refl _ _⟩
theorem down_c {g : Nat} {d : DK} {w : World} (h : DkAt w g d) : Calls Try.prog 26 #[.pointer (some ⟨g, 0, none⟩)] w fun e w' => e = .returned (.bool d.down) ∧ w' = w := by
  have c1 : w.cell? ⟨g, 1, none⟩ = some (.bool d.down) := h.cell 1
  clear h
  go_enter Try.func26, Try.ntmps26
  go_wp2
  go_ret
  exact ⟨rfl, rfl⟩
theorem bytes_n (w : World) : Calls Try.prog 24 #[.pointer none] w fun e w' => e = .returned (.string ⟨#[]⟩) ∧ w.grownBy w' none := by
  go_enter Try.func24, Try.ntmps24
  go_wp2
  go_ret
  exact ⟨rfl, gr_refl _ _⟩
theorem bytes_c {g : Nat} {d : DK} {w : World} (h : DkAt w g d) : Calls Try.prog 24 #[.pointer (some ⟨g, 0, none⟩)] w fun e w' => e = .returned (.string d.b) ∧ w' = w := by
  have c1 : w.cell? ⟨g, 3, none⟩ = some (.string d.b) := h.cell 3
  clear h
  go_enter Try.func24, Try.ntmps24
  go_wp2
  go_ret
  exact ⟨rfl, rfl⟩
theorem safe_n (w : World) : Calls Try.prog 27 #[.pointer none] w fun e w' => e = .returned (.int .i64 0) ∧ w.grownBy w' none := by
  go_enter Try.func27, Try.ntmps27
  go_wp2
  go_ret
  exact ⟨rfl, gr_refl _ _⟩
theorem safe_c {g : Nat} {d : DK} {w : World} (h : DkAt w g d) : Calls Try.prog 27 #[.pointer (some ⟨g, 0, none⟩)] w fun e w' => e = .returned (.int .i64 d.safe) ∧ w' = w := by
  have c1 : w.cell? ⟨g, 4, none⟩ = some (.int .i64 d.safe) := h.cell 4
  clear h
  go_enter Try.func27, Try.ntmps27
  go_wp2
  go_ret
  exact ⟨rfl, rfl⟩
theorem size_n (w : World) : Calls Try.prog 41 #[.pointer none] w fun e w' => e = .returned (.int .i64 0) ∧ w.grownBy w' none := by
  go_enter Try.func41, Try.ntmps41
  go_wp2
  go_ret
  exact ⟨rfl, gr_refl _ _⟩
theorem size_c {g : Nat} {d : DK} {w : World} (h : DkAt w g d) : Calls Try.prog 41 #[.pointer (some ⟨g, 0, none⟩)] w fun e w' => e = .returned (.int .i64 d.size) ∧ w' = w := by
  have c1 : w.cell? ⟨g, 5, none⟩ = some (.int .i64 d.size) := h.cell 5
  clear h
  go_enter Try.func41, Try.ntmps41
  go_wp2
  go_ret
  exact ⟨rfl, rfl⟩
theorem fuse_n (n : Int) (w : World) : Calls Try.prog 23 #[.pointer none, .int .i64 n] w fun e w' => e = .returned (.tuple #[]) ∧ w.grownBy w' none := by
  go_enter Try.func23, Try.ntmps23
  go_wp2
  go_end0
  exact ⟨rfl, gr_refl _ _⟩
theorem crash_n (n : Int) (w : World) : Calls Try.prog 25 #[.pointer none, .int .i64 n] w fun e w' => e = .returned (.tuple #[]) ∧ w.grownBy w' none := by
  go_enter Try.func25, Try.ntmps25
  go_wp2
  refine bodyPost_ret (results_none (show Try.f25.results = #[] by kernel_rfl) _ _ _) rfl ?_
  exact ⟨rfl, gr_refl _ _⟩
theorem append_n (v : Value) (w : World) : Calls Try.prog 21 #[.pointer none, v] w fun e w' => e = .returned (.int .i64 7) ∧ w.grownBy w' none := by
  have D := As.mk (fun w => down_n w)
  go_enter Try.func21, Try.ntmps21
  go_wp2_with fail
  refine (D.out _).mono ?_
  rintro e w1 ⟨rfl, h1⟩
  have H := As.mk h1
  clear h1
  go_wp2
  go_ret
  exact ⟨rfl, H.out⟩
theorem step_n (w : World) : Calls Try.prog 55 #[.pointer none] w fun e w' => e = .returned (.int .i64 7) ∧ w.grownBy w' none := by
  have D := As.mk (fun w => down_n w)
  go_enter Try.func55, Try.ntmps55
  go_wp2_with fail
  refine (D.out _).mono ?_
  rintro e w1 ⟨rfl, h1⟩
  have H := As.mk h1
  clear h1
  go_wp2
  go_ret
  exact ⟨rfl, H.out⟩
theorem sync_n (w : World) : Calls Try.prog 22 #[.pointer none] w fun e w' => e = .returned (.int .i64 7) ∧ w.grownBy w' none := by
  have D := As.mk (fun w => step_n w)
  go_enter Try.func22, Try.ntmps22
  go_wp2_with fail
  refine (D.out _).mono ?_
  rintro e w1 ⟨rfl, h1⟩
  have H := As.mk h1
  clear h1
  go_wp2
  go_ret
  exact ⟨rfl, H.out⟩
theorem drop_n (n : Int) (w : World) : Calls Try.prog 35 #[.pointer none, .int .i64 n] w fun e w' => e = .returned (.int .i64 7) ∧ w.grownBy w' none := by
  have D := As.mk (fun w => down_n w)
  have D2 := As.mk (fun w => step_n w)
  go_enter Try.func35, Try.ntmps35
  go_wp2_with fail
  refine (D.out _).mono ?_
  rintro e w1 ⟨rfl, h1⟩
  have H := As.mk h1
  clear h1
  go_wp2_with fail
  refine (D2.out _).mono ?_
  rintro e w2 ⟨rfl, h1⟩
  have H2 := As.mk (gr_then H.out h1 (.inl rfl))
  clear h1
  go_wp2
  go_ret
  exact ⟨rfl, H2.out⟩
theorem cut_n (n : Int) (w : World) : Calls Try.prog 37 #[.pointer none, .int .i64 n] w fun e w' => e = .returned (.int .i64 7) ∧ w.grownBy w' none := by
  have D := As.mk (fun w => down_n w)
  go_enter Try.func37, Try.ntmps37
  go_wp2_with fail
  refine (D.out _).mono ?_
  rintro e w1 ⟨rfl, h1⟩
  have H := As.mk h1
  clear h1
  go_wp2
  go_ret
  exact ⟨rfl, H.out⟩
end Go.Proofs.Ytmehohpboliibaa
