/- The walks of slices.Clone over rows of structs. (Printed by wip/gen/gen_lm.py.) -/
import Derived.Test.YtdmkijdbldcdiaaLm
namespace Go.Proofs.Ytdmkijdbldcdiaa
open Go.RowKit
set_option linter.unusedVariables false
set_option linter.unusedSimpArgs false
set_option maxRecDepth 100000

theorem infoPl : (Try.prog.info? 62).map (fun i => (i.zero, i.size, i.bytes)) = some (some (.agg #[.int .i64 0, .int .i64 0, .int .i64 0, .int .i64 0, .int .i64 0]), 5, 40) := by kernel_rfl
set_option maxHeartbeats 1600000 in
theorem clonePl_c (w : World) (v : Value) (n : Nat) (xs : List Value) (hs : SrcA w 5 v n xs) (hn : n ≤ 1000000) :
    Calls Try.prog 42 #[v] w (ClonePost w 62 5 n xs) := by
  have hq := fun (w : World) (a : Option Addr) (m c : Nat) => Lib.run_eql_slice_nil (P := Try.prog) w 27 _ a m c 0 0 Try.underlying27
  rcases hs with ⟨c0, rfl, rfl, rfl⟩ | ⟨ad, c, rfl, h1, h2, h3⟩
  · go_enter Try.func42, Try.ntmps42
    go_wp2_with fail
    go_ret
    exact ⟨_, rfl, World.ownsRow_nil _ _ _ _, gr_refl _ _⟩
  · obtain ⟨i0, hi, hz0, hz1, hz2⟩ := info_parts infoPl
    have HI := As.mk (And.intro hi (And.intro hz0 (And.intro hz1 hz2)))
    have HS := As.mk (show SrcV (w.alloc (.cells #[] 62)) 5 (.slice (some ad) n c) n xs from .inr ⟨ad, c, rfl, h1, fun j u hu => (gr_alloc (gr_refl w none) _).cell (h2 j u hu) (by simp), h3⟩)
    have HO := As.mk (World.ownsRow_made w (e := 62) (size := 5) #[] 0 (Nat.le_refl w.heap.size) (by simp [maxLen]) (by simp))
    have HG := As.mk (gr_alloc (gr_refl w none) (.cells #[] 62))
    clear hi hz0 hz1 hz2 h1 h2 h3
    go_enter Try.func42, Try.ntmps42
    go_wp2_with (at_builtin; refine wpList_append_any (by rfl) _ _ _ (by rfl) w.heap.size 62 i0 _ 5 40 Try.underlying27 HI.out.1 HI.out.2.1 HI.out.2.2.1 HI.out.2.2.2 rfl (by omega) _ 0 [] (by rfl) HO.out _ n xs (by rfl) HS.out ⟨_, _, rfl⟩ (by simp only [maxLen]; omega) (by omega) (by simp) ?_; intro v' w' ho hg _ _; rw [Nat.zero_add, List.nil_append] at ho; have HN := As.mk (And.intro ho (gr_then HG.out hg (.inr (.inr (fun q hq => (HO.out.lt q hq).1))))); clear ho hg)
    go_ret
    exact ⟨_, rfl, HN.out.1, HN.out.2⟩
theorem infoPr : (Try.prog.info? 60).map (fun i => (i.zero, i.size, i.bytes)) = some (some (.agg #[.int .i64 0, .int .i64 0, .int .i64 0, .slice none 0 0, .slice none 0 0]), 5, 72) := by kernel_rfl
set_option maxHeartbeats 1600000 in
theorem clonePr_c (w : World) (v : Value) (n : Nat) (xs : List Value) (hs : SrcA w 5 v n xs) (hn : n ≤ 1000000) :
    Calls Try.prog 43 #[v] w (ClonePost w 60 5 n xs) := by
  have hq := fun (w : World) (a : Option Addr) (m c : Nat) => Lib.run_eql_slice_nil (P := Try.prog) w 28 _ a m c 0 0 Try.underlying28
  rcases hs with ⟨c0, rfl, rfl, rfl⟩ | ⟨ad, c, rfl, h1, h2, h3⟩
  · go_enter Try.func43, Try.ntmps43
    go_wp2_with fail
    go_ret
    exact ⟨_, rfl, World.ownsRow_nil _ _ _ _, gr_refl _ _⟩
  · obtain ⟨i0, hi, hz0, hz1, hz2⟩ := info_parts infoPr
    have HI := As.mk (And.intro hi (And.intro hz0 (And.intro hz1 hz2)))
    have HS := As.mk (show SrcV (w.alloc (.cells #[] 60)) 5 (.slice (some ad) n c) n xs from .inr ⟨ad, c, rfl, h1, fun j u hu => (gr_alloc (gr_refl w none) _).cell (h2 j u hu) (by simp), h3⟩)
    have HO := As.mk (World.ownsRow_made w (e := 60) (size := 5) #[] 0 (Nat.le_refl w.heap.size) (by simp [maxLen]) (by simp))
    have HG := As.mk (gr_alloc (gr_refl w none) (.cells #[] 60))
    clear hi hz0 hz1 hz2 h1 h2 h3
    go_enter Try.func43, Try.ntmps43
    go_wp2_with (at_builtin; refine wpList_append_any (by rfl) _ _ _ (by rfl) w.heap.size 60 i0 _ 5 72 Try.underlying28 HI.out.1 HI.out.2.1 HI.out.2.2.1 HI.out.2.2.2 rfl (by omega) _ 0 [] (by rfl) HO.out _ n xs (by rfl) HS.out ⟨_, _, rfl⟩ (by simp only [maxLen]; omega) (by omega) (by simp) ?_; intro v' w' ho hg _ _; rw [Nat.zero_add, List.nil_append] at ho; have HN := As.mk (And.intro ho (gr_then HG.out hg (.inr (.inr (fun q hq => (HO.out.lt q hq).1))))); clear ho hg)
    go_ret
    exact ⟨_, rfl, HN.out.1, HN.out.2⟩
theorem infoDe : (Try.prog.info? 55).map (fun i => (i.zero, i.size, i.bytes)) = some (some (.agg #[.int .i64 0, .int .i64 0, .int .i64 0, .bool false]), 4, 32) := by kernel_rfl
set_option maxHeartbeats 1600000 in
theorem cloneDe_c (w : World) (v : Value) (n : Nat) (xs : List Value) (hs : SrcA w 4 v n xs) (hn : n ≤ 1000000) :
    Calls Try.prog 44 #[v] w (ClonePost w 55 4 n xs) := by
  have hq := fun (w : World) (a : Option Addr) (m c : Nat) => Lib.run_eql_slice_nil (P := Try.prog) w 29 _ a m c 0 0 Try.underlying29
  rcases hs with ⟨c0, rfl, rfl, rfl⟩ | ⟨ad, c, rfl, h1, h2, h3⟩
  · go_enter Try.func44, Try.ntmps44
    go_wp2_with fail
    go_ret
    exact ⟨_, rfl, World.ownsRow_nil _ _ _ _, gr_refl _ _⟩
  · obtain ⟨i0, hi, hz0, hz1, hz2⟩ := info_parts infoDe
    have HI := As.mk (And.intro hi (And.intro hz0 (And.intro hz1 hz2)))
    have HS := As.mk (show SrcV (w.alloc (.cells #[] 55)) 4 (.slice (some ad) n c) n xs from .inr ⟨ad, c, rfl, h1, fun j u hu => (gr_alloc (gr_refl w none) _).cell (h2 j u hu) (by simp), h3⟩)
    have HO := As.mk (World.ownsRow_made w (e := 55) (size := 4) #[] 0 (Nat.le_refl w.heap.size) (by simp [maxLen]) (by simp))
    have HG := As.mk (gr_alloc (gr_refl w none) (.cells #[] 55))
    clear hi hz0 hz1 hz2 h1 h2 h3
    go_enter Try.func44, Try.ntmps44
    go_wp2_with (at_builtin; refine wpList_append_any (by rfl) _ _ _ (by rfl) w.heap.size 55 i0 _ 4 32 Try.underlying29 HI.out.1 HI.out.2.1 HI.out.2.2.1 HI.out.2.2.2 rfl (by omega) _ 0 [] (by rfl) HO.out _ n xs (by rfl) HS.out ⟨_, _, rfl⟩ (by simp only [maxLen]; omega) (by omega) (by simp) ?_; intro v' w' ho hg _ _; rw [Nat.zero_add, List.nil_append] at ho; have HN := As.mk (And.intro ho (gr_then HG.out hg (.inr (.inr (fun q hq => (HO.out.lt q hq).1))))); clear ho hg)
    go_ret
    exact ⟨_, rfl, HN.out.1, HN.out.2⟩
theorem infoCm : (Try.prog.info? 58).map (fun i => (i.zero, i.size, i.bytes)) = some (some (.agg #[.int .i64 0, .int .i64 0, .int .i64 0, .slice none 0 0, .slice none 0 0, .bool false]), 6, 80) := by kernel_rfl
set_option maxHeartbeats 1600000 in
theorem cloneCm_c (w : World) (v : Value) (n : Nat) (xs : List Value) (hs : SrcA w 6 v n xs) (hn : n ≤ 1000000) :
    Calls Try.prog 45 #[v] w (ClonePost w 58 6 n xs) := by
  have hq := fun (w : World) (a : Option Addr) (m c : Nat) => Lib.run_eql_slice_nil (P := Try.prog) w 30 _ a m c 0 0 Try.underlying30
  rcases hs with ⟨c0, rfl, rfl, rfl⟩ | ⟨ad, c, rfl, h1, h2, h3⟩
  · go_enter Try.func45, Try.ntmps45
    go_wp2_with fail
    go_ret
    exact ⟨_, rfl, World.ownsRow_nil _ _ _ _, gr_refl _ _⟩
  · obtain ⟨i0, hi, hz0, hz1, hz2⟩ := info_parts infoCm
    have HI := As.mk (And.intro hi (And.intro hz0 (And.intro hz1 hz2)))
    have HS := As.mk (show SrcV (w.alloc (.cells #[] 58)) 6 (.slice (some ad) n c) n xs from .inr ⟨ad, c, rfl, h1, fun j u hu => (gr_alloc (gr_refl w none) _).cell (h2 j u hu) (by simp), h3⟩)
    have HO := As.mk (World.ownsRow_made w (e := 58) (size := 6) #[] 0 (Nat.le_refl w.heap.size) (by simp [maxLen]) (by simp))
    have HG := As.mk (gr_alloc (gr_refl w none) (.cells #[] 58))
    clear hi hz0 hz1 hz2 h1 h2 h3
    go_enter Try.func45, Try.ntmps45
    go_wp2_with (at_builtin; refine wpList_append_any (by rfl) _ _ _ (by rfl) w.heap.size 58 i0 _ 6 80 Try.underlying30 HI.out.1 HI.out.2.1 HI.out.2.2.1 HI.out.2.2.2 rfl (by omega) _ 0 [] (by rfl) HO.out _ n xs (by rfl) HS.out ⟨_, _, rfl⟩ (by simp only [maxLen]; omega) (by omega) (by simp) ?_; intro v' w' ho hg _ _; rw [Nat.zero_add, List.nil_append] at ho; have HN := As.mk (And.intro ho (gr_then HG.out hg (.inr (.inr (fun q hq => (HO.out.lt q hq).1))))); clear ho hg)
    go_ret
    exact ⟨_, rfl, HN.out.1, HN.out.2⟩
theorem infoIt : (Try.prog.info? 66).map (fun i => (i.zero, i.size, i.bytes)) = some (some (.agg #[.int .i64 0, .int .i64 0, .int .i64 0, .bool false, .int .i64 0]), 5, 40) := by kernel_rfl
set_option maxHeartbeats 1600000 in
theorem cloneIt_c (w : World) (v : Value) (n : Nat) (xs : List Value) (hs : SrcA w 5 v n xs) (hn : n ≤ 1000000) :
    Calls Try.prog 39 #[v] w (ClonePost w 66 5 n xs) := by
  have hq := fun (w : World) (a : Option Addr) (m c : Nat) => Lib.run_eql_slice_nil (P := Try.prog) w 40 _ a m c 0 0 Try.underlying40
  rcases hs with ⟨c0, rfl, rfl, rfl⟩ | ⟨ad, c, rfl, h1, h2, h3⟩
  · go_enter Try.func39, Try.ntmps39
    go_wp2_with fail
    go_ret
    exact ⟨_, rfl, World.ownsRow_nil _ _ _ _, gr_refl _ _⟩
  · obtain ⟨i0, hi, hz0, hz1, hz2⟩ := info_parts infoIt
    have HI := As.mk (And.intro hi (And.intro hz0 (And.intro hz1 hz2)))
    have HS := As.mk (show SrcV (w.alloc (.cells #[] 66)) 5 (.slice (some ad) n c) n xs from .inr ⟨ad, c, rfl, h1, fun j u hu => (gr_alloc (gr_refl w none) _).cell (h2 j u hu) (by simp), h3⟩)
    have HO := As.mk (World.ownsRow_made w (e := 66) (size := 5) #[] 0 (Nat.le_refl w.heap.size) (by simp [maxLen]) (by simp))
    have HG := As.mk (gr_alloc (gr_refl w none) (.cells #[] 66))
    clear hi hz0 hz1 hz2 h1 h2 h3
    go_enter Try.func39, Try.ntmps39
    go_wp2_with (at_builtin; refine wpList_append_any (by rfl) _ _ _ (by rfl) w.heap.size 66 i0 _ 5 40 Try.underlying40 HI.out.1 HI.out.2.1 HI.out.2.2.1 HI.out.2.2.2 rfl (by omega) _ 0 [] (by rfl) HO.out _ n xs (by rfl) HS.out ⟨_, _, rfl⟩ (by simp only [maxLen]; omega) (by omega) (by simp) ?_; intro v' w' ho hg _ _; rw [Nat.zero_add, List.nil_append] at ho; have HN := As.mk (And.intro ho (gr_then HG.out hg (.inr (.inr (fun q hq => (HO.out.lt q hq).1))))); clear ho hg)
    go_ret
    exact ⟨_, rfl, HN.out.1, HN.out.2⟩
theorem infoIn : (Try.prog.info? 3).map (fun i => (i.zero, i.size, i.bytes)) = some (some (.int .i64 0), 1, 8) := by kernel_rfl
set_option maxHeartbeats 1600000 in
theorem cloneIn_c (w : World) (v : Value) (n : Nat) (xs : List Value) (hs : SrcA w 1 v n xs) (hn : n ≤ 1000000) :
    Calls Try.prog 40 #[v] w (ClonePost w 3 1 n xs) := by
  have hq := fun (w : World) (a : Option Addr) (m c : Nat) => Lib.run_eql_slice_nil (P := Try.prog) w 41 _ a m c 0 0 Try.underlying41
  rcases hs with ⟨c0, rfl, rfl, rfl⟩ | ⟨ad, c, rfl, h1, h2, h3⟩
  · go_enter Try.func40, Try.ntmps40
    go_wp2_with fail
    go_ret
    exact ⟨_, rfl, World.ownsRow_nil _ _ _ _, gr_refl _ _⟩
  · obtain ⟨i0, hi, hz0, hz1, hz2⟩ := info_parts infoIn
    have HI := As.mk (And.intro hi (And.intro hz0 (And.intro hz1 hz2)))
    have HS := As.mk (show SrcV (w.alloc (.cells #[] 3)) 1 (.slice (some ad) n c) n xs from .inr ⟨ad, c, rfl, h1, fun j u hu => (gr_alloc (gr_refl w none) _).cell (h2 j u hu) (by simp), h3⟩)
    have HO := As.mk (World.ownsRow_made w (e := 3) (size := 1) #[] 0 (Nat.le_refl w.heap.size) (by simp [maxLen]) (by simp))
    have HG := As.mk (gr_alloc (gr_refl w none) (.cells #[] 3))
    clear hi hz0 hz1 hz2 h1 h2 h3
    go_enter Try.func40, Try.ntmps40
    go_wp2_with (at_builtin; refine wpList_append_any (by rfl) _ _ _ (by rfl) w.heap.size 3 i0 _ 1 8 Try.underlying41 HI.out.1 HI.out.2.1 HI.out.2.2.1 HI.out.2.2.2 rfl (by omega) _ 0 [] (by rfl) HO.out _ n xs (by rfl) HS.out ⟨_, _, rfl⟩ (by simp only [maxLen]; omega) (by omega) (by simp) ?_; intro v' w' ho hg _ _; rw [Nat.zero_add, List.nil_append] at ho; have HN := As.mk (And.intro ho (gr_then HG.out hg (.inr (.inr (fun q hq => (HO.out.lt q hq).1))))); clear ho hg)
    go_ret
    exact ⟨_, rfl, HN.out.1, HN.out.2⟩
end Go.Proofs.Ytdmkijdbldcdiaa
