/- The walks of tid, at, FindPrepared, FindDecided, FindCommit. (Printed by wip/gen/gen_lb.py.) -/
import Derived.Test.YtdmkijdbldcdiaaLa
import Derived.Deep.QuietTactic
import Derived.BigQuiet
import Derived.Laws.StructEq
namespace Go.Proofs.Ytdmkijdbldcdiaa
open Go.RowKit
set_option linter.unusedVariables false
set_option linter.unusedSimpArgs false
set_option maxRecDepth 100000

theorem any_take_succ' {α : Type} (p : α → Bool) (l : List α) (k : Nat) (hk : k < l.length) : (l.take (k + 1)).any p = ((l.take k).any p || p (l[k]'hk)) := any_take_succ p l k hk
set_option maxHeartbeats 1600000 in
theorem tidPr_c (w : World) (x : PPr) (A1 A2 : Option Addr) (n1 c1 n2 c2 : Nat) :
    Calls Try.prog 34 #[.agg #[.int .i64 x.tid.n, .int .i64 x.tid.e, .int .i64 x.tid.s, .slice A1 n1 c1, .slice A2 n2 c2]] w fun e w' => e = .returned (.agg #[.int .i64 x.tid.n, .int .i64 x.tid.e, .int .i64 x.tid.s]) ∧ w.grownBy w' none := by
  have HG := As.mk (gr_alloc (gr_alloc (gr_refl w none) (.cells #[.int .i64 x.tid.n, .int .i64 x.tid.e, .int .i64 x.tid.s, .slice A1 n1 c1, .slice A2 n2 c2] 60)) (.cells #[.int .i64 x.tid.n, .int .i64 x.tid.e, .int .i64 x.tid.s] 39))
  go_enter Try.func34, Try.ntmps34
  go_wp2_with fail
  exact bodyPost_ret (v := .agg #[.int .i64 x.tid.n, .int .i64 x.tid.e, .int .i64 x.tid.s]) (by simp [results, Try.results34, go_sem]) rfl ⟨rfl, HG.out⟩
set_option maxHeartbeats 3200000 in
theorem at1Pr_c (w : World) (x : PPr) (A1 A2 : Option Addr) (n1 c1 n2 c2 : Nat) (t : PTid) (bO bT : Nat) (hO : w.cell? ⟨bO, 0, none⟩ = some (.func (.func 34) #[] #[])) (hT : Blk w bT 39 #[.int .i64 t.n, .int .i64 t.e, .int .i64 t.s]) (r : Bool) (hr : eqT x.tid t = r) :
    Calls Try.prog 64 #[.agg #[.int .i64 x.tid.n, .int .i64 x.tid.e, .int .i64 x.tid.s, .slice A1 n1 c1, .slice A2 n2 c2], .pointer (some ⟨bO, 0, none⟩), .pointer (some ⟨bT, 0, none⟩)] w fun e w' => e = .returned (.bool r) ∧ w.grownBy w' none := by
  have HG := As.mk (gr_alloc (gr_refl w none) (.cells #[.int .i64 x.tid.n, .int .i64 x.tid.e, .int .i64 x.tid.s, .slice A1 n1 c1, .slice A2 n2 c2] 60))
  have HB := As.mk (Blk.new w 60 #[.int .i64 x.tid.n, .int .i64 x.tid.e, .int .i64 x.tid.s, .slice A1 n1 c1, .slice A2 n2 c2])
  have hT0 := hT.cell 0
  have hT1 := hT.cell 1
  have hT2 := hT.cell 2
  simp only [List.getElem?_toArray, List.getElem?_cons_zero, List.getElem?_cons_succ] at hT0 hT1 hT2
  have HF := As.mk (And.intro (HG.out.cell hO (by simp)) (And.intro (HG.out.cell hT0 (by simp)) (And.intro (HG.out.cell hT1 (by simp)) (HG.out.cell hT2 (by simp)))))
  have HR := As.mk hr
  unfold eqT at HR
  clear hO hT hT0 hT1 hT2 hr
  go_enter Try.func64, Try.ntmps64
  go_wp2_with fail
  generalize w.alloc (.cells #[.int .i64 x.tid.n, .int .i64 x.tid.e, .int .i64 x.tid.s, .slice A1 n1 c1, .slice A2 n2 c2] 60) = W at *
  generalize w.heap.size = gx at *
  cases e1 : (x.tid.n == t.n)
  · obtain rfl : r = false := by rw [← HR.out, e1]; rfl
    refine wp_region_noPanic ?_
    refine wp_region_held_drew (S := fun w' => w'.cell? ⟨bO, 0, none⟩ = some (.func (.func 34) #[] #[]) ∧ Blk w' gx 60 #[.int .i64 x.tid.n, .int .i64 x.tid.e, .int .i64 x.tid.s, .slice A1 n1 c1, .slice A2 n2 c2] ∧ w'.cell? ⟨bT, 0, none⟩ = some (.int .i64 t.n) ∧ w'.cell? ⟨bT, 1, none⟩ = some (.int .i64 t.e) ∧ w'.cell? ⟨bT, 2, none⟩ = some (.int .i64 t.s)) (by kernel_rfl) (⟨HF.out.1, HB.out, HF.out.2.1, HF.out.2.2.1, HF.out.2.2.2⟩) (fun hS => ?_)
    refine wpAnyH_take (i := 0) (v := ?va11) rfl (by kernel_rfl) (by kernel_rfl) (by kernel_rfl) (fun _ _ _ h => h) (Or.inl ⟨by rfl, ?ya11⟩) hS ?ra11
    case ya11 => (intro w0 hS0; (try simp only [] at hS0); obtain ⟨hS0_0, hS0_1, hS0_2, hS0_3, hS0_4⟩ := hS0; go_simp; try with_reducible rfl)
    try simp only [yA, yB, yC, Act.put, yD, yE, yF]
    refine wpAnyH_take (i := 1) (v := ?va12) rfl (by kernel_rfl) (by kernel_rfl) (by kernel_rfl) (fun _ _ _ h => h) (Or.inl ⟨by rfl, ?ya12⟩) hS ?ra12
    case ya12 => (intro w0 hS0; (try simp only [] at hS0); obtain ⟨hS0_0, hS0_1, hS0_2, hS0_3, hS0_4⟩ := hS0; have q0 := hS0_1.cell 0; have q1 := hS0_1.cell 1; have q2 := hS0_1.cell 2; have q3 := hS0_1.cell 3; have q4 := hS0_1.cell 4; simp only [List.getElem?_toArray, List.getElem?_cons_zero, List.getElem?_cons_succ] at q0 q1 q2 q3 q4; go_simp; try with_reducible rfl)
    try simp only [yA, yB, yC, Act.put, yD, yE, yF]
    refine wpAnyH_take (i := 3) (v := ?va13) rfl (by kernel_rfl) (by kernel_rfl) (by kernel_rfl) (fun _ _ _ h => h) (Or.inl ⟨by rfl, ?ya13⟩) hS ?ra13
    case ya13 => (intro w0 hS0; (try simp only [] at hS0); obtain ⟨hS0_0, hS0_1, hS0_2, hS0_3, hS0_4⟩ := hS0; go_simp; try with_reducible rfl)
    try simp only [yA, yB, yC, Act.put, yD, yE, yF]
    refine wpAnyH_ready (rs := [2]) (by kernel_rfl) (by simp) (AllReadyH.cons (i := 2) rfl (fun K hK => ?_) AllReadyH.nil)
    go_simp
    refine (tidPr_c _ x _ _ _ _ _ _ ).mono ?_
    rintro e0 w1 ⟨rfl, hg⟩
    replace HG := As.mk (gr_then (gr_drew HG.out) hg (.inl rfl))
    replace HF := As.mk (And.intro (hg.cell HF.out.1 (by simp)) (And.intro (hg.cell HF.out.2.1 (by simp)) (And.intro (hg.cell HF.out.2.2.1 (by simp)) (hg.cell HF.out.2.2.2 (by simp)))))
    replace HB := As.mk (HB.out.drew.grown hg (by simp))
    clear hg
    go_simp
    refine hK.out _ _ (⟨HF.out.1, HB.out, HF.out.2.1, HF.out.2.2.1, HF.out.2.2.2⟩) (fun hS => ?_)
    clear hK K
    try simp only [yA, yB, yC, Act.put, yD, yE, yF]
    refine wpAnyH_take (i := 4) (v := ?va15) rfl (by kernel_rfl) (by kernel_rfl) (by kernel_rfl) (fun _ _ _ h => h) (Or.inl ⟨by rfl, ?ya15⟩) hS ?ra15
    case ya15 => (intro w0 _; go_simp; try with_reducible rfl)
    try simp only [yA, yB, yC, Act.put, yD, yE, yF]
    refine wpAnyH_take (i := 5) (v := ?va16) rfl (by kernel_rfl) (by kernel_rfl) (by kernel_rfl) (fun _ _ _ h => h) (Or.inl ⟨by rfl, ?ya16⟩) hS ?ra16
    case ya16 => (intro w0 _; go_simp; try with_reducible rfl)
    try simp only [yA, yB, yC, Act.put, yD, yE, yF]
    refine wpAnyH_done (by kernel_rfl) ?_ _
    refine NoPanic.normal ?_
    try simp only [Exit.then]
    clear hS
    go_wp2_with fail
    go_ret
    exact ⟨rfl, HG.out⟩
  · cases e2 : (x.tid.e == t.e)
    · obtain rfl : r = false := by rw [← HR.out, e1, e2]; rfl
      refine wp_region_noPanic ?_
      refine wp_region_held_drew (S := fun w' => w'.cell? ⟨bO, 0, none⟩ = some (.func (.func 34) #[] #[]) ∧ Blk w' gx 60 #[.int .i64 x.tid.n, .int .i64 x.tid.e, .int .i64 x.tid.s, .slice A1 n1 c1, .slice A2 n2 c2] ∧ w'.cell? ⟨bT, 0, none⟩ = some (.int .i64 t.n) ∧ w'.cell? ⟨bT, 1, none⟩ = some (.int .i64 t.e) ∧ w'.cell? ⟨bT, 2, none⟩ = some (.int .i64 t.s)) (by kernel_rfl) (⟨HF.out.1, HB.out, HF.out.2.1, HF.out.2.2.1, HF.out.2.2.2⟩) (fun hS => ?_)
      refine wpAnyH_take (i := 0) (v := ?vb21) rfl (by kernel_rfl) (by kernel_rfl) (by kernel_rfl) (fun _ _ _ h => h) (Or.inl ⟨by rfl, ?yb21⟩) hS ?rb21
      case yb21 => (intro w0 hS0; (try simp only [] at hS0); obtain ⟨hS0_0, hS0_1, hS0_2, hS0_3, hS0_4⟩ := hS0; go_simp; try with_reducible rfl)
      try simp only [yA, yB, yC, Act.put, yD, yE, yF]
      refine wpAnyH_take (i := 1) (v := ?vb22) rfl (by kernel_rfl) (by kernel_rfl) (by kernel_rfl) (fun _ _ _ h => h) (Or.inl ⟨by rfl, ?yb22⟩) hS ?rb22
      case yb22 => (intro w0 hS0; (try simp only [] at hS0); obtain ⟨hS0_0, hS0_1, hS0_2, hS0_3, hS0_4⟩ := hS0; have q0 := hS0_1.cell 0; have q1 := hS0_1.cell 1; have q2 := hS0_1.cell 2; have q3 := hS0_1.cell 3; have q4 := hS0_1.cell 4; simp only [List.getElem?_toArray, List.getElem?_cons_zero, List.getElem?_cons_succ] at q0 q1 q2 q3 q4; go_simp; try with_reducible rfl)
      try simp only [yA, yB, yC, Act.put, yD, yE, yF]
      refine wpAnyH_take (i := 3) (v := ?vb23) rfl (by kernel_rfl) (by kernel_rfl) (by kernel_rfl) (fun _ _ _ h => h) (Or.inl ⟨by rfl, ?yb23⟩) hS ?rb23
      case yb23 => (intro w0 hS0; (try simp only [] at hS0); obtain ⟨hS0_0, hS0_1, hS0_2, hS0_3, hS0_4⟩ := hS0; go_simp; try with_reducible rfl)
      try simp only [yA, yB, yC, Act.put, yD, yE, yF]
      refine wpAnyH_ready (rs := [2]) (by kernel_rfl) (by simp) (AllReadyH.cons (i := 2) rfl (fun K hK => ?_) AllReadyH.nil)
      go_simp
      refine (tidPr_c _ x _ _ _ _ _ _ ).mono ?_
      rintro e0 w1 ⟨rfl, hg⟩
      replace HG := As.mk (gr_then (gr_drew HG.out) hg (.inl rfl))
      replace HF := As.mk (And.intro (hg.cell HF.out.1 (by simp)) (And.intro (hg.cell HF.out.2.1 (by simp)) (And.intro (hg.cell HF.out.2.2.1 (by simp)) (hg.cell HF.out.2.2.2 (by simp)))))
      replace HB := As.mk (HB.out.drew.grown hg (by simp))
      clear hg
      go_simp
      refine hK.out _ _ (⟨HF.out.1, HB.out, HF.out.2.1, HF.out.2.2.1, HF.out.2.2.2⟩) (fun hS => ?_)
      clear hK K
      try simp only [yA, yB, yC, Act.put, yD, yE, yF]
      refine wpAnyH_take (i := 4) (v := ?vb25) rfl (by kernel_rfl) (by kernel_rfl) (by kernel_rfl) (fun _ _ _ h => h) (Or.inl ⟨by rfl, ?yb25⟩) hS ?rb25
      case yb25 => (intro w0 _; go_simp; try with_reducible rfl)
      try simp only [yA, yB, yC, Act.put, yD, yE, yF]
      refine wpAnyH_take (i := 5) (v := ?vb26) rfl (by kernel_rfl) (by kernel_rfl) (by kernel_rfl) (fun _ _ _ h => h) (Or.inl ⟨by rfl, ?yb26⟩) hS ?rb26
      case yb26 => (intro w0 _; go_simp; try with_reducible rfl)
      try simp only [yA, yB, yC, Act.put, yD, yE, yF]
      refine wpAnyH_done (by kernel_rfl) ?_ _
      refine NoPanic.normal ?_
      try simp only [Exit.then]
      clear hS
      go_wp2_with fail
      go_ret
      exact ⟨rfl, HG.out⟩
    · cases e3 : (x.tid.s == t.s)
      · obtain rfl : r = false := by rw [← HR.out, e1, e2, e3]; rfl
        refine wp_region_noPanic ?_
        refine wp_region_held_drew (S := fun w' => w'.cell? ⟨bO, 0, none⟩ = some (.func (.func 34) #[] #[]) ∧ Blk w' gx 60 #[.int .i64 x.tid.n, .int .i64 x.tid.e, .int .i64 x.tid.s, .slice A1 n1 c1, .slice A2 n2 c2] ∧ w'.cell? ⟨bT, 0, none⟩ = some (.int .i64 t.n) ∧ w'.cell? ⟨bT, 1, none⟩ = some (.int .i64 t.e) ∧ w'.cell? ⟨bT, 2, none⟩ = some (.int .i64 t.s)) (by kernel_rfl) (⟨HF.out.1, HB.out, HF.out.2.1, HF.out.2.2.1, HF.out.2.2.2⟩) (fun hS => ?_)
        refine wpAnyH_take (i := 0) (v := ?vc31) rfl (by kernel_rfl) (by kernel_rfl) (by kernel_rfl) (fun _ _ _ h => h) (Or.inl ⟨by rfl, ?yc31⟩) hS ?rc31
        case yc31 => (intro w0 hS0; (try simp only [] at hS0); obtain ⟨hS0_0, hS0_1, hS0_2, hS0_3, hS0_4⟩ := hS0; go_simp; try with_reducible rfl)
        try simp only [yA, yB, yC, Act.put, yD, yE, yF]
        refine wpAnyH_take (i := 1) (v := ?vc32) rfl (by kernel_rfl) (by kernel_rfl) (by kernel_rfl) (fun _ _ _ h => h) (Or.inl ⟨by rfl, ?yc32⟩) hS ?rc32
        case yc32 => (intro w0 hS0; (try simp only [] at hS0); obtain ⟨hS0_0, hS0_1, hS0_2, hS0_3, hS0_4⟩ := hS0; have q0 := hS0_1.cell 0; have q1 := hS0_1.cell 1; have q2 := hS0_1.cell 2; have q3 := hS0_1.cell 3; have q4 := hS0_1.cell 4; simp only [List.getElem?_toArray, List.getElem?_cons_zero, List.getElem?_cons_succ] at q0 q1 q2 q3 q4; go_simp; try with_reducible rfl)
        try simp only [yA, yB, yC, Act.put, yD, yE, yF]
        refine wpAnyH_take (i := 3) (v := ?vc33) rfl (by kernel_rfl) (by kernel_rfl) (by kernel_rfl) (fun _ _ _ h => h) (Or.inl ⟨by rfl, ?yc33⟩) hS ?rc33
        case yc33 => (intro w0 hS0; (try simp only [] at hS0); obtain ⟨hS0_0, hS0_1, hS0_2, hS0_3, hS0_4⟩ := hS0; go_simp; try with_reducible rfl)
        try simp only [yA, yB, yC, Act.put, yD, yE, yF]
        refine wpAnyH_ready (rs := [2]) (by kernel_rfl) (by simp) (AllReadyH.cons (i := 2) rfl (fun K hK => ?_) AllReadyH.nil)
        go_simp
        refine (tidPr_c _ x _ _ _ _ _ _ ).mono ?_
        rintro e0 w1 ⟨rfl, hg⟩
        replace HG := As.mk (gr_then (gr_drew HG.out) hg (.inl rfl))
        replace HF := As.mk (And.intro (hg.cell HF.out.1 (by simp)) (And.intro (hg.cell HF.out.2.1 (by simp)) (And.intro (hg.cell HF.out.2.2.1 (by simp)) (hg.cell HF.out.2.2.2 (by simp)))))
        replace HB := As.mk (HB.out.drew.grown hg (by simp))
        clear hg
        go_simp
        refine hK.out _ _ (⟨HF.out.1, HB.out, HF.out.2.1, HF.out.2.2.1, HF.out.2.2.2⟩) (fun hS => ?_)
        clear hK K
        try simp only [yA, yB, yC, Act.put, yD, yE, yF]
        refine wpAnyH_take (i := 4) (v := ?vc35) rfl (by kernel_rfl) (by kernel_rfl) (by kernel_rfl) (fun _ _ _ h => h) (Or.inl ⟨by rfl, ?yc35⟩) hS ?rc35
        case yc35 => (intro w0 _; go_simp; try with_reducible rfl)
        try simp only [yA, yB, yC, Act.put, yD, yE, yF]
        refine wpAnyH_take (i := 5) (v := ?vc36) rfl (by kernel_rfl) (by kernel_rfl) (by kernel_rfl) (fun _ _ _ h => h) (Or.inl ⟨by rfl, ?yc36⟩) hS ?rc36
        case yc36 => (intro w0 _; go_simp; try with_reducible rfl)
        try simp only [yA, yB, yC, Act.put, yD, yE, yF]
        refine wpAnyH_done (by kernel_rfl) ?_ _
        refine NoPanic.normal ?_
        try simp only [Exit.then]
        clear hS
        go_wp2_with fail
        go_ret
        exact ⟨rfl, HG.out⟩
      · obtain rfl : r = true := by rw [← HR.out, e1, e2, e3]; rfl
        refine wp_region_noPanic ?_
        refine wp_region_held_drew (S := fun w' => w'.cell? ⟨bO, 0, none⟩ = some (.func (.func 34) #[] #[]) ∧ Blk w' gx 60 #[.int .i64 x.tid.n, .int .i64 x.tid.e, .int .i64 x.tid.s, .slice A1 n1 c1, .slice A2 n2 c2] ∧ w'.cell? ⟨bT, 0, none⟩ = some (.int .i64 t.n) ∧ w'.cell? ⟨bT, 1, none⟩ = some (.int .i64 t.e) ∧ w'.cell? ⟨bT, 2, none⟩ = some (.int .i64 t.s)) (by kernel_rfl) (⟨HF.out.1, HB.out, HF.out.2.1, HF.out.2.2.1, HF.out.2.2.2⟩) (fun hS => ?_)
        refine wpAnyH_take (i := 0) (v := ?vd41) rfl (by kernel_rfl) (by kernel_rfl) (by kernel_rfl) (fun _ _ _ h => h) (Or.inl ⟨by rfl, ?yd41⟩) hS ?rd41
        case yd41 => (intro w0 hS0; (try simp only [] at hS0); obtain ⟨hS0_0, hS0_1, hS0_2, hS0_3, hS0_4⟩ := hS0; go_simp; try with_reducible rfl)
        try simp only [yA, yB, yC, Act.put, yD, yE, yF]
        refine wpAnyH_take (i := 1) (v := ?vd42) rfl (by kernel_rfl) (by kernel_rfl) (by kernel_rfl) (fun _ _ _ h => h) (Or.inl ⟨by rfl, ?yd42⟩) hS ?rd42
        case yd42 => (intro w0 hS0; (try simp only [] at hS0); obtain ⟨hS0_0, hS0_1, hS0_2, hS0_3, hS0_4⟩ := hS0; have q0 := hS0_1.cell 0; have q1 := hS0_1.cell 1; have q2 := hS0_1.cell 2; have q3 := hS0_1.cell 3; have q4 := hS0_1.cell 4; simp only [List.getElem?_toArray, List.getElem?_cons_zero, List.getElem?_cons_succ] at q0 q1 q2 q3 q4; go_simp; try with_reducible rfl)
        try simp only [yA, yB, yC, Act.put, yD, yE, yF]
        refine wpAnyH_take (i := 3) (v := ?vd43) rfl (by kernel_rfl) (by kernel_rfl) (by kernel_rfl) (fun _ _ _ h => h) (Or.inl ⟨by rfl, ?yd43⟩) hS ?rd43
        case yd43 => (intro w0 hS0; (try simp only [] at hS0); obtain ⟨hS0_0, hS0_1, hS0_2, hS0_3, hS0_4⟩ := hS0; go_simp; try with_reducible rfl)
        try simp only [yA, yB, yC, Act.put, yD, yE, yF]
        refine wpAnyH_ready (rs := [2]) (by kernel_rfl) (by simp) (AllReadyH.cons (i := 2) rfl (fun K hK => ?_) AllReadyH.nil)
        go_simp
        refine (tidPr_c _ x _ _ _ _ _ _ ).mono ?_
        rintro e0 w1 ⟨rfl, hg⟩
        replace HG := As.mk (gr_then (gr_drew HG.out) hg (.inl rfl))
        replace HF := As.mk (And.intro (hg.cell HF.out.1 (by simp)) (And.intro (hg.cell HF.out.2.1 (by simp)) (And.intro (hg.cell HF.out.2.2.1 (by simp)) (hg.cell HF.out.2.2.2 (by simp)))))
        replace HB := As.mk (HB.out.drew.grown hg (by simp))
        clear hg
        go_simp
        refine hK.out _ _ (⟨HF.out.1, HB.out, HF.out.2.1, HF.out.2.2.1, HF.out.2.2.2⟩) (fun hS => ?_)
        clear hK K
        try simp only [yA, yB, yC, Act.put, yD, yE, yF]
        refine wpAnyH_take (i := 4) (v := ?vd45) rfl (by kernel_rfl) (by kernel_rfl) (by kernel_rfl) (fun _ _ _ h => h) (Or.inl ⟨by rfl, ?yd45⟩) hS ?rd45
        case yd45 => (intro w0 _; go_simp; try with_reducible rfl)
        try simp only [yA, yB, yC, Act.put, yD, yE, yF]
        refine wpAnyH_take (i := 5) (v := ?vd46) rfl (by kernel_rfl) (by kernel_rfl) (by kernel_rfl) (fun _ _ _ h => h) (Or.inl ⟨by rfl, ?yd46⟩) hS ?rd46
        case yd46 => (intro w0 _; go_simp; try with_reducible rfl)
        try simp only [yA, yB, yC, Act.put, yD, yE, yF]
        refine wpAnyH_done (by kernel_rfl) ?_ _
        refine NoPanic.normal ?_
        try simp only [Exit.then]
        clear hS
        go_wp2_with fail
        go_ret
        exact ⟨rfl, HG.out⟩
set_option maxHeartbeats 1600000 in
theorem idxPr_c (w : World) (v : Value) (l : List PPr) (h : Arr PrE 5 w v l) (t : PTid) (bO bT : Nat) (hO : w.cell? ⟨bO, 0, none⟩ = some (.func (.func 34) #[] #[])) (hT : Blk w bT 39 #[.int .i64 t.n, .int .i64 t.e, .int .i64 t.s]) :
    Calls Try.prog 63 #[v, .func (.func 64) #[] #[.pointer (some ⟨bO, 0, none⟩), .pointer (some ⟨bT, 0, none⟩)]] w fun e w' => e = .returned (.int .i64 (findI (fun x => eqT x.tid t) l)) ∧ w.grownBy w' none := by
  obtain ⟨A, c, rfl⟩ := h.len
  have hl := h.le
  have H := As.mk h
  have HO := As.mk (And.intro hO hT)
  clear h hO hT
  go_enter Try.func63, Try.ntmps63
  go_wp2_with fail
  go_loopw [8] (fun i wr => ∃ k : Nat, k ≤ l.length ∧ i = .int .i64 k ∧ As ((l.take k).any (fun x => eqT x.tid t) = false ∧ w.grownBy wr none)) (fun i _ => l.length - (intOf i).toNat)
  case atStart => exact ⟨0, Nat.zero_le _, rfl, ⟨by simp, gr_refl _ _⟩⟩
  case round =>
    obtain ⟨k, hk, rfl, HL⟩ := hrel
    by_cases hlt : k < l.length
    · have hltI : (k : Int) < (l.length : Int) := by omega
      have hk0 : (0 : Int) ≤ (k : Int) := by omega
      obtain ⟨b, o, cs, rfl, ⟨A1, c1, A2, c2, hE, _⟩, hcs, hcell⟩ := H.out.at_ k l[k] (List.getElem?_eq_getElem hlt)
      obtain rfl := hE
      have c0 : wr.cell? ⟨b, o + k * 5, none⟩ = _ := HL.out.2.cell (hcell 0 _ rfl) (by simp)
      have c1_ := HL.out.2.cell (hcell 1 _ rfl) (by simp)
      have c2_ := HL.out.2.cell (hcell 2 _ rfl) (by simp)
      have c3_ := HL.out.2.cell (hcell 3 _ rfl) (by simp)
      have c4_ := HL.out.2.cell (hcell 4 _ rfl) (by simp)
      have HS := As.mk (any_take_succ (fun x : PPr => eqT x.tid t) l k hlt)
      have HFA := As.mk (fun h0 h1 => findI_at (p := fun x : PPr => eqT x.tid t) hlt h0 h1)
      clear hcell hcs
      generalize l[k]'hlt = x at *
      go_wp2_with fail
      refine (at1Pr_c wr x _ _ _ _ _ _ t bO bT (HL.out.2.cell HO.out.1 (by simp)) (HO.out.2.grown HL.out.2 (by simp)) _ rfl).mono ?_
      rintro e w1 ⟨rfl, g1⟩
      have G1 := As.mk (gr_then HL.out.2 g1 (.inl rfl))
      clear g1 c0 c1_ c2_ c3_ c4_
      cases hf : eqT x.tid t
      · have HF := As.mk hf
        clear hf HFA
        go_wp2_with fail
        go_roundw
        case measure => simp [intOf]; omega
        case rel => exact ⟨k + 1, by omega, by go_num, ⟨by rw [HS.out, HL.out.1, HF.out]; rfl, G1.out⟩⟩
      · have HF := As.mk (HFA.out HL.out.1 hf)
        clear hf HFA
        go_wp2_with fail
        go_ret
        exact ⟨by rw [HF.out]; rfl, G1.out⟩
    · obtain rfl : k = l.length := by omega
      rw [List.take_of_length_le (Nat.le_refl _)] at HL
      have HX := As.mk (findI_none HL.out.1)
      have HY := As.mk HL.out.2
      clear HL
      go_wp2_with fail
      go_ret
      exact ⟨by rw [HX.out]; rfl, HY.out⟩
set_option maxHeartbeats 1600000 in
theorem atPr_c (w : World) (v : Value) (l : List PPr) (h : Arr PrE 5 w v l) (t : PTid) :
    Calls Try.prog 33 #[v, .agg #[.int .i64 t.n, .int .i64 t.e, .int .i64 t.s], .func (.func 34) #[] #[]] w fun e w' => e = .returned (.int .i64 (findI (fun x => eqT x.tid t) l)) ∧ w.grownBy w' none := by
  have g2 := gr_alloc (gr_alloc (gr_refl w none) (.cells #[.int .i64 t.n, .int .i64 t.e, .int .i64 t.s] 39)) (.cells #[.func (.func 34) #[] #[]] 94)
  have HG := As.mk g2
  have HA := As.mk (show Arr PrE 5 _ v l from h.below g2 (fun x cs h => h.grown g2))
  have HT := As.mk ((Blk.new w 39 #[.int .i64 t.n, .int .i64 t.e, .int .i64 t.s]).alloc (.cells #[.func (.func 34) #[] #[]] 94))
  have HO := As.mk ((Blk.new_at (w.alloc (.cells #[.int .i64 t.n, .int .i64 t.e, .int .i64 t.s] 39)) 94 #[.func (.func 34) #[] #[]] (g := w.heap.size + 1) (by simp)).cell 0)
  clear g2 h
  go_enter Try.func33, Try.ntmps33
  go_wp2_with fail
  refine (idxPr_c _ v l HA.out t _ _ HO.out HT.out).mono ?_
  rintro e w1 ⟨rfl, g1⟩
  have HX := As.mk (HG.out.trans g1)
  clear g1 HG HA HT HO
  go_wp2_with fail
  go_ret
  exact ⟨rfl, HX.out⟩
set_option maxHeartbeats 1600000 in
theorem findPr_c (w : World) (s : PSt) (vP vQ vD vC : Value) (h : StR w s vP vQ vD vC) (t : PTid) :
    Calls Try.prog 16 #[.agg (stCells s vP vQ vD vC), .agg #[.int .i64 t.n, .int .i64 t.e, .int .i64 t.s]] w fun e w' => e = .returned (.int .i64 (findI (fun x => eqT x.tid t) s.prepared)) ∧ w.grownBy w' none := by
  obtain ⟨A1, c1, rfl⟩ := h.pl.len
  obtain ⟨A2, c2, rfl⟩ := h.pr.len
  obtain ⟨A3, c3, rfl⟩ := h.de.len
  obtain ⟨A4, c4, rfl⟩ := h.cm.len
  unfold stCells
  have g2 := gr_alloc (gr_alloc (gr_refl w none) (.cells #[.int .i64 s.node, .int .i64 s.nodes, .int .i64 s.cells, .int .i64 s.epoch, .slice A1 s.places.length c1, .slice A2 s.prepared.length c2, .slice A3 s.decided.length c3, .slice A4 s.commits.length c4] 32)) (.cells #[.int .i64 t.n, .int .i64 t.e, .int .i64 t.s] 39)
  have HG := As.mk g2
  have HR := As.mk (h.grown g2)
  clear g2 h
  go_enter Try.func16, Try.ntmps16
  go_wp2_with fail
  refine (atPr_c _ _ s.prepared HR.out.pr t).mono ?_
  rintro e w1 ⟨rfl, g1⟩
  have HX := As.mk (HG.out.trans g1)
  clear g1 HG HR
  go_wp2_with fail
  go_ret
  exact ⟨rfl, HX.out⟩
set_option maxHeartbeats 1600000 in
theorem tidDe_c (w : World) (x : PDe) :
    Calls Try.prog 32 #[.agg #[.int .i64 x.tid.n, .int .i64 x.tid.e, .int .i64 x.tid.s, .bool x.yes]] w fun e w' => e = .returned (.agg #[.int .i64 x.tid.n, .int .i64 x.tid.e, .int .i64 x.tid.s]) ∧ w.grownBy w' none := by
  have HG := As.mk (gr_alloc (gr_alloc (gr_refl w none) (.cells #[.int .i64 x.tid.n, .int .i64 x.tid.e, .int .i64 x.tid.s, .bool x.yes] 55)) (.cells #[.int .i64 x.tid.n, .int .i64 x.tid.e, .int .i64 x.tid.s] 39))
  go_enter Try.func32, Try.ntmps32
  go_wp2_with fail
  exact bodyPost_ret (v := .agg #[.int .i64 x.tid.n, .int .i64 x.tid.e, .int .i64 x.tid.s]) (by simp [results, Try.results32, go_sem]) rfl ⟨rfl, HG.out⟩
set_option maxHeartbeats 3200000 in
theorem at1De_c (w : World) (x : PDe) (t : PTid) (bO bT : Nat) (hO : w.cell? ⟨bO, 0, none⟩ = some (.func (.func 32) #[] #[])) (hT : Blk w bT 39 #[.int .i64 t.n, .int .i64 t.e, .int .i64 t.s]) (r : Bool) (hr : eqT x.tid t = r) :
    Calls Try.prog 62 #[.agg #[.int .i64 x.tid.n, .int .i64 x.tid.e, .int .i64 x.tid.s, .bool x.yes], .pointer (some ⟨bO, 0, none⟩), .pointer (some ⟨bT, 0, none⟩)] w fun e w' => e = .returned (.bool r) ∧ w.grownBy w' none := by
  have HG := As.mk (gr_alloc (gr_refl w none) (.cells #[.int .i64 x.tid.n, .int .i64 x.tid.e, .int .i64 x.tid.s, .bool x.yes] 55))
  have HB := As.mk (Blk.new w 55 #[.int .i64 x.tid.n, .int .i64 x.tid.e, .int .i64 x.tid.s, .bool x.yes])
  have hT0 := hT.cell 0
  have hT1 := hT.cell 1
  have hT2 := hT.cell 2
  simp only [List.getElem?_toArray, List.getElem?_cons_zero, List.getElem?_cons_succ] at hT0 hT1 hT2
  have HF := As.mk (And.intro (HG.out.cell hO (by simp)) (And.intro (HG.out.cell hT0 (by simp)) (And.intro (HG.out.cell hT1 (by simp)) (HG.out.cell hT2 (by simp)))))
  have HR := As.mk hr
  unfold eqT at HR
  clear hO hT hT0 hT1 hT2 hr
  go_enter Try.func62, Try.ntmps62
  go_wp2_with fail
  generalize w.alloc (.cells #[.int .i64 x.tid.n, .int .i64 x.tid.e, .int .i64 x.tid.s, .bool x.yes] 55) = W at *
  generalize w.heap.size = gx at *
  cases e1 : (x.tid.n == t.n)
  · obtain rfl : r = false := by rw [← HR.out, e1]; rfl
    refine wp_region_noPanic ?_
    refine wp_region_held_drew (S := fun w' => w'.cell? ⟨bO, 0, none⟩ = some (.func (.func 32) #[] #[]) ∧ Blk w' gx 55 #[.int .i64 x.tid.n, .int .i64 x.tid.e, .int .i64 x.tid.s, .bool x.yes] ∧ w'.cell? ⟨bT, 0, none⟩ = some (.int .i64 t.n) ∧ w'.cell? ⟨bT, 1, none⟩ = some (.int .i64 t.e) ∧ w'.cell? ⟨bT, 2, none⟩ = some (.int .i64 t.s)) (by kernel_rfl) (⟨HF.out.1, HB.out, HF.out.2.1, HF.out.2.2.1, HF.out.2.2.2⟩) (fun hS => ?_)
    refine wpAnyH_take (i := 0) (v := ?va11) rfl (by kernel_rfl) (by kernel_rfl) (by kernel_rfl) (fun _ _ _ h => h) (Or.inl ⟨by rfl, ?ya11⟩) hS ?ra11
    case ya11 => (intro w0 hS0; (try simp only [] at hS0); obtain ⟨hS0_0, hS0_1, hS0_2, hS0_3, hS0_4⟩ := hS0; go_simp; try with_reducible rfl)
    try simp only [yA, yB, yC, Act.put, yD, yE, yF]
    refine wpAnyH_take (i := 1) (v := ?va12) rfl (by kernel_rfl) (by kernel_rfl) (by kernel_rfl) (fun _ _ _ h => h) (Or.inl ⟨by rfl, ?ya12⟩) hS ?ra12
    case ya12 => (intro w0 hS0; (try simp only [] at hS0); obtain ⟨hS0_0, hS0_1, hS0_2, hS0_3, hS0_4⟩ := hS0; have q0 := hS0_1.cell 0; have q1 := hS0_1.cell 1; have q2 := hS0_1.cell 2; have q3 := hS0_1.cell 3; simp only [List.getElem?_toArray, List.getElem?_cons_zero, List.getElem?_cons_succ] at q0 q1 q2 q3; go_simp; try with_reducible rfl)
    try simp only [yA, yB, yC, Act.put, yD, yE, yF]
    refine wpAnyH_take (i := 3) (v := ?va13) rfl (by kernel_rfl) (by kernel_rfl) (by kernel_rfl) (fun _ _ _ h => h) (Or.inl ⟨by rfl, ?ya13⟩) hS ?ra13
    case ya13 => (intro w0 hS0; (try simp only [] at hS0); obtain ⟨hS0_0, hS0_1, hS0_2, hS0_3, hS0_4⟩ := hS0; go_simp; try with_reducible rfl)
    try simp only [yA, yB, yC, Act.put, yD, yE, yF]
    refine wpAnyH_ready (rs := [2]) (by kernel_rfl) (by simp) (AllReadyH.cons (i := 2) rfl (fun K hK => ?_) AllReadyH.nil)
    go_simp
    refine (tidDe_c _ x ).mono ?_
    rintro e0 w1 ⟨rfl, hg⟩
    replace HG := As.mk (gr_then (gr_drew HG.out) hg (.inl rfl))
    replace HF := As.mk (And.intro (hg.cell HF.out.1 (by simp)) (And.intro (hg.cell HF.out.2.1 (by simp)) (And.intro (hg.cell HF.out.2.2.1 (by simp)) (hg.cell HF.out.2.2.2 (by simp)))))
    replace HB := As.mk (HB.out.drew.grown hg (by simp))
    clear hg
    go_simp
    refine hK.out _ _ (⟨HF.out.1, HB.out, HF.out.2.1, HF.out.2.2.1, HF.out.2.2.2⟩) (fun hS => ?_)
    clear hK K
    try simp only [yA, yB, yC, Act.put, yD, yE, yF]
    refine wpAnyH_take (i := 4) (v := ?va15) rfl (by kernel_rfl) (by kernel_rfl) (by kernel_rfl) (fun _ _ _ h => h) (Or.inl ⟨by rfl, ?ya15⟩) hS ?ra15
    case ya15 => (intro w0 _; go_simp; try with_reducible rfl)
    try simp only [yA, yB, yC, Act.put, yD, yE, yF]
    refine wpAnyH_take (i := 5) (v := ?va16) rfl (by kernel_rfl) (by kernel_rfl) (by kernel_rfl) (fun _ _ _ h => h) (Or.inl ⟨by rfl, ?ya16⟩) hS ?ra16
    case ya16 => (intro w0 _; go_simp; try with_reducible rfl)
    try simp only [yA, yB, yC, Act.put, yD, yE, yF]
    refine wpAnyH_done (by kernel_rfl) ?_ _
    refine NoPanic.normal ?_
    try simp only [Exit.then]
    clear hS
    go_wp2_with fail
    go_ret
    exact ⟨rfl, HG.out⟩
  · cases e2 : (x.tid.e == t.e)
    · obtain rfl : r = false := by rw [← HR.out, e1, e2]; rfl
      refine wp_region_noPanic ?_
      refine wp_region_held_drew (S := fun w' => w'.cell? ⟨bO, 0, none⟩ = some (.func (.func 32) #[] #[]) ∧ Blk w' gx 55 #[.int .i64 x.tid.n, .int .i64 x.tid.e, .int .i64 x.tid.s, .bool x.yes] ∧ w'.cell? ⟨bT, 0, none⟩ = some (.int .i64 t.n) ∧ w'.cell? ⟨bT, 1, none⟩ = some (.int .i64 t.e) ∧ w'.cell? ⟨bT, 2, none⟩ = some (.int .i64 t.s)) (by kernel_rfl) (⟨HF.out.1, HB.out, HF.out.2.1, HF.out.2.2.1, HF.out.2.2.2⟩) (fun hS => ?_)
      refine wpAnyH_take (i := 0) (v := ?vb21) rfl (by kernel_rfl) (by kernel_rfl) (by kernel_rfl) (fun _ _ _ h => h) (Or.inl ⟨by rfl, ?yb21⟩) hS ?rb21
      case yb21 => (intro w0 hS0; (try simp only [] at hS0); obtain ⟨hS0_0, hS0_1, hS0_2, hS0_3, hS0_4⟩ := hS0; go_simp; try with_reducible rfl)
      try simp only [yA, yB, yC, Act.put, yD, yE, yF]
      refine wpAnyH_take (i := 1) (v := ?vb22) rfl (by kernel_rfl) (by kernel_rfl) (by kernel_rfl) (fun _ _ _ h => h) (Or.inl ⟨by rfl, ?yb22⟩) hS ?rb22
      case yb22 => (intro w0 hS0; (try simp only [] at hS0); obtain ⟨hS0_0, hS0_1, hS0_2, hS0_3, hS0_4⟩ := hS0; have q0 := hS0_1.cell 0; have q1 := hS0_1.cell 1; have q2 := hS0_1.cell 2; have q3 := hS0_1.cell 3; simp only [List.getElem?_toArray, List.getElem?_cons_zero, List.getElem?_cons_succ] at q0 q1 q2 q3; go_simp; try with_reducible rfl)
      try simp only [yA, yB, yC, Act.put, yD, yE, yF]
      refine wpAnyH_take (i := 3) (v := ?vb23) rfl (by kernel_rfl) (by kernel_rfl) (by kernel_rfl) (fun _ _ _ h => h) (Or.inl ⟨by rfl, ?yb23⟩) hS ?rb23
      case yb23 => (intro w0 hS0; (try simp only [] at hS0); obtain ⟨hS0_0, hS0_1, hS0_2, hS0_3, hS0_4⟩ := hS0; go_simp; try with_reducible rfl)
      try simp only [yA, yB, yC, Act.put, yD, yE, yF]
      refine wpAnyH_ready (rs := [2]) (by kernel_rfl) (by simp) (AllReadyH.cons (i := 2) rfl (fun K hK => ?_) AllReadyH.nil)
      go_simp
      refine (tidDe_c _ x ).mono ?_
      rintro e0 w1 ⟨rfl, hg⟩
      replace HG := As.mk (gr_then (gr_drew HG.out) hg (.inl rfl))
      replace HF := As.mk (And.intro (hg.cell HF.out.1 (by simp)) (And.intro (hg.cell HF.out.2.1 (by simp)) (And.intro (hg.cell HF.out.2.2.1 (by simp)) (hg.cell HF.out.2.2.2 (by simp)))))
      replace HB := As.mk (HB.out.drew.grown hg (by simp))
      clear hg
      go_simp
      refine hK.out _ _ (⟨HF.out.1, HB.out, HF.out.2.1, HF.out.2.2.1, HF.out.2.2.2⟩) (fun hS => ?_)
      clear hK K
      try simp only [yA, yB, yC, Act.put, yD, yE, yF]
      refine wpAnyH_take (i := 4) (v := ?vb25) rfl (by kernel_rfl) (by kernel_rfl) (by kernel_rfl) (fun _ _ _ h => h) (Or.inl ⟨by rfl, ?yb25⟩) hS ?rb25
      case yb25 => (intro w0 _; go_simp; try with_reducible rfl)
      try simp only [yA, yB, yC, Act.put, yD, yE, yF]
      refine wpAnyH_take (i := 5) (v := ?vb26) rfl (by kernel_rfl) (by kernel_rfl) (by kernel_rfl) (fun _ _ _ h => h) (Or.inl ⟨by rfl, ?yb26⟩) hS ?rb26
      case yb26 => (intro w0 _; go_simp; try with_reducible rfl)
      try simp only [yA, yB, yC, Act.put, yD, yE, yF]
      refine wpAnyH_done (by kernel_rfl) ?_ _
      refine NoPanic.normal ?_
      try simp only [Exit.then]
      clear hS
      go_wp2_with fail
      go_ret
      exact ⟨rfl, HG.out⟩
    · cases e3 : (x.tid.s == t.s)
      · obtain rfl : r = false := by rw [← HR.out, e1, e2, e3]; rfl
        refine wp_region_noPanic ?_
        refine wp_region_held_drew (S := fun w' => w'.cell? ⟨bO, 0, none⟩ = some (.func (.func 32) #[] #[]) ∧ Blk w' gx 55 #[.int .i64 x.tid.n, .int .i64 x.tid.e, .int .i64 x.tid.s, .bool x.yes] ∧ w'.cell? ⟨bT, 0, none⟩ = some (.int .i64 t.n) ∧ w'.cell? ⟨bT, 1, none⟩ = some (.int .i64 t.e) ∧ w'.cell? ⟨bT, 2, none⟩ = some (.int .i64 t.s)) (by kernel_rfl) (⟨HF.out.1, HB.out, HF.out.2.1, HF.out.2.2.1, HF.out.2.2.2⟩) (fun hS => ?_)
        refine wpAnyH_take (i := 0) (v := ?vc31) rfl (by kernel_rfl) (by kernel_rfl) (by kernel_rfl) (fun _ _ _ h => h) (Or.inl ⟨by rfl, ?yc31⟩) hS ?rc31
        case yc31 => (intro w0 hS0; (try simp only [] at hS0); obtain ⟨hS0_0, hS0_1, hS0_2, hS0_3, hS0_4⟩ := hS0; go_simp; try with_reducible rfl)
        try simp only [yA, yB, yC, Act.put, yD, yE, yF]
        refine wpAnyH_take (i := 1) (v := ?vc32) rfl (by kernel_rfl) (by kernel_rfl) (by kernel_rfl) (fun _ _ _ h => h) (Or.inl ⟨by rfl, ?yc32⟩) hS ?rc32
        case yc32 => (intro w0 hS0; (try simp only [] at hS0); obtain ⟨hS0_0, hS0_1, hS0_2, hS0_3, hS0_4⟩ := hS0; have q0 := hS0_1.cell 0; have q1 := hS0_1.cell 1; have q2 := hS0_1.cell 2; have q3 := hS0_1.cell 3; simp only [List.getElem?_toArray, List.getElem?_cons_zero, List.getElem?_cons_succ] at q0 q1 q2 q3; go_simp; try with_reducible rfl)
        try simp only [yA, yB, yC, Act.put, yD, yE, yF]
        refine wpAnyH_take (i := 3) (v := ?vc33) rfl (by kernel_rfl) (by kernel_rfl) (by kernel_rfl) (fun _ _ _ h => h) (Or.inl ⟨by rfl, ?yc33⟩) hS ?rc33
        case yc33 => (intro w0 hS0; (try simp only [] at hS0); obtain ⟨hS0_0, hS0_1, hS0_2, hS0_3, hS0_4⟩ := hS0; go_simp; try with_reducible rfl)
        try simp only [yA, yB, yC, Act.put, yD, yE, yF]
        refine wpAnyH_ready (rs := [2]) (by kernel_rfl) (by simp) (AllReadyH.cons (i := 2) rfl (fun K hK => ?_) AllReadyH.nil)
        go_simp
        refine (tidDe_c _ x ).mono ?_
        rintro e0 w1 ⟨rfl, hg⟩
        replace HG := As.mk (gr_then (gr_drew HG.out) hg (.inl rfl))
        replace HF := As.mk (And.intro (hg.cell HF.out.1 (by simp)) (And.intro (hg.cell HF.out.2.1 (by simp)) (And.intro (hg.cell HF.out.2.2.1 (by simp)) (hg.cell HF.out.2.2.2 (by simp)))))
        replace HB := As.mk (HB.out.drew.grown hg (by simp))
        clear hg
        go_simp
        refine hK.out _ _ (⟨HF.out.1, HB.out, HF.out.2.1, HF.out.2.2.1, HF.out.2.2.2⟩) (fun hS => ?_)
        clear hK K
        try simp only [yA, yB, yC, Act.put, yD, yE, yF]
        refine wpAnyH_take (i := 4) (v := ?vc35) rfl (by kernel_rfl) (by kernel_rfl) (by kernel_rfl) (fun _ _ _ h => h) (Or.inl ⟨by rfl, ?yc35⟩) hS ?rc35
        case yc35 => (intro w0 _; go_simp; try with_reducible rfl)
        try simp only [yA, yB, yC, Act.put, yD, yE, yF]
        refine wpAnyH_take (i := 5) (v := ?vc36) rfl (by kernel_rfl) (by kernel_rfl) (by kernel_rfl) (fun _ _ _ h => h) (Or.inl ⟨by rfl, ?yc36⟩) hS ?rc36
        case yc36 => (intro w0 _; go_simp; try with_reducible rfl)
        try simp only [yA, yB, yC, Act.put, yD, yE, yF]
        refine wpAnyH_done (by kernel_rfl) ?_ _
        refine NoPanic.normal ?_
        try simp only [Exit.then]
        clear hS
        go_wp2_with fail
        go_ret
        exact ⟨rfl, HG.out⟩
      · obtain rfl : r = true := by rw [← HR.out, e1, e2, e3]; rfl
        refine wp_region_noPanic ?_
        refine wp_region_held_drew (S := fun w' => w'.cell? ⟨bO, 0, none⟩ = some (.func (.func 32) #[] #[]) ∧ Blk w' gx 55 #[.int .i64 x.tid.n, .int .i64 x.tid.e, .int .i64 x.tid.s, .bool x.yes] ∧ w'.cell? ⟨bT, 0, none⟩ = some (.int .i64 t.n) ∧ w'.cell? ⟨bT, 1, none⟩ = some (.int .i64 t.e) ∧ w'.cell? ⟨bT, 2, none⟩ = some (.int .i64 t.s)) (by kernel_rfl) (⟨HF.out.1, HB.out, HF.out.2.1, HF.out.2.2.1, HF.out.2.2.2⟩) (fun hS => ?_)
        refine wpAnyH_take (i := 0) (v := ?vd41) rfl (by kernel_rfl) (by kernel_rfl) (by kernel_rfl) (fun _ _ _ h => h) (Or.inl ⟨by rfl, ?yd41⟩) hS ?rd41
        case yd41 => (intro w0 hS0; (try simp only [] at hS0); obtain ⟨hS0_0, hS0_1, hS0_2, hS0_3, hS0_4⟩ := hS0; go_simp; try with_reducible rfl)
        try simp only [yA, yB, yC, Act.put, yD, yE, yF]
        refine wpAnyH_take (i := 1) (v := ?vd42) rfl (by kernel_rfl) (by kernel_rfl) (by kernel_rfl) (fun _ _ _ h => h) (Or.inl ⟨by rfl, ?yd42⟩) hS ?rd42
        case yd42 => (intro w0 hS0; (try simp only [] at hS0); obtain ⟨hS0_0, hS0_1, hS0_2, hS0_3, hS0_4⟩ := hS0; have q0 := hS0_1.cell 0; have q1 := hS0_1.cell 1; have q2 := hS0_1.cell 2; have q3 := hS0_1.cell 3; simp only [List.getElem?_toArray, List.getElem?_cons_zero, List.getElem?_cons_succ] at q0 q1 q2 q3; go_simp; try with_reducible rfl)
        try simp only [yA, yB, yC, Act.put, yD, yE, yF]
        refine wpAnyH_take (i := 3) (v := ?vd43) rfl (by kernel_rfl) (by kernel_rfl) (by kernel_rfl) (fun _ _ _ h => h) (Or.inl ⟨by rfl, ?yd43⟩) hS ?rd43
        case yd43 => (intro w0 hS0; (try simp only [] at hS0); obtain ⟨hS0_0, hS0_1, hS0_2, hS0_3, hS0_4⟩ := hS0; go_simp; try with_reducible rfl)
        try simp only [yA, yB, yC, Act.put, yD, yE, yF]
        refine wpAnyH_ready (rs := [2]) (by kernel_rfl) (by simp) (AllReadyH.cons (i := 2) rfl (fun K hK => ?_) AllReadyH.nil)
        go_simp
        refine (tidDe_c _ x ).mono ?_
        rintro e0 w1 ⟨rfl, hg⟩
        replace HG := As.mk (gr_then (gr_drew HG.out) hg (.inl rfl))
        replace HF := As.mk (And.intro (hg.cell HF.out.1 (by simp)) (And.intro (hg.cell HF.out.2.1 (by simp)) (And.intro (hg.cell HF.out.2.2.1 (by simp)) (hg.cell HF.out.2.2.2 (by simp)))))
        replace HB := As.mk (HB.out.drew.grown hg (by simp))
        clear hg
        go_simp
        refine hK.out _ _ (⟨HF.out.1, HB.out, HF.out.2.1, HF.out.2.2.1, HF.out.2.2.2⟩) (fun hS => ?_)
        clear hK K
        try simp only [yA, yB, yC, Act.put, yD, yE, yF]
        refine wpAnyH_take (i := 4) (v := ?vd45) rfl (by kernel_rfl) (by kernel_rfl) (by kernel_rfl) (fun _ _ _ h => h) (Or.inl ⟨by rfl, ?yd45⟩) hS ?rd45
        case yd45 => (intro w0 _; go_simp; try with_reducible rfl)
        try simp only [yA, yB, yC, Act.put, yD, yE, yF]
        refine wpAnyH_take (i := 5) (v := ?vd46) rfl (by kernel_rfl) (by kernel_rfl) (by kernel_rfl) (fun _ _ _ h => h) (Or.inl ⟨by rfl, ?yd46⟩) hS ?rd46
        case yd46 => (intro w0 _; go_simp; try with_reducible rfl)
        try simp only [yA, yB, yC, Act.put, yD, yE, yF]
        refine wpAnyH_done (by kernel_rfl) ?_ _
        refine NoPanic.normal ?_
        try simp only [Exit.then]
        clear hS
        go_wp2_with fail
        go_ret
        exact ⟨rfl, HG.out⟩
set_option maxHeartbeats 1600000 in
theorem idxDe_c (w : World) (v : Value) (l : List PDe) (h : Arr DeE 4 w v l) (t : PTid) (bO bT : Nat) (hO : w.cell? ⟨bO, 0, none⟩ = some (.func (.func 32) #[] #[])) (hT : Blk w bT 39 #[.int .i64 t.n, .int .i64 t.e, .int .i64 t.s]) :
    Calls Try.prog 61 #[v, .func (.func 62) #[] #[.pointer (some ⟨bO, 0, none⟩), .pointer (some ⟨bT, 0, none⟩)]] w fun e w' => e = .returned (.int .i64 (findI (fun x => eqT x.tid t) l)) ∧ w.grownBy w' none := by
  obtain ⟨A, c, rfl⟩ := h.len
  have hl := h.le
  have H := As.mk h
  have HO := As.mk (And.intro hO hT)
  clear h hO hT
  go_enter Try.func61, Try.ntmps61
  go_wp2_with fail
  go_loopw [8] (fun i wr => ∃ k : Nat, k ≤ l.length ∧ i = .int .i64 k ∧ As ((l.take k).any (fun x => eqT x.tid t) = false ∧ w.grownBy wr none)) (fun i _ => l.length - (intOf i).toNat)
  case atStart => exact ⟨0, Nat.zero_le _, rfl, ⟨by simp, gr_refl _ _⟩⟩
  case round =>
    obtain ⟨k, hk, rfl, HL⟩ := hrel
    by_cases hlt : k < l.length
    · have hltI : (k : Int) < (l.length : Int) := by omega
      have hk0 : (0 : Int) ≤ (k : Int) := by omega
      obtain ⟨b, o, cs, rfl, hE, hcs, hcell⟩ := H.out.at_ k l[k] (List.getElem?_eq_getElem hlt)
      obtain rfl := hE
      have c0 : wr.cell? ⟨b, o + k * 4, none⟩ = _ := HL.out.2.cell (hcell 0 _ rfl) (by simp)
      have c1_ := HL.out.2.cell (hcell 1 _ rfl) (by simp)
      have c2_ := HL.out.2.cell (hcell 2 _ rfl) (by simp)
      have c3_ := HL.out.2.cell (hcell 3 _ rfl) (by simp)
      have HS := As.mk (any_take_succ (fun x : PDe => eqT x.tid t) l k hlt)
      have HFA := As.mk (fun h0 h1 => findI_at (p := fun x : PDe => eqT x.tid t) hlt h0 h1)
      clear hcell hcs
      generalize l[k]'hlt = x at *
      go_wp2_with fail
      refine (at1De_c wr x t bO bT (HL.out.2.cell HO.out.1 (by simp)) (HO.out.2.grown HL.out.2 (by simp)) _ rfl).mono ?_
      rintro e w1 ⟨rfl, g1⟩
      have G1 := As.mk (gr_then HL.out.2 g1 (.inl rfl))
      clear g1 c0 c1_ c2_ c3_
      cases hf : eqT x.tid t
      · have HF := As.mk hf
        clear hf HFA
        go_wp2_with fail
        go_roundw
        case measure => simp [intOf]; omega
        case rel => exact ⟨k + 1, by omega, by go_num, ⟨by rw [HS.out, HL.out.1, HF.out]; rfl, G1.out⟩⟩
      · have HF := As.mk (HFA.out HL.out.1 hf)
        clear hf HFA
        go_wp2_with fail
        go_ret
        exact ⟨by rw [HF.out]; rfl, G1.out⟩
    · obtain rfl : k = l.length := by omega
      rw [List.take_of_length_le (Nat.le_refl _)] at HL
      have HX := As.mk (findI_none HL.out.1)
      have HY := As.mk HL.out.2
      clear HL
      go_wp2_with fail
      go_ret
      exact ⟨by rw [HX.out]; rfl, HY.out⟩
set_option maxHeartbeats 1600000 in
theorem atDe_c (w : World) (v : Value) (l : List PDe) (h : Arr DeE 4 w v l) (t : PTid) :
    Calls Try.prog 31 #[v, .agg #[.int .i64 t.n, .int .i64 t.e, .int .i64 t.s], .func (.func 32) #[] #[]] w fun e w' => e = .returned (.int .i64 (findI (fun x => eqT x.tid t) l)) ∧ w.grownBy w' none := by
  have g2 := gr_alloc (gr_alloc (gr_refl w none) (.cells #[.int .i64 t.n, .int .i64 t.e, .int .i64 t.s] 39)) (.cells #[.func (.func 32) #[] #[]] 91)
  have HG := As.mk g2
  have HA := As.mk (show Arr DeE 4 _ v l from h.below g2 (fun _ _ h => h))
  have HT := As.mk ((Blk.new w 39 #[.int .i64 t.n, .int .i64 t.e, .int .i64 t.s]).alloc (.cells #[.func (.func 32) #[] #[]] 91))
  have HO := As.mk ((Blk.new_at (w.alloc (.cells #[.int .i64 t.n, .int .i64 t.e, .int .i64 t.s] 39)) 91 #[.func (.func 32) #[] #[]] (g := w.heap.size + 1) (by simp)).cell 0)
  clear g2 h
  go_enter Try.func31, Try.ntmps31
  go_wp2_with fail
  refine (idxDe_c _ v l HA.out t _ _ HO.out HT.out).mono ?_
  rintro e w1 ⟨rfl, g1⟩
  have HX := As.mk (HG.out.trans g1)
  clear g1 HG HA HT HO
  go_wp2_with fail
  go_ret
  exact ⟨rfl, HX.out⟩
set_option maxHeartbeats 1600000 in
theorem findDe_c (w : World) (s : PSt) (vP vQ vD vC : Value) (h : StR w s vP vQ vD vC) (t : PTid) :
    Calls Try.prog 15 #[.agg (stCells s vP vQ vD vC), .agg #[.int .i64 t.n, .int .i64 t.e, .int .i64 t.s]] w fun e w' => e = .returned (.int .i64 (findI (fun x => eqT x.tid t) s.decided)) ∧ w.grownBy w' none := by
  obtain ⟨A1, c1, rfl⟩ := h.pl.len
  obtain ⟨A2, c2, rfl⟩ := h.pr.len
  obtain ⟨A3, c3, rfl⟩ := h.de.len
  obtain ⟨A4, c4, rfl⟩ := h.cm.len
  unfold stCells
  have g2 := gr_alloc (gr_alloc (gr_refl w none) (.cells #[.int .i64 s.node, .int .i64 s.nodes, .int .i64 s.cells, .int .i64 s.epoch, .slice A1 s.places.length c1, .slice A2 s.prepared.length c2, .slice A3 s.decided.length c3, .slice A4 s.commits.length c4] 32)) (.cells #[.int .i64 t.n, .int .i64 t.e, .int .i64 t.s] 39)
  have HG := As.mk g2
  have HR := As.mk (h.grown g2)
  clear g2 h
  go_enter Try.func15, Try.ntmps15
  go_wp2_with fail
  refine (atDe_c _ _ s.decided HR.out.de t).mono ?_
  rintro e w1 ⟨rfl, g1⟩
  have HX := As.mk (HG.out.trans g1)
  clear g1 HG HR
  go_wp2_with fail
  go_ret
  exact ⟨rfl, HX.out⟩
set_option maxHeartbeats 1600000 in
theorem tidCm_c (w : World) (x : PCm) (A1 A2 : Option Addr) (n1 c1 n2 c2 : Nat) :
    Calls Try.prog 90 #[.agg #[.int .i64 x.tid.n, .int .i64 x.tid.e, .int .i64 x.tid.s, .slice A1 n1 c1, .slice A2 n2 c2, .bool x.over]] w fun e w' => e = .returned (.agg #[.int .i64 x.tid.n, .int .i64 x.tid.e, .int .i64 x.tid.s]) ∧ w.grownBy w' none := by
  have HG := As.mk (gr_alloc (gr_alloc (gr_refl w none) (.cells #[.int .i64 x.tid.n, .int .i64 x.tid.e, .int .i64 x.tid.s, .slice A1 n1 c1, .slice A2 n2 c2, .bool x.over] 58)) (.cells #[.int .i64 x.tid.n, .int .i64 x.tid.e, .int .i64 x.tid.s] 39))
  go_enter Try.func90, Try.ntmps90
  go_wp2_with fail
  exact bodyPost_ret (v := .agg #[.int .i64 x.tid.n, .int .i64 x.tid.e, .int .i64 x.tid.s]) (by simp [results, Try.results90, go_sem]) rfl ⟨rfl, HG.out⟩
set_option maxHeartbeats 3200000 in
theorem at1Cm_c (w : World) (x : PCm) (A1 A2 : Option Addr) (n1 c1 n2 c2 : Nat) (t : PTid) (bO bT : Nat) (hO : w.cell? ⟨bO, 0, none⟩ = some (.func (.func 90) #[] #[])) (hT : Blk w bT 39 #[.int .i64 t.n, .int .i64 t.e, .int .i64 t.s]) (r : Bool) (hr : eqT x.tid t = r) :
    Calls Try.prog 98 #[.agg #[.int .i64 x.tid.n, .int .i64 x.tid.e, .int .i64 x.tid.s, .slice A1 n1 c1, .slice A2 n2 c2, .bool x.over], .pointer (some ⟨bO, 0, none⟩), .pointer (some ⟨bT, 0, none⟩)] w fun e w' => e = .returned (.bool r) ∧ w.grownBy w' none := by
  have HG := As.mk (gr_alloc (gr_refl w none) (.cells #[.int .i64 x.tid.n, .int .i64 x.tid.e, .int .i64 x.tid.s, .slice A1 n1 c1, .slice A2 n2 c2, .bool x.over] 58))
  have HB := As.mk (Blk.new w 58 #[.int .i64 x.tid.n, .int .i64 x.tid.e, .int .i64 x.tid.s, .slice A1 n1 c1, .slice A2 n2 c2, .bool x.over])
  have hT0 := hT.cell 0
  have hT1 := hT.cell 1
  have hT2 := hT.cell 2
  simp only [List.getElem?_toArray, List.getElem?_cons_zero, List.getElem?_cons_succ] at hT0 hT1 hT2
  have HF := As.mk (And.intro (HG.out.cell hO (by simp)) (And.intro (HG.out.cell hT0 (by simp)) (And.intro (HG.out.cell hT1 (by simp)) (HG.out.cell hT2 (by simp)))))
  have HR := As.mk hr
  unfold eqT at HR
  clear hO hT hT0 hT1 hT2 hr
  go_enter Try.func98, Try.ntmps98
  go_wp2_with fail
  generalize w.alloc (.cells #[.int .i64 x.tid.n, .int .i64 x.tid.e, .int .i64 x.tid.s, .slice A1 n1 c1, .slice A2 n2 c2, .bool x.over] 58) = W at *
  generalize w.heap.size = gx at *
  cases e1 : (x.tid.n == t.n)
  · obtain rfl : r = false := by rw [← HR.out, e1]; rfl
    refine wp_region_noPanic ?_
    refine wp_region_held_drew (S := fun w' => w'.cell? ⟨bO, 0, none⟩ = some (.func (.func 90) #[] #[]) ∧ Blk w' gx 58 #[.int .i64 x.tid.n, .int .i64 x.tid.e, .int .i64 x.tid.s, .slice A1 n1 c1, .slice A2 n2 c2, .bool x.over] ∧ w'.cell? ⟨bT, 0, none⟩ = some (.int .i64 t.n) ∧ w'.cell? ⟨bT, 1, none⟩ = some (.int .i64 t.e) ∧ w'.cell? ⟨bT, 2, none⟩ = some (.int .i64 t.s)) (by kernel_rfl) (⟨HF.out.1, HB.out, HF.out.2.1, HF.out.2.2.1, HF.out.2.2.2⟩) (fun hS => ?_)
    refine wpAnyH_take (i := 0) (v := ?va11) rfl (by kernel_rfl) (by kernel_rfl) (by kernel_rfl) (fun _ _ _ h => h) (Or.inl ⟨by rfl, ?ya11⟩) hS ?ra11
    case ya11 => (intro w0 hS0; (try simp only [] at hS0); obtain ⟨hS0_0, hS0_1, hS0_2, hS0_3, hS0_4⟩ := hS0; go_simp; try with_reducible rfl)
    try simp only [yA, yB, yC, Act.put, yD, yE, yF]
    refine wpAnyH_take (i := 1) (v := ?va12) rfl (by kernel_rfl) (by kernel_rfl) (by kernel_rfl) (fun _ _ _ h => h) (Or.inl ⟨by rfl, ?ya12⟩) hS ?ra12
    case ya12 => (intro w0 hS0; (try simp only [] at hS0); obtain ⟨hS0_0, hS0_1, hS0_2, hS0_3, hS0_4⟩ := hS0; have q0 := hS0_1.cell 0; have q1 := hS0_1.cell 1; have q2 := hS0_1.cell 2; have q3 := hS0_1.cell 3; have q4 := hS0_1.cell 4; have q5 := hS0_1.cell 5; simp only [List.getElem?_toArray, List.getElem?_cons_zero, List.getElem?_cons_succ] at q0 q1 q2 q3 q4 q5; go_simp; try with_reducible rfl)
    try simp only [yA, yB, yC, Act.put, yD, yE, yF]
    refine wpAnyH_take (i := 3) (v := ?va13) rfl (by kernel_rfl) (by kernel_rfl) (by kernel_rfl) (fun _ _ _ h => h) (Or.inl ⟨by rfl, ?ya13⟩) hS ?ra13
    case ya13 => (intro w0 hS0; (try simp only [] at hS0); obtain ⟨hS0_0, hS0_1, hS0_2, hS0_3, hS0_4⟩ := hS0; go_simp; try with_reducible rfl)
    try simp only [yA, yB, yC, Act.put, yD, yE, yF]
    refine wpAnyH_ready (rs := [2]) (by kernel_rfl) (by simp) (AllReadyH.cons (i := 2) rfl (fun K hK => ?_) AllReadyH.nil)
    go_simp
    refine (tidCm_c _ x _ _ _ _ _ _ ).mono ?_
    rintro e0 w1 ⟨rfl, hg⟩
    replace HG := As.mk (gr_then (gr_drew HG.out) hg (.inl rfl))
    replace HF := As.mk (And.intro (hg.cell HF.out.1 (by simp)) (And.intro (hg.cell HF.out.2.1 (by simp)) (And.intro (hg.cell HF.out.2.2.1 (by simp)) (hg.cell HF.out.2.2.2 (by simp)))))
    replace HB := As.mk (HB.out.drew.grown hg (by simp))
    clear hg
    go_simp
    refine hK.out _ _ (⟨HF.out.1, HB.out, HF.out.2.1, HF.out.2.2.1, HF.out.2.2.2⟩) (fun hS => ?_)
    clear hK K
    try simp only [yA, yB, yC, Act.put, yD, yE, yF]
    refine wpAnyH_take (i := 4) (v := ?va15) rfl (by kernel_rfl) (by kernel_rfl) (by kernel_rfl) (fun _ _ _ h => h) (Or.inl ⟨by rfl, ?ya15⟩) hS ?ra15
    case ya15 => (intro w0 _; go_simp; try with_reducible rfl)
    try simp only [yA, yB, yC, Act.put, yD, yE, yF]
    refine wpAnyH_take (i := 5) (v := ?va16) rfl (by kernel_rfl) (by kernel_rfl) (by kernel_rfl) (fun _ _ _ h => h) (Or.inl ⟨by rfl, ?ya16⟩) hS ?ra16
    case ya16 => (intro w0 _; go_simp; try with_reducible rfl)
    try simp only [yA, yB, yC, Act.put, yD, yE, yF]
    refine wpAnyH_done (by kernel_rfl) ?_ _
    refine NoPanic.normal ?_
    try simp only [Exit.then]
    clear hS
    go_wp2_with fail
    go_ret
    exact ⟨rfl, HG.out⟩
  · cases e2 : (x.tid.e == t.e)
    · obtain rfl : r = false := by rw [← HR.out, e1, e2]; rfl
      refine wp_region_noPanic ?_
      refine wp_region_held_drew (S := fun w' => w'.cell? ⟨bO, 0, none⟩ = some (.func (.func 90) #[] #[]) ∧ Blk w' gx 58 #[.int .i64 x.tid.n, .int .i64 x.tid.e, .int .i64 x.tid.s, .slice A1 n1 c1, .slice A2 n2 c2, .bool x.over] ∧ w'.cell? ⟨bT, 0, none⟩ = some (.int .i64 t.n) ∧ w'.cell? ⟨bT, 1, none⟩ = some (.int .i64 t.e) ∧ w'.cell? ⟨bT, 2, none⟩ = some (.int .i64 t.s)) (by kernel_rfl) (⟨HF.out.1, HB.out, HF.out.2.1, HF.out.2.2.1, HF.out.2.2.2⟩) (fun hS => ?_)
      refine wpAnyH_take (i := 0) (v := ?vb21) rfl (by kernel_rfl) (by kernel_rfl) (by kernel_rfl) (fun _ _ _ h => h) (Or.inl ⟨by rfl, ?yb21⟩) hS ?rb21
      case yb21 => (intro w0 hS0; (try simp only [] at hS0); obtain ⟨hS0_0, hS0_1, hS0_2, hS0_3, hS0_4⟩ := hS0; go_simp; try with_reducible rfl)
      try simp only [yA, yB, yC, Act.put, yD, yE, yF]
      refine wpAnyH_take (i := 1) (v := ?vb22) rfl (by kernel_rfl) (by kernel_rfl) (by kernel_rfl) (fun _ _ _ h => h) (Or.inl ⟨by rfl, ?yb22⟩) hS ?rb22
      case yb22 => (intro w0 hS0; (try simp only [] at hS0); obtain ⟨hS0_0, hS0_1, hS0_2, hS0_3, hS0_4⟩ := hS0; have q0 := hS0_1.cell 0; have q1 := hS0_1.cell 1; have q2 := hS0_1.cell 2; have q3 := hS0_1.cell 3; have q4 := hS0_1.cell 4; have q5 := hS0_1.cell 5; simp only [List.getElem?_toArray, List.getElem?_cons_zero, List.getElem?_cons_succ] at q0 q1 q2 q3 q4 q5; go_simp; try with_reducible rfl)
      try simp only [yA, yB, yC, Act.put, yD, yE, yF]
      refine wpAnyH_take (i := 3) (v := ?vb23) rfl (by kernel_rfl) (by kernel_rfl) (by kernel_rfl) (fun _ _ _ h => h) (Or.inl ⟨by rfl, ?yb23⟩) hS ?rb23
      case yb23 => (intro w0 hS0; (try simp only [] at hS0); obtain ⟨hS0_0, hS0_1, hS0_2, hS0_3, hS0_4⟩ := hS0; go_simp; try with_reducible rfl)
      try simp only [yA, yB, yC, Act.put, yD, yE, yF]
      refine wpAnyH_ready (rs := [2]) (by kernel_rfl) (by simp) (AllReadyH.cons (i := 2) rfl (fun K hK => ?_) AllReadyH.nil)
      go_simp
      refine (tidCm_c _ x _ _ _ _ _ _ ).mono ?_
      rintro e0 w1 ⟨rfl, hg⟩
      replace HG := As.mk (gr_then (gr_drew HG.out) hg (.inl rfl))
      replace HF := As.mk (And.intro (hg.cell HF.out.1 (by simp)) (And.intro (hg.cell HF.out.2.1 (by simp)) (And.intro (hg.cell HF.out.2.2.1 (by simp)) (hg.cell HF.out.2.2.2 (by simp)))))
      replace HB := As.mk (HB.out.drew.grown hg (by simp))
      clear hg
      go_simp
      refine hK.out _ _ (⟨HF.out.1, HB.out, HF.out.2.1, HF.out.2.2.1, HF.out.2.2.2⟩) (fun hS => ?_)
      clear hK K
      try simp only [yA, yB, yC, Act.put, yD, yE, yF]
      refine wpAnyH_take (i := 4) (v := ?vb25) rfl (by kernel_rfl) (by kernel_rfl) (by kernel_rfl) (fun _ _ _ h => h) (Or.inl ⟨by rfl, ?yb25⟩) hS ?rb25
      case yb25 => (intro w0 _; go_simp; try with_reducible rfl)
      try simp only [yA, yB, yC, Act.put, yD, yE, yF]
      refine wpAnyH_take (i := 5) (v := ?vb26) rfl (by kernel_rfl) (by kernel_rfl) (by kernel_rfl) (fun _ _ _ h => h) (Or.inl ⟨by rfl, ?yb26⟩) hS ?rb26
      case yb26 => (intro w0 _; go_simp; try with_reducible rfl)
      try simp only [yA, yB, yC, Act.put, yD, yE, yF]
      refine wpAnyH_done (by kernel_rfl) ?_ _
      refine NoPanic.normal ?_
      try simp only [Exit.then]
      clear hS
      go_wp2_with fail
      go_ret
      exact ⟨rfl, HG.out⟩
    · cases e3 : (x.tid.s == t.s)
      · obtain rfl : r = false := by rw [← HR.out, e1, e2, e3]; rfl
        refine wp_region_noPanic ?_
        refine wp_region_held_drew (S := fun w' => w'.cell? ⟨bO, 0, none⟩ = some (.func (.func 90) #[] #[]) ∧ Blk w' gx 58 #[.int .i64 x.tid.n, .int .i64 x.tid.e, .int .i64 x.tid.s, .slice A1 n1 c1, .slice A2 n2 c2, .bool x.over] ∧ w'.cell? ⟨bT, 0, none⟩ = some (.int .i64 t.n) ∧ w'.cell? ⟨bT, 1, none⟩ = some (.int .i64 t.e) ∧ w'.cell? ⟨bT, 2, none⟩ = some (.int .i64 t.s)) (by kernel_rfl) (⟨HF.out.1, HB.out, HF.out.2.1, HF.out.2.2.1, HF.out.2.2.2⟩) (fun hS => ?_)
        refine wpAnyH_take (i := 0) (v := ?vc31) rfl (by kernel_rfl) (by kernel_rfl) (by kernel_rfl) (fun _ _ _ h => h) (Or.inl ⟨by rfl, ?yc31⟩) hS ?rc31
        case yc31 => (intro w0 hS0; (try simp only [] at hS0); obtain ⟨hS0_0, hS0_1, hS0_2, hS0_3, hS0_4⟩ := hS0; go_simp; try with_reducible rfl)
        try simp only [yA, yB, yC, Act.put, yD, yE, yF]
        refine wpAnyH_take (i := 1) (v := ?vc32) rfl (by kernel_rfl) (by kernel_rfl) (by kernel_rfl) (fun _ _ _ h => h) (Or.inl ⟨by rfl, ?yc32⟩) hS ?rc32
        case yc32 => (intro w0 hS0; (try simp only [] at hS0); obtain ⟨hS0_0, hS0_1, hS0_2, hS0_3, hS0_4⟩ := hS0; have q0 := hS0_1.cell 0; have q1 := hS0_1.cell 1; have q2 := hS0_1.cell 2; have q3 := hS0_1.cell 3; have q4 := hS0_1.cell 4; have q5 := hS0_1.cell 5; simp only [List.getElem?_toArray, List.getElem?_cons_zero, List.getElem?_cons_succ] at q0 q1 q2 q3 q4 q5; go_simp; try with_reducible rfl)
        try simp only [yA, yB, yC, Act.put, yD, yE, yF]
        refine wpAnyH_take (i := 3) (v := ?vc33) rfl (by kernel_rfl) (by kernel_rfl) (by kernel_rfl) (fun _ _ _ h => h) (Or.inl ⟨by rfl, ?yc33⟩) hS ?rc33
        case yc33 => (intro w0 hS0; (try simp only [] at hS0); obtain ⟨hS0_0, hS0_1, hS0_2, hS0_3, hS0_4⟩ := hS0; go_simp; try with_reducible rfl)
        try simp only [yA, yB, yC, Act.put, yD, yE, yF]
        refine wpAnyH_ready (rs := [2]) (by kernel_rfl) (by simp) (AllReadyH.cons (i := 2) rfl (fun K hK => ?_) AllReadyH.nil)
        go_simp
        refine (tidCm_c _ x _ _ _ _ _ _ ).mono ?_
        rintro e0 w1 ⟨rfl, hg⟩
        replace HG := As.mk (gr_then (gr_drew HG.out) hg (.inl rfl))
        replace HF := As.mk (And.intro (hg.cell HF.out.1 (by simp)) (And.intro (hg.cell HF.out.2.1 (by simp)) (And.intro (hg.cell HF.out.2.2.1 (by simp)) (hg.cell HF.out.2.2.2 (by simp)))))
        replace HB := As.mk (HB.out.drew.grown hg (by simp))
        clear hg
        go_simp
        refine hK.out _ _ (⟨HF.out.1, HB.out, HF.out.2.1, HF.out.2.2.1, HF.out.2.2.2⟩) (fun hS => ?_)
        clear hK K
        try simp only [yA, yB, yC, Act.put, yD, yE, yF]
        refine wpAnyH_take (i := 4) (v := ?vc35) rfl (by kernel_rfl) (by kernel_rfl) (by kernel_rfl) (fun _ _ _ h => h) (Or.inl ⟨by rfl, ?yc35⟩) hS ?rc35
        case yc35 => (intro w0 _; go_simp; try with_reducible rfl)
        try simp only [yA, yB, yC, Act.put, yD, yE, yF]
        refine wpAnyH_take (i := 5) (v := ?vc36) rfl (by kernel_rfl) (by kernel_rfl) (by kernel_rfl) (fun _ _ _ h => h) (Or.inl ⟨by rfl, ?yc36⟩) hS ?rc36
        case yc36 => (intro w0 _; go_simp; try with_reducible rfl)
        try simp only [yA, yB, yC, Act.put, yD, yE, yF]
        refine wpAnyH_done (by kernel_rfl) ?_ _
        refine NoPanic.normal ?_
        try simp only [Exit.then]
        clear hS
        go_wp2_with fail
        go_ret
        exact ⟨rfl, HG.out⟩
      · obtain rfl : r = true := by rw [← HR.out, e1, e2, e3]; rfl
        refine wp_region_noPanic ?_
        refine wp_region_held_drew (S := fun w' => w'.cell? ⟨bO, 0, none⟩ = some (.func (.func 90) #[] #[]) ∧ Blk w' gx 58 #[.int .i64 x.tid.n, .int .i64 x.tid.e, .int .i64 x.tid.s, .slice A1 n1 c1, .slice A2 n2 c2, .bool x.over] ∧ w'.cell? ⟨bT, 0, none⟩ = some (.int .i64 t.n) ∧ w'.cell? ⟨bT, 1, none⟩ = some (.int .i64 t.e) ∧ w'.cell? ⟨bT, 2, none⟩ = some (.int .i64 t.s)) (by kernel_rfl) (⟨HF.out.1, HB.out, HF.out.2.1, HF.out.2.2.1, HF.out.2.2.2⟩) (fun hS => ?_)
        refine wpAnyH_take (i := 0) (v := ?vd41) rfl (by kernel_rfl) (by kernel_rfl) (by kernel_rfl) (fun _ _ _ h => h) (Or.inl ⟨by rfl, ?yd41⟩) hS ?rd41
        case yd41 => (intro w0 hS0; (try simp only [] at hS0); obtain ⟨hS0_0, hS0_1, hS0_2, hS0_3, hS0_4⟩ := hS0; go_simp; try with_reducible rfl)
        try simp only [yA, yB, yC, Act.put, yD, yE, yF]
        refine wpAnyH_take (i := 1) (v := ?vd42) rfl (by kernel_rfl) (by kernel_rfl) (by kernel_rfl) (fun _ _ _ h => h) (Or.inl ⟨by rfl, ?yd42⟩) hS ?rd42
        case yd42 => (intro w0 hS0; (try simp only [] at hS0); obtain ⟨hS0_0, hS0_1, hS0_2, hS0_3, hS0_4⟩ := hS0; have q0 := hS0_1.cell 0; have q1 := hS0_1.cell 1; have q2 := hS0_1.cell 2; have q3 := hS0_1.cell 3; have q4 := hS0_1.cell 4; have q5 := hS0_1.cell 5; simp only [List.getElem?_toArray, List.getElem?_cons_zero, List.getElem?_cons_succ] at q0 q1 q2 q3 q4 q5; go_simp; try with_reducible rfl)
        try simp only [yA, yB, yC, Act.put, yD, yE, yF]
        refine wpAnyH_take (i := 3) (v := ?vd43) rfl (by kernel_rfl) (by kernel_rfl) (by kernel_rfl) (fun _ _ _ h => h) (Or.inl ⟨by rfl, ?yd43⟩) hS ?rd43
        case yd43 => (intro w0 hS0; (try simp only [] at hS0); obtain ⟨hS0_0, hS0_1, hS0_2, hS0_3, hS0_4⟩ := hS0; go_simp; try with_reducible rfl)
        try simp only [yA, yB, yC, Act.put, yD, yE, yF]
        refine wpAnyH_ready (rs := [2]) (by kernel_rfl) (by simp) (AllReadyH.cons (i := 2) rfl (fun K hK => ?_) AllReadyH.nil)
        go_simp
        refine (tidCm_c _ x _ _ _ _ _ _ ).mono ?_
        rintro e0 w1 ⟨rfl, hg⟩
        replace HG := As.mk (gr_then (gr_drew HG.out) hg (.inl rfl))
        replace HF := As.mk (And.intro (hg.cell HF.out.1 (by simp)) (And.intro (hg.cell HF.out.2.1 (by simp)) (And.intro (hg.cell HF.out.2.2.1 (by simp)) (hg.cell HF.out.2.2.2 (by simp)))))
        replace HB := As.mk (HB.out.drew.grown hg (by simp))
        clear hg
        go_simp
        refine hK.out _ _ (⟨HF.out.1, HB.out, HF.out.2.1, HF.out.2.2.1, HF.out.2.2.2⟩) (fun hS => ?_)
        clear hK K
        try simp only [yA, yB, yC, Act.put, yD, yE, yF]
        refine wpAnyH_take (i := 4) (v := ?vd45) rfl (by kernel_rfl) (by kernel_rfl) (by kernel_rfl) (fun _ _ _ h => h) (Or.inl ⟨by rfl, ?yd45⟩) hS ?rd45
        case yd45 => (intro w0 _; go_simp; try with_reducible rfl)
        try simp only [yA, yB, yC, Act.put, yD, yE, yF]
        refine wpAnyH_take (i := 5) (v := ?vd46) rfl (by kernel_rfl) (by kernel_rfl) (by kernel_rfl) (fun _ _ _ h => h) (Or.inl ⟨by rfl, ?yd46⟩) hS ?rd46
        case yd46 => (intro w0 _; go_simp; try with_reducible rfl)
        try simp only [yA, yB, yC, Act.put, yD, yE, yF]
        refine wpAnyH_done (by kernel_rfl) ?_ _
        refine NoPanic.normal ?_
        try simp only [Exit.then]
        clear hS
        go_wp2_with fail
        go_ret
        exact ⟨rfl, HG.out⟩
set_option maxHeartbeats 1600000 in
theorem idxCm_c (w : World) (v : Value) (l : List PCm) (h : Arr CmE 6 w v l) (t : PTid) (bO bT : Nat) (hO : w.cell? ⟨bO, 0, none⟩ = some (.func (.func 90) #[] #[])) (hT : Blk w bT 39 #[.int .i64 t.n, .int .i64 t.e, .int .i64 t.s]) :
    Calls Try.prog 97 #[v, .func (.func 98) #[] #[.pointer (some ⟨bO, 0, none⟩), .pointer (some ⟨bT, 0, none⟩)]] w fun e w' => e = .returned (.int .i64 (findI (fun x => eqT x.tid t) l)) ∧ w.grownBy w' none := by
  obtain ⟨A, c, rfl⟩ := h.len
  have hl := h.le
  have H := As.mk h
  have HO := As.mk (And.intro hO hT)
  clear h hO hT
  go_enter Try.func97, Try.ntmps97
  go_wp2_with fail
  go_loopw [8] (fun i wr => ∃ k : Nat, k ≤ l.length ∧ i = .int .i64 k ∧ As ((l.take k).any (fun x => eqT x.tid t) = false ∧ w.grownBy wr none)) (fun i _ => l.length - (intOf i).toNat)
  case atStart => exact ⟨0, Nat.zero_le _, rfl, ⟨by simp, gr_refl _ _⟩⟩
  case round =>
    obtain ⟨k, hk, rfl, HL⟩ := hrel
    by_cases hlt : k < l.length
    · have hltI : (k : Int) < (l.length : Int) := by omega
      have hk0 : (0 : Int) ≤ (k : Int) := by omega
      obtain ⟨b, o, cs, rfl, ⟨A1, c1, A2, c2, hE, _⟩, hcs, hcell⟩ := H.out.at_ k l[k] (List.getElem?_eq_getElem hlt)
      obtain rfl := hE
      have c0 : wr.cell? ⟨b, o + k * 6, none⟩ = _ := HL.out.2.cell (hcell 0 _ rfl) (by simp)
      have c1_ := HL.out.2.cell (hcell 1 _ rfl) (by simp)
      have c2_ := HL.out.2.cell (hcell 2 _ rfl) (by simp)
      have c3_ := HL.out.2.cell (hcell 3 _ rfl) (by simp)
      have c4_ := HL.out.2.cell (hcell 4 _ rfl) (by simp)
      have c5_ := HL.out.2.cell (hcell 5 _ rfl) (by simp)
      have HS := As.mk (any_take_succ (fun x : PCm => eqT x.tid t) l k hlt)
      have HFA := As.mk (fun h0 h1 => findI_at (p := fun x : PCm => eqT x.tid t) hlt h0 h1)
      clear hcell hcs
      generalize l[k]'hlt = x at *
      go_wp2_with fail
      refine (at1Cm_c wr x _ _ _ _ _ _ t bO bT (HL.out.2.cell HO.out.1 (by simp)) (HO.out.2.grown HL.out.2 (by simp)) _ rfl).mono ?_
      rintro e w1 ⟨rfl, g1⟩
      have G1 := As.mk (gr_then HL.out.2 g1 (.inl rfl))
      clear g1 c0 c1_ c2_ c3_ c4_ c5_
      cases hf : eqT x.tid t
      · have HF := As.mk hf
        clear hf HFA
        go_wp2_with fail
        go_roundw
        case measure => simp [intOf]; omega
        case rel => exact ⟨k + 1, by omega, by go_num, ⟨by rw [HS.out, HL.out.1, HF.out]; rfl, G1.out⟩⟩
      · have HF := As.mk (HFA.out HL.out.1 hf)
        clear hf HFA
        go_wp2_with fail
        go_ret
        exact ⟨by rw [HF.out]; rfl, G1.out⟩
    · obtain rfl : k = l.length := by omega
      rw [List.take_of_length_le (Nat.le_refl _)] at HL
      have HX := As.mk (findI_none HL.out.1)
      have HY := As.mk HL.out.2
      clear HL
      go_wp2_with fail
      go_ret
      exact ⟨by rw [HX.out]; rfl, HY.out⟩
set_option maxHeartbeats 1600000 in
theorem atCm_c (w : World) (v : Value) (l : List PCm) (h : Arr CmE 6 w v l) (t : PTid) :
    Calls Try.prog 89 #[v, .agg #[.int .i64 t.n, .int .i64 t.e, .int .i64 t.s], .func (.func 90) #[] #[]] w fun e w' => e = .returned (.int .i64 (findI (fun x => eqT x.tid t) l)) ∧ w.grownBy w' none := by
  have g2 := gr_alloc (gr_alloc (gr_refl w none) (.cells #[.int .i64 t.n, .int .i64 t.e, .int .i64 t.s] 39)) (.cells #[.func (.func 90) #[] #[]] 135)
  have HG := As.mk g2
  have HA := As.mk (show Arr CmE 6 _ v l from h.below g2 (fun x cs h => h.grown g2))
  have HT := As.mk ((Blk.new w 39 #[.int .i64 t.n, .int .i64 t.e, .int .i64 t.s]).alloc (.cells #[.func (.func 90) #[] #[]] 135))
  have HO := As.mk ((Blk.new_at (w.alloc (.cells #[.int .i64 t.n, .int .i64 t.e, .int .i64 t.s] 39)) 135 #[.func (.func 90) #[] #[]] (g := w.heap.size + 1) (by simp)).cell 0)
  clear g2 h
  go_enter Try.func89, Try.ntmps89
  go_wp2_with fail
  refine (idxCm_c _ v l HA.out t _ _ HO.out HT.out).mono ?_
  rintro e w1 ⟨rfl, g1⟩
  have HX := As.mk (HG.out.trans g1)
  clear g1 HG HA HT HO
  go_wp2_with fail
  go_ret
  exact ⟨rfl, HX.out⟩
set_option maxHeartbeats 1600000 in
theorem findCm_c (w : World) (s : PSt) (vP vQ vD vC : Value) (h : StR w s vP vQ vD vC) (t : PTid) :
    Calls Try.prog 78 #[.agg (stCells s vP vQ vD vC), .agg #[.int .i64 t.n, .int .i64 t.e, .int .i64 t.s]] w fun e w' => e = .returned (.int .i64 (findI (fun x => eqT x.tid t) s.commits)) ∧ w.grownBy w' none := by
  obtain ⟨A1, c1, rfl⟩ := h.pl.len
  obtain ⟨A2, c2, rfl⟩ := h.pr.len
  obtain ⟨A3, c3, rfl⟩ := h.de.len
  obtain ⟨A4, c4, rfl⟩ := h.cm.len
  unfold stCells
  have g2 := gr_alloc (gr_alloc (gr_refl w none) (.cells #[.int .i64 s.node, .int .i64 s.nodes, .int .i64 s.cells, .int .i64 s.epoch, .slice A1 s.places.length c1, .slice A2 s.prepared.length c2, .slice A3 s.decided.length c3, .slice A4 s.commits.length c4] 32)) (.cells #[.int .i64 t.n, .int .i64 t.e, .int .i64 t.s] 39)
  have HG := As.mk g2
  have HR := As.mk (h.grown g2)
  clear g2 h
  go_enter Try.func78, Try.ntmps78
  go_wp2_with fail
  refine (atCm_c _ _ s.commits HR.out.cm t).mono ?_
  rintro e w1 ⟨rfl, g1⟩
  have HX := As.mk (HG.out.trans g1)
  clear g1 HG HR
  go_wp2_with fail
  go_ret
  exact ⟨rfl, HX.out⟩
end Go.Proofs.Ytdmkijdbldcdiaa
