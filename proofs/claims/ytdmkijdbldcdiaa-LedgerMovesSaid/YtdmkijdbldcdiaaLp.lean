/- The walks of the ledger's insert. (Printed by wip/gen/gen_lp.py.) -/
import Derived.Test.YtdmkijdbldcdiaaLo
import Derived.Test.YtdmkijdbldcdiaaLf
namespace Go.Proofs.Ytdmkijdbldcdiaa
open Go.RowKit
set_option linter.unusedVariables false
set_option linter.unusedSimpArgs false
set_option maxRecDepth 100000

/-- A Prepared as it lies in a row. -/
structure QPr where
  p : PPr
  A1 : Option Addr
  c1 : Nat
  A2 : Option Addr
  c2 : Nat
def deC (x : PDe) : List Value := [.int .i64 x.tid.n, .int .i64 x.tid.e, .int .i64 x.tid.s, .bool x.yes]
def qpC (x : QPr) : List Value := [.int .i64 x.p.tid.n, .int .i64 x.p.tid.e, .int .i64 x.p.tid.s, .slice x.A1 x.p.items.length x.c1, .slice x.A2 x.p.nodes.length x.c2]
/-- Where one of a name stands. -/
def posT {α : Type} (f : α → PTid) (l : List α) (t : PTid) : Nat := (l.takeWhile (fun x => decide (ordT (f x) t < 0))).length
theorem posT_le {α : Type} (f : α → PTid) (l : List α) (t : PTid) : posT f l t ≤ l.length := by
  unfold posT
  exact (List.takeWhile_prefix _).length_le
def insT {α : Type} (f : α → PTid) (l : List α) (d : α) : List α := l.take (posT f l (f d)) ++ d :: l.drop (posT f l (f d))
theorem takeWhile_at {α : Type} (p : α → Bool) (l : List α) (k : Nat) (hk : k < l.length) (h0 : (l.take k).all p = true) (h1 : p (l[k]'hk) = false) : (l.takeWhile p).length = k := by
  induction l generalizing k with
  | nil => simp at hk
  | cons x l ih =>
    cases k with
    | zero => simp at h1; simp [List.takeWhile_cons, h1]
    | succ k =>
      simp at h0 h1 hk
      have := ih k hk (by simpa using h0.2) h1
      simp [List.takeWhile_cons, h0.1, this]
theorem takeWhile_all {α : Type} (p : α → Bool) (l : List α) (h0 : l.all p = true) : (l.takeWhile p).length = l.length := by
  induction l with
  | nil => rfl
  | cons x l ih =>
    rw [List.all_cons, Bool.and_eq_true] at h0
    rw [List.takeWhile_cons, if_pos h0.1, List.length_cons, List.length_cons, ih h0.2]
theorem all_take_succ {α : Type} (p : α → Bool) (l : List α) (k : Nat) (hk : k < l.length) : (l.take (k + 1)).all p = ((l.take k).all p && p (l[k]'hk)) := by
  rw [List.take_succ_eq_append_getElem hk, List.all_append]
  simp
theorem flat_take {α : Type} (f : α → List Value) (s : Nat) (hf : ∀ x, (f x).length = s) (l : List α) (k : Nat) : (l.flatMap f).take (k * s) = (l.take k).flatMap f := by
  induction l generalizing k with
  | nil => simp
  | cons x l ih =>
    cases k with
    | zero => simp
    | succ k =>
      rw [List.flatMap_cons, List.take_succ_cons, List.flatMap_cons, Nat.succ_mul, Nat.add_comm, List.take_append, hf x, List.take_of_length_le (by rw [hf x]; omega), show s + k * s - s = k * s by omega, ih]
theorem flat_drop {α : Type} (f : α → List Value) (s : Nat) (hf : ∀ x, (f x).length = s) (l : List α) (k : Nat) : (l.flatMap f).drop (k * s) = (l.drop k).flatMap f := by
  induction l generalizing k with
  | nil => simp
  | cons x l ih =>
    cases k with
    | zero => simp
    | succ k =>
      rw [List.flatMap_cons, List.drop_succ_cons, Nat.succ_mul, Nat.add_comm, List.drop_append, hf x, List.drop_eq_nil_of_le (by rw [hf x]; omega), List.nil_append, show s + k * s - s = k * s by omega, ih]
theorem flat_at {α : Type} (f : α → List Value) (s : Nat) (hf : ∀ x, (f x).length = s) (l : List α) (j : Nat) (x : α) (hx : l[j]? = some x) : ∀ i u, (f x)[i]? = some u → (l.flatMap f)[j * s + i]? = some u := by
  intro i u hu
  have hj := (List.getElem?_eq_some_iff.1 hx).1
  have hi : i < s := by have := (List.getElem?_eq_some_iff.1 hu).1; rwa [hf x] at this
  have h1 : ((l.flatMap f).drop (j * s))[i]? = some u := by
    rw [flat_drop f s hf, List.drop_eq_getElem_cons hj, List.flatMap_cons, List.getElem?_append_left (by rw [hf]; exact hi)]
    have : l[j] = x := (List.getElem?_eq_some_iff.1 hx).2
    rw [this]; exact hu
  rwa [List.getElem?_drop] at h1
theorem flat_len {α : Type} (f : α → List Value) (s : Nat) (hf : ∀ x, (f x).length = s) (l : List α) : (l.flatMap f).length = l.length * s := by
  induction l with
  | nil => simp
  | cons x l ih => rw [List.flatMap_cons, List.length_append, ih, hf x, List.length_cons, Nat.succ_mul, Nat.add_comm]
/-- What insert leaves. -/
def LinsPost (w : World) (base : Nat) (t : TypeId) (s : Nat) (v : Value) (m : Nat) (xs : List Value) (e : Ending) (w' : World) : Prop :=
  ∃ v', e = .returned v' ∧ w'.ownsRow base t s v' m xs ∧ w.grownBy w' v.ownBlock ∧ (v'.ownBlock = v.ownBlock ∨ ∃ k, v'.ownBlock = some k ∧ w.heap.size ≤ k)
set_option maxHeartbeats 6400000 in
theorem linsertDe_c (w : World) (base : Nat) (hbase : base ≤ w.heap.size) (v : Value) (l : List PDe) (hown : w.ownsRow base 55 4 v l.length (l.flatMap deC)) (hl : l.length ≤ 1000) (d : PDe) :
    Calls Try.prog 91 #[v, .agg #[.int .i64 d.tid.n, .int .i64 d.tid.e, .int .i64 d.tid.s, .bool d.yes], .func (.func 32) #[] #[]] w (LinsPost w base 55 4 v (l.length + 1) ((insT (fun x : PDe => x.tid) l d).flatMap deC)) := by
  have hlenC : ∀ x, (deC x).length = 4 := fun _ => rfl
  have honeC : ∀ x, ∀ u ∈ deC x, u.oneCell' = true := fun x u hu => by
    simp only [deC, List.mem_cons, List.not_mem_nil, or_false] at hu
    rcases hu with rfl | rfl | rfl | rfl <;> rfl
  have HL := As.mk (And.intro hlenC (And.intro honeC hbase))
  have HDK := As.mk (Blk.new w 55 #[.int .i64 d.tid.n, .int .i64 d.tid.e, .int .i64 d.tid.s, .bool d.yes])
  have HGW := As.mk (gr_alloc (gr_refl w none) (.cells #[.int .i64 d.tid.n, .int .i64 d.tid.e, .int .i64 d.tid.s, .bool d.yes] 55))
  have HOW := As.mk (own_gr0 hown HGW.out)
  obtain ⟨Av, cv, rfl⟩ := own_shape hown
  have hgd : some w.heap.size ≠ (Value.slice Av l.length cv).ownBlock := own_new_ne hown
  have HGD := As.mk hgd
  clear hlenC honeC hbase hown hgd
  go_enter Try.func91, Try.ntmps91
  go_wp2_with fail
  generalize w.alloc (.cells #[.int .i64 d.tid.n, .int .i64 d.tid.e, .int .i64 d.tid.s, .bool d.yes] 55) = W at *
  generalize hgd0 : w.heap.size = gd at *
  have HG0 := As.mk hgd0
  clear hgd0
  go_loopw [7] (fun i wr => ∃ k : Nat, k ≤ l.length ∧ i = .int .i64 k ∧ As (w.grownBy wr none ∧ Blk wr gd 55 #[.int .i64 d.tid.n, .int .i64 d.tid.e, .int .i64 d.tid.s, .bool d.yes] ∧ wr.ownsRow base 55 4 (.slice Av l.length cv) l.length (l.flatMap deC) ∧ (l.take k).all (fun x => decide (ordT x.tid d.tid < 0)) = true)) (fun i _ => l.length - (intOf i).toNat)
  case atStart => exact ⟨0, Nat.zero_le _, rfl, ⟨HGW.out, HDK.out, HOW.out, by simp⟩⟩
  case round =>
    obtain ⟨k, hk, rfl, HR⟩ := hrel
    clear HGW HDK HOW
    have HGW := As.mk (gr_drew HR.out.1)
    have HDK := As.mk HR.out.2.1.drew
    have HOW := As.mk (own_drew HR.out.2.2.1)
    have HAL := As.mk HR.out.2.2.2
    clear HR
    by_cases hlt : k < l.length
    · have hltI : (k : Int) < (l.length : Int) := by omega
      have hltN : decide (k < l.length) = true := by simpa using hlt
      have hk0 : (0 : Int) ≤ (k : Int) := by omega
      obtain ⟨gb, cap, hv⟩ := own_some HOW.out (by omega)
      injection hv with hv1 _ hv3
      subst hv1 hv3
      have hx := List.getElem?_eq_getElem hlt
      have HC := As.mk (show (wr.drew.cell? ⟨gb, k * 4, none⟩ = some (.int .i64 (l[k]'hlt).tid.n) ∧ wr.drew.cell? ⟨gb, k * 4 + 1, none⟩ = some (.int .i64 (l[k]'hlt).tid.e) ∧ wr.drew.cell? ⟨gb, k * 4 + 2, none⟩ = some (.int .i64 (l[k]'hlt).tid.s) ∧ wr.drew.cell? ⟨gb, k * 4 + 3, none⟩ = some (.bool (l[k]'hlt).yes)) from
        ⟨own_cellAt HOW.out (k * 4) _ (flat_at deC 4 HL.out.1 l k _ hx 0 _ rfl), own_cellAt HOW.out (k * 4 + 1) _ (flat_at deC 4 HL.out.1 l k _ hx 1 _ rfl), own_cellAt HOW.out (k * 4 + 2) _ (flat_at deC 4 HL.out.1 l k _ hx 2 _ rfl), own_cellAt HOW.out (k * 4 + 3) _ (flat_at deC 4 HL.out.1 l k _ hx 3 _ rfl)⟩)
      have HTK := As.mk (all_take_succ (fun x : PDe => decide (ordT x.tid d.tid < 0)) l k hlt)
      have HAT := As.mk (fun h0 h1 => takeWhile_at (fun x : PDe => decide (ordT x.tid d.tid < 0)) l k hlt h0 h1)
      clear hx
      generalize l[k]'hlt = x at *
      go_wp2_with fail
      refine wp_region_noPanic ?_
      refine wp_region_held_drew (S := fun w' => Blk w' gd 55 #[.int .i64 d.tid.n, .int .i64 d.tid.e, .int .i64 d.tid.s, .bool d.yes] ∧ w'.cell? ⟨gb, k * 4, none⟩ = some (.int .i64 x.tid.n) ∧ w'.cell? ⟨gb, k * 4 + 1, none⟩ = some (.int .i64 x.tid.e) ∧ w'.cell? ⟨gb, k * 4 + 2, none⟩ = some (.int .i64 x.tid.s) ∧ w'.cell? ⟨gb, k * 4 + 3, none⟩ = some (.bool x.yes)) (by kernel_rfl) (⟨HDK.out, HC.out.1, HC.out.2.1, HC.out.2.2.1, HC.out.2.2.2⟩) (fun hS => ?_)
      refine wpAnyH_take (i := 0) (v := ?va1) rfl (by kernel_rfl) (by kernel_rfl) (by kernel_rfl) (fun _ _ _ h => h) (Or.inl ⟨by rfl, ?ya1⟩) hS ?ra1
      case ya1 => (intro w0 _; go_simp; try with_reducible rfl)
      try simp only [yA, yB, yC, Act.put, yD, yE, yF]
      refine wpAnyH_take (i := 1) (v := ?va2) rfl (by kernel_rfl) (by kernel_rfl) (by kernel_rfl) (fun _ _ _ h => h) (Or.inl ⟨by rfl, ?ya2⟩) hS ?ra2
      case ya2 => (intro w0 _; go_simp; try with_reducible rfl)
      try simp only [yA, yB, yC, Act.put, yD, yE, yF]
      refine wpAnyH_take (i := 2) (v := ?va3) rfl (by kernel_rfl) (by kernel_rfl) (by kernel_rfl) (fun _ _ _ h => h) (Or.inl ⟨by rfl, ?ya3⟩) hS ?ra3
      case ya3 => (intro w0 _; go_simp; try with_reducible rfl)
      try simp only [yA, yB, yC, Act.put, yD, yE, yF]
      refine wpAnyH_take (i := 3) (v := ?va4) rfl (by kernel_rfl) (by kernel_rfl) (by kernel_rfl) (fun _ _ _ h => h) (Or.inl ⟨by rfl, ?ya4⟩) hS ?ra4
      case ya4 => (intro w0 _; go_simp; try with_reducible rfl)
      try simp only [yA, yB, yC, Act.put, yD, yE, yF]
      refine wpAnyH_take (i := 4) (v := ?va5) rfl (by kernel_rfl) (by kernel_rfl) (by kernel_rfl) (fun _ _ _ h => h) (Or.inl ⟨by rfl, ?ya5⟩) hS ?ra5
      case ya5 => (intro w0 _; go_simp; try with_reducible rfl)
      try simp only [yA, yB, yC, Act.put, yD, yE, yF]
      refine wpAnyH_take (i := 5) (v := ?va6) rfl (by kernel_rfl) (by kernel_rfl) (by kernel_rfl) (fun _ _ _ h => h) (Or.inl ⟨by rfl, ?ya6⟩) hS ?ra6
      case ya6 => (intro w0 _; go_simp; try with_reducible rfl)
      try simp only [yA, yB, yC, Act.put, yD, yE, yF]
      refine wpAnyH_take (i := 6) (v := ?va7) rfl (by kernel_rfl) (by kernel_rfl) (by kernel_rfl) (fun _ _ _ h => h) (Or.inl ⟨by rfl, ?ya7⟩) hS ?ra7
      case ya7 => (intro w0 _; go_simp; try with_reducible rfl)
      try simp only [yA, yB, yC, Act.put, yD, yE, yF]
      refine wpAnyH_take (i := 7) (v := ?va8) rfl (by kernel_rfl) (by kernel_rfl) (by kernel_rfl) (fun _ _ _ h => h) (Or.inl ⟨by rfl, ?ya8⟩) hS ?ra8
      case ya8 => (intro w0 _; go_simp; try with_reducible rfl)
      try simp only [yA, yB, yC, Act.put, yD, yE, yF]
      refine wpAnyH_take (i := 8) (v := ?va9) rfl (by kernel_rfl) (by kernel_rfl) (by kernel_rfl) (fun _ _ _ h => h) (Or.inl ⟨by rfl, ?ya9⟩) hS ?ra9
      case ya9 => (intro w0 _; go_simp; try with_reducible rfl)
      try simp only [yA, yB, yC, Act.put, yD, yE, yF]
      refine wpAnyH_take (i := 9) (v := ?va10) rfl (by kernel_rfl) (by kernel_rfl) (by kernel_rfl) (fun _ _ _ h => h) (Or.inl ⟨by rfl, ?ya10⟩) hS ?ra10
      case ya10 => (intro w0 hS0; (try simp only [] at hS0); obtain ⟨hS0_0, hS0_1, hS0_2, hS0_3, hS0_4⟩ := hS0; go_simp; try with_reducible rfl)
      try simp only [yA, yB, yC, Act.put, yD, yE, yF]
      refine wpAnyH_take (i := 11) (v := ?va11) rfl (by kernel_rfl) (by kernel_rfl) (by kernel_rfl) (fun _ _ _ h => h) (Or.inl ⟨by rfl, ?ya11⟩) hS ?ra11
      case ya11 => (intro w0 _; go_simp; try with_reducible rfl)
      try simp only [yA, yB, yC, Act.put, yD, yE, yF]
      refine wpAnyH_take (i := 12) (v := ?va12) rfl (by kernel_rfl) (by kernel_rfl) (by kernel_rfl) (fun _ _ _ h => h) (Or.inl ⟨by rfl, ?ya12⟩) hS ?ra12
      case ya12 => (intro w0 hS0; (try simp only [] at hS0); obtain ⟨hS0_0, hS0_1, hS0_2, hS0_3, hS0_4⟩ := hS0; have q0 := hS0_0.cell 0; have q1 := hS0_0.cell 1; have q2 := hS0_0.cell 2; have q3 := hS0_0.cell 3; simp only [List.getElem?_toArray, List.getElem?_cons_zero, List.getElem?_cons_succ] at q0 q1 q2 q3; go_simp; try with_reducible rfl)
      try simp only [yA, yB, yC, Act.put, yD, yE, yF]
      refine wpAnyH_ready (rs := [10]) (by kernel_rfl) (by simp) (AllReadyH.cons (i := 10) rfl (fun K hK => ?_) AllReadyH.nil)
      go_simp
      refine (tidDe_c _ x).mono ?_
      rintro e0 w1 ⟨rfl, gN10⟩
      replace HGW := As.mk (HGW.out.trans gN10)
      replace HDK := As.mk (HDK.out.grown gN10 (by simp))
      replace HOW := As.mk (own_gr0 HOW.out gN10)
      replace HC := As.mk (And.intro (gN10.cell HC.out.1 (by simp)) (And.intro (gN10.cell HC.out.2.1 (by simp)) (And.intro (gN10.cell HC.out.2.2.1 (by simp)) (gN10.cell HC.out.2.2.2 (by simp)))))
      clear gN10
      go_simp
      refine hK.out _ _ (⟨HDK.out, HC.out.1, HC.out.2.1, HC.out.2.2.1, HC.out.2.2.2⟩) (fun hS => ?_)
      clear hK K
      try simp only [yA, yB, yC, Act.put, yD, yE, yF]
      refine wpAnyH_ready (rs := [13]) (by kernel_rfl) (by simp) (AllReadyH.cons (i := 13) rfl (fun K hK => ?_) AllReadyH.nil)
      go_simp
      refine (tidDe_c _ d).mono ?_
      rintro e0 w2 ⟨rfl, gN13⟩
      replace HGW := As.mk (HGW.out.trans gN13)
      replace HDK := As.mk (HDK.out.grown gN13 (by simp))
      replace HOW := As.mk (own_gr0 HOW.out gN13)
      replace HC := As.mk (And.intro (gN13.cell HC.out.1 (by simp)) (And.intro (gN13.cell HC.out.2.1 (by simp)) (And.intro (gN13.cell HC.out.2.2.1 (by simp)) (gN13.cell HC.out.2.2.2 (by simp)))))
      clear gN13
      go_simp
      refine hK.out _ _ (⟨HDK.out, HC.out.1, HC.out.2.1, HC.out.2.2.1, HC.out.2.2.2⟩) (fun hS => ?_)
      clear hK K
      try simp only [yA, yB, yC, Act.put, yD, yE, yF]
      refine wpAnyH_ready (rs := [14]) (by kernel_rfl) (by simp) (AllReadyH.cons (i := 14) rfl (fun K hK => ?_) AllReadyH.nil)
      go_simp
      refine (order_c _ x.tid d.tid _ rfl).mono ?_
      rintro e0 w3 ⟨rfl, gN14⟩
      replace HGW := As.mk (HGW.out.trans gN14)
      replace HDK := As.mk (HDK.out.grown gN14 (by simp))
      replace HOW := As.mk (own_gr0 HOW.out gN14)
      replace HC := As.mk (And.intro (gN14.cell HC.out.1 (by simp)) (And.intro (gN14.cell HC.out.2.1 (by simp)) (And.intro (gN14.cell HC.out.2.2.1 (by simp)) (gN14.cell HC.out.2.2.2 (by simp)))))
      clear gN14
      go_simp
      refine hK.out _ _ (⟨HDK.out, HC.out.1, HC.out.2.1, HC.out.2.2.1, HC.out.2.2.2⟩) (fun hS => ?_)
      clear hK K
      try simp only [yA, yB, yC, Act.put, yD, yE, yF]
      refine wpAnyH_take (i := 15) (v := ?va16) rfl (by kernel_rfl) (by kernel_rfl) (by kernel_rfl) (fun _ _ _ h => h) (Or.inl ⟨by rfl, ?ya16⟩) hS ?ra16
      case ya16 => (intro w0 _; go_simp; try with_reducible rfl)
      try simp only [yA, yB, yC, Act.put, yD, yE, yF]
      refine wpAnyH_take (i := 16) (v := ?va17) rfl (by kernel_rfl) (by kernel_rfl) (by kernel_rfl) (fun _ _ _ h => h) (Or.inl ⟨by rfl, ?ya17⟩) hS ?ra17
      case ya17 => (intro w0 _; go_simp; try with_reducible rfl)
      try simp only [yA, yB, yC, Act.put, yD, yE, yF]
      refine wpAnyH_done (by kernel_rfl) ?_ _
      refine NoPanic.normal ?_
      try simp only [Exit.then]
      clear hS
      cases ho : decide (ordT x.tid d.tid < 0)
      · have HPK := As.mk (show posT (fun x : PDe => x.tid) l d.tid = k from HAT.out HAL.out ho)
        have hne : ¬ ordT x.tid d.tid < 0 := by simpa using ho
        clear HAT HTK ho
        have q0 := HDK.out.cell 0
        have q1 := HDK.out.cell 1
        have q2 := HDK.out.cell 2
        have q3 := HDK.out.cell 3
        simp only [List.getElem?_toArray, List.getElem?_cons_zero, List.getElem?_cons_succ] at q0 q1 q2 q3
        go_wp2_with fail
        refine (insDe_c _ base (by have h1 := HL.out.2.2; have h2 := HGW.out.size; have h3 := HG0.out; (try simp at h2); (try simp); omega) _ l.length k (l.flatMap deC) (own_gr0 HOW.out (gr_alloc (gr_refl _ none) _)) (fun u hu => by obtain ⟨y, _, hy⟩ := List.mem_flatMap.1 hu; exact HL.out.2.1 y u hy) hk (by omega) _ (deC d) (Blk.new _ _ _) rfl (HL.out.2.1 d) (own_new_ne HOW.out)).mono ?_
        rintro e w4 ⟨v', rfl, h1, h2, h3⟩
        have HF := As.mk (And.intro h1 (And.intro h2 h3))
        clear h1 h2 h3 q0 q1 q2 q3
        go_wp2_with fail
        go_ret
        refine ⟨v', rfl, ?_, gr_then (gr_none_some (gr_alloc HGW.out _) _) HF.out.2.1 (.inl rfl), HF.out.2.2.imp_right fun ⟨q, e1, e2⟩ => ⟨q, e1, by have h2 := HGW.out.size; have h3 := HG0.out; (try simp at e2); (try simp at h2); omega⟩⟩
        have := HF.out.1
        unfold insT
        rw [show posT (fun x : PDe => x.tid) l ((fun x : PDe => x.tid) d) = k from HPK.out, List.flatMap_append, List.flatMap_cons, ← flat_take deC 4 HL.out.1, ← flat_drop deC 4 HL.out.1]
        exact this
      · have heq : ordT x.tid d.tid < 0 := by simpa using ho
        have HY := As.mk (show (l.take (k + 1)).all (fun x : PDe => decide (ordT x.tid d.tid < 0)) = true by rw [HTK.out, HAL.out, ho]; rfl)
        clear ho HAT HTK
        go_wp2_with fail
        go_roundw
        case measure => simp [intOf]; omega
        case rel => exact ⟨k + 1, by omega, by go_num, ⟨HGW.out, HDK.out, HOW.out, HY.out⟩⟩
    · obtain rfl : k = l.length := by omega
      have hltN : decide (l.length < l.length) = false := by simp
      have HPK := As.mk (show posT (fun x : PDe => x.tid) l d.tid = l.length from takeWhile_all _ l (by have := HAL.out; rwa [List.take_of_length_le (Nat.le_refl _)] at this))
      go_wp2_with fail
      refine wp_region_noPanic ?_
      refine wp_region_held_drew (S := fun w' => Blk w' gd 55 #[.int .i64 d.tid.n, .int .i64 d.tid.e, .int .i64 d.tid.s, .bool d.yes]) (by kernel_rfl) (HDK.out) (fun hS => ?_)
      refine wpAnyH_take (i := 0) (v := ?vb1) rfl (by kernel_rfl) (by kernel_rfl) (by kernel_rfl) (fun _ _ _ h => h) (Or.inl ⟨by rfl, ?yb1⟩) hS ?rb1
      case yb1 => (intro w0 _; go_simp; try with_reducible rfl)
      try simp only [yA, yB, yC, Act.put, yD, yE, yF]
      refine wpAnyH_take (i := 1) (v := ?vb2) rfl (by kernel_rfl) (by kernel_rfl) (by kernel_rfl) (fun _ _ _ h => h) (Or.inl ⟨by rfl, ?yb2⟩) hS ?rb2
      case yb2 => (intro w0 _; go_simp; try with_reducible rfl)
      try simp only [yA, yB, yC, Act.put, yD, yE, yF]
      refine wpAnyH_take (i := 2) (v := ?vb3) rfl (by kernel_rfl) (by kernel_rfl) (by kernel_rfl) (fun _ _ _ h => h) (Or.inl ⟨by rfl, ?yb3⟩) hS ?rb3
      case yb3 => (intro w0 _; go_simp; try with_reducible rfl)
      try simp only [yA, yB, yC, Act.put, yD, yE, yF]
      refine wpAnyH_take (i := 3) (v := ?vb4) rfl (by kernel_rfl) (by kernel_rfl) (by kernel_rfl) (fun _ _ _ h => h) (Or.inl ⟨by rfl, ?yb4⟩) hS ?rb4
      case yb4 => (intro w0 _; go_simp; try with_reducible rfl)
      try simp only [yA, yB, yC, Act.put, yD, yE, yF]
      refine wpAnyH_take (i := 4) (v := ?vb5) rfl (by kernel_rfl) (by kernel_rfl) (by kernel_rfl) (fun _ _ _ h => h) (Or.inl ⟨by rfl, ?yb5⟩) hS ?rb5
      case yb5 => (intro w0 _; go_simp; try with_reducible rfl)
      try simp only [yA, yB, yC, Act.put, yD, yE, yF]
      refine wpAnyH_take (i := 5) (v := undef) rfl (by kernel_rfl) (by kernel_rfl) (by kernel_rfl) (fun _ _ _ h => h) (Or.inr ⟨by kernel_rfl, rfl⟩) hS ?_
      try simp only [yA, yB, yC, Act.put, yD, yE, yF]
      refine wpAnyH_take (i := 6) (v := undef) rfl (by kernel_rfl) (by kernel_rfl) (by kernel_rfl) (fun _ _ _ h => h) (Or.inr ⟨by kernel_rfl, rfl⟩) hS ?_
      try simp only [yA, yB, yC, Act.put, yD, yE, yF]
      refine wpAnyH_take (i := 7) (v := undef) rfl (by kernel_rfl) (by kernel_rfl) (by kernel_rfl) (fun _ _ _ h => h) (Or.inr ⟨by kernel_rfl, rfl⟩) hS ?_
      try simp only [yA, yB, yC, Act.put, yD, yE, yF]
      refine wpAnyH_take (i := 8) (v := undef) rfl (by kernel_rfl) (by kernel_rfl) (by kernel_rfl) (fun _ _ _ h => h) (Or.inr ⟨by kernel_rfl, rfl⟩) hS ?_
      try simp only [yA, yB, yC, Act.put, yD, yE, yF]
      refine wpAnyH_take (i := 9) (v := undef) rfl (by kernel_rfl) (by kernel_rfl) (by kernel_rfl) (fun _ _ _ h => h) (Or.inr ⟨by kernel_rfl, rfl⟩) hS ?_
      try simp only [yA, yB, yC, Act.put, yD, yE, yF]
      refine wpAnyH_take (i := 10) (v := undef) rfl (by kernel_rfl) (by kernel_rfl) (by kernel_rfl) (fun _ _ _ h => h) (Or.inr ⟨by kernel_rfl, rfl⟩) hS ?_
      try simp only [yA, yB, yC, Act.put, yD, yE, yF]
      refine wpAnyH_take (i := 11) (v := undef) rfl (by kernel_rfl) (by kernel_rfl) (by kernel_rfl) (fun _ _ _ h => h) (Or.inr ⟨by kernel_rfl, rfl⟩) hS ?_
      try simp only [yA, yB, yC, Act.put, yD, yE, yF]
      refine wpAnyH_take (i := 12) (v := undef) rfl (by kernel_rfl) (by kernel_rfl) (by kernel_rfl) (fun _ _ _ h => h) (Or.inr ⟨by kernel_rfl, rfl⟩) hS ?_
      try simp only [yA, yB, yC, Act.put, yD, yE, yF]
      refine wpAnyH_take (i := 13) (v := undef) rfl (by kernel_rfl) (by kernel_rfl) (by kernel_rfl) (fun _ _ _ h => h) (Or.inr ⟨by kernel_rfl, rfl⟩) hS ?_
      try simp only [yA, yB, yC, Act.put, yD, yE, yF]
      refine wpAnyH_take (i := 14) (v := undef) rfl (by kernel_rfl) (by kernel_rfl) (by kernel_rfl) (fun _ _ _ h => h) (Or.inr ⟨by kernel_rfl, rfl⟩) hS ?_
      try simp only [yA, yB, yC, Act.put, yD, yE, yF]
      refine wpAnyH_take (i := 15) (v := undef) rfl (by kernel_rfl) (by kernel_rfl) (by kernel_rfl) (fun _ _ _ h => h) (Or.inr ⟨by kernel_rfl, rfl⟩) hS ?_
      try simp only [yA, yB, yC, Act.put, yD, yE, yF]
      refine wpAnyH_take (i := 16) (v := ?vb17) rfl (by kernel_rfl) (by kernel_rfl) (by kernel_rfl) (fun _ _ _ h => h) (Or.inl ⟨by rfl, ?yb17⟩) hS ?rb17
      case yb17 => (intro w0 _; go_simp; try with_reducible rfl)
      try simp only [yA, yB, yC, Act.put, yD, yE, yF]
      refine wpAnyH_done (by kernel_rfl) ?_ _
      refine NoPanic.normal ?_
      try simp only [Exit.then]
      clear hS
      have q0 := HDK.out.cell 0
      have q1 := HDK.out.cell 1
      have q2 := HDK.out.cell 2
      have q3 := HDK.out.cell 3
      simp only [List.getElem?_toArray, List.getElem?_cons_zero, List.getElem?_cons_succ] at q0 q1 q2 q3
      go_wp2_with fail
      refine (insDe_c _ base (by have h1 := HL.out.2.2; have h2 := HGW.out.size; have h3 := HG0.out; (try simp at h2); (try simp); omega) _ l.length l.length (l.flatMap deC) (own_gr0 HOW.out (gr_alloc (gr_refl _ none) _)) (fun u hu => by obtain ⟨y, _, hy⟩ := List.mem_flatMap.1 hu; exact HL.out.2.1 y u hy) (Nat.le_refl _) (by omega) _ (deC d) (Blk.new _ _ _) rfl (HL.out.2.1 d) (own_new_ne HOW.out)).mono ?_
      rintro e w4 ⟨v', rfl, h1, h2, h3⟩
      have HF := As.mk (And.intro h1 (And.intro h2 h3))
      clear h1 h2 h3 q0 q1 q2 q3
      go_wp2_with fail
      go_ret
      refine ⟨v', rfl, ?_, gr_then (gr_none_some (gr_alloc HGW.out _) _) HF.out.2.1 (.inl rfl), HF.out.2.2.imp_right fun ⟨q, e1, e2⟩ => ⟨q, e1, by have h2 := HGW.out.size; have h3 := HG0.out; (try simp at e2); (try simp at h2); omega⟩⟩
      have := HF.out.1
      unfold insT
      rw [show posT (fun x : PDe => x.tid) l ((fun x : PDe => x.tid) d) = l.length from HPK.out, List.flatMap_append, List.flatMap_cons, ← flat_take deC 4 HL.out.1, ← flat_drop deC 4 HL.out.1]
      exact this
set_option maxHeartbeats 6400000 in
theorem linsertPr_c (w : World) (base : Nat) (hbase : base ≤ w.heap.size) (v : Value) (l : List QPr) (hown : w.ownsRow base 60 5 v l.length (l.flatMap qpC)) (hl : l.length ≤ 1000) (d : QPr) :
    Calls Try.prog 77 #[v, .agg #[.int .i64 d.p.tid.n, .int .i64 d.p.tid.e, .int .i64 d.p.tid.s, .slice d.A1 d.p.items.length d.c1, .slice d.A2 d.p.nodes.length d.c2], .func (.func 34) #[] #[]] w (LinsPost w base 60 5 v (l.length + 1) ((insT (fun x : QPr => x.p.tid) l d).flatMap qpC)) := by
  have hlenC : ∀ x, (qpC x).length = 5 := fun _ => rfl
  have honeC : ∀ x, ∀ u ∈ qpC x, u.oneCell' = true := fun x u hu => by
    simp only [qpC, List.mem_cons, List.not_mem_nil, or_false] at hu
    rcases hu with rfl | rfl | rfl | rfl | rfl <;> rfl
  have HL := As.mk (And.intro hlenC (And.intro honeC hbase))
  have HDK := As.mk (Blk.new w 60 #[.int .i64 d.p.tid.n, .int .i64 d.p.tid.e, .int .i64 d.p.tid.s, .slice d.A1 d.p.items.length d.c1, .slice d.A2 d.p.nodes.length d.c2])
  have HGW := As.mk (gr_alloc (gr_refl w none) (.cells #[.int .i64 d.p.tid.n, .int .i64 d.p.tid.e, .int .i64 d.p.tid.s, .slice d.A1 d.p.items.length d.c1, .slice d.A2 d.p.nodes.length d.c2] 60))
  have HOW := As.mk (own_gr0 hown HGW.out)
  obtain ⟨Av, cv, rfl⟩ := own_shape hown
  have hgd : some w.heap.size ≠ (Value.slice Av l.length cv).ownBlock := own_new_ne hown
  have HGD := As.mk hgd
  clear hlenC honeC hbase hown hgd
  go_enter Try.func77, Try.ntmps77
  go_wp2_with fail
  generalize w.alloc (.cells #[.int .i64 d.p.tid.n, .int .i64 d.p.tid.e, .int .i64 d.p.tid.s, .slice d.A1 d.p.items.length d.c1, .slice d.A2 d.p.nodes.length d.c2] 60) = W at *
  generalize hgd0 : w.heap.size = gd at *
  have HG0 := As.mk hgd0
  clear hgd0
  go_loopw [7] (fun i wr => ∃ k : Nat, k ≤ l.length ∧ i = .int .i64 k ∧ As (w.grownBy wr none ∧ Blk wr gd 60 #[.int .i64 d.p.tid.n, .int .i64 d.p.tid.e, .int .i64 d.p.tid.s, .slice d.A1 d.p.items.length d.c1, .slice d.A2 d.p.nodes.length d.c2] ∧ wr.ownsRow base 60 5 (.slice Av l.length cv) l.length (l.flatMap qpC) ∧ (l.take k).all (fun x => decide (ordT x.p.tid d.p.tid < 0)) = true)) (fun i _ => l.length - (intOf i).toNat)
  case atStart => exact ⟨0, Nat.zero_le _, rfl, ⟨HGW.out, HDK.out, HOW.out, by simp⟩⟩
  case round =>
    obtain ⟨k, hk, rfl, HR⟩ := hrel
    clear HGW HDK HOW
    have HGW := As.mk (gr_drew HR.out.1)
    have HDK := As.mk HR.out.2.1.drew
    have HOW := As.mk (own_drew HR.out.2.2.1)
    have HAL := As.mk HR.out.2.2.2
    clear HR
    by_cases hlt : k < l.length
    · have hltI : (k : Int) < (l.length : Int) := by omega
      have hltN : decide (k < l.length) = true := by simpa using hlt
      have hk0 : (0 : Int) ≤ (k : Int) := by omega
      obtain ⟨gb, cap, hv⟩ := own_some HOW.out (by omega)
      injection hv with hv1 _ hv3
      subst hv1 hv3
      have hx := List.getElem?_eq_getElem hlt
      have HC := As.mk (show (wr.drew.cell? ⟨gb, k * 5, none⟩ = some (.int .i64 (l[k]'hlt).p.tid.n) ∧ wr.drew.cell? ⟨gb, k * 5 + 1, none⟩ = some (.int .i64 (l[k]'hlt).p.tid.e) ∧ wr.drew.cell? ⟨gb, k * 5 + 2, none⟩ = some (.int .i64 (l[k]'hlt).p.tid.s) ∧ wr.drew.cell? ⟨gb, k * 5 + 3, none⟩ = some (.slice (l[k]'hlt).A1 (l[k]'hlt).p.items.length (l[k]'hlt).c1) ∧ wr.drew.cell? ⟨gb, k * 5 + 4, none⟩ = some (.slice (l[k]'hlt).A2 (l[k]'hlt).p.nodes.length (l[k]'hlt).c2)) from
        ⟨own_cellAt HOW.out (k * 5) _ (flat_at qpC 5 HL.out.1 l k _ hx 0 _ rfl), own_cellAt HOW.out (k * 5 + 1) _ (flat_at qpC 5 HL.out.1 l k _ hx 1 _ rfl), own_cellAt HOW.out (k * 5 + 2) _ (flat_at qpC 5 HL.out.1 l k _ hx 2 _ rfl), own_cellAt HOW.out (k * 5 + 3) _ (flat_at qpC 5 HL.out.1 l k _ hx 3 _ rfl), own_cellAt HOW.out (k * 5 + 4) _ (flat_at qpC 5 HL.out.1 l k _ hx 4 _ rfl)⟩)
      have HTK := As.mk (all_take_succ (fun x : QPr => decide (ordT x.p.tid d.p.tid < 0)) l k hlt)
      have HAT := As.mk (fun h0 h1 => takeWhile_at (fun x : QPr => decide (ordT x.p.tid d.p.tid < 0)) l k hlt h0 h1)
      clear hx
      generalize l[k]'hlt = x at *
      go_wp2_with fail
      refine wp_region_noPanic ?_
      refine wp_region_held_drew (S := fun w' => Blk w' gd 60 #[.int .i64 d.p.tid.n, .int .i64 d.p.tid.e, .int .i64 d.p.tid.s, .slice d.A1 d.p.items.length d.c1, .slice d.A2 d.p.nodes.length d.c2] ∧ w'.cell? ⟨gb, k * 5, none⟩ = some (.int .i64 x.p.tid.n) ∧ w'.cell? ⟨gb, k * 5 + 1, none⟩ = some (.int .i64 x.p.tid.e) ∧ w'.cell? ⟨gb, k * 5 + 2, none⟩ = some (.int .i64 x.p.tid.s) ∧ w'.cell? ⟨gb, k * 5 + 3, none⟩ = some (.slice x.A1 x.p.items.length x.c1) ∧ w'.cell? ⟨gb, k * 5 + 4, none⟩ = some (.slice x.A2 x.p.nodes.length x.c2)) (by kernel_rfl) (⟨HDK.out, HC.out.1, HC.out.2.1, HC.out.2.2.1, HC.out.2.2.2.1, HC.out.2.2.2.2⟩) (fun hS => ?_)
      refine wpAnyH_take (i := 0) (v := ?va1) rfl (by kernel_rfl) (by kernel_rfl) (by kernel_rfl) (fun _ _ _ h => h) (Or.inl ⟨by rfl, ?ya1⟩) hS ?ra1
      case ya1 => (intro w0 _; go_simp; try with_reducible rfl)
      try simp only [yA, yB, yC, Act.put, yD, yE, yF]
      refine wpAnyH_take (i := 1) (v := ?va2) rfl (by kernel_rfl) (by kernel_rfl) (by kernel_rfl) (fun _ _ _ h => h) (Or.inl ⟨by rfl, ?ya2⟩) hS ?ra2
      case ya2 => (intro w0 _; go_simp; try with_reducible rfl)
      try simp only [yA, yB, yC, Act.put, yD, yE, yF]
      refine wpAnyH_take (i := 2) (v := ?va3) rfl (by kernel_rfl) (by kernel_rfl) (by kernel_rfl) (fun _ _ _ h => h) (Or.inl ⟨by rfl, ?ya3⟩) hS ?ra3
      case ya3 => (intro w0 _; go_simp; try with_reducible rfl)
      try simp only [yA, yB, yC, Act.put, yD, yE, yF]
      refine wpAnyH_take (i := 3) (v := ?va4) rfl (by kernel_rfl) (by kernel_rfl) (by kernel_rfl) (fun _ _ _ h => h) (Or.inl ⟨by rfl, ?ya4⟩) hS ?ra4
      case ya4 => (intro w0 _; go_simp; try with_reducible rfl)
      try simp only [yA, yB, yC, Act.put, yD, yE, yF]
      refine wpAnyH_take (i := 4) (v := ?va5) rfl (by kernel_rfl) (by kernel_rfl) (by kernel_rfl) (fun _ _ _ h => h) (Or.inl ⟨by rfl, ?ya5⟩) hS ?ra5
      case ya5 => (intro w0 _; go_simp; try with_reducible rfl)
      try simp only [yA, yB, yC, Act.put, yD, yE, yF]
      refine wpAnyH_take (i := 5) (v := ?va6) rfl (by kernel_rfl) (by kernel_rfl) (by kernel_rfl) (fun _ _ _ h => h) (Or.inl ⟨by rfl, ?ya6⟩) hS ?ra6
      case ya6 => (intro w0 _; go_simp; try with_reducible rfl)
      try simp only [yA, yB, yC, Act.put, yD, yE, yF]
      refine wpAnyH_take (i := 6) (v := ?va7) rfl (by kernel_rfl) (by kernel_rfl) (by kernel_rfl) (fun _ _ _ h => h) (Or.inl ⟨by rfl, ?ya7⟩) hS ?ra7
      case ya7 => (intro w0 _; go_simp; try with_reducible rfl)
      try simp only [yA, yB, yC, Act.put, yD, yE, yF]
      refine wpAnyH_take (i := 7) (v := ?va8) rfl (by kernel_rfl) (by kernel_rfl) (by kernel_rfl) (fun _ _ _ h => h) (Or.inl ⟨by rfl, ?ya8⟩) hS ?ra8
      case ya8 => (intro w0 _; go_simp; try with_reducible rfl)
      try simp only [yA, yB, yC, Act.put, yD, yE, yF]
      refine wpAnyH_take (i := 8) (v := ?va9) rfl (by kernel_rfl) (by kernel_rfl) (by kernel_rfl) (fun _ _ _ h => h) (Or.inl ⟨by rfl, ?ya9⟩) hS ?ra9
      case ya9 => (intro w0 _; go_simp; try with_reducible rfl)
      try simp only [yA, yB, yC, Act.put, yD, yE, yF]
      refine wpAnyH_take (i := 9) (v := ?va10) rfl (by kernel_rfl) (by kernel_rfl) (by kernel_rfl) (fun _ _ _ h => h) (Or.inl ⟨by rfl, ?ya10⟩) hS ?ra10
      case ya10 => (intro w0 hS0; (try simp only [] at hS0); obtain ⟨hS0_0, hS0_1, hS0_2, hS0_3, hS0_4, hS0_5⟩ := hS0; go_simp; try with_reducible rfl)
      try simp only [yA, yB, yC, Act.put, yD, yE, yF]
      refine wpAnyH_take (i := 11) (v := ?va11) rfl (by kernel_rfl) (by kernel_rfl) (by kernel_rfl) (fun _ _ _ h => h) (Or.inl ⟨by rfl, ?ya11⟩) hS ?ra11
      case ya11 => (intro w0 _; go_simp; try with_reducible rfl)
      try simp only [yA, yB, yC, Act.put, yD, yE, yF]
      refine wpAnyH_take (i := 12) (v := ?va12) rfl (by kernel_rfl) (by kernel_rfl) (by kernel_rfl) (fun _ _ _ h => h) (Or.inl ⟨by rfl, ?ya12⟩) hS ?ra12
      case ya12 => (intro w0 hS0; (try simp only [] at hS0); obtain ⟨hS0_0, hS0_1, hS0_2, hS0_3, hS0_4, hS0_5⟩ := hS0; have q0 := hS0_0.cell 0; have q1 := hS0_0.cell 1; have q2 := hS0_0.cell 2; have q3 := hS0_0.cell 3; have q4 := hS0_0.cell 4; simp only [List.getElem?_toArray, List.getElem?_cons_zero, List.getElem?_cons_succ] at q0 q1 q2 q3 q4; go_simp; try with_reducible rfl)
      try simp only [yA, yB, yC, Act.put, yD, yE, yF]
      refine wpAnyH_ready (rs := [10]) (by kernel_rfl) (by simp) (AllReadyH.cons (i := 10) rfl (fun K hK => ?_) AllReadyH.nil)
      go_simp
      refine (tidPr_c _ x.p _ _ _ _ _ _).mono ?_
      rintro e0 w1 ⟨rfl, gN10⟩
      replace HGW := As.mk (HGW.out.trans gN10)
      replace HDK := As.mk (HDK.out.grown gN10 (by simp))
      replace HOW := As.mk (own_gr0 HOW.out gN10)
      replace HC := As.mk (And.intro (gN10.cell HC.out.1 (by simp)) (And.intro (gN10.cell HC.out.2.1 (by simp)) (And.intro (gN10.cell HC.out.2.2.1 (by simp)) (And.intro (gN10.cell HC.out.2.2.2.1 (by simp)) (gN10.cell HC.out.2.2.2.2 (by simp))))))
      clear gN10
      go_simp
      refine hK.out _ _ (⟨HDK.out, HC.out.1, HC.out.2.1, HC.out.2.2.1, HC.out.2.2.2.1, HC.out.2.2.2.2⟩) (fun hS => ?_)
      clear hK K
      try simp only [yA, yB, yC, Act.put, yD, yE, yF]
      refine wpAnyH_ready (rs := [13]) (by kernel_rfl) (by simp) (AllReadyH.cons (i := 13) rfl (fun K hK => ?_) AllReadyH.nil)
      go_simp
      refine (tidPr_c _ d.p _ _ _ _ _ _).mono ?_
      rintro e0 w2 ⟨rfl, gN13⟩
      replace HGW := As.mk (HGW.out.trans gN13)
      replace HDK := As.mk (HDK.out.grown gN13 (by simp))
      replace HOW := As.mk (own_gr0 HOW.out gN13)
      replace HC := As.mk (And.intro (gN13.cell HC.out.1 (by simp)) (And.intro (gN13.cell HC.out.2.1 (by simp)) (And.intro (gN13.cell HC.out.2.2.1 (by simp)) (And.intro (gN13.cell HC.out.2.2.2.1 (by simp)) (gN13.cell HC.out.2.2.2.2 (by simp))))))
      clear gN13
      go_simp
      refine hK.out _ _ (⟨HDK.out, HC.out.1, HC.out.2.1, HC.out.2.2.1, HC.out.2.2.2.1, HC.out.2.2.2.2⟩) (fun hS => ?_)
      clear hK K
      try simp only [yA, yB, yC, Act.put, yD, yE, yF]
      refine wpAnyH_ready (rs := [14]) (by kernel_rfl) (by simp) (AllReadyH.cons (i := 14) rfl (fun K hK => ?_) AllReadyH.nil)
      go_simp
      refine (order_c _ x.p.tid d.p.tid _ rfl).mono ?_
      rintro e0 w3 ⟨rfl, gN14⟩
      replace HGW := As.mk (HGW.out.trans gN14)
      replace HDK := As.mk (HDK.out.grown gN14 (by simp))
      replace HOW := As.mk (own_gr0 HOW.out gN14)
      replace HC := As.mk (And.intro (gN14.cell HC.out.1 (by simp)) (And.intro (gN14.cell HC.out.2.1 (by simp)) (And.intro (gN14.cell HC.out.2.2.1 (by simp)) (And.intro (gN14.cell HC.out.2.2.2.1 (by simp)) (gN14.cell HC.out.2.2.2.2 (by simp))))))
      clear gN14
      go_simp
      refine hK.out _ _ (⟨HDK.out, HC.out.1, HC.out.2.1, HC.out.2.2.1, HC.out.2.2.2.1, HC.out.2.2.2.2⟩) (fun hS => ?_)
      clear hK K
      try simp only [yA, yB, yC, Act.put, yD, yE, yF]
      refine wpAnyH_take (i := 15) (v := ?va16) rfl (by kernel_rfl) (by kernel_rfl) (by kernel_rfl) (fun _ _ _ h => h) (Or.inl ⟨by rfl, ?ya16⟩) hS ?ra16
      case ya16 => (intro w0 _; go_simp; try with_reducible rfl)
      try simp only [yA, yB, yC, Act.put, yD, yE, yF]
      refine wpAnyH_take (i := 16) (v := ?va17) rfl (by kernel_rfl) (by kernel_rfl) (by kernel_rfl) (fun _ _ _ h => h) (Or.inl ⟨by rfl, ?ya17⟩) hS ?ra17
      case ya17 => (intro w0 _; go_simp; try with_reducible rfl)
      try simp only [yA, yB, yC, Act.put, yD, yE, yF]
      refine wpAnyH_done (by kernel_rfl) ?_ _
      refine NoPanic.normal ?_
      try simp only [Exit.then]
      clear hS
      cases ho : decide (ordT x.p.tid d.p.tid < 0)
      · have HPK := As.mk (show posT (fun x : QPr => x.p.tid) l d.p.tid = k from HAT.out HAL.out ho)
        have hne : ¬ ordT x.p.tid d.p.tid < 0 := by simpa using ho
        clear HAT HTK ho
        have q0 := HDK.out.cell 0
        have q1 := HDK.out.cell 1
        have q2 := HDK.out.cell 2
        have q3 := HDK.out.cell 3
        have q4 := HDK.out.cell 4
        simp only [List.getElem?_toArray, List.getElem?_cons_zero, List.getElem?_cons_succ] at q0 q1 q2 q3 q4
        go_wp2_with fail
        refine (insPr_c _ base (by have h1 := HL.out.2.2; have h2 := HGW.out.size; have h3 := HG0.out; (try simp at h2); (try simp); omega) _ l.length k (l.flatMap qpC) (own_gr0 HOW.out (gr_alloc (gr_refl _ none) _)) (fun u hu => by obtain ⟨y, _, hy⟩ := List.mem_flatMap.1 hu; exact HL.out.2.1 y u hy) hk (by omega) _ (qpC d) (Blk.new _ _ _) rfl (HL.out.2.1 d) (own_new_ne HOW.out)).mono ?_
        rintro e w4 ⟨v', rfl, h1, h2, h3⟩
        have HF := As.mk (And.intro h1 (And.intro h2 h3))
        clear h1 h2 h3 q0 q1 q2 q3 q4
        go_wp2_with fail
        go_ret
        refine ⟨v', rfl, ?_, gr_then (gr_none_some (gr_alloc HGW.out _) _) HF.out.2.1 (.inl rfl), HF.out.2.2.imp_right fun ⟨q, e1, e2⟩ => ⟨q, e1, by have h2 := HGW.out.size; have h3 := HG0.out; (try simp at e2); (try simp at h2); omega⟩⟩
        have := HF.out.1
        unfold insT
        rw [show posT (fun x : QPr => x.p.tid) l ((fun x : QPr => x.p.tid) d) = k from HPK.out, List.flatMap_append, List.flatMap_cons, ← flat_take qpC 5 HL.out.1, ← flat_drop qpC 5 HL.out.1]
        exact this
      · have heq : ordT x.p.tid d.p.tid < 0 := by simpa using ho
        have HY := As.mk (show (l.take (k + 1)).all (fun x : QPr => decide (ordT x.p.tid d.p.tid < 0)) = true by rw [HTK.out, HAL.out, ho]; rfl)
        clear ho HAT HTK
        go_wp2_with fail
        go_roundw
        case measure => simp [intOf]; omega
        case rel => exact ⟨k + 1, by omega, by go_num, ⟨HGW.out, HDK.out, HOW.out, HY.out⟩⟩
    · obtain rfl : k = l.length := by omega
      have hltN : decide (l.length < l.length) = false := by simp
      have HPK := As.mk (show posT (fun x : QPr => x.p.tid) l d.p.tid = l.length from takeWhile_all _ l (by have := HAL.out; rwa [List.take_of_length_le (Nat.le_refl _)] at this))
      go_wp2_with fail
      refine wp_region_noPanic ?_
      refine wp_region_held_drew (S := fun w' => Blk w' gd 60 #[.int .i64 d.p.tid.n, .int .i64 d.p.tid.e, .int .i64 d.p.tid.s, .slice d.A1 d.p.items.length d.c1, .slice d.A2 d.p.nodes.length d.c2]) (by kernel_rfl) (HDK.out) (fun hS => ?_)
      refine wpAnyH_take (i := 0) (v := ?vb1) rfl (by kernel_rfl) (by kernel_rfl) (by kernel_rfl) (fun _ _ _ h => h) (Or.inl ⟨by rfl, ?yb1⟩) hS ?rb1
      case yb1 => (intro w0 _; go_simp; try with_reducible rfl)
      try simp only [yA, yB, yC, Act.put, yD, yE, yF]
      refine wpAnyH_take (i := 1) (v := ?vb2) rfl (by kernel_rfl) (by kernel_rfl) (by kernel_rfl) (fun _ _ _ h => h) (Or.inl ⟨by rfl, ?yb2⟩) hS ?rb2
      case yb2 => (intro w0 _; go_simp; try with_reducible rfl)
      try simp only [yA, yB, yC, Act.put, yD, yE, yF]
      refine wpAnyH_take (i := 2) (v := ?vb3) rfl (by kernel_rfl) (by kernel_rfl) (by kernel_rfl) (fun _ _ _ h => h) (Or.inl ⟨by rfl, ?yb3⟩) hS ?rb3
      case yb3 => (intro w0 _; go_simp; try with_reducible rfl)
      try simp only [yA, yB, yC, Act.put, yD, yE, yF]
      refine wpAnyH_take (i := 3) (v := ?vb4) rfl (by kernel_rfl) (by kernel_rfl) (by kernel_rfl) (fun _ _ _ h => h) (Or.inl ⟨by rfl, ?yb4⟩) hS ?rb4
      case yb4 => (intro w0 _; go_simp; try with_reducible rfl)
      try simp only [yA, yB, yC, Act.put, yD, yE, yF]
      refine wpAnyH_take (i := 4) (v := ?vb5) rfl (by kernel_rfl) (by kernel_rfl) (by kernel_rfl) (fun _ _ _ h => h) (Or.inl ⟨by rfl, ?yb5⟩) hS ?rb5
      case yb5 => (intro w0 _; go_simp; try with_reducible rfl)
      try simp only [yA, yB, yC, Act.put, yD, yE, yF]
      refine wpAnyH_take (i := 5) (v := undef) rfl (by kernel_rfl) (by kernel_rfl) (by kernel_rfl) (fun _ _ _ h => h) (Or.inr ⟨by kernel_rfl, rfl⟩) hS ?_
      try simp only [yA, yB, yC, Act.put, yD, yE, yF]
      refine wpAnyH_take (i := 6) (v := undef) rfl (by kernel_rfl) (by kernel_rfl) (by kernel_rfl) (fun _ _ _ h => h) (Or.inr ⟨by kernel_rfl, rfl⟩) hS ?_
      try simp only [yA, yB, yC, Act.put, yD, yE, yF]
      refine wpAnyH_take (i := 7) (v := undef) rfl (by kernel_rfl) (by kernel_rfl) (by kernel_rfl) (fun _ _ _ h => h) (Or.inr ⟨by kernel_rfl, rfl⟩) hS ?_
      try simp only [yA, yB, yC, Act.put, yD, yE, yF]
      refine wpAnyH_take (i := 8) (v := undef) rfl (by kernel_rfl) (by kernel_rfl) (by kernel_rfl) (fun _ _ _ h => h) (Or.inr ⟨by kernel_rfl, rfl⟩) hS ?_
      try simp only [yA, yB, yC, Act.put, yD, yE, yF]
      refine wpAnyH_take (i := 9) (v := undef) rfl (by kernel_rfl) (by kernel_rfl) (by kernel_rfl) (fun _ _ _ h => h) (Or.inr ⟨by kernel_rfl, rfl⟩) hS ?_
      try simp only [yA, yB, yC, Act.put, yD, yE, yF]
      refine wpAnyH_take (i := 10) (v := undef) rfl (by kernel_rfl) (by kernel_rfl) (by kernel_rfl) (fun _ _ _ h => h) (Or.inr ⟨by kernel_rfl, rfl⟩) hS ?_
      try simp only [yA, yB, yC, Act.put, yD, yE, yF]
      refine wpAnyH_take (i := 11) (v := undef) rfl (by kernel_rfl) (by kernel_rfl) (by kernel_rfl) (fun _ _ _ h => h) (Or.inr ⟨by kernel_rfl, rfl⟩) hS ?_
      try simp only [yA, yB, yC, Act.put, yD, yE, yF]
      refine wpAnyH_take (i := 12) (v := undef) rfl (by kernel_rfl) (by kernel_rfl) (by kernel_rfl) (fun _ _ _ h => h) (Or.inr ⟨by kernel_rfl, rfl⟩) hS ?_
      try simp only [yA, yB, yC, Act.put, yD, yE, yF]
      refine wpAnyH_take (i := 13) (v := undef) rfl (by kernel_rfl) (by kernel_rfl) (by kernel_rfl) (fun _ _ _ h => h) (Or.inr ⟨by kernel_rfl, rfl⟩) hS ?_
      try simp only [yA, yB, yC, Act.put, yD, yE, yF]
      refine wpAnyH_take (i := 14) (v := undef) rfl (by kernel_rfl) (by kernel_rfl) (by kernel_rfl) (fun _ _ _ h => h) (Or.inr ⟨by kernel_rfl, rfl⟩) hS ?_
      try simp only [yA, yB, yC, Act.put, yD, yE, yF]
      refine wpAnyH_take (i := 15) (v := undef) rfl (by kernel_rfl) (by kernel_rfl) (by kernel_rfl) (fun _ _ _ h => h) (Or.inr ⟨by kernel_rfl, rfl⟩) hS ?_
      try simp only [yA, yB, yC, Act.put, yD, yE, yF]
      refine wpAnyH_take (i := 16) (v := ?vb17) rfl (by kernel_rfl) (by kernel_rfl) (by kernel_rfl) (fun _ _ _ h => h) (Or.inl ⟨by rfl, ?yb17⟩) hS ?rb17
      case yb17 => (intro w0 _; go_simp; try with_reducible rfl)
      try simp only [yA, yB, yC, Act.put, yD, yE, yF]
      refine wpAnyH_done (by kernel_rfl) ?_ _
      refine NoPanic.normal ?_
      try simp only [Exit.then]
      clear hS
      have q0 := HDK.out.cell 0
      have q1 := HDK.out.cell 1
      have q2 := HDK.out.cell 2
      have q3 := HDK.out.cell 3
      have q4 := HDK.out.cell 4
      simp only [List.getElem?_toArray, List.getElem?_cons_zero, List.getElem?_cons_succ] at q0 q1 q2 q3 q4
      go_wp2_with fail
      refine (insPr_c _ base (by have h1 := HL.out.2.2; have h2 := HGW.out.size; have h3 := HG0.out; (try simp at h2); (try simp); omega) _ l.length l.length (l.flatMap qpC) (own_gr0 HOW.out (gr_alloc (gr_refl _ none) _)) (fun u hu => by obtain ⟨y, _, hy⟩ := List.mem_flatMap.1 hu; exact HL.out.2.1 y u hy) (Nat.le_refl _) (by omega) _ (qpC d) (Blk.new _ _ _) rfl (HL.out.2.1 d) (own_new_ne HOW.out)).mono ?_
      rintro e w4 ⟨v', rfl, h1, h2, h3⟩
      have HF := As.mk (And.intro h1 (And.intro h2 h3))
      clear h1 h2 h3 q0 q1 q2 q3 q4
      go_wp2_with fail
      go_ret
      refine ⟨v', rfl, ?_, gr_then (gr_none_some (gr_alloc HGW.out _) _) HF.out.2.1 (.inl rfl), HF.out.2.2.imp_right fun ⟨q, e1, e2⟩ => ⟨q, e1, by have h2 := HGW.out.size; have h3 := HG0.out; (try simp at e2); (try simp at h2); omega⟩⟩
      have := HF.out.1
      unfold insT
      rw [show posT (fun x : QPr => x.p.tid) l ((fun x : QPr => x.p.tid) d) = l.length from HPK.out, List.flatMap_append, List.flatMap_cons, ← flat_take qpC 5 HL.out.1, ← flat_drop qpC 5 HL.out.1]
      exact this
end Go.Proofs.Ytdmkijdbldcdiaa
