/- The walks of journal: put, Append, Renew. -/
import Derived.Test.YtmehohpboliibaaJrn
namespace Go.Proofs.Ytmehohpboliibaa
open Go.RowKit
set_option linter.unusedVariables false

def jforce (over : Bool) (d : DK) (force : Bool) : Int × Bool × DK := if force = true then (d.sync.1, over || d.sync.1 == 7, d.sync.2) else (0, over, d)
def jput (d : DK) (force : Bool) (fs : List ByteArray) : Int × Bool × DK :=
  if fs = [] then jforce false d force
  else if (d.append (joinC fs)).1 = 0 then jforce false (d.append (joinC fs)).2 force else ((d.append (joinC fs)).1, (d.append (joinC fs)).1 == 7, (d.append (joinC fs)).2)
def japp (d : DK) (force : Bool) (l : List ByteArray) : Int × Bool × DK := if shorts l = true then jput d force (l.map frameOf) else (5, false, d)
def jrenew (d : DK) (l : List ByteArray) : Int × Bool × DK :=
  if shorts l = true then
    if (jput d true (l.map frameOf)).1 = 0 then
      (((jput d true (l.map frameOf)).2.2.drop d.b.size).1, (jput d true (l.map frameOf)).2.1 || ((jput d true (l.map frameOf)).2.2.drop d.b.size).1 == 7, ((jput d true (l.map frameOf)).2.2.drop d.b.size).2)
    else jput d true (l.map frameOf)
  else (5, false, d)
/-- But for two blocks, and new ones, nothing has changed. -/
structure Two (w w' : World) (a b : Nat) : Prop where
  os : w'.os = w.os
  tape : w'.tape = w.tape
  output : w'.output = w.output
  size : w.heap.size ≤ w'.heap.size
  block : ∀ k, k < w.heap.size → k ≠ a → k ≠ b → w'.heap[k]? = w.heap[k]?
theorem Two.refl (w : World) (a b : Nat) : Two w w a b := ⟨rfl, rfl, rfl, Nat.le_refl _, fun _ _ _ _ => rfl⟩
theorem Two.step {w w1 w2 : World} {a b : Nat} {row : Option Nat} (h : Two w w1 a b) (hg : w1.grownBy w2 row) (hr : row = none ∨ row = some a ∨ row = some b) : Two w w2 a b :=
  ⟨hg.os.trans h.os, hg.tape.trans h.tape, hg.output.trans h.output, Nat.le_trans h.size hg.size, fun k hk ha hb => (hg.block k (Nat.lt_of_lt_of_le hk h.size) (by
    rcases hr with rfl | rfl | rfl
    · simp
    · intro e; injection e with e; exact ha e
    · intro e; injection e with e; exact hb e)).trans (h.block k hk ha hb)⟩
theorem Two.gr {w w' : World} {a b : Nat} (h : Two w w' a b) (ha : w.heap.size ≤ a) (hb : w.heap.size ≤ b) : w.grownBy w' none :=
  ⟨h.os, h.tape, h.output, h.size, fun k hk _ => h.block k hk (by omega) (by omega)⟩
theorem Two.blk {w w' : World} {a b x : Nat} {t : TypeId} {cs : Array Value} (h : Two w w' a b) (hx : Blk w x t cs) (h1 : x ≠ a) (h2 : x ≠ b) : Blk w' x t cs := (h.block x hx.lt h1 h2).trans hx
theorem Two.comp {w w1 w2 : World} {a b : Nat} (h : Two w w1 a b) (h' : Two w1 w2 a b) : Two w w2 a b :=
  ⟨h'.os.trans h.os, h'.tape.trans h.tape, h'.output.trans h.output, Nat.le_trans h.size h'.size, fun k hk ha hb => (h'.block k (Nat.lt_of_lt_of_le hk h.size) ha hb).trans (h.block k hk ha hb)⟩
theorem Two.own {w w' : World} {a b base : Nat} {e : TypeId} {size n : Nat} {v : Value} {xs : List Value} (h : Two w w' a b) (ho : w.ownsRow base e size v n xs) (h1 : some a ≠ v.ownBlock) (h2 : some b ≠ v.ownBlock) : w'.ownsRow base e size v n xs := by
  refine ⟨ho.1, ?_⟩
  rcases ho.2 with h0 | ⟨g, cap, cur, rfl, hb, hg, r⟩
  · exact .inl h0
  · refine .inr ⟨g, cap, cur, rfl, hb, ?_, r⟩
    rw [h.block g (Array.getElem?_eq_some_iff.1 hg).1 (fun e => h1 (by rw [e]; rfl)) (fun e => h2 (by rw [e]; rfl))]
    exact hg
/-- A journal and its disk, in a world that has grown from w. -/
structure JS (w : World) (gj gd : Nat) (over : Bool) (d : DK) (wr : World) : Prop where
  j : JAt wr gj gd over
  d : DkAt wr gd d
  gr : Two w wr gj gd
theorem JS.ne {w : World} {gj gd : Nat} {over : Bool} {d : DK} {wr : World} (h : JS w gj gd over d wr) : gj ≠ gd := Blk.ne h.j h.d (by decide)
theorem JS.stepd {w : World} {gj gd : Nat} {over : Bool} {d d' : DK} {w1 w2 : World} (h : JS w gj gd over d w1) (hd : DkAt w2 gd d') (hg : w1.grownBy w2 (some gd)) : JS w gj gd over d' w2 :=
  ⟨Blk.grown (show Blk _ _ _ _ from h.j) hg (fun e => h.ne (by injection e)), hd, h.gr.step hg (.inr (.inr rfl))⟩
theorem JS.stepj {w : World} {gj gd : Nat} {over over' : Bool} {d : DK} {w1 w2 : World} (h : JS w gj gd over d w1) (hj : JAt w2 gj gd over') (hg : w1.grownBy w2 (some gj)) : JS w gj gd over' d w2 :=
  ⟨hj, Blk.grown (show Blk _ _ _ _ from h.d) hg (fun e => h.ne (by injection e with e; exact e.symm)), h.gr.step hg (.inr (.inl rfl))⟩
theorem JS.grown {w : World} {gj gd : Nat} {over : Bool} {d : DK} {w1 w2 : World} (h : JS w gj gd over d w1) (hg : w1.grownBy w2 none) : JS w gj gd over d w2 :=
  ⟨Blk.grown (show Blk _ _ _ _ from h.j) hg (by simp), Blk.grown (show Blk _ _ _ _ from h.d) hg (by simp), h.gr.step hg (.inl rfl)⟩
set_option maxHeartbeats 1600000 in
theorem put_c {w w0 : World} {gj gd : Nat} {d : DK} {v : Value} {fs : List ByteArray} {m : Int} {o : Bool} {d' : DK} (force : Bool) (hv : jput d force fs = (m, o, d')) (hok : d.ok) (h : JS w gj gd false d w0) (hs : Strs w0 v fs) (hN : fs.length ≤ 1000) (hz : (joinC fs).size ≤ 1000000) :
    Calls Try.prog 59 #[.pointer (some ⟨gj, 0, none⟩), .bool force, v] w0 fun e w' => e = .returned (.int .i64 m) ∧ JS w gj gd o d' w' := by
  have H := As.mk h
  have HS := As.mk hs
  obtain ⟨A, c, rfl⟩ := hs.len
  have c0 : w0.cell? ⟨gj, 0, none⟩ = some (.pointer (some ⟨gd, 0, none⟩)) := h.j.cell 0
  unfold jput at hv
  by_cases hf : fs = []
  · subst hf
    rw [if_pos rfl] at hv
    unfold jforce at hv
    clear h hs hok hN hz
    cases force with
    | true =>
      rw [if_pos rfl] at hv
      simp only [Prod.mk.injEq] at hv
      obtain ⟨rfl, rfl, rfl⟩ := hv
      go_enter Try.func59, Try.ntmps59
      go_wp2_with fail
      refine (sync_c H.out.d).mono ?_
      rintro e w1 ⟨rfl, hd, hg⟩
      have M1 := As.mk (H.out.stepd hd hg)
      clear hd hg H
      go_wp2_with fail
      refine (did_c _ M1.out.j).mono ?_
      rintro e w2 ⟨rfl, hj, hg⟩
      have M2 := As.mk (M1.out.stepj hj hg)
      clear hj hg M1
      go_wp2
      go_ret
      exact ⟨rfl, M2.out⟩
    | false =>
      rw [if_neg (by simp)] at hv
      simp only [Prod.mk.injEq] at hv
      obtain ⟨rfl, rfl, rfl⟩ := hv
      go_enter Try.func59, Try.ntmps59
      go_wp2
      go_ret
      exact ⟨rfl, H.out⟩
  · rw [if_neg hf] at hv
    have hl : 0 < fs.length := by
      rcases fs with _ | ⟨x, r⟩
      · exact absurd rfl hf
      · exact Nat.succ_pos _
    have hlI : (0 : Int) < (fs.length : Int) := by omega
    have AP := As.mk (append_c hok hs (by omega) (by omega) h.d)
    clear h hs hok hN hz hf hl
    generalize d.append (joinC fs) = r at *
    obtain ⟨r1, d1⟩ := r
    dsimp only at hv AP
    by_cases hr : r1 = 0
    · subst hr
      rw [if_pos rfl] at hv
      unfold jforce at hv
      cases force with
      | true =>
        rw [if_pos rfl] at hv
        simp only [Prod.mk.injEq] at hv
        obtain ⟨rfl, rfl, rfl⟩ := hv
        go_enter Try.func59, Try.ntmps59
        go_wp2_with fail
        refine AP.out.mono ?_
        rintro e w1 ⟨rfl, hd, hg⟩
        have M1 := As.mk (H.out.stepd hd hg)
        clear hd hg H AP
        go_wp2_with fail
        refine (did_c 0 M1.out.j).mono ?_
        rintro e w2 ⟨rfl, hj, hg⟩
        have M2 := As.mk (M1.out.stepj hj hg)
        have c2 : w2.cell? ⟨gj, 0, none⟩ = some (.pointer (some ⟨gd, 0, none⟩)) := M2.out.j.cell 0
        clear hj hg M1
        go_wp2_with fail
        refine (sync_c M2.out.d).mono ?_
        rintro e w3 ⟨rfl, hd, hg⟩
        have M3 := As.mk (M2.out.stepd hd hg)
        clear hd hg M2 c2
        go_wp2_with fail
        refine (did_c _ M3.out.j).mono ?_
        rintro e w4 ⟨rfl, hj, hg⟩
        have M4 := As.mk (M3.out.stepj hj hg)
        clear hj hg M3
        go_wp2
        go_ret
        exact ⟨rfl, M4.out⟩
      | false =>
        rw [if_neg (by simp)] at hv
        simp only [Prod.mk.injEq] at hv
        obtain ⟨rfl, rfl, rfl⟩ := hv
        go_enter Try.func59, Try.ntmps59
        go_wp2_with fail
        refine AP.out.mono ?_
        rintro e w1 ⟨rfl, hd, hg⟩
        have M1 := As.mk (H.out.stepd hd hg)
        clear hd hg H AP
        go_wp2_with fail
        refine (did_c 0 M1.out.j).mono ?_
        rintro e w2 ⟨rfl, hj, hg⟩
        have M2 := As.mk (M1.out.stepj hj hg)
        clear hj hg M1
        go_wp2
        go_ret
        exact ⟨rfl, M2.out⟩
    · rw [if_neg hr] at hv
      simp only [Prod.mk.injEq] at hv
      obtain ⟨rfl, rfl, rfl⟩ := hv
      go_enter Try.func59, Try.ntmps59
      go_wp2_with fail
      refine AP.out.mono ?_
      rintro e w1 ⟨rfl, hd, hg⟩
      have M1 := As.mk (H.out.stepd hd hg)
      clear hd hg H AP
      go_wp2_with fail
      refine (did_c _ M1.out.j).mono ?_
      rintro e w2 ⟨rfl, hj, hg⟩
      have M2 := As.mk (M1.out.stepj hj hg)
      clear hj hg M1
      go_wp2
      go_ret
      rw [Bool.false_or] at M2
      exact ⟨rfl, M2.out⟩
theorem joinC_frames (l : List ByteArray) : joinC (l.map frameOf) = frL l := by
  rw [joinC_eq]
  have h : ∀ k, k ≤ l.length → joinN (l.map frameOf) k = frL (l.take k) := by
    intro k
    induction k with
    | zero => intro _; rw [List.take_zero]; rfl
    | succ k ih =>
      intro hk
      rw [joinN, ih (by omega), List.take_succ_eq_append_getElem (show k < l.length by omega), frL_snoc, List.getD_eq_getElem?_getD, List.getElem?_eq_getElem (by rw [List.length_map]; omega), List.getElem_map]
      rfl
  have := h (l.map frameOf).length (by rw [List.length_map]; exact Nat.le_refl _)
  rw [this, List.length_map, List.take_length]
set_option maxHeartbeats 1600000 in
theorem japp_c {w w0 : World} {gj gd : Nat} {d : DK} {v : Value} {l : List ByteArray} {m : Int} {o : Bool} {d' : DK} (force : Bool) (hv : japp d force l = (m, o, d')) (hok : d.ok) (h : JS w gj gd false d w0) (hs : Strs w0 v l) (hN : l.length ≤ 1000) (hz : ∀ s ∈ l, s.size ≤ 140737488351232) (hf : (frL l).size ≤ 1000000) :
    Calls Try.prog 45 #[.pointer (some ⟨gj, 0, none⟩), .bool force, v] w0 fun e w' => e = .returned (.int .i64 m) ∧ JS w gj gd o d' w' := by
  have H := As.mk h
  have SC := As.mk (sealed_c hs hN hz)
  obtain ⟨A, c, rfl⟩ := hs.len
  have OV := As.mk (over_c h.j)
  have HOK := As.mk hok
  clear h hs hok hz
  unfold japp at hv
  go_enter Try.func45, Try.ntmps45
  go_wp2_with fail
  refine OV.out.mono ?_
  rintro e w1 ⟨rfl, rfl⟩
  clear OV
  go_wp2_with fail
  refine SC.out.mono ?_
  rintro e w2 ⟨⟨hsh, u, rfl, ho⟩ | ⟨hsh, rfl⟩, hg⟩
  · rw [if_pos hsh] at hv
    have M2 := As.mk (H.out.grown hg)
    have HV := As.mk hv
    have SO := As.mk (own_strs (xs := l.map frameOf) (by rw [List.length_map]; exact ho))
    have HJ := As.mk (show (l.map frameOf).length ≤ 1000 ∧ (joinC (l.map frameOf)).size ≤ 1000000 by rw [List.length_map, joinC_frames]; exact ⟨hN, hf⟩)
    clear hv hg ho H SC hsh
    go_wp2_with fail
    refine (put_c force HV.out HOK.out M2.out SO.out HJ.out.1 HJ.out.2).mono ?_
    rintro e w3 ⟨rfl, hj⟩
    have M3 := As.mk hj
    clear hj M2
    go_wp2
    go_ret
    exact ⟨rfl, M3.out⟩
  · rw [if_neg (by rw [hsh]; simp)] at hv
    simp only [Prod.mk.injEq] at hv
    obtain ⟨rfl, rfl, rfl⟩ := hv
    have M2 := As.mk (H.out.grown hg)
    clear hg H SC hsh
    go_wp2
    go_ret
    exact ⟨rfl, M2.out⟩
end Go.Proofs.Ytmehohpboliibaa
