/- A run begun, given, asked. (Printed by wip/gen/gen_rw.py.) -/
import Derived.OpenShut
import Derived.Test.YtgmhopkajopfcaaSa
import Derived.Test.YtgmhopkajopfcaaLm
import Derived.Test.YtgmhopkajopfcaaNs
namespace Go.Proofs.Ytgmhopkajopfcaa
open Go.RowKit Go.Maps
set_option linter.unusedVariables false
set_option linter.unusedSimpArgs false
set_option maxRecDepth 100000

theorem infoOp : (Try.prog.info? 57).map (fun i => (i.zero, i.size, i.bytes)) = some (some (.agg #[.int .i64 0, .int .i64 0, .int .i64 0, .int .i64 0, .int .i64 0]), 5, 40) := by kernel_rfl
set_option maxHeartbeats 1600000 in
theorem cloneOp_c (w : World) (v : Value) (n : Nat) (xs : List Value) (hs : SrcA w 5 v n xs) (hn : n ≤ 1000000) :
    Calls Try.prog 25 #[v] w (ClonePost w 57 5 n xs) := by
  have hq := fun (w : World) (a : Option Addr) (m c : Nat) => Lib.run_eql_slice_nil (P := Try.prog) w 22 _ a m c 0 0 Try.underlying22
  rcases hs with ⟨c0, rfl, rfl, rfl⟩ | ⟨ad, c, rfl, h1, h2, h3⟩
  · go_enter Try.func25, Try.ntmps25
    go_wp2_with fail
    go_ret
    exact ⟨_, rfl, World.ownsRow_nil _ _ _ _, gr_refl _ _⟩
  · obtain ⟨i0, hi, hz0, hz1, hz2⟩ := info_parts infoOp
    have HI := As.mk (And.intro hi (And.intro hz0 (And.intro hz1 hz2)))
    have HS := As.mk (show SrcV (w.alloc (.cells #[] 57)) 5 (.slice (some ad) n c) n xs from .inr ⟨ad, c, rfl, h1, fun j u hu => (gr_alloc (gr_refl w none) _).cell (h2 j u hu) (by simp), h3⟩)
    have HO := As.mk (World.ownsRow_made w (e := 57) (size := 5) #[] 0 (Nat.le_refl w.heap.size) (by simp [maxLen]) (by simp))
    have HG := As.mk (gr_alloc (gr_refl w none) (.cells #[] 57))
    clear hi hz0 hz1 hz2 h1 h2 h3
    go_enter Try.func25, Try.ntmps25
    go_wp2_with (at_builtin; refine wpList_append_any (by rfl) _ _ _ (by rfl) w.heap.size 57 i0 _ 5 40 Try.underlying22 HI.out.1 HI.out.2.1 HI.out.2.2.1 HI.out.2.2.2 rfl (by omega) _ 0 [] (by rfl) HO.out _ n xs (by rfl) HS.out ⟨_, _, rfl⟩ (by simp only [maxLen]; omega) (by omega) (by simp) ?_; intro v' w' ho hg _ _; rw [Nat.zero_add, List.nil_append] at ho; have HN := As.mk (And.intro ho (gr_then HG.out hg (.inr (.inr (fun q hq => (HO.out.lt q hq).1))))); clear ho hg)
    go_ret
    exact ⟨_, rfl, HN.out.1, HN.out.2⟩
def rdZ : Rd := (0, fun _ => none)
def lvZ : Lv := [(0, fun _ => none)]
/-- A run at its beginning. -/
def startR : RS := ⟨0, fun _ => 0, [], fun _ => false, rdZ, lvZ⟩
theorem start_inv : NInv 0 rdZ lvZ := ⟨by decide, by decide, by decide, by decide⟩
theorem start_val : NVal rdZ lvZ := by
  refine ⟨fun c p h => ?_, fun c p h => ?_, fun p hp c u h => ?_⟩
  · cases h
  · cases h
  · obtain rfl : p = (0, fun _ => none) := by simpa [lvZ] using hp
    cases h
theorem start_riv {l : List POp} (h : pRight l = true) : RIv l startR := by
  obtain ⟨c, h1, h2⟩ := parse0 h
  exact ⟨⟨c, [], by rw [← h1]; simp [ktail, startR], h2, trivial, trivial⟩, Nat.zero_le _, rfl⟩
theorem own_base {w : World} {B B' : Nat} {e : TypeId} {size n : Nat} {v : Value} {xs : List Value} (h : w.ownsRow B e size v n xs) (hB : B' ≤ B) : w.ownsRow B' e size v n xs := by
  refine ⟨h.1, ?_⟩
  rcases h.2 with q | ⟨g, cap, cur, q, hb, r⟩
  · exact .inl q
  · exact .inr ⟨g, cap, cur, q, Nat.le_trans hB hb, r⟩
theorem opsSrc {w : World} {v : Value} {l : List POp} (h : Arr OpE 5 w v l) : SrcA w 5 v l.length (opsCells l) := by
  obtain ⟨css, h1, h2, h3, h4⟩ := h.cellsOf (by decide) (fun x cs hx u hu => by
    have hx : cs = _ := hx
    subst hx
    simp only [List.mem_cons, List.not_mem_nil, or_false] at hu
    rcases hu with rfl | rfl | rfl | rfl | rfl <;> rfl)
  have : css = l.map POp.cells := by
    apply List.ext_getElem?
    intro j
    cases hx : l[j]? with
    | none => rw [List.getElem?_eq_none_iff.2 (by rw [h1]; exact List.getElem?_eq_none_iff.1 hx), List.getElem?_map, hx]; rfl
    | some x =>
      obtain ⟨cs, g1, g2, _⟩ := h2 j x hx
      have g2 : cs = _ := g2
      rw [g1, List.getElem?_map, hx, g2]; rfl
  rw [this] at h4
  rw [show opsCells l = (l.map POp.cells).flatten from by rw [opsCells, List.flatMap_def]]
  exact h4
theorem rnew_no {w : World} {v : Value} {l : List POp} (hl : Arr OpE 5 w v l) (hp : pRight l = false) : Calls Try.prog 9 #[v] w fun e w' => e = .returned (.tuple #[.pointer none, .int .i64 1]) ∧ w.grownBy w' none := by
  go_enter Try.func9, Try.ntmps9
  go_wp2_with fail
  refine (pRight_c v l w hl _ hp).mono ?_
  rintro e w1 ⟨rfl, hg⟩
  have HG := As.mk hg
  clear hg
  go_wp2_with fail
  go_ret2
  exact ⟨rfl, HG.out⟩
/-- What New leaves. -/
def NewPost (w0 w : World) (l : List POp) (e : Ending) (w' : World) : Prop := ∃ rb G, e = .returned (.tuple #[.pointer (some ⟨rb, 0, none⟩), .int .i64 0]) ∧ RunAt w0 w' rb G l startR 0 ∧ w.grownBy w' none ∧ ∀ k, G k → w.heap.size ≤ k
theorem NestAt.base {w : World} {B B' nb : Nat} {F : Nat → Prop} {rd : Rd} {lv : Lv} (h : NestAt w B nb F rd lv) (hB : B' ≤ B) : NestAt w B' nb F rd lv := by
  obtain ⟨rb, v, bs, e, h⟩ := h
  exact ⟨rb, v, bs, e, h.blk, h.rmap, own_base h.row hB, h.len, h.maps, h.nodup, h.rbn, ⟨Nat.le_trans hB h.lo.1, Nat.le_trans hB h.lo.2.1, fun b hb => Nat.le_trans hB (h.lo.2.2 b hb)⟩⟩
set_option maxHeartbeats 3200000 in
theorem rnew_c {w0 w : World} {v : Value} {l : List POp} (hg0 : w0.grownBy w none) (hl : Arr OpE 5 w v l) (hp : pRight l = true) : Calls Try.prog 9 #[v] w (NewPost w0 w l) := by
  have HL := As.mk hl
  have HG0 := As.mk hg0
  have hlen := (pRight_all hp).1
  clear hl hg0
  go_enter Try.func9, Try.ntmps9
  go_wp2_with fail
  refine (pRight_c v l w HL.out _ hp).mono ?_
  rintro e w1 ⟨rfl, hg⟩
  have HG1 := As.mk hg
  clear hg
  go_wp2_with fail
  refine (new_c w1).mono ?_
  rintro e w2 ⟨⟨nb, F, rfl, hn⟩, hg⟩
  have HN := As.mk hn
  have HG2 := As.mk (gr_then HG1.out hg (.inl rfl))
  have HS2 := As.mk (show w1.heap.size ≤ w2.heap.size from hg.size)
  clear hn hg
  go_wp2_with fail
  refine (cloneOp_c w2 v l.length (opsCells l) (opsSrc (HL.out.below HG2.out (fun _ _ h => h))) (by omega)).mono ?_
  rintro e w3 ⟨v1, rfl, ho, hg⟩
  obtain ⟨A1, c1, rfl⟩ := own_shape ho
  have HO := As.mk ho
  have HN3 := As.mk (HN.out.gr hg (by simp))
  have HG3 := As.mk (gr_then HG2.out hg (.inl rfl))
  have HS3 := As.mk (show w2.heap.size ≤ w3.heap.size from hg.size)
  have HFP := As.mk HN.out.fp
  clear ho hg
  go_wp2_with fail
  go_ret2
  have hw1 : w.heap.size ≤ w1.heap.size := HG1.out.size
  have hga := gr_alloc (gr_refl w3 none) (.cells #[.pointer (some ⟨nb, 0, none⟩), .slice A1 l.length c1, .int .i64 0, .int .i64 0, .int .i64 0, .int .i64 0, .int .i64 0, .int .i64 0, .int .i64 0, .int .i64 0, .int .i64 0, .slice none 0 0, .bool false, .bool false, .bool false, .bool false, .bool false, .bool false, .bool false, .bool false, .bool false, .bool false, .bool false, .bool false, .bool false, .bool false, .bool false, .bool false] 65)
  have hs2 := HS2.out
  have hs3 := HS3.out
  have hgo := gr_then HG3.out hga (.inl rfl)
  have hlr : ∀ k, (Value.slice A1 l.length c1).ownBlock = some k → w2.heap.size ≤ k := fun k hk => (HO.out.lt k hk).1
  refine ⟨w3.heap.size, _, rfl, ⟨w.heap.size, nb, F, .slice A1 l.length c1, .slice none 0 0, rfl, (HN3.out.base hw1).gr hga (by simp), start_inv, start_val, Blk.new w3 65 #[.pointer (some ⟨nb, 0, none⟩), .slice A1 l.length c1, .int .i64 0, .int .i64 0, .int .i64 0, .int .i64 0, .int .i64 0, .int .i64 0, .int .i64 0, .int .i64 0, .int .i64 0, .slice none 0 0, .bool false, .bool false, .bool false, .bool false, .bool false, .bool false, .bool false, .bool false, .bool false, .bool false, .bool false, .bool false, .bool false, .bool false, .bool false, .bool false], own_grown (own_base HO.out (by omega)) hga (by rcases hv : (Value.slice A1 l.length c1).ownBlock with _ | x; exact .inl rfl; exact .inr (by simp)), World.ownsRow_nil _ _ _ _,
    ⟨fun q => by have := (HFP.out _ q).2; omega, fun k hk q => by have := (HFP.out _ q).2; have := hlr k hk; omega, fun k hk => by cases hk⟩, ⟨HG0.out.size, by omega, by have := hga.size; omega⟩, HG0.out.trans hgo, fun k _ => (show K64 0 from ⟨by omega, by omega⟩), fun q hq => by cases hq⟩, hgo, ?_⟩
  rintro k (q | q | q | q)
  · have := (HFP.out k q).1; omega
  · omega
  · have := hlr k q; omega
  · cases q
section
variable {w0 w : World} {B nb rb : Nat} {F : Nat → Prop} {lv_ cv : Value} {l : List POp} {s : RS} {M : Nat} {G : Nat → Prop}
/-- What a method that turns the run leaves. -/
def VPost (w0 w : World) (rb : Nat) (G : Nat → Prop) (l : List POp) (M : Nat) (v : Value) (s' : RS) (e : Ending) (w' : World) : Prop := e = .returned v ∧ ∃ G', RunAt w0 w' rb G' l s' M ∧ NG w w' G G'
theorem NInv.saw {rd : Rd} {lv : Lv} {M : Nat} (h : NInv M rd lv) (c v a : Int) : NInv (M + 1) (sawR rd c v a) lv := by
  unfold sawR
  split
  · exact ⟨h.pos, h.five, Nat.succ_le_succ h.reads, Nat.le_succ_of_le h.sum⟩
  · exact h.mono (Nat.le_succ M)
theorem give_c (h : RunAt w0 w rb G l s M) (c v a : Int) (hc : K64 c) (hv : K64 v) (ha : K64 a) (hK : M < 300000) :
    Calls Try.prog 10 #[(.pointer (some ⟨rb, 0, none⟩)), .int .i64 c, .int .i64 v, .int .i64 a] w (VPost w0 w rb G l (M + 1) (.int .i64 (sawE s.rd c v)) { s with rd := sawR s.rd c v a }) := by
  obtain ⟨B, nb, F, lv_, cv, rfl, h⟩ := h
  have HR := As.mk h
  have HC := As.mk hc
  have HV := As.mk hv
  have HA := As.mk ha
  have cn : w.cell? ⟨rb, 0, none⟩ = some (.pointer (some ⟨nb, 0, none⟩)) := h.blk.cell 0
  clear h hc hv ha
  go_enter Try.func10, Try.ntmps10
  go_wp2_with fail
  clear cn
  refine (saw_c HR.out.nest c v a HC.out (by have := HR.out.inv.reads; omega)).mono ?_
  rintro e w1 ⟨rfl, hn, hg⟩
  have HN := As.mk (HR.out.nested (s' := { s with rd := sawR s.rd c v a }) (K' := M + 1) hg hn (HR.out.inv.saw c v a) (HR.out.val.saw HV.out HA.out) rfl rfl rfl rfl)
  clear hn hg
  go_wp2_with fail
  go_ret
  exact ⟨rfl, _, ⟨_, _, _, _, _, rfl, HN.out.1⟩, HN.out.2⟩
theorem give_n (w : World) (c v a : Int) : Calls Try.prog 10 #[.pointer none, .int .i64 c, .int .i64 v, .int .i64 a] w fun e w' => e = .returned (.int .i64 1) ∧ w' = w := by
  go_enter Try.func10, Try.ntmps10
  go_wp2_with fail
  go_ret
  exact ⟨rfl, rfl⟩
theorem took_c (h : RunAt w0 w rb G l s M) (kc : Nat) (hc : kc < 16) :
    Calls Try.prog 11 #[(.pointer (some ⟨rb, 0, none⟩)), .int .i64 (kc : Int)] w (VPost w0 w rb G l M (.int .i64 0) { s with tk := updN s.tk kc true }) := by
  obtain ⟨B, nb, F, lv_, cv, rfl, h⟩ := h
  have HR := As.mk h
  have HKC := As.mk hc
  have q := (h.blk.cell (12 + kc)).trans (runC_tk _ _ _ _ _ _ kc hc)
  have f := h.blk.free (12 + kc)
  have hc0 : (0 : Int) ≤ (kc : Int) := by omega
  have hc1 : (kc : Int) < 16 := by omega
  clear h hc
  go_enter Try.func11, Try.ntmps11
  go_wp2_with fail
  go_ret
  exact ⟨rfl, _, ⟨_, _, _, _, _, rfl, (HR.out.setT kc HKC.out true).1⟩, (HR.out.setT kc HKC.out true).2⟩
theorem took_no (w : World) (v : Value) (hv : v = .pointer none ∨ ∃ b, v = .pointer (some ⟨b, 0, none⟩)) (c : Int) (hc : v = .pointer none ∨ c < 0 ∨ 16 ≤ c) : Calls Try.prog 11 #[v, .int .i64 c] w fun e w' => e = .returned (.int .i64 1) ∧ w' = w := by
  rcases hv with rfl | ⟨b, rfl⟩
  · go_enter Try.func11, Try.ntmps11
    go_wp2_with fail
    go_ret
    exact ⟨rfl, rfl⟩
  · rcases hc with hc | hc | hc
    · cases hc
    · go_enter Try.func11, Try.ntmps11
      go_wp2_with fail
      go_ret
      exact ⟨rfl, rfl⟩
    · have h0 : ¬ c < 0 := by omega
      go_enter Try.func11, Try.ntmps11
      go_wp2_with fail
      go_ret
      exact ⟨rfl, rfl⟩
theorem ritems_c (h : RunAt w0 w rb G l s M) : Calls Try.prog 15 #[(.pointer (some ⟨rb, 0, none⟩))] w fun e w' => (∃ v, e = .returned v ∧ w'.ownsRow w.heap.size 40 5 v (itsN s.rd s.lv).length (itCells (itsN s.rd s.lv))) ∧ w.grownBy w' none := by
  obtain ⟨B, nb, F, lv_, cv, rfl, h⟩ := h
  have HR := As.mk h
  have cn : w.cell? ⟨rb, 0, none⟩ = some (.pointer (some ⟨nb, 0, none⟩)) := h.blk.cell 0
  clear h
  go_enter Try.func15, Try.ntmps15
  go_wp2_with fail
  clear cn
  refine (items_c HR.out.nest (by have := HR.out.inv.five; omega) HR.out.inv.pos HR.out.val).mono ?_
  rintro e w1 ⟨⟨v, rfl, ho⟩, hg⟩
  have HO := As.mk ho
  have HG := As.mk hg
  clear ho hg
  go_wp2_with fail
  go_ret
  exact ⟨⟨v, rfl, HO.out⟩, HG.out⟩
theorem ritems_n (w : World) : Calls Try.prog 15 #[.pointer none] w fun e w' => e = .returned (.slice none 0 0) ∧ w' = w := by
  go_enter Try.func15, Try.ntmps15
  go_wp2_with fail
  go_ret
  exact ⟨rfl, rfl⟩
theorem gon_n (w : World) : Calls Try.prog 13 #[.pointer none] w fun e w' => e = .returned (.tuple #[.int .i64 4, .int .i64 0]) ∧ w' = w := by
  go_enter Try.func13, Try.ntmps13
  go_wp2_with fail
  go_ret2
  exact ⟨rfl, rfl⟩
theorem again_n (w : World) : Calls Try.prog 21 #[.pointer none] w fun e w' => e = .returned (.tuple #[]) ∧ w' = w := by
  go_enter Try.func21, Try.ntmps21
  go_wp2_with fail
  go_end0
  exact ⟨rfl, rfl⟩
end
end Go.Proofs.Ytgmhopkajopfcaa
