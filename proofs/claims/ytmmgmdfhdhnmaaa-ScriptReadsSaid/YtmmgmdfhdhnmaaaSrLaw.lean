/- The walk of the law ScriptReads. -/
import Derived.Test.YtmmgmdfhdhnmaaaAwk
import Derived.Test.YtmmgmdfhdhnmaaaSm
import Derived.Test.YtmmgmdfhdhnmaaaRefC
namespace Go.Proofs.Ytmmgmdfhdhnmaaa
open Go.RowKit
set_option linter.unusedVariables false

theorem evsFrom_ops (S : ByteArray) : ∀ fuel p n, ∀ x ∈ evsFrom S fuel p n, x.ops.length ≤ 32
  | 0, _, _ => by simp [evsFrom]
  | fuel + 1, p, n => by
    rw [evsFrom]
    split
    · split
      · exact evsFrom_ops S fuel _ _
      · cases he : evAt S (p + 1) (byteAt S p % 12) with
        | none => simp
        | some q =>
          obtain ⟨e, p'⟩ := q
          intro x hx
          rcases List.mem_cons.1 hx with rfl | hx
          · unfold evAt at he
            split at he
            · split at he
              · injection he with he
                have h1 := congrArg (fun z => z.1) he
                dsimp only at h1
                rw [← h1]
                exact Nat.zero_le _
              · cases he
            · split at he
              · injection he with he
                have h1 := congrArg (fun z => z.1) he
                dsimp only at h1
                rw [← h1]
                dsimp only
                rw [opsAt_len]
                omega
              · cases he
          · exact evsFrom_ops S fuel _ _ x hx
    · simp
theorem evsFrom_len (S : ByteArray) : ∀ fuel p n, (evsFrom S fuel p n).length + n ≤ max n 400
  | 0, _, _ => by simp [evsFrom]; omega
  | fuel + 1, p, n => by
    rw [evsFrom]
    split
    · rename_i h
      split
      · exact evsFrom_len S fuel _ _
      · cases he : evAt S (p + 1) (byteAt S p % 12) with
        | none => simp; omega
        | some q =>
          have := evsFrom_len S fuel q.2 (n + 1)
          simp only [List.length_cons]
          omega
    · simp; omega
theorem pEvs_ops (S : ByteArray) : ∀ x ∈ pEvs S, x.ops.length ≤ 100000000 := by
  unfold pEvs evsT
  split
  · simp
  · intro x hx
    have := evsFrom_ops S _ _ _ x hx
    omega
theorem pEvs_len (S : ByteArray) : (pEvs S).length ≤ 100000000 := by
  unfold pEvs evsT
  split
  · simp
  · have := evsFrom_len S (S.size + 1) (rCount S (rByte S (rByte S ⟨0, false⟩).2).2).2.p 0
    omega

set_option maxRecDepth 100000 in
set_option maxHeartbeats 6400000 in
theorem reads_walk (S : ByteArray) (w : World) (hS : S.size ≤ 140737488351232) :
    Calls Try.prog 3 #[.string S] w fun e w' => e = .returned (.bool true) ∧ As (Below w.heap.size w w') := by
  by_cases hbig : 4000 < S.size
  · have hbigI : (4000 : Int) < (S.size : Int) := by omega
    go_enter Try.func3, Try.ntmps3
    go_wp2_with (go_at_call 6; refine (awake_walk _).mono ?_; rintro e w1 ⟨rfl, hg⟩)
    go_ret
    exact ⟨rfl, ⟨gr_below hg⟩⟩
  · have hbigI : ¬ (4000 : Int) < (S.size : Int) := by omega
    have HP := As.mk (fun w => parse_c S w (by omega))
    have HR := As.mk (fun w => ref_c S w (by omega))
    have HL := As.mk (pEvs_len S)
    have HO := As.mk (pEvs_ops S)
    generalize pNodes S = N at *
    generalize pCells S = C at *
    generalize pDisk S = D at *
    generalize pEvs S = R at *
    go_enter Try.func3, Try.ntmps3
    go_wp2_with (go_at_call 6; refine (awake_walk _).mono ?_; rintro e w1 ⟨rfl, hg⟩)
    refine (HP.out w1).mono ?_
    rintro e w2 ⟨v, rfl, hown, hg2⟩
    have G := As.mk (gr_then hg (below_gr hg2 none) (.inl rfl))
    have A1 := As.mk (Arr.of_evs hown)
    obtain ⟨A, c, rfl⟩ := A1.out.len
    clear hg hg2 hown HP
    go_wp2_with fail
    refine (HR.out _).mono ?_
    rintro e w3 ⟨v3, rfl, hown, hg⟩
    have B1 := As.mk (Blk.grown (Blk.new w2 24 #[.int .i64 N, .int .i64 C, .int .i64 D]) hg (by simp))
    have G' := As.mk (gr_then (gr_alloc G.out _) hg (.inl rfl))
    have A1' := As.mk ((A1.out.below (World.grownBy_alloc w2 _ none) (EvE.below (World.grownBy_alloc w2 _ none))).below hg (EvE.below hg))
    have A2 := As.mk (Arr.of_evs hown)
    obtain ⟨A', c', rfl⟩ := A2.out.len
    clear G A1 hg hown HR
    generalize w2.heap.size = g at *
    have c0 : w3.cell? ⟨g, 0, none⟩ = some (.int .i64 N) := B1.out.cell 0
    have c1 : w3.cell? ⟨g, 1, none⟩ = some (.int .i64 C) := B1.out.cell 1
    have c2 : w3.cell? ⟨g, 2, none⟩ = some (.int .i64 D) := B1.out.cell 2
    go_wp2_with (first
      | (go_at_call 10; refine (plain26_walk _ R _ _ rfl A1'.out HL.out HO.out).mono ?_; rintro e w4 ⟨v4, rfl, hown, hg⟩
         have A3 := As.mk (Arr.of_evs hown)
         obtain ⟨A5, c5, rfl⟩ := A3.out.len
         have A2' := As.mk (A2.out.below hg (EvE.below hg))
         have G2 := As.mk (gr_then G'.out hg (.inl rfl))
         clear hown hg)
      | (go_at_call 9; refine (same26_walk _ _ R _ A3.out A2'.out).mono ?_; rintro e w5 ⟨rfl, hd⟩
         have G3 := As.mk (gr_then G2.out (Drawn.gr hd) (.inl rfl))
         clear hd))
    go_ret
    exact ⟨rfl, ⟨gr_below G3.out⟩⟩
theorem reads_law (S : ByteArray) (w : World) (hS : S.size ≤ 140737488351232) :
    Calls Try.prog 3 #[.string S] w fun e w' => e = .returned (.bool true) ∧ Below w.heap.size w w' :=
  (reads_walk S w hS).mono fun _ _ ⟨h1, h2⟩ => ⟨h1, h2.out⟩
end Go.Proofs.Ytmmgmdfhdhnmaaa
