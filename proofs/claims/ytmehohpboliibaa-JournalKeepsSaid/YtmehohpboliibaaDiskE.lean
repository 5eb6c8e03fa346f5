/- The walks of disk: Append. -/
import Derived.Test.YtmehohpboliibaaDiskC
namespace Go.Proofs.Ytmehohpboliibaa
open Go.RowKit
set_option linter.unusedVariables false

def DK.append (d : DK) (s : ByteArray) : Int × DK :=
  if d.down = true then (7, d) else
  if d.size < (d.b.size : Int) + s.size then (6, d) else
  let r := d.spend s.size
  (if r.2.down = true then 7 else 0, { r.2 with b := r.2.b ++ s.extract 0 r.1.toNat })
/-- A slice of strings reads as this list. -/
def Strs (w : World) (v : Value) (xs : List ByteArray) : Prop := (xs = [] ∧ ∃ a c, v = .slice a 0 c) ∨ ∃ bk o c, v = .slice (some ⟨bk, o, none⟩) xs.length c ∧ xs.length ≤ c ∧ bk < w.heap.size ∧ ∀ (j : Nat) x, xs[j]? = some x → w.cell? ⟨bk, o + j, none⟩ = some (.string x)
def joined (xs : List ByteArray) : ByteArray := xs.foldl (· ++ ·) ⟨#[]⟩
def joinC (xs : List ByteArray) : ByteArray := ⟨(Lib.join (xs.map (·.data.toList)) []).toArray⟩
theorem join_c {xs : List ByteArray} {v : Value} {w : World} (h : Strs w v xs) (hN : xs.length ≤ 140737488355328) (hlen : (joinC xs).size ≤ 140737488355328) :
    Calls Try.prog 49 #[v, .string ⟨#[]⟩] w fun e w' => e = .returned (.string (joinC xs)) ∧ w.grownBy w' none := by
  have hl : (Lib.join (xs.map (·.data.toList)) (⟨#[]⟩ : ByteArray).data.toList).length ≤ 140737488355328 := by
    unfold joinC at hlen
    simpa [ByteArray.size] using hlen
  rcases h with ⟨rfl, a, c, rfl⟩ | ⟨bk, o, c, rfl, hc, hb, hcell⟩
  · refine (Try.strings_Join_none a c ⟨#[]⟩ w).mono ?_
    rintro e w' ⟨rfl, rfl⟩
    exact ⟨rfl, gr_refl _ _⟩
  · refine (Try.strings_Join bk o c xs ⟨#[]⟩ w hcell hb hN hc hl).mono ?_
    rintro e w' ⟨rfl, h⟩
    exact ⟨rfl, below_gr h _⟩
theorem DK.spend_fits {d d1 : DK} {n m : Int} (h : d.spend n = (m, d1)) (hn : 0 ≤ n) (ho : d.on = true → 0 ≤ d.left) : 0 ≤ m ∧ m ≤ n ∧ d1.b = d.b := by
  unfold DK.spend at h
  split at h
  · obtain ⟨rfl, rfl⟩ := Prod.mk.inj h
    exact ⟨hn, Int.le_refl _, rfl⟩
  · rename_i hc
    obtain ⟨rfl, rfl⟩ := Prod.mk.inj h
    have h1 : d.on = true := by
      cases ho : d.on with
      | true => rfl
      | false => exact absurd (.inl ho) hc
    have := ho h1
    refine ⟨this, ?_, rfl⟩
    have h2 : ¬ n ≤ d.left := fun q => hc (.inr q)
    omega

set_option maxHeartbeats 4000000 in
theorem append_c {g : Nat} {d : DK} {v : Value} {xs : List ByteArray} {w : World} (hd : d.ok) (hx : Strs w v xs) (hN : xs.length ≤ 140737488355328) (hlen : (joinC xs).size ≤ 140737488351232) (h : DkAt w g d) :
    Calls Try.prog 21 #[.pointer (some ⟨g, 0, none⟩), v] w fun e w' => e = .returned (.int .i64 (d.append (joinC xs)).1) ∧ DkAt w' g (d.append (joinC xs)).2 ∧ w.grownBy w' (some g) := by
  obtain ⟨hd0, hd1, hd2, hd3⟩ := hd
  have D := As.mk (down_c h)
  have J := As.mk (join_c hx hN (by omega))
  have H := As.mk h
  clear hx hN h
  generalize joinC xs = s at *
  unfold DK.append
  cases hdn : d.down with
  | true =>
    rw [if_pos rfl]
    clear hd0 hd1 hd2 hd3 J hlen
    go_enter Try.func21, Try.ntmps21
    go_wp2_with fail
    refine D.out.mono ?_
    rintro e w1 ⟨rfl, rfl⟩
    rw [hdn]
    go_wp2
    go_ret
    exact ⟨rfl, H.out, gr_refl _ _⟩
  | false =>
    rw [if_neg (by simp)]
    have e1 : IntKind.i64.wrap ((d.b.size : Int) + (s.size : Int)) = (d.b.size : Int) + (s.size : Int) := by rw [IntKind.wrap_i64]; omega
    by_cases hf : d.size < (d.b.size : Int) + s.size
    · rw [if_pos hf]
      clear hd0 hd1 hd2 hd3 hlen
      go_enter Try.func21, Try.ntmps21
      go_wp2_with fail
      refine D.out.mono ?_
      rintro e w1 ⟨rfl, rfl⟩
      rw [hdn]
      go_wp2_with fail
      refine J.out.mono ?_
      rintro e w2 ⟨rfl, hg⟩
      have h2 := H.out.grown hg (by simp)
      have c3 : w2.cell? ⟨g, 3, none⟩ = some (.string d.b) := h2.cell 3
      have c5 : w2.cell? ⟨g, 5, none⟩ = some (.int .i64 d.size) := h2.cell 5
      have H2 := As.mk h2
      have G := As.mk hg
      clear h2 hg D J H
      go_wp2
      go_quiet (fail)
      go_wp2
      go_ret
      exact ⟨rfl, H2.out, ⟨G.out.os, G.out.tape, G.out.output, G.out.size, fun k hk _ => G.out.block k hk (by simp)⟩⟩
    · rw [if_neg hf]
      rcases hs : d.spend s.size with ⟨m, d1⟩
      obtain ⟨m0, m1, mb⟩ := DK.spend_fits hs (by omega) hd0
      have e6 : ¬ 9223372036854775807 < d.b.size + m.toNat := by omega
      have S := As.mk (fun w (h : DkAt w g d) => spend_c hs h)
      clear hd0 hd1 hd2 hd3 hlen hs
      go_enter Try.func21, Try.ntmps21
      go_wp2_with fail
      refine D.out.mono ?_
      rintro e w1 ⟨rfl, rfl⟩
      rw [hdn]
      go_wp2_with fail
      refine J.out.mono ?_
      rintro e w2 ⟨rfl, hg⟩
      have h2 := H.out.grown hg (by simp)
      have c3 : w2.cell? ⟨g, 3, none⟩ = some (.string d.b) := h2.cell 3
      have c5 : w2.cell? ⟨g, 5, none⟩ = some (.int .i64 d.size) := h2.cell 5
      have H2 := As.mk (Blk.drewN h2)
      have G := As.mk hg
      clear h2 hg D J H
      go_wp2
      go_quiet (fail)
      go_wp2_with fail
      refine (S.out _ (H2.out _)).mono ?_
      rintro e w3 ⟨rfl, h3, g3⟩
      have c3' : w3.cell? ⟨g, 3, none⟩ = some (.string d1.b) := h3.cell 3
      have c1' : w3.cell? ⟨g, 1, none⟩ = some (.bool d1.down) := h3.cell 1
      have f3 := h3.free
      have H3 := As.mk h3
      have G3 := As.mk g3
      rw [mb] at c3'
      clear h3 g3 S H2 c3 c5
      have GG : ∀ w4, w3.grownBy w4 (some g) → w1.grownBy w4 (some g) := by
        intro w4 h4
        have a1 : w1.grownBy w2 (some g) := ⟨G.out.os, G.out.tape, G.out.output, G.out.size, fun k hk _ => G.out.block k hk (by simp)⟩
        exact gr_then (gr_then (gr_drewN a1 _) G3.out (.inl rfl)) h4 (.inl rfl)
      have GG := As.mk GG
      go_wp2
      go_region_law (fail)
      all_goals
        simp only [Exit.then]
        have h4 := Blk.drew ((show Blk _ _ _ _ from H3.out).set 3 (.string (d.b ++ s.extract 0 m.toNat)))
        have c1'' : (w3.setCell ⟨g, 3, none⟩ (.string (d.b ++ s.extract 0 m.toNat))).drew.cell? ⟨g, 1, none⟩ = some (.bool d1.down) := h4.cell 1
        have H4 := As.mk h4
        have G4 := As.mk (GG.out _ (gr_drew (gr_own (gr_refl w3 (some g)) 3 (.string (d.b ++ s.extract 0 m.toNat)))))
        clear h4 c3' c1' H3 G3 GG
        generalize (w3.setCell ⟨g, 3, none⟩ (.string (d.b ++ s.extract 0 m.toNat))).drew = w4 at *
        cases hdd : d1.down with
        | true =>
          rw [hdd] at c1''
          go_wp2
          all_goals
            go_ret
            refine ⟨by simp, ?_, G4.out⟩
            have q := H4.out
            rw [hdd] at q
            exact q
        | false =>
          rw [hdd] at c1''
          go_wp2
          all_goals
            go_ret
            refine ⟨by simp, ?_, G4.out⟩
            have q := H4.out
            rw [hdd] at q
            exact q
end Go.Proofs.Ytmehohpboliibaa
