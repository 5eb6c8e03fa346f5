/- Plain words on a journal: what is there behind a crash. -/
import Derived.Test.YtmehohpboliibaaJren
namespace Go.Proofs.Ytmehohpboliibaa
open Go.RowKit
set_option linter.unusedVariables false

theorem frL_append : ∀ (a b : List ByteArray), frL (a ++ b) = frL a ++ frL b
  | [], b => (show frL ([] ++ b) = ⟨#[]⟩ ++ frL b from (ByteArray.empty_append).symm)
  | p :: r, b => by
    show frameOf p ++ frL (r ++ b) = frameOf p ++ frL r ++ frL b
    rw [frL_append r b, ByteArray.append_assoc]
/-- A beginning that takes in the first part. -/
theorem pre_app (a b : ByteArray) (n : Nat) : (a ++ b).extract 0 (a.size + n) = a ++ b.extract 0 n := by
  apply ba_eq
  rw [ba_list, ba_app, ba_app, ba_list, List.drop_zero, List.drop_zero, Nat.sub_zero, Nat.sub_zero, ← ba_sz a, List.take_length_add_append]
theorem pre_left (a b : ByteArray) (n : Nat) (h : n ≤ a.size) : (a ++ b).extract 0 n = a.extract 0 n := by
  apply ba_eq
  rw [ba_list, ba_list, ba_app, List.drop_zero, List.drop_zero, Nat.sub_zero, List.take_append_of_le_length (by rw [ba_sz]; exact h)]
theorem pre_pre (a : ByteArray) (n k : Nat) (h : k ≤ n) : (a.extract 0 n).extract 0 k = a.extract 0 k := by
  apply ba_eq
  rw [ba_list, ba_list, ba_list, List.drop_zero, List.drop_zero, Nat.sub_zero, Nat.sub_zero, List.take_take, Nat.min_eq_left h]
theorem all_front : ∀ (s : List ByteArray) (t : ByteArray), (∀ p ∈ s, p.size ≤ 4096) → (allF (frL s ++ t)).1 = s ++ (allF t).1
  | [], t, _ => by rw [show frL [] ++ t = t from ByteArray.empty_append]; rfl
  | p :: r, t, h => by
    have e : frL (p :: r) ++ t = frameOf p ++ (frL r ++ t) := by rw [← ByteArray.append_assoc]; rfl
    have ho := open_seal p (frL r ++ t) (h p (List.mem_cons_self ..))
    rw [e, allF_yes _ (by rw [ho]), ho]
    dsimp only
    rw [all_front r t (fun q hq => h q (List.mem_cons_of_mem _ hq))]
    rfl
theorem all_part : ∀ (m : List ByteArray) (c : Nat), (∀ p ∈ m, p.size ≤ 4096) → c ≤ (frL m).size → ∃ j, j ≤ m.length ∧ (allF ((frL m).extract 0 c)).1 = m.take j
  | [], c, _, hc => by
    refine ⟨0, Nat.le_refl _, ?_⟩
    have h0 : c = 0 := by
      have : (frL []).size = 0 := rfl
      omega
    subst h0
    rw [ByteArray.extract_same, show (ByteArray.empty : ByteArray) = ⟨#[]⟩ from rfl, allF_no _ open_none]
    rfl
  | p :: r, c, h, hc => by
    have hp := h p (List.mem_cons_self ..)
    by_cases hl : c < (frameOf p).size
    · refine ⟨0, Nat.zero_le _, ?_⟩
      rw [show frL (p :: r) = frameOf p ++ frL r from rfl, pre_left _ _ _ (by omega), allF_no _ (open_cut p c hp hl)]
      rfl
    · have hz : (frL (p :: r)).size = (frameOf p).size + (frL r).size := ByteArray.size_append
      obtain ⟨j, hj, e⟩ := all_part r (c - (frameOf p).size) (fun q hq => h q (List.mem_cons_of_mem _ hq)) (by omega)
      refine ⟨j + 1, by rw [List.length_cons]; omega, ?_⟩
      have e1 : (frL (p :: r)).extract 0 c = frameOf p ++ (frL r).extract 0 (c - (frameOf p).size) := by
        rw [← pre_app, show (frameOf p).size + (c - (frameOf p).size) = c by omega]; rfl
      have ho := open_seal p ((frL r).extract 0 (c - (frameOf p).size)) hp
      rw [e1, allF_yes _ (by rw [ho]), ho]
      dsimp only
      rw [e]
      rfl
/-- Behind a break: the disk has a beginning, with all that is sure. -/
structure JEnd (d : DK) (s m : List ByteArray) : Prop where
  fit : d.fit
  b : ∃ c, c ≤ (frL (s ++ m)).size ∧ d.b = (frL (s ++ m)).extract 0 c
  safe : ((frL s).size : Int) ≤ d.safe
  short : ∀ p ∈ s ++ m, p.size ≤ 4096
theorem JEnd.crash {d : DK} {s m : List ByteArray} (h : JEnd d s m) (k : Int) : (∃ j, j ≤ m.length ∧ (allF (d.crash k).b).1 = s ++ m.take j) ∧ (d.crash k).down = false ∧ (d.crash k).b.size ≤ (frL (s ++ m)).size := by
  obtain ⟨hfit, ⟨c, hc, hb⟩, hs, hsh⟩ := h
  have hk := DK.keep_fits hfit.1 k
  have hbz : d.b.size = c := by rw [hb, ByteArray.size_extract]; omega
  have e : (d.crash k).b = (frL (s ++ m)).extract 0 (d.keep k).toNat := by
    show d.b.extract 0 (d.keep k).toNat = _
    rw [hb, pre_pre _ _ _ (by omega)]
  refine ⟨?_, rfl, ?_⟩
  · have hz : (frL (s ++ m)).size = (frL s).size + (frL m).size := by rw [frL_append, ByteArray.size_append]
    obtain ⟨j, hj, ej⟩ := all_part m ((d.keep k).toNat - (frL s).size) (fun p hp => hsh p (List.mem_append.2 (.inr hp))) (by omega)
    refine ⟨j, hj, ?_⟩
    rw [e, show (d.keep k).toNat = (frL s).size + ((d.keep k).toNat - (frL s).size) by omega, frL_append, pre_app, all_front s _ (fun p hp => hsh p (List.mem_append.2 (.inl hp))), ej]
  · rw [e, ByteArray.size_extract]; omega
/-- Between two calls. -/
structure JInv (d : DK) (s m : List ByteArray) : Prop where
  fit : d.fit
  up : d.down = false
  b : d.b = frL (s ++ m)
  safe : d.safe = ((frL s).size : Int)
  short : ∀ p ∈ s ++ m, p.size ≤ 4096
theorem JInv.ends {d : DK} {s m : List ByteArray} (h : JInv d s m) : JEnd d s m :=
  ⟨h.fit, ⟨_, Nat.le_refl _, by rw [ByteArray.extract_zero_size]; exact h.b⟩, by rw [h.safe]; exact Int.le_refl _, h.short⟩
theorem JInv.set {d : DK} {s m : List ByteArray} (h : JInv d s m) (n : Int) (hn : n ≤ 9223372036854775807) : JInv (d.set n) s m :=
  ⟨⟨DK.ok_set h.fit.1 n, fun _ => by unfold DK.set; dsimp only; omega⟩, h.up, h.b, h.safe, h.short⟩
theorem DK.append_cases {d : DK} (h : d.ok) (h2 : d.down = false) (s : ByteArray) :
    d.append s = (6, d) ∨ ((d.append s).1 = 0 ∧ (d.append s).2.b = d.b ++ s ∧ (d.append s).2.safe = d.safe ∧ (d.append s).2.down = false) ∨ ((d.append s).1 = 7 ∧ ∃ n, n ≤ s.size ∧ (d.append s).2.b = d.b ++ s.extract 0 n ∧ (d.append s).2.safe = d.safe) := by
  unfold DK.append
  rw [if_neg (by rw [h2]; simp)]
  by_cases hf : d.size < (d.b.size : Int) + s.size
  · rw [if_pos hf]; exact .inl rfl
  · rw [if_neg hf]
    right
    dsimp only
    by_cases hc : d.on = false ∨ (s.size : Int) ≤ d.left
    · have : d.spend s.size = ((s.size : Int), { d with left := wrap64 (d.left - s.size) }) := by unfold DK.spend; rw [if_pos hc]
      rw [this]
      dsimp only
      rw [h2, if_neg (by simp), Int.toNat_natCast, ByteArray.extract_zero_size]
      exact .inl ⟨rfl, rfl, rfl, rfl⟩
    · have : d.spend s.size = (d.left, { d with down := true }) := by unfold DK.spend; rw [if_neg hc]
      rw [this]
      dsimp only
      have h1 : ¬ (s.size : Int) ≤ d.left := fun q => hc (.inr q)
      exact .inr ⟨by simp, d.left.toNat, by omega, rfl, rfl⟩
theorem DK.step_cases {d : DK} (h2 : d.down = false) : (d.step.1 = 0 ∧ d.step.2.down = false) ∨ d.step.1 = 7 := by
  unfold DK.step
  rw [if_neg (by rw [h2]; simp)]
  unfold DK.spend
  by_cases hc : d.on = false ∨ 1 ≤ d.left
  · rw [if_pos hc]
    dsimp only
    rw [if_neg (by decide)]
    exact .inl ⟨rfl, h2⟩
  · rw [if_neg hc]
    dsimp only
    have : ¬ 1 ≤ d.left := fun q => hc (.inr q)
    rw [if_pos (by omega)]
    exact .inr rfl
theorem DK.sync_cases {d : DK} (h2 : d.down = false) : (d.sync.1 = 0 ∧ d.sync.2.down = false ∧ d.sync.2.b = d.b ∧ d.sync.2.safe = (d.b.size : Int)) ∨ (d.sync.1 = 7 ∧ d.sync.2.b = d.b ∧ d.sync.2.safe = d.safe) := by
  have hb := d.step_b
  unfold DK.sync
  rcases DK.step_cases h2 with ⟨h1, h3⟩ | h1
  · rw [if_pos h1]
    exact .inl ⟨rfl, h3, hb.1, by dsimp only; rw [hb.1]⟩
  · rw [if_neg (by rw [h1]; decide)]
    exact .inr ⟨h1, hb.1, hb.2.1⟩
theorem DK.drop_cases {d : DK} (h2 : d.down = false) (n : Int) (hn : 0 ≤ n ∧ n ≤ d.safe) : ((d.drop n).1 = 0 ∧ (d.drop n).2.down = false ∧ (d.drop n).2.b = d.b.extract n.toNat d.b.size ∧ (d.drop n).2.safe = d.safe - n) ∨ ((d.drop n).1 = 7 ∧ (d.drop n).2.b = d.b ∧ (d.drop n).2.safe = d.safe) := by
  have hb := d.step_b
  unfold DK.drop
  rw [if_neg (fun q => by omega)]
  rcases DK.step_cases h2 with ⟨h1, h3⟩ | h1
  · rw [if_pos h1]
    exact .inl ⟨rfl, h3, by dsimp only; rw [hb.1], by dsimp only; rw [hb.2.1]⟩
  · rw [if_neg (by rw [h1]; decide)]
    exact .inr ⟨h1, hb.1, hb.2.1⟩
theorem frL_nil : frL [] = ⟨#[]⟩ := rfl
/-- What a put leaves. -/
theorem jput_spec {d : DK} {s m l : List ByteArray} (h : JInv d s m) (force : Bool) (hl : ∀ p ∈ l, p.size ≤ 4096) (hz : (frL (s ++ m)).size + (frL l).size ≤ 1000000) :
    ((jput d force (l.map frameOf)).1 = 0 ∧ (jput d force (l.map frameOf)).2.1 = false ∧ (force = true → JInv (jput d force (l.map frameOf)).2.2 (s ++ (m ++ l)) []) ∧ (force = false → JInv (jput d force (l.map frameOf)).2.2 s (m ++ l)))
    ∨ ((jput d force (l.map frameOf)).1 = 7 ∧ (jput d force (l.map frameOf)).2.1 = true ∧ JEnd (jput d force (l.map frameOf)).2.2 s (m ++ l))
    ∨ ((jput d force (l.map frameOf)).1 ≠ 0 ∧ (jput d force (l.map frameOf)).1 ≠ 7 ∧ (jput d force (l.map frameOf)).2.1 = false ∧ (jput d force (l.map frameOf)).2.2 = d) := by
  have hfit : (jput d force (l.map frameOf)).2.2.fit := jput_fit h.fit (by rw [joinC_frames, h.b]; omega)
  have sh : ∀ p ∈ s ++ (m ++ l), p.size ≤ 4096 := fun p hp => by
    rw [← List.append_assoc] at hp
    rcases List.mem_append.1 hp with hp | hp
    · exact h.short p hp
    · exact hl p hp
  -- what is forced, or not, once the frames are there
  have key : ∀ d1 : DK, d1.fit → d1.down = false → d1.b = frL (s ++ (m ++ l)) → d1.safe = ((frL s).size : Int) →
      ((jforce false d1 force).1 = 0 ∧ (jforce false d1 force).2.1 = false ∧ (force = true → JInv (jforce false d1 force).2.2 (s ++ (m ++ l)) []) ∧ (force = false → JInv (jforce false d1 force).2.2 s (m ++ l)))
      ∨ ((jforce false d1 force).1 = 7 ∧ (jforce false d1 force).2.1 = true ∧ JEnd (jforce false d1 force).2.2 s (m ++ l)) := by
    intro d1 f1 u1 b1 s1
    have fs := DK.fit_sync f1
    unfold jforce
    cases force with
    | false =>
      rw [if_neg (by simp)]
      exact .inl ⟨rfl, rfl, fun e => (by cases e), fun _ => ⟨f1, u1, b1, s1, sh⟩⟩
    | true =>
      rw [if_pos rfl]
      rcases DK.sync_cases u1 with ⟨c1, c2, c3, c4⟩ | ⟨c1, c2, c3⟩
      · refine .inl ⟨c1, by dsimp only; rw [c1]; rfl, fun _ => ⟨fs, c2, by rw [List.append_nil]; exact c3.trans b1, by dsimp only; rw [c4, b1], fun p hp => sh p (by rwa [List.append_nil] at hp)⟩, fun e => (by cases e)⟩
      · refine .inr ⟨c1, by dsimp only; rw [c1]; rfl, fs, ⟨_, Nat.le_refl _, by rw [ByteArray.extract_zero_size]; exact c2.trans b1⟩, by dsimp only; rw [c3, s1]; exact Int.le_refl _, sh⟩
  by_cases hn : l = []
  · subst hn
    have e : jput d force (([] : List ByteArray).map frameOf) = jforce false d force := by unfold jput; rw [if_pos (show List.map frameOf [] = [] from rfl)]
    rw [e]
    rcases key d h.fit h.up (by rw [List.append_nil]; exact h.b) h.safe with k | k
    · exact .inl k
    · exact .inr (.inl k)
  · have hne : ¬ l.map frameOf = [] := fun e => hn (List.map_eq_nil_iff.1 e)
    have e0 : jput d force (l.map frameOf) = if (d.append (frL l)).1 = 0 then jforce false (d.append (frL l)).2 force else ((d.append (frL l)).1, (d.append (frL l)).1 == 7, (d.append (frL l)).2) := by
      unfold jput
      rw [if_neg hne, joinC_frames]
    rw [e0] at hfit ⊢
    have ef : frL (s ++ (m ++ l)) = frL (s ++ m) ++ frL l := by rw [← List.append_assoc, frL_append]
    rcases DK.append_cases h.fit.1 h.up (frL l) with a | ⟨a1, a2, a3, a4⟩ | ⟨a1, n, hn2, a2, a3⟩
    · rw [a] at hfit ⊢
      rw [if_neg (show ¬ (6 : Int) = 0 by decide)]
      exact .inr (.inr ⟨(show (6 : Int) ≠ 0 by decide), (show (6 : Int) ≠ 7 by decide), rfl, rfl⟩)
    · rw [if_pos a1]
      have f1 := DK.fit_append h.fit (frL l) (by rw [h.b]; omega)
      rcases key _ f1 a4 (by rw [a2, h.b, ef]) (a3.trans h.safe) with k | k
      · exact .inl k
      · exact .inr (.inl k)
    · rw [if_neg (by rw [a1]; decide)] at hfit ⊢
      refine .inr (.inl ⟨a1, by dsimp only; rw [a1]; rfl, hfit, ⟨(frL (s ++ m)).size + n, by rw [ef, ByteArray.size_append]; omega, ?_⟩, by dsimp only; rw [a3, h.safe]; exact Int.le_refl _, sh⟩)
      dsimp only
      rw [a2, h.b, ef, pre_app]
theorem shorts_iff (l : List ByteArray) : shorts l = true ↔ ∀ p ∈ l, p.size ≤ 4096 := by unfold shorts; simp
theorem japp_spec {d : DK} {s m l : List ByteArray} (h : JInv d s m) (force : Bool) (hz : (frL (s ++ m)).size + (frL l).size ≤ 1000000) :
    ((japp d force l).1 = 0 ∧ (japp d force l).2.1 = false ∧ (force = true → JInv (japp d force l).2.2 (s ++ (m ++ l)) []) ∧ (force = false → JInv (japp d force l).2.2 s (m ++ l)))
    ∨ ((japp d force l).1 = 7 ∧ (japp d force l).2.1 = true ∧ JEnd (japp d force l).2.2 s (m ++ l))
    ∨ ((japp d force l).1 ≠ 0 ∧ (japp d force l).1 ≠ 7 ∧ (japp d force l).2.1 = false ∧ JInv (japp d force l).2.2 s m) := by
  unfold japp
  by_cases hs : shorts l = true
  · rw [if_pos hs]
    rcases jput_spec h force ((shorts_iff l).1 hs) hz with k | k | ⟨k1, k2, k3, k4⟩
    · exact .inl k
    · exact .inr (.inl k)
    · exact .inr (.inr ⟨k1, k2, k3, by rw [k4]; exact h⟩)
  · rw [if_neg hs]
    exact .inr (.inr ⟨(show (5 : Int) ≠ 0 by decide), (show (5 : Int) ≠ 7 by decide), rfl, h⟩)
theorem jrenew_spec {d : DK} {s m l : List ByteArray} (h : JInv d s m) (hz : (frL (s ++ m)).size + (frL l).size ≤ 1000000) :
    ((jrenew d l).1 = 0 ∧ (jrenew d l).2.1 = false ∧ JInv (jrenew d l).2.2 l [])
    ∨ ((jrenew d l).1 = 7 ∧ (jrenew d l).2.1 = true ∧ JEnd (jrenew d l).2.2 s (m ++ l))
    ∨ ((jrenew d l).1 ≠ 0 ∧ (jrenew d l).1 ≠ 7 ∧ (jrenew d l).2.1 = false ∧ JInv (jrenew d l).2.2 s m) := by
  unfold jrenew
  by_cases hs : shorts l = true
  · rw [if_pos hs]
    have hl := (shorts_iff l).1 hs
    have ef : frL (s ++ (m ++ l)) = frL (s ++ m) ++ frL l := by rw [← List.append_assoc, frL_append]
    rcases jput_spec h true hl hz with ⟨k1, k2, k3, -⟩ | ⟨k1, k2, k3⟩ | ⟨k1, k2, k3, k4⟩
    · rw [if_pos k1]
      have I := k3 rfl
      have hb := I.b
      have hsf := I.safe
      rw [List.append_nil] at hb
      generalize (jput d true (l.map frameOf)).2.2 = d1 at *
      rw [k2]
      have hbz : (frL (s ++ (m ++ l))).size = d.b.size + (frL l).size := by rw [ef, ByteArray.size_append, h.b]
      have hn : (0 : Int) ≤ (d.b.size : Int) ∧ (d.b.size : Int) ≤ d1.safe := by rw [hsf, hbz]; omega
      have f3 := DK.fit_drop I.fit _ hn
      rcases DK.drop_cases I.up _ hn with ⟨c1, c2, c3, c4⟩ | ⟨c1, c2, c3⟩
      · refine .inl ⟨c1, by dsimp only; rw [c1]; rfl, f3, c2, ?_, ?_, fun p hp => hl p (by rwa [List.append_nil] at hp)⟩
        · dsimp only
          rw [c3, hb, Int.toNat_natCast, List.append_nil, ef]
          exact ext_right _ _ _ _ (by rw [h.b]) (by rw [ByteArray.size_append])
        · dsimp only
          rw [c4, hsf, hbz]
          omega
      · refine .inr (.inl ⟨c1, by dsimp only; rw [c1]; rfl, f3, ⟨_, Nat.le_refl _, by rw [ByteArray.extract_zero_size]; exact c2.trans hb⟩, ?_, fun p hp => I.short p (by rw [List.append_nil]; exact hp)⟩)
        dsimp only
        rw [c3, hsf, frL_append s, ByteArray.size_append]
        omega
    · rw [if_neg (by rw [k1]; decide)]
      exact .inr (.inl ⟨k1, k2, k3⟩)
    · rw [if_neg k1]
      exact .inr (.inr ⟨k1, k2, k3, by rw [k4]; exact h⟩)
  · rw [if_neg hs]
    exact .inr (.inr ⟨(show (5 : Int) ≠ 0 by decide), (show (5 : Int) ≠ 7 by decide), rfl, h⟩)
end Go.Proofs.Ytmehohpboliibaa
