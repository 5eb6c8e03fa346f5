/- What a run computes: its step and its going on. Plain Lean. -/
import Derived.Test.YtgmhopkajopfcaaRu
import Derived.Test.YtgmhopkajopfcaaRv
namespace Go.Proofs.Ytgmhopkajopfcaa
set_option linter.unusedVariables false
set_option linter.unusedSimpArgs false

def stepR (l : List POp) (x : POp) (s : RS) : Int × Int × RS :=
  if x.k = 1 then (match valF s.rd s.lv x.c with | none => (1, x.c, s) | some v => (0, 0, { s with rg := updN s.rg x.r.toNat v, at_ := s.at_ + 1 }))
  else if x.k = 2 then (if (s.rd.2 x.c).isSome = true then (0, 0, { s with lv := wriL s.rd s.lv x.c (s.rg x.r.toNat), at_ := s.at_ + 1 }) else (1, x.c, s))
  else if x.k = 9 then (if s.tk x.c.toNat = true then (0, 0, { s with at_ := s.at_ + 1 }) else (2, x.c, s))
  else if x.k = 3 then (0, 0, { s with rg := updN s.rg x.r.toNat x.n, at_ := s.at_ + 1 })
  else if x.k = 4 then (0, 0, { s with rg := updN s.rg x.r.toNat (IntKind.i64.wrap (s.rg x.r.toNat + s.rg x.o.toNat)), at_ := s.at_ + 1 })
  else if x.k = 5 then (0, 0, { s with rg := updN s.rg x.r.toNat (IntKind.i64.wrap (s.rg x.r.toNat - s.rg x.o.toNat)), at_ := s.at_ + 1 })
  else if x.k = 10 then (0, 0, { s with cho := s.cho ++ [⟨(s.at_ : Int), (pFind l s.at_).1, (pFind l s.at_).2, s.rg⟩], lv := begL s.lv, at_ := s.at_ + 1 })
  else if x.k = 11 then (match s.cho.getLast? with | none => (0, 0, s) | some q => (0, 0, { s with cho := s.cho.dropLast, lv := merL s.lv, at_ := q.e.toNat + 1 }))
  else if x.k = 8 then (4, 0, s)
  else if x.k = 7 ∨ (x.k = 6 ∧ s.rg x.r.toNat = 0) then (match s.cho.getLast? with | none => (3, 0, s) | some q => (0, 0, { s with rg := q.r, cho := s.cho.dropLast, lv := undL s.lv, at_ := q.o.toNat + 1 }))
  else (0, 0, { s with at_ := s.at_ + 1 })
def goR (l : List POp) : Nat → RS → Int × Int × RS
  | 0, s => (5, 0, s)
  | n + 1, s => match l[s.at_]? with
    | none => (5, 0, s)
    | some x => if (stepR l x s).1 = 0 then goR l n (stepR l x s).2.2 else stepR l x s
/-- The choices that are open stand for the first parts that the place is in. -/
def ChoOk (l : List POp) : List RCh → List Fr → Prop
  | [], [] => True
  | cs, .fb _ _ :: K => ChoOk l cs K
  | q :: cs, .fa y B z r :: K => (∃ o e : Nat, q.o = o ∧ q.e = e ∧ l.drop o = y :: (B.flat ++ z :: (r.flat ++ ktail K)) ∧ l.drop e = z :: (r.flat ++ ktail K)) ∧ ChoOk l cs K
  | [], .fa _ _ _ _ :: _ => False
  | _ :: _, [] => False
structure RIv (l : List POp) (s : RS) : Prop where
  ex : ∃ (c : Pg) (K : List Fr), l.drop s.at_ = c.flat ++ ktail K ∧ c.ok K.length ∧ KOk K ∧ ChoOk l s.cho.reverse K
  le : s.at_ ≤ l.length
  lv : s.lv.length = s.cho.length + 1
theorem lt_of_drop {l : List POp} {i : Nat} {x : POp} {S : List POp} (h : l.drop i = x :: S) : i < l.length ∧ l[i]? = some x ∧ l.drop (i + 1) = S := by
  have hi : i < l.length := by
    by_cases hi : i < l.length
    · exact hi
    · rw [List.drop_eq_nil_of_le (by omega)] at h; cases h
  have h2 := List.drop_eq_getElem_cons hi
  rw [h] at h2
  injection h2 with h3 h4
  exact ⟨hi, by rw [List.getElem?_eq_getElem hi, h3], h4.symm⟩
theorem drop_lt {l : List POp} {i j : Nat} {S T U : List POp} (h1 : l.drop i = S ++ T) (h2 : l.drop j = T) (hS : 0 < S.length) (hi : i ≤ l.length) (hj : j ≤ l.length) : i < j := by
  have a := congrArg List.length h1
  have b := congrArg List.length h2
  rw [List.length_drop, List.length_append] at a
  rw [List.length_drop] at b
  omega
theorem ChoOk.len {l : List POp} : ∀ {cs : List RCh} {K : List Fr}, ChoOk l cs K → cs.length ≤ K.length
  | [], [], _ => Nat.le_refl _
  | cs, .fb _ _ :: K, h => by
    have h : ChoOk l cs K := by cases cs <;> exact h
    have := ChoOk.len h
    simp only [List.length_cons]; omega
  | q :: cs, .fa _ _ _ _ :: K, h => by have := ChoOk.len h.2; simp only [List.length_cons]; omega
  | [], .fa _ _ _ _ :: _, h => h.elim
  | _ :: _, [], h => h.elim
theorem ChoOk.bd {l : List POp} : ∀ {cs : List RCh} {K : List Fr}, ChoOk l cs K → ∀ q ∈ cs, ∃ o e : Nat, q.o = o ∧ q.e = e ∧ o < l.length ∧ e < l.length
  | [], _, _, q, hq => by cases hq
  | c :: cs, .fb _ _ :: K, h, q, hq => ChoOk.bd (cs := c :: cs) (K := K) h q hq
  | c :: cs, .fa _ _ _ _ :: K, h, q, hq => by
    rcases List.mem_cons.1 hq with rfl | hq
    · obtain ⟨o, e, h1, h2, h3, h4⟩ := h.1
      exact ⟨o, e, h1, h2, (lt_of_drop h3).1, (lt_of_drop h4).1⟩
    · exact ChoOk.bd h.2 q hq
  | _ :: _, [], h, _, _ => h.elim
/-- The innermost choice: where its second part stands. -/
theorem ChoOk.top {l : List POp} : ∀ {K : List Fr} {q : RCh} {cs : List RCh}, ChoOk l (q :: cs) K → KOk K → ∃ (o : Nat) (y z : POp) (B r : Pg) (K' : List Fr) (S : List POp), q.o = o ∧ l.drop o = y :: (B.flat ++ z :: (r.flat ++ ktail K')) ∧ ktail K = S ++ y :: (B.flat ++ z :: (r.flat ++ ktail K')) ∧ B.ok (K'.length + 1) ∧ KOk (.fb z r :: K') ∧ ChoOk l cs K'
  | .fb z r :: K, q, cs, h, hk => by
    have h : ChoOk l (q :: cs) K := h
    obtain ⟨o, y, z', B, r', K', S, h1, h2, h3, h4, h5, h6⟩ := ChoOk.top h hk.2.2
    exact ⟨o, y, z', B, r', K', z :: (r.flat ++ S), h1, h2, by simp [ktail, h3], h4, h5, h6⟩
  | .fa y B z r :: K, q, cs, h, hk => by
    obtain ⟨o, e, h1, h2, h3, h4⟩ := h.1
    exact ⟨o, y, z, B, r, K, [], h1, h3, rfl, hk.2.2.1, ⟨hk.2.1, hk.2.2.2.1, hk.2.2.2.2⟩, h.2⟩
  | [], _, _, h, _ => h.elim
theorem cho_rev {cho : List RCh} {q : RCh} (h : cho.getLast? = some q) : cho = cho.dropLast ++ [q] ∧ cho.reverse = q :: cho.dropLast.reverse := by
  obtain ⟨ini, rfl⟩ : ∃ ini, cho = ini ++ [q] := by
    have := List.getLast?_eq_some_iff.1 h
    exact this
  simp
theorem RIv.bd {l : List POp} {s : RS} (h : RIv l s) : (∀ q ∈ s.cho, ∃ o e : Nat, q.o = o ∧ q.e = e ∧ o < l.length ∧ e < l.length) := by
  obtain ⟨c, K, h1, h2, h3, h4⟩ := h.ex
  exact fun q hq => h4.bd q (List.mem_reverse.2 hq)
theorem begL_len {lv : Lv} (h : lv.length ≤ 4) : (begL lv).length = lv.length + 1 := by
  unfold begL
  rw [if_neg (by omega)]
  simp
theorem undL_len {lv : Lv} (h : 2 ≤ lv.length) : (undL lv).length + 1 = lv.length := by
  unfold undL
  rw [if_neg (by omega), List.length_dropLast]
  omega
theorem wriL_len {rd : Rd} {lv : Lv} {c a : Int} (h : 1 ≤ lv.length) : (wriL rd lv c a).length = lv.length := by
  unfold wriL
  split
  · exact updLast_len lv c a h
  · rfl
/-- The depth of a place. -/
theorem KOk.len : ∀ {K : List Fr}, KOk K → True := fun _ => trivial
/-- At the place's operation: what stands there. -/
theorem RIv.at_ {l : List POp} {s : RS} {x : POp} (h : RIv l s) (hx : l[s.at_]? = some x) :
    (∃ (c : Pg) (K : List Fr), (x.k ≠ 10 ∧ x.k ≠ 11 ∧ x.k ≠ 12) ∧ l.drop (s.at_ + 1) = c.flat ++ ktail K ∧ c.ok K.length ∧ KOk K ∧ ChoOk l s.cho.reverse K) ∨
    (∃ (y z : POp) (A B r : Pg) (K : List Fr), x.k = 10 ∧ l.drop s.at_ = x :: (A.flat ++ y :: (B.flat ++ z :: (r.flat ++ ktail K))) ∧ (y.k = 11 ∧ z.k = 12) ∧ K.length + 1 ≤ 4 ∧ A.ok (K.length + 1) ∧ B.ok (K.length + 1) ∧ r.ok K.length ∧ KOk K ∧ ChoOk l s.cho.reverse K) ∨
    (∃ (z : POp) (B r : Pg) (K : List Fr) (q : RCh) (cs : List RCh) (e : Nat), x.k = 11 ∧ s.cho.reverse = q :: cs ∧ q.e = e ∧ l.drop s.at_ = x :: (B.flat ++ z :: (r.flat ++ ktail K)) ∧ l.drop e = z :: (r.flat ++ ktail K) ∧ r.ok K.length ∧ KOk K ∧ ChoOk l cs K) ∨
    (∃ (r : Pg) (K : List Fr), x.k = 12 ∧ l.drop (s.at_ + 1) = r.flat ++ ktail K ∧ r.ok K.length ∧ KOk K ∧ ChoOk l s.cho.reverse K) := by
  have hlt : s.at_ < l.length := (List.getElem?_eq_some_iff.1 hx).1
  have hd := List.drop_eq_getElem_cons hlt
  have hxe : l[s.at_] = x := (List.getElem?_eq_some_iff.1 hx).2
  rw [hxe] at hd
  obtain ⟨c, K, h1, h2, h3, h4⟩ := h.ex
  rw [hd] at h1
  match c, h1, h2 with
  | .op x' r, h1, h2 =>
    injection h1 with e1 e2
    subst e1
    exact .inl ⟨r, K, h2.1, e2, h2.2, h3, h4⟩
  | .ei x' y z A B r, h1, h2 =>
    have h1 : x :: l.drop (s.at_ + 1) = x' :: (A.flat ++ y :: (B.flat ++ z :: r.flat)) ++ ktail K := h1
    injection h1 with e1 e2
    subst e1
    refine .inr (.inl ⟨y, z, A, B, r, K, h2.1.1, ?_, ⟨h2.1.2.1, h2.1.2.2⟩, h2.2.1, h2.2.2.1, h2.2.2.2.1, h2.2.2.2.2, h3, h4⟩)
    rw [hd, e2]
    simp
  | .nil, h1, _ =>
    match K, h1, h3, h4 with
    | [], h1, _, _ => cases h1
    | .fb z r :: K, h1, h3, h4 =>
      have h1 : x :: l.drop (s.at_ + 1) = z :: (r.flat ++ ktail K) := h1
      injection h1 with e1 e2
      subst e1
      exact .inr (.inr (.inr ⟨r, K, h3.1, e2, h3.2.1, h3.2.2, by cases hc : s.cho.reverse <;> rw [hc] at h4 <;> exact h4⟩))
    | .fa y B z r :: K, h1, h3, h4 =>
      have h1 : x :: l.drop (s.at_ + 1) = y :: (B.flat ++ z :: (r.flat ++ ktail K)) := h1
      injection h1 with e1 e2
      subst e1
      cases hc : s.cho.reverse with
      | nil => rw [hc] at h4; exact h4.elim
      | cons q cs =>
        rw [hc] at h4
        obtain ⟨o, e, q1, q2, q3, q4⟩ := h4.1
        refine .inr (.inr (.inl ⟨z, B, r, K, q, cs, e, h3.1, rfl, q2, by rw [hd, e2], q4, h3.2.2.2.1, h3.2.2.2.2, h4.2⟩))
theorem RIv.or_cho {l : List POp} {s : RS} {x : POp} (h : RIv l s) (hx : l[s.at_]? = some x) (hk : x.k = 11) : s.cho ≠ [] := by
  rcases h.at_ hx with ⟨_, _, h1, _⟩ | ⟨_, _, _, _, _, _, h1, _⟩ | ⟨_, _, _, _, q, cs, _, _, h2, _⟩ | ⟨_, _, h1, _⟩
  · exact absurd hk h1.2.1
  · omega
  · intro e; rw [e] at h2; cases h2
  · omega
/-- One step. -/
theorem RIv.step {l : List POp} {s : RS} {x : POp} (hr : pRight l = true) (h : RIv l s) (hx : l[s.at_]? = some x) (h0 : (stepR l x s).1 = 0) : RIv l (stepR l x s).2.2 ∧ s.at_ < (stepR l x s).2.2.at_ := by
  have hlt : s.at_ < l.length := (List.getElem?_eq_some_iff.1 hx).1
  have simple : ∀ {t : RS}, t.at_ = s.at_ + 1 → t.cho = s.cho → t.lv.length = s.lv.length → (x.k ≠ 10 ∧ x.k ≠ 11) → RIv l t ∧ s.at_ < t.at_ := by
    intro t t1 t2 t3 hk
    refine ⟨⟨?_, by omega, by rw [t2, t3, h.lv]⟩, by omega⟩
    rw [t1, t2]
    rcases h.at_ hx with ⟨c, K, h1, h2, h3, h4, h5⟩ | ⟨_, _, _, _, _, _, h1, _⟩ | ⟨_, _, _, _, _, _, _, h1, _⟩ | ⟨r, K, h1, h2, h3, h4, h5⟩
    · exact ⟨c, K, h2, h3, h4, h5⟩
    · exact absurd h1 hk.1
    · exact absurd h1 hk.2
    · exact ⟨r, K, h2, h3, h4, h5⟩
  have back : ∀ {q : RCh}, s.cho.getLast? = some q → RIv l { s with rg := q.r, cho := s.cho.dropLast, lv := undL s.lv, at_ := q.o.toNat + 1 } ∧ s.at_ < q.o.toNat + 1 := by
    intro q hq
    obtain ⟨e1, e2⟩ := cho_rev hq
    obtain ⟨c, K, g1, g2, g3, g4⟩ := h.ex
    rw [e2] at g4
    obtain ⟨o, y, z, B, r, K', S, h1, h2, h3, h4, h5, h6⟩ := g4.top g3
    have ho : q.o.toNat = o := by omega
    obtain ⟨d1, _, d2⟩ := lt_of_drop h2
    have hlen : 2 ≤ s.lv.length := by rw [h.lv, e1]; simp
    rw [ho]
    refine ⟨⟨⟨B, .fb z r :: K', ?_, h4, h5, ?_⟩, by show o + 1 ≤ _; omega, ?_⟩, ?_⟩
    · show l.drop (o + 1) = _
      rw [d2]
      simp [ktail]
    · show ChoOk l s.cho.dropLast.reverse (.fb z r :: K')
      cases hc : s.cho.dropLast.reverse <;> rw [hc] at h6 <;> exact h6
    · show (undL s.lv).length = s.cho.dropLast.length + 1
      have := undL_len hlen
      have h7 := h.lv
      rw [List.length_dropLast]
      omega
    · have := drop_lt (i := s.at_) (j := o) (S := c.flat ++ S) (T := y :: (B.flat ++ z :: (r.flat ++ ktail K'))) (U := []) (by rw [g1, h3]; simp) h2
      by_cases hz : (c.flat ++ S) = []
      · have : l.drop s.at_ = y :: (B.flat ++ z :: (r.flat ++ ktail K')) := by
          rw [g1, h3, ← List.append_assoc, hz]; rfl
        have a := congrArg List.length this
        have b := congrArg List.length h2
        rw [List.length_drop] at a b
        omega
      · have := this (List.length_pos_iff.2 hz) (by omega) (by omega)
        omega
  unfold stepR at h0 ⊢
  by_cases k1 : x.k = 1
  · rw [if_pos k1] at h0 ⊢
    cases hv : valF s.rd s.lv x.c with
    | none => rw [hv] at h0; cases h0
    | some v => exact simple rfl rfl rfl (by omega)
  rw [if_neg k1] at h0 ⊢
  by_cases k2 : x.k = 2
  · rw [if_pos k2] at h0 ⊢
    by_cases hv : (s.rd.2 x.c).isSome = true
    · rw [if_pos hv]
      exact simple rfl rfl (wriL_len (by rw [h.lv]; omega)) (by omega)
    · rw [if_neg hv] at h0; cases h0
  rw [if_neg k2] at h0 ⊢
  by_cases k9 : x.k = 9
  · rw [if_pos k9] at h0 ⊢
    by_cases hv : s.tk x.c.toNat = true
    · rw [if_pos hv]
      exact simple rfl rfl rfl (by omega)
    · rw [if_neg hv] at h0; cases h0
  rw [if_neg k9] at h0 ⊢
  by_cases k3 : x.k = 3
  · rw [if_pos k3]; exact simple rfl rfl rfl (by omega)
  rw [if_neg k3] at h0 ⊢
  by_cases k4 : x.k = 4
  · rw [if_pos k4]; exact simple rfl rfl rfl (by omega)
  rw [if_neg k4] at h0 ⊢
  by_cases k5 : x.k = 5
  · rw [if_pos k5]; exact simple rfl rfl rfl (by omega)
  rw [if_neg k5] at h0 ⊢
  by_cases k10 : x.k = 10
  · rw [if_pos k10]
    rcases h.at_ hx with ⟨_, _, h1, _⟩ | ⟨y, z, A, B, r, K, h1, h2, h3, h4, h5, h6, h7, h8, h9⟩ | ⟨_, _, _, _, _, _, _, h1, _⟩ | ⟨_, _, h1, _⟩
    · exact absurd k10 h1.1
    · obtain ⟨p1, p2, p3⟩ := pFind_at hr h2 k10 h5 h6 h3.1 h3.2
      refine ⟨⟨⟨A, .fa y B z r :: K, ?_, h5, ⟨h3.1, h3.2, h6, h7, h8⟩, ?_⟩, by show s.at_ + 1 ≤ _; omega, ?_⟩, by show s.at_ < s.at_ + 1; omega⟩
      · show l.drop (s.at_ + 1) = _
        rw [(lt_of_drop h2).2.2]
        rfl
      · show ChoOk l (s.cho ++ [_]).reverse _
        rw [List.reverse_append]
        exact ⟨⟨_, _, by rw [p1], by rw [p1], p2, p3⟩, h9⟩
      · show (begL s.lv).length = (s.cho ++ [_]).length + 1
        have hcl := h9.len
        rw [List.length_reverse] at hcl
        rw [begL_len (by rw [h.lv]; omega), h.lv]
        simp
    · omega
    · omega
  rw [if_neg k10] at h0 ⊢
  by_cases k11 : x.k = 11
  · rw [if_pos k11] at h0 ⊢
    rcases h.at_ hx with ⟨_, _, h1, _⟩ | ⟨_, _, _, _, _, _, h1, _⟩ | ⟨z, B, r, K, q, cs, e, h1, h2, h3, h4, h5, h6, h7, h8⟩ | ⟨_, _, h1, _⟩
    · exact absurd k11 h1.2.1
    · omega
    · have hq : s.cho.getLast? = some q := by
        rw [← List.head?_reverse, h2]; rfl
      obtain ⟨e1, e2⟩ := cho_rev hq
      rw [h2] at e2
      injection e2 with _ e2
      rw [hq]
      have he : q.e.toNat = e := by omega
      obtain ⟨d1, _, d2⟩ := lt_of_drop h5
      have hlen : 2 ≤ s.lv.length := by rw [h.lv, e1]; simp
      show RIv l { s with cho := s.cho.dropLast, lv := merL s.lv, at_ := q.e.toNat + 1 } ∧ s.at_ < q.e.toNat + 1
      rw [he]
      refine ⟨⟨⟨r, K, d2, h6, h7, ?_⟩, by show e + 1 ≤ _; omega, ?_⟩, ?_⟩
      · show ChoOk l s.cho.dropLast.reverse K
        rw [← e2]; exact h8
      · show (merL s.lv).length = s.cho.dropLast.length + 1
        have := merL_len hlen
        have h9 := h.lv
        rw [List.length_dropLast]
        omega
      · have := drop_lt (i := s.at_) (j := e) (S := x :: B.flat) (T := z :: (r.flat ++ ktail K)) (U := []) (by rw [h4]; simp) h5 (by simp) (by omega) (by omega)
        omega
    · omega
  rw [if_neg k11] at h0 ⊢
  by_cases k8 : x.k = 8
  · rw [if_pos k8] at h0; cases h0
  rw [if_neg k8] at h0 ⊢
  by_cases k7 : x.k = 7 ∨ (x.k = 6 ∧ s.rg x.r.toNat = 0)
  · rw [if_pos k7] at h0 ⊢
    cases hq : s.cho.getLast? with
    | none => rw [hq] at h0; cases h0
    | some q => exact back hq
  rw [if_neg k7]
  exact simple rfl rfl rfl (by omega)
theorem stepR_ind {l : List POp} {x : POp} {s : RS} (P : Int × Int × RS → Prop) (h0 : ∀ b t, t.rd = s.rd → t.tk = s.tk → P (0, b, t)) (h1 : P (1, x.c, s)) (h2 : P (2, x.c, s)) (h3 : P (3, 0, s)) (h4 : P (4, 0, s)) : P (stepR l x s) := by
  unfold stepR
  by_cases k1 : x.k = 1
  · rw [if_pos k1]
    cases valF s.rd s.lv x.c with
    | none => exact h1
    | some v => exact h0 _ _ rfl rfl
  rw [if_neg k1]
  by_cases k2 : x.k = 2
  · rw [if_pos k2]
    by_cases hv : (s.rd.2 x.c).isSome = true
    · rw [if_pos hv]; exact h0 _ _ rfl rfl
    · rw [if_neg hv]; exact h1
  rw [if_neg k2]
  by_cases k9 : x.k = 9
  · rw [if_pos k9]
    by_cases hv : s.tk x.c.toNat = true
    · rw [if_pos hv]; exact h0 _ _ rfl rfl
    · rw [if_neg hv]; exact h2
  rw [if_neg k9]
  by_cases k3 : x.k = 3
  · rw [if_pos k3]; exact h0 _ _ rfl rfl
  rw [if_neg k3]
  by_cases k4 : x.k = 4
  · rw [if_pos k4]; exact h0 _ _ rfl rfl
  rw [if_neg k4]
  by_cases k5 : x.k = 5
  · rw [if_pos k5]; exact h0 _ _ rfl rfl
  rw [if_neg k5]
  by_cases k10 : x.k = 10
  · rw [if_pos k10]; exact h0 _ _ rfl rfl
  rw [if_neg k10]
  by_cases k11 : x.k = 11
  · rw [if_pos k11]
    cases s.cho.getLast? with
    | none => exact h0 _ _ rfl rfl
    | some q => exact h0 _ _ rfl rfl
  rw [if_neg k11]
  by_cases k8 : x.k = 8
  · rw [if_pos k8]; exact h4
  rw [if_neg k8]
  by_cases k7 : x.k = 7 ∨ (x.k = 6 ∧ s.rg x.r.toNat = 0)
  · rw [if_pos k7]
    cases s.cho.getLast? with
    | none => exact h3
    | some q => exact h0 _ _ rfl rfl
  rw [if_neg k7]
  exact h0 _ _ rfl rfl
/-- A step that asks for something, or comes to something, turns nothing. -/
theorem stepR_stay {l : List POp} {x : POp} {s : RS} (h : (stepR l x s).1 ≠ 0) : (stepR l x s).2.2 = s ∧ 1 ≤ (stepR l x s).1 ∧ (stepR l x s).1 ≤ 4 ∧ (2 < (stepR l x s).1 → (stepR l x s).2.1 = 0) ∧ ((stepR l x s).1 ≤ 2 → (stepR l x s).2.1 = x.c) := by
  revert h
  exact stepR_ind (fun r => r.1 ≠ 0 → r.2.2 = s ∧ 1 ≤ r.1 ∧ r.1 ≤ 4 ∧ (2 < r.1 → r.2.1 = 0) ∧ (r.1 ≤ 2 → r.2.1 = x.c)) (fun b t _ _ h => absurd rfl h)
    (fun _ => ⟨rfl, by simp, by simp, by simp, by simp⟩) (fun _ => ⟨rfl, by simp, by simp, by simp, by simp⟩) (fun _ => ⟨rfl, by simp, by simp, by simp, by simp⟩) (fun _ => ⟨rfl, by simp, by simp, by simp, by simp⟩)
/-- How far a run goes does not hang on the fuel. -/
theorem goR_more {l : List POp} (hr : pRight l = true) : ∀ (n : Nat) (s : RS), RIv l s → l.length - s.at_ ≤ n → goR l (n + 1) s = goR l n s
  | 0, s, h, hn => by
    have : l[s.at_]? = none := List.getElem?_eq_none_iff.2 (by omega)
    show (match l[s.at_]? with | none => (5, 0, s) | some x => if (stepR l x s).1 = 0 then goR l 0 (stepR l x s).2.2 else stepR l x s) = (5, 0, s)
    rw [this]
  | n + 1, s, h, hn => by
    show (match l[s.at_]? with | none => (5, 0, s) | some x => if (stepR l x s).1 = 0 then goR l (n + 1) (stepR l x s).2.2 else stepR l x s) = (match l[s.at_]? with | none => (5, 0, s) | some x => if (stepR l x s).1 = 0 then goR l n (stepR l x s).2.2 else stepR l x s)
    cases hx : l[s.at_]? with
    | none => rfl
    | some x =>
      dsimp only
      split
      · rename_i h0
        obtain ⟨h1, h2⟩ := h.step hr hx h0
        have := (List.getElem?_eq_some_iff.1 hx).1
        exact goR_more hr n _ h1 (by have := h1.le; omega)
      · rfl
theorem goR_any {l : List POp} (hr : pRight l = true) {s : RS} (h : RIv l s) : ∀ (k n : Nat), l.length - s.at_ ≤ n → goR l (n + k) s = goR l n s
  | 0, n, _ => rfl
  | k + 1, n, hn => by
    rw [← Nat.add_assoc, goR_more hr (n + k) s h (by omega)]
    exact goR_any hr h k n hn
theorem goR_step {l : List POp} (hr : pRight l = true) {s : RS} (h : RIv l s) {x : POp} (hx : l[s.at_]? = some x) (h0 : (stepR l x s).1 = 0) : goR l 40 s = goR l 40 (stepR l x s).2.2 := by
  have hlen : l.length ≤ 32 := (pRight_all hr).1
  have h1 : goR l 41 s = goR l 40 s := goR_any hr h 1 40 (by omega)
  rw [← h1]
  show (match l[s.at_]? with | none => (5, 0, s) | some x => if (stepR l x s).1 = 0 then goR l 40 (stepR l x s).2.2 else stepR l x s) = _
  rw [hx]
  dsimp only
  rw [if_pos h0]
theorem goR_stop {l : List POp} {s : RS} {x : POp} (hx : l[s.at_]? = some x) (h0 : (stepR l x s).1 ≠ 0) : goR l 40 s = stepR l x s := by
  show (match l[s.at_]? with | none => (5, 0, s) | some x => if (stepR l x s).1 = 0 then goR l 39 (stepR l x s).2.2 else stepR l x s) = _
  rw [hx]
  dsimp only
  rw [if_neg h0]
theorem goR_done {l : List POp} {s : RS} (hx : l[s.at_]? = none) : goR l 40 s = (5, 0, s) := by
  show (match l[s.at_]? with | none => (5, 0, s) | some x => if (stepR l x s).1 = 0 then goR l 39 (stepR l x s).2.2 else stepR l x s) = _
  rw [hx]
theorem goR_ind {l : List POp} (P : Int × Int × RS → Prop) : ∀ (n : Nat) (s : RS), (∀ t : RS, t.rd = s.rd → t.tk = s.tk → P (5, 0, t) ∧ (∀ x, l[t.at_]? = some x → (stepR l x t).1 ≠ 0 → P (stepR l x t))) → P (goR l n s)
  | 0, s, h => (h s rfl rfl).1
  | n + 1, s, h => by
    show P (match l[s.at_]? with | none => (5, 0, s) | some x => if (stepR l x s).1 = 0 then goR l n (stepR l x s).2.2 else stepR l x s)
    cases hx : l[s.at_]? with
    | none => exact (h s rfl rfl).1
    | some x =>
      dsimp only
      split
      · rename_i h0
        have hk : (stepR l x s).2.2.rd = s.rd ∧ (stepR l x s).2.2.tk = s.tk := stepR_ind (fun r => r.2.2.rd = s.rd ∧ r.2.2.tk = s.tk) (fun b t h1 h2 => ⟨h1, h2⟩) ⟨rfl, rfl⟩ ⟨rfl, rfl⟩ ⟨rfl, rfl⟩ ⟨rfl, rfl⟩
        exact goR_ind P n _ (fun t h1 h2 => h t (h1.trans hk.1) (h2.trans hk.2))
      · rename_i h0
        exact (h s rfl rfl).2 x hx h0
theorem goR_rd (l : List POp) (n : Nat) (s : RS) : (goR l n s).2.2.rd = s.rd ∧ (goR l n s).2.2.tk = s.tk :=
  goR_ind (fun r => r.2.2.rd = s.rd ∧ r.2.2.tk = s.tk) n s (fun t h1 h2 => ⟨⟨h1, h2⟩, fun x _ h0 => by rw [(stepR_stay h0).1]; exact ⟨h1, h2⟩⟩)
theorem goR_ans (l : List POp) (n : Nat) (s : RS) : 1 ≤ (goR l n s).1 ∧ (goR l n s).1 ≤ 5 ∧ (2 < (goR l n s).1 → (goR l n s).2.1 = 0) :=
  goR_ind (fun r => 1 ≤ r.1 ∧ r.1 ≤ 5 ∧ (2 < r.1 → r.2.1 = 0)) n s (fun t _ _ => ⟨⟨by simp, by simp, fun _ => rfl⟩, fun x _ h0 => by
    obtain ⟨_, h1, h2, h3, _⟩ := stepR_stay h0
    exact ⟨h1, by omega, h3⟩⟩)
/-- Once more, it answers the same. -/
theorem goR_again {l : List POp} (hr : pRight l = true) : ∀ (n : Nat) (s : RS), RIv l s → l.length - s.at_ ≤ n → goR l 40 (goR l n s).2.2 = goR l n s
  | 0, s, h, hn => by
    show goR l 40 s = (5, 0, s)
    exact goR_done (List.getElem?_eq_none_iff.2 (by omega))
  | n + 1, s, h, hn => by
    show goR l 40 (match l[s.at_]? with | none => ((5 : Int), (0 : Int), s) | some x => if (stepR l x s).1 = 0 then goR l n (stepR l x s).2.2 else stepR l x s).2.2 = (match l[s.at_]? with | none => (5, 0, s) | some x => if (stepR l x s).1 = 0 then goR l n (stepR l x s).2.2 else stepR l x s)
    cases hx : l[s.at_]? with
    | none => exact goR_done hx
    | some x =>
      dsimp only
      split
      · rename_i h0
        obtain ⟨h1, h2⟩ := h.step hr hx h0
        have := (List.getElem?_eq_some_iff.1 hx).1
        exact goR_again hr n _ h1 (by have := h1.le; omega)
      · rename_i h0
        rw [(stepR_stay h0).1]
        exact goR_stop hx h0
theorem goR_twice {l : List POp} (hr : pRight l = true) {s : RS} (h : RIv l s) : goR l 40 (goR l 40 s).2.2 = goR l 40 s := goR_again hr 40 s h (by have := (pRight_all hr).1; omega)
end Go.Proofs.Ytgmhopkajopfcaa
