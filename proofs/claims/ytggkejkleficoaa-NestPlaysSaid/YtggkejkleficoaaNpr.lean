/- The document's nest beside the maps: what it answers. -/
import Derived.Test.YtggkejkleficoaaNrw
import Derived.Test.YtggkejkleficoaaNre
import Derived.Test.YtggkejkleficoaaNri
import Derived.Test.YtggkejkleficoaaNx
namespace Go.Proofs.Ytggkejkleficoaa
open Go.RowKit Go.Maps
set_option linter.unusedVariables false

def itP (rd : Rd) (c : Int) : PIt := ⟨c, ((rd.2 c).getD (0, 0)).1, ((rd.2 c).getD (0, 0)).2, false, 0⟩
def lastL (L : List PPr) : Int → Option Int := fun c => lastF none L c
structure PRel (K : Nat) (rd : Rd) (lv : Lv) (Rs : List PIt) (Ls : List (List PPr)) : Prop where
  rs : Rs = (keysF rd.2).map (itP rd)
  ls : Ls.map lastL = lv.map (·.2)
  sum : (Ls.map List.length).sum ≤ K
theorem PRel.len {K : Nat} {rd : Rd} {lv : Lv} {Rs : List PIt} {Ls : List (List PPr)} (h : PRel K rd lv Rs Ls) : Ls.length = lv.length := by
  have := congrArg List.length h.ls
  simpa using this
theorem PRel.rlen {K : Nat} {rd : Rd} {lv : Lv} {Rs : List PIt} {Ls : List (List PPr)} (h : PRel K rd lv Rs Ls) : Rs.length ≤ 16 := by
  rw [h.rs, List.length_map]
  unfold keysF
  refine Nat.le_trans (List.length_filter_le _ _) ?_
  simp
theorem PRel.llen {K : Nat} {rd : Rd} {lv : Lv} {Rs : List PIt} {Ls : List (List PPr)} (h : PRel K rd lv Rs Ls) : ∀ L ∈ Ls, L.length ≤ K := fun L hL => Nat.le_trans (sum_mem (List.mem_map.2 ⟨L, hL, rfl⟩)) h.sum
theorem PRel.mem {K : Nat} {rd : Rd} {lv : Lv} {Rs : List PIt} {Ls : List (List PPr)} (h : PRel K rd lv Rs Ls) {x : PIt} (hx : x ∈ Rs) : (rd.2 x.c).isSome = true ∧ x = itP rd x.c := by
  rw [h.rs] at hx
  obtain ⟨c, hc, rfl⟩ := List.mem_map.1 hx
  exact ⟨(mem_keysF.1 hc).2, rfl⟩
theorem PRel.has {K : Nat} {rd : Rd} {lv : Lv} {Rs : List PIt} {Ls : List (List PPr)} (h : PRel K rd lv Rs Ls) (hv : NVal rd lv) {c : Int} (hc : (rd.2 c).isSome = true) : itP rd c ∈ Rs := by
  rw [h.rs]
  exact List.mem_map.2 ⟨c, mem_keysF.2 ⟨hv.dom c hc, hc⟩, rfl⟩
theorem PRel.none {K : Nat} {rd : Rd} {lv : Lv} {Rs : List PIt} {Ls : List (List PPr)} (h : PRel K rd lv Rs Ls) {c : Int} (hc : (rd.2 c).isSome = false) : ∀ x ∈ Rs, x.c ≠ c := fun x hx e => by
  have := (h.mem hx).1
  rw [e, hc] at this
  cases this
theorem lastF_or (o : Option Int) (l : List PPr) (c : Int) : lastF o l c = (lastF none l c).or o := by
  induction l generalizing o with
  | nil => cases o <;> rfl
  | cons p l ih =>
    have e : ∀ q, lastF q (p :: l) c = lastF (if p.c = c then some p.v else q) l c := fun q => rfl
    rw [e, e, ih, ih (if p.c = c then some p.v else none)]
    by_cases h : p.c = c
    · rw [if_pos h, if_pos h]
      cases lastF none l c <;> rfl
    · rw [if_neg h, if_neg h]
      cases lastF none l c <;> rfl
theorem wrR_from (Ls : List (List PPr)) (c : Int) (o : Option Int) : Ls.foldl (fun o L => lastF o L c) o = ((Ls.map lastL).reverse.findSome? fun f => f c).or o := by
  induction Ls generalizing o with
  | nil => rfl
  | cons L T ih =>
    rw [List.foldl_cons, ih, lastF_or, List.map_cons, List.reverse_cons, List.findSome?_append]
    have e : ([lastL L].findSome? fun f => f c) = lastF none L c := by
      rw [List.findSome?_cons]
      unfold lastL
      cases lastF none L c <;> rfl
    rw [e, Option.or_assoc]
theorem wr_eq {lv : Lv} {Ls : List (List PPr)} (h : Ls.map lastL = lv.map (·.2)) (c : Int) : wrR Ls c = wrF lv c := by
  unfold wrR wrF
  rw [wrR_from, h, Option.or_none, ← List.map_reverse, List.findSome?_map]
  rfl
theorem lastL_snoc (L : List PPr) (c a : Int) : lastL (L ++ [⟨c, a⟩]) = updF (lastL L) c a := by
  funext x
  unfold lastL lastF updF
  rw [List.foldl_append]
  show (if c = x then some a else _) = _
  by_cases e : x = c
  · rw [if_pos e, if_pos e.symm]
  · rw [if_neg e, if_neg (fun q => e q.symm)]
theorem lastL_app (M L : List PPr) : lastL (M ++ L) = orF (lastL L) (lastL M) := by
  funext x
  unfold lastL orF
  have : lastF none (M ++ L) x = lastF (lastF none M x) L x := by unfold lastF; rw [List.foldl_append]
  rw [this, lastF_or]
  dsimp only
  cases lastF none L x <;> rfl
theorem PRel.val {K : Nat} {rd : Rd} {lv : Lv} {Rs : List PIt} {Ls : List (List PPr)} (h : PRel K rd lv Rs Ls) (hv : NVal rd lv) {c : Int} {r : Option Int} (hr : ValR Rs Ls c r) : r = valF rd lv c := by
  rcases hr with ⟨rfl, hno⟩ | ⟨x, hx, rfl, rfl⟩
  · unfold valF
    cases hc : rd.2 c with
    | none => rfl
    | some p => exact absurd rfl (hno _ (h.has hv (c := c) (by rw [hc]; rfl)))
  · obtain ⟨h1, h2⟩ := h.mem hx
    obtain ⟨p, hp⟩ := Option.isSome_iff_exists.1 h1
    unfold valF
    rw [hp, wr_eq h.ls]
    have : x.a = p.2 := by rw [h2]; unfold itP; rw [hp]; rfl
    rw [this]
theorem PRel.at_ {K : Nat} {rd : Rd} {lv : Lv} {Rs : List PIt} {Ls : List (List PPr)} (h : PRel K rd lv Rs Ls) (hv : NVal rd lv) {c r : Int} (hr : AtR Rs c r) : decide (0 ≤ r) = (rd.2 c).isSome := by
  rcases hr with ⟨i, x, rfl, hi, rfl⟩ | ⟨rfl, hno⟩
  · rw [(h.mem (List.mem_of_getElem? hi)).1]
    simp
  · cases hc : (rd.2 c).isSome with
    | false => rfl
    | true => exact absurd rfl (hno _ (h.has hv hc))
theorem PRel.its {K : Nat} {rd : Rd} {lv : Lv} {Rs : List PIt} {Ls : List (List PPr)} (h : PRel K rd lv Rs Ls) : Rs.map (itR Ls) = itsN rd lv := by
  unfold itsN
  rw [h.rs, List.map_map]
  refine List.map_congr_left fun c _ => ?_
  show itR Ls (itP rd c) = itN rd lv c
  unfold itR itN
  have : (itP rd c).c = c := rfl
  rw [this, wr_eq h.ls]
  cases wrF lv c <;> rfl
theorem ins_sorted {Rs : List PIt} {c : Int} {k : Nat} {x : PIt} (hs : Rs.Pairwise (fun a b => a.c < b.c)) (hi : insAt Rs c k) (hx : x.c = c) (hno : ∀ y ∈ Rs, y.c ≠ c) : (Rs.take k ++ x :: Rs.drop k).Pairwise (fun a b => a.c < b.c) := by
  obtain ⟨h1, h2, h3⟩ := hi
  have hs' := hs
  rw [← List.take_append_drop k Rs] at hs'
  obtain ⟨p1, p2, p3⟩ := List.pairwise_append.1 hs'
  have hd : ∀ y ∈ Rs.drop k, c < y.c := fun y hy => by
    have hne := hno y (List.mem_of_mem_drop hy)
    cases hdr : Rs.drop k with
    | nil => rw [hdr] at hy; cases hy
    | cons z T =>
      have hz : Rs[k]? = some z := by
        have : (Rs.drop k)[0]? = some z := by rw [hdr]; rfl
        rw [List.getElem?_drop] at this
        simpa using this
      have hzc := h3 z hz
      rw [hdr] at hy p2
      rcases List.mem_cons.1 hy with rfl | hy
      · omega
      · have := (List.pairwise_cons.1 p2).1 y hy
        omega
  refine List.pairwise_append.2 ⟨p1, List.pairwise_cons.2 ⟨fun y hy => by rw [hx]; exact hd y hy, p2⟩, fun a ha b hb => ?_⟩
  rcases List.mem_cons.1 hb with rfl | hb
  · rw [hx]; exact h2 a ha
  · exact p3 a ha b hb
theorem PRel.saw {K : Nat} {rd : Rd} {lv : Lv} {Rs : List PIt} {Ls : List (List PPr)} (h : PRel K rd lv Rs Ls) (hv : NVal rd lv) {c ver a : Int} {k : Nat} (hc : 0 ≤ c ∧ c < 16) (hn : (rd.2 c).isSome = false) (hi : insAt Rs c k) :
    PRel (K + 1) (rd.1 + 1, updF rd.2 c (ver, a)) lv (Rs.take k ++ ⟨c, ver, a, false, 0⟩ :: Rs.drop k) Ls := by
  refine ⟨?_, h.ls, Nat.le_succ_of_le h.sum⟩
  have hno := h.none hn
  have hs : Rs.Pairwise (fun a b => a.c < b.c) := by
    rw [h.rs]
    exact List.pairwise_map.2 (keysF_sorted _)
  have s1 := ins_sorted (x := ⟨c, ver, a, false, 0⟩) hs hi rfl hno
  have s2 : ((keysF (updF rd.2 c (ver, a))).map (itP (rd.1 + 1, updF rd.2 c (ver, a)))).Pairwise (fun a b => a.c < b.c) := List.pairwise_map.2 (keysF_sorted _)
  have old : ∀ x, x ≠ c → itP (rd.1 + 1, updF rd.2 c (ver, a)) x = itP rd x := fun x hx => by
    unfold itP updF
    dsimp only
    rw [if_neg hx]
  have new : itP (rd.1 + 1, updF rd.2 c (ver, a)) c = ⟨c, ver, a, false, 0⟩ := by
    unfold itP updF
    dsimp only
    rw [if_pos rfl]
    rfl
  have hm : ∀ y, y ∈ (Rs.take k ++ ⟨c, ver, a, false, 0⟩ :: Rs.drop k) ↔ y ∈ (keysF (updF rd.2 c (ver, a))).map (itP (rd.1 + 1, updF rd.2 c (ver, a))) := fun y => by
    have e1 : y ∈ (Rs.take k ++ ⟨c, ver, a, false, 0⟩ :: Rs.drop k) ↔ y = ⟨c, ver, a, false, 0⟩ ∨ y ∈ Rs := by
      conv => rhs; rw [← List.take_append_drop k Rs]
      simp only [List.mem_append, List.mem_cons]
      constructor
      · rintro (q | q | q)
        · exact .inr (.inl q)
        · exact .inl q
        · exact .inr (.inr q)
      · rintro (q | q | q)
        · exact .inr (.inl q)
        · exact .inl q
        · exact .inr (.inr q)
    rw [e1, List.mem_map]
    constructor
    · rintro (rfl | hy)
      · exact ⟨c, mem_keysF.2 ⟨hc, by unfold updF; rw [if_pos rfl]; rfl⟩, new⟩
      · obtain ⟨q1, q2⟩ := h.mem hy
        have hne := hno y hy
        refine ⟨y.c, mem_keysF.2 ⟨hv.dom _ q1, by unfold updF; rw [if_neg hne]; exact q1⟩, ?_⟩
        rw [old _ hne]
        exact q2.symm
    · rintro ⟨x, hx, rfl⟩
      obtain ⟨q1, q2⟩ := mem_keysF.1 hx
      by_cases e : x = c
      · subst e
        exact .inl new
      · unfold updF at q2
        rw [if_neg e] at q2
        rw [old x e]
        exact .inr (h.has hv q2)
  have nd : ∀ {l : List PIt}, l.Pairwise (fun a b => a.c < b.c) → l.Nodup := fun hl => hl.imp (fun {a b} q e => by rw [e] at q; omega)
  have hp := (List.perm_ext_iff_of_nodup (nd s1) (nd s2)).2 hm
  refine List.Perm.eq_of_pairwise (le := fun a b => a.c ≤ b.c) (fun x y hx hy h1 h2 => ?_) (s1.imp (fun {a b} q => by omega)) (s2.imp (fun {a b} q => by omega)) hp
  have e : x.c = y.c := by omega
  obtain ⟨x', hx', rfl⟩ := List.mem_map.1 ((hm x).1 hx)
  obtain ⟨y', hy', rfl⟩ := List.mem_map.1 hy
  have : x' = y' := e
  rw [this]
theorem PRel.last {K : Nat} {rd : Rd} {lv : Lv} {Rs : List PIt} {Ls : List (List PPr)} (h : PRel K rd lv Rs Ls) (h0 : 0 < lv.length) : ∃ ini L lini p, Ls = ini ++ [L] ∧ lv = lini ++ [p] ∧ ini.map lastL = lini.map (·.2) ∧ lastL L = p.2 := by
  obtain ⟨lini, p, rfl⟩ := lv_last h0
  have hl := h.len
  rcases List.eq_nil_or_concat Ls with e | ⟨ini, L, e⟩
  · subst e
    simp at hl
  · rw [List.concat_eq_append] at e
    subst e
    have h2 := h.ls
    rw [List.map_append, List.map_append] at h2
    have hll : (ini.map lastL).length = (lini.map (·.2)).length := by
      simp at hl ⊢
      exact hl
    obtain ⟨e1, e2⟩ := List.append_inj h2 hll
    refine ⟨ini, L, lini, p, rfl, rfl, e1, ?_⟩
    simpa using e2
end Go.Proofs.Ytggkejkleficoaa
