/- The walk of prog.place: the map's reading. -/
import Derived.Test.YtgmhopkajopfcaaPq
import Derived.Maps.Views
namespace Go.Proofs.Ytgmhopkajopfcaa
open Go.RowKit Go.Maps
set_option linter.unusedVariables false

def mFind (m : List (Int × Int × Int)) (at_ : Int) : Option (Int × Int) := m.foldl (fun acc p => if p.1 = at_ then some p.2 else acc) none
theorem mFind_snoc (m : List (Int × Int × Int)) (a b c at_ : Int) : mFind (m ++ [(a, b, c)]) at_ = if a = at_ then some (b, c) else mFind m at_ := by simp [mFind, List.foldl_append]
theorem mDat_isMap (m : List (Int × Int × Int)) : IsMap (mDat m) := by
  rcases List.eq_nil_or_concat m with rfl | ⟨s, ⟨a, b, c⟩, rfl⟩
  · exact isMap_empty
  · rw [List.concat_eq_append, mDat_snoc]
    have : ∀ (l : List (Int × Int × Int)) (D : DataW Unit), IsMap D → IsMap (l.foldl (fun D p => D.put (.int .i64 p.1) (pairD p.2.1 p.2.2)) D) := by
      intro l
      induction l with
      | nil => intro D h; exact h
      | cons x l ih => intro D h; exact ih _ (h.put _ _)
    exact (this s _ isMap_empty).put _ _
theorem mDat_find_aux (at_ : Int) (z : DataW Unit) (r : List (Int × Int × Int)) : (mDat r.reverse).atKey (.int .i64 at_) z = (match mFind r.reverse at_ with | some p => pairD p.1 p.2 | none => z) ∧ has (mDat r.reverse) (.int .i64 at_) = (mFind r.reverse at_).isSome := by
  induction r with
  | nil => exact ⟨rfl, rfl⟩
  | cons x r ih =>
    obtain ⟨a, b, c⟩ := x
    rw [List.reverse_cons, mDat_snoc, mFind_snoc]
    by_cases h : a = at_
    · subst h
      rw [if_pos rfl]
      exact ⟨atKey_put_same (mDat_isMap _) (show WideAt.IsKeyLit (.int .i64 a) from trivial) _ _, has_put_same (mDat_isMap _) (show WideAt.IsKeyLit (.int .i64 a) from trivial) _⟩
    · rw [if_neg h]
      have hne : (Lit.int .i64 at_) ≠ .int .i64 a := by intro e; injection e with _ e; exact h e.symm
      rw [atKey_put_other hne, has_put_other hne]
      exact ih
theorem mDat_find (at_ : Int) (z : DataW Unit) (m : List (Int × Int × Int)) : (mDat m).atKey (.int .i64 at_) z = (match mFind m at_ with | some p => pairD p.1 p.2 | none => z) ∧ has (mDat m) (.int .i64 at_) = (mFind m at_).isSome := by
  have := mDat_find_aux at_ z m.reverse
  rwa [List.reverse_reverse] at this
/-- Where an Either's Or and End stand, as prog.place says it. -/
def pFind (l : List POp) (at_ : Int) : Int × Int := if pRight l then (match pRun l with | none => (-1, -1) | some s => (mFind s.m at_).getD (-1, -1)) else (-1, -1)
theorem pairElem_inv {v : Value} {a b : Int} {ps : List MemPlace} (h : pairElem v = some (pairD a b, ps)) : v = .agg #[.int .i64 a, .int .i64 b] := by
  have no : ∀ {o : Option (DataW Unit × List MemPlace)}, o = some (pairD a b, ps) → o = none → False := by
    rintro o h1 h2
    rw [h1] at h2
    cases h2
  cases v
  case agg cs =>
    obtain ⟨cl⟩ := cs
    rcases cl with _ | ⟨x, _ | ⟨y, _ | ⟨z, t⟩⟩⟩
    · exact (no h rfl).elim
    · exact (no h (by cases x <;> rfl)).elim
    · cases x
      case int k1 n1 =>
        cases y
        case int k2 n2 =>
          cases k1
          case i64 =>
            cases k2
            case i64 =>
              have h : some ((.agg [.lit (.int .i64 n1), .lit (.int .i64 n2)] : DataW Unit), ([] : List MemPlace)) = some (pairD a b, ps) := h
              injection h with h
              injection h with h1 h2
              unfold pairD at h1
              simp at h1
              rw [h1.1, h1.2]
            all_goals exact (no h rfl).elim
          all_goals exact (no h rfl).elim
        all_goals exact (no h (by cases k1 <;> rfl)).elim
      all_goals exact (no h rfl).elim
    · exact (no h (by cases x <;> rfl)).elim
  all_goals exact (no h rfl).elim
set_option maxRecDepth 100000 in
set_option maxHeartbeats 6400000 in
theorem place_c (v : Value) (l : List POp) (at_ : Int) (wh : Nat) (hw : wh = 0 ∨ wh = 1) (w : World) (h : Arr OpE 5 w v l) (ha : (Lit.int .i64 at_).wf = true) (r : Int) (hr : (if wh = 0 then (pFind l at_).1 else (pFind l at_).2) = r) :
    Calls Try.prog 75 #[v, .int .i64 at_, .int .i64 wh] w fun e w' => e = .returned (.int .i64 r) ∧ w.grownBy w' none := by
  obtain ⟨A, c, rfl⟩ := h.len
  have H := As.mk h
  have HR := As.mk hr
  have HWF := As.mk ha
  clear h hr ha
  go_enter Try.func75, Try.ntmps75
  cases hp : pRight l
  · have HN : As (-1 = r) := ⟨by rw [← HR.out]; unfold pFind; rw [hp]; simp⟩
    obtain rfl := HN.out
    go_wp2_with fail
    refine (pRight_c _ l _ H.out _ hp).mono ?_
    rintro e w1 ⟨rfl, g1⟩
    go_wp2_with fail
    go_ret
    exact ⟨rfl, g1⟩
  · have HL : As (l.length ≤ 32) := ⟨by unfold pRight at hp; simp at hp; exact hp.1⟩
    go_wp2_with fail
    refine (pRight_c _ l _ H.out _ hp).mono ?_
    rintro e w1 ⟨rfl, g1⟩
    have G1 := As.mk g1
    clear g1
    go_wp2_with fail
    refine (pairs_c _ l _ (H.out.below G1.out (fun _ _ => OpE.any _ _)) (by have := HL.out; omega)).mono ?_
    rintro e w2 ⟨hq, g2⟩
    have G2 := As.mk (gr_then G1.out g2 (.inl rfl))
    clear g2
    rcases hq with ⟨hn, rfl⟩ | ⟨s, b, hs, rfl, hown⟩
    · exfalso
      unfold pRight pairsOk at hp
      rw [hn] at hp
      simp at hp
    · have HO := As.mk hown
      have HS := As.mk hs
      clear hown hs
      have HK : As (keyOf Try.prog 3 (.int .i64 at_) = some (.int .i64 at_)) := ⟨keyOf_int_mk (P := Try.prog) Try.underlying3 HWF.out⟩
      have HZ : ∀ W : World, (zeroValue 106).run Try.prog W = .ok (.agg #[.int .i64 0, .int .i64 0]) W := fun W => by rfl
      have HF := As.mk (mDat_find at_ (pairD 0 0) s.m)
      have HV : As ((if wh = 0 then ((mFind s.m at_).getD (-1, -1)).1 else ((mFind s.m at_).getD (-1, -1)).2) = r) := ⟨by
        have h9 := HR.out
        unfold pFind at h9
        rw [hp, HS.out] at h9
        simpa using h9⟩
      clear HR HS
      generalize mFind s.m at_ = fo at *
      rcases fo with _ | ⟨p1, p2⟩
      · have HF1 : As ((mDat s.m).atKey (.int .i64 at_) (pairD 0 0) = pairD 0 0) := ⟨HF.out.1⟩
        have HF2 : As (has (mDat s.m) (.int .i64 at_) = false) := ⟨HF.out.2⟩
        have HN : As (-1 = r) := ⟨by rw [← HV.out]; simp⟩
        obtain rfl := HN.out
        clear HF HV
        go_upto_region 4 with fail
        go_wp2_with (at_lookup; refine wpList_lookup_own_ok _ rfl _ _ 76 rfl 3 106 keyInt Try.underlying76 pairElem (HZ _) (pairD 0 0) [] rfl b l.length (mDat s.m) rfl HO.out (.int .i64 at_) (.int .i64 at_) rfl HK.out ?_; intro vz ps hv; rw [HF1.out] at hv; obtain rfl := pairElem_inv hv; rw [HF2.out]; clear hv)
        go_ret
        exact ⟨rfl, gr_alloc G2.out _⟩
      · have HF1 : As ((mDat s.m).atKey (.int .i64 at_) (pairD 0 0) = pairD p1 p2) := ⟨HF.out.1⟩
        have HF2 : As (has (mDat s.m) (.int .i64 at_) = true) := ⟨HF.out.2⟩
        have HN : As ((if wh = 0 then p1 else p2) = r) := ⟨by rw [← HV.out]; simp⟩
        clear HF HV
        rcases hw with rfl | rfl
        · obtain rfl := HN.out
          go_upto_region 4 with fail
          go_wp2_with (at_lookup; refine wpList_lookup_own_ok _ rfl _ _ 76 rfl 3 106 keyInt Try.underlying76 pairElem (HZ _) (pairD 0 0) [] rfl b l.length (mDat s.m) rfl HO.out (.int .i64 at_) (.int .i64 at_) rfl HK.out ?_; intro vz ps hv; rw [HF1.out] at hv; obtain rfl := pairElem_inv hv; rw [HF2.out]; clear hv)
          go_ret
          exact ⟨rfl, gr_alloc G2.out _⟩
        · obtain rfl := HN.out
          go_upto_region 4 with fail
          go_wp2_with (at_lookup; refine wpList_lookup_own_ok _ rfl _ _ 76 rfl 3 106 keyInt Try.underlying76 pairElem (HZ _) (pairD 0 0) [] rfl b l.length (mDat s.m) rfl HO.out (.int .i64 at_) (.int .i64 at_) rfl HK.out ?_; intro vz ps hv; rw [HF1.out] at hv; obtain rfl := pairElem_inv hv; rw [HF2.out]; clear hv)
          go_ret
          exact ⟨rfl, gr_alloc G2.out _⟩
theorem or_c (v : Value) (l : List POp) (at_ : Int) (w : World) (h : Arr OpE 5 w v l) (ha : (Lit.int .i64 at_).wf = true) : Calls Try.prog 56 #[v, .int .i64 at_] w fun e w' => e = .returned (.int .i64 (pFind l at_).1) ∧ w.grownBy w' none := by
  go_enter Try.func56, Try.ntmps56
  go_wp2_with fail
  refine (place_c v l at_ 0 (.inl rfl) w h ha _ rfl).mono ?_
  rintro e w1 ⟨rfl, g1⟩
  go_wp2_with fail
  go_ret
  exact ⟨rfl, g1⟩
theorem end_c (v : Value) (l : List POp) (at_ : Int) (w : World) (h : Arr OpE 5 w v l) (ha : (Lit.int .i64 at_).wf = true) : Calls Try.prog 57 #[v, .int .i64 at_] w fun e w' => e = .returned (.int .i64 (pFind l at_).2) ∧ w.grownBy w' none := by
  go_enter Try.func57, Try.ntmps57
  go_wp2_with fail
  refine (place_c v l at_ 1 (.inr rfl) w h ha _ rfl).mono ?_
  rintro e w1 ⟨rfl, g1⟩
  go_wp2_with fail
  go_ret
  exact ⟨rfl, g1⟩
end Go.Proofs.Ytgmhopkajopfcaa
