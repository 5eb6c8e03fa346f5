/- The walk of script's Format. -/
import Derived.Test.YtmmgmdfhdhnmaaaPut
namespace Go.Proofs.Ytmmgmdfhdhnmaaa
open Go.RowKit
set_option linter.unusedVariables false

def cfgRight (n c d : Int) : Bool := inR n 1 16 && (inR c 1 16 && (inR d 0 1048560 && d % 16 == 0))
def fmtBytes (n c d : Int) (l : List PEv) : List UInt8 := [byteOf (n - 1), byteOf (c - 1)] ++ countBytes (d / 16) ++ l.flatMap evBytes
def fmtRight (n c d : Int) (l : List PEv) : Bool := cfgRight n c d && (decide (l.length ≤ 400) && !l.any (fun x => !evRight x))
def FmtPost (w : World) (r : Bool) (s : ByteArray) (e : Ending) (w' : World) : Prop :=
  e = .returned (.tuple (if r then #[.string s, .int .i64 0] else #[.string .empty, .int .i64 1])) ∧ w.grownBy w' none
theorem evBytes_len (x : PEv) (h : evRight x = true) : (evBytes x).length ≤ 200 := by
  obtain ⟨hk, ha, hb, hn, hr1, hr2⟩ := right_parts h
  unfold evBytes
  split
  · rename_i h1
    have := (hr1 h1).2.2.1
    simp only [List.length_cons, opsBytes_len]
    omega
  · simp [countBytes]
theorem evsBytes_len (l : List PEv) (h : ∀ x ∈ l, evRight x = true) : (l.flatMap evBytes).length ≤ 200 * l.length := by
  induction l with
  | nil => simp
  | cons x l ih =>
    rw [List.flatMap_cons, List.length_append]
    have := ih (fun y hy => h y (List.mem_cons_of_mem _ hy))
    have := evBytes_len x (h x (List.mem_cons_self ..))
    simp only [List.length_cons]
    omega
theorem evsBytes_take {l : List PEv} {k : Nat} (hk : k < l.length) : (l.take (k + 1)).flatMap evBytes = (l.take k).flatMap evBytes ++ evBytes (l[k]'hk) := by
  rw [List.take_succ_eq_append_getElem hk, List.flatMap_append]
  simp
set_option maxRecDepth 100000 in
set_option maxHeartbeats 6400000 in
theorem format_c (w : World) (n c d : Int) (v : Value) (l : List PEv) (h : Arr EvE 5 w v l) (r : Bool) (hr : fmtRight n c d l = r) :
    Calls Try.prog 12 #[.agg #[.int .i64 n, .int .i64 c, .int .i64 d], v] w (FmtPost w r ⟨(fmtBytes n c d l).toArray⟩) := by
  obtain ⟨A, cp, rfl⟩ := h.len
  have hl := h.le
  have HB := As.mk (Blk.new w 24 #[.int .i64 n, .int .i64 c, .int .i64 d])
  have G := As.mk (gr_alloc (gr_refl w none) (.cells #[.int .i64 n, .int .i64 c, .int .i64 d] 24))
  have HA := As.mk h
  have H1 := As.mk (h.below G.out (fun _ _ => EvE.below G.out _ _))
  clear h
  go_enter Try.func12, Try.ntmps12
  unfold fmtRight cfgRight at hr
  cases h1 : inR n 1 16
  · rw [h1] at hr
    obtain rfl : r = false := by rw [← hr]; rfl
    go_wp2_with (go_at_call 20; refine (in_c _ _ _ _ _ (by assumption)).mono ?_; rintro e w1 ⟨rfl, rfl⟩)
    go_ret2; exact ⟨rfl, G.out⟩
  cases h2 : inR c 1 16
  · rw [h1, h2] at hr
    obtain rfl : r = false := by rw [← hr]; rfl
    go_wp2_with (go_at_call 20; refine (in_c _ _ _ _ _ (by assumption)).mono ?_; rintro e w1 ⟨rfl, rfl⟩)
    go_ret2; exact ⟨rfl, G.out⟩
  cases h3 : inR d 0 1048560
  · rw [h1, h2, h3] at hr
    obtain rfl : r = false := by rw [← hr]; rfl
    go_wp2_with (go_at_call 20; refine (in_c _ _ _ _ _ (by assumption)).mono ?_; rintro e w1 ⟨rfl, rfl⟩)
    go_ret2; exact ⟨rfl, G.out⟩
  rw [h1, h2, h3] at hr
  have hd := inR_true h3
  by_cases hm : d % 16 = 0
  · by_cases hlen : l.length ≤ 400
    · have hlenI : ¬ (400 : Int) < (l.length : Int) := by omega
      generalize ha : l.any (fun x => !evRight x) = q at hr
      obtain rfl : r = !q := by rw [← hr]; simp [hm, hlen]
      clear hr
      go_wp2_with (first
        | (go_at_call 20; refine (in_c _ _ _ _ _ (by assumption)).mono ?_; rintro e w1 ⟨rfl, rfl⟩)
        | (go_at_call 21; refine (conEv_c _ _ l H1.out q ha).mono ?_))
      rintro e w1 ⟨rfl, g1⟩
      cases q
      · have hall : ∀ x ∈ l, evRight x = true := fun x hx => by
          have := List.any_eq_false.1 ha x hx
          simpa using this
        have HALL := As.mk hall
        have n1 := inR_true h1
        have n2 := inR_true h2
        have P0 := As.mk (show PutS w (w1.alloc (.cells #[.pointer none, .slice none 0 0, .bool false] 66)) w1.heap.size w.heap.size 24 #[.int .i64 n, .int .i64 c, .int .i64 d] [] from ⟨⟨_, wr_new (by have := g1.size; simp at this; omega)⟩, (HB.out.grown g1 (by simp)).alloc _, by have := g1.size; simp at this; omega, gr_alloc (gr_then G.out g1 (.inl rfl)) _⟩)
        have c0 : (w1.alloc (.cells #[.pointer none, .slice none 0 0, .bool false] 66)).cell? ⟨w.heap.size, 0, none⟩ = some (.int .i64 n) := P0.out.blk.cell 0
        have c1 : (w1.alloc (.cells #[.pointer none, .slice none 0 0, .bool false] 66)).cell? ⟨w.heap.size, 1, none⟩ = some (.int .i64 c) := P0.out.blk.cell 1
        have b0 : w1.cell? ⟨w.heap.size, 0, none⟩ = some (.int .i64 n) := (HB.out.grown g1 (by simp)).cell 0
        have b1 : w1.cell? ⟨w.heap.size, 1, none⟩ = some (.int .i64 c) := (HB.out.grown g1 (by simp)).cell 1
        clear g1 ha hall HB H1 G h1 h2 h3
        go_wp2_with fail
        refine (bstep P0.out (by decide) [byteOf (n - 1), byteOf (c - 1)] 2 rfl _ (byte2_vals _ _ (by omega) (by omega)) _ (by simp) (by simp)).mono ?_
        rintro e w2 ⟨rfl, p2⟩
        have P2 := As.mk p2
        have e2 : w2.cell? ⟨w.heap.size, 2, none⟩ = some (.int .i64 d) := p2.blk.cell 2
        clear p2 P0 c0 c1 b0 b1
        generalize w1.heap.size = gb at *
        have hd16 : 0 ≤ d / 16 ∧ d / 16 ≤ 65535 := by omega
        go_wp2_with (go_at_call 25; refine (cstep P2.out (by decide) (d / 16) hd16.1 hd16.2 (by simp)).mono ?_)
        rintro e w3 ⟨rfl, p3⟩
        have P3 := As.mk (And.intro p3.wr p3.gr)
        clear p3 P2 e2
        go_wp2_with fail
        go_loopw [56] (fun i wr => ∃ k : Nat, k ≤ l.length ∧ i = .int .i64 k ∧ As ((∃ v, WrW wr w.heap.size gb v ([byteOf (n - 1), byteOf (c - 1)] ++ countBytes (d / 16) ++ (l.take k).flatMap evBytes) false) ∧ w.grownBy wr none)) (fun i _ => l.length - (intOf i).toNat)
        case atStart => exact ⟨0, Nat.zero_le _, rfl, ⟨by simpa using P3.out⟩⟩
        case round =>
          obtain ⟨k, hk, rfl, HL⟩ := hrel
          by_cases hlt : k < l.length
          · have hltI : (k : Int) < (l.length : Int) := by omega
            have hk0 : (0 : Int) ≤ (k : Int) := by omega
            obtain ⟨bb, o, cs, rfl, ⟨u, hE, hu⟩, hcs, hcell⟩ := HA.out.at_ k l[k] (List.getElem?_eq_getElem hlt)
            obtain rfl := hE
            have c0 : wr.cell? ⟨bb, o + k * 5, none⟩ = _ := HL.out.2.cell (hcell 0 _ rfl) (by simp)
            have c1 := HL.out.2.cell (hcell 1 _ rfl) (by simp)
            have c2 := HL.out.2.cell (hcell 2 _ rfl) (by simp)
            have c3 := HL.out.2.cell (hcell 3 _ rfl) (by simp)
            have c4 := HL.out.2.cell (hcell 4 _ rfl) (by simp)
            have hf := As.mk (HALL.out _ (List.getElem_mem hlt))
            have hT := As.mk (evsBytes_take hlt)
            have HFL := As.mk (evsBytes_len (l.take k) (fun x hx => HALL.out x (List.mem_of_mem_take hx)))
            have HU := As.mk hu
            obtain ⟨Au, cu, rfl⟩ := hu.len
            generalize l[k]'hlt = y at *
            obtain ⟨vv, hw⟩ := HL.out.1
            have HW := As.mk hw
            have HG := As.mk HL.out.2
            clear hcell hcs hu hw HL
            go_wp2_with (go_at_call 26; refine (put_c (w0 := w) y _ hf.out HU.out (gr_alloc HG.out _) (HW.out.alloc _) (by have := HFL.out; rw [List.length_take, Nat.min_eq_left hk] at this; rw [List.length_append, show ([byteOf (n - 1), byteOf (c - 1)] ++ countBytes (d / 16)).length = 4 from rfl]; omega)).mono ?_)
            rintro e w4 ⟨rfl, p4⟩
            have P4 := As.mk p4
            clear p4 HW HG c0 c1 c2 c3 c4
            go_wp2_with fail
            go_roundw
            case measure => simp [intOf]; omega
            case rel => exact ⟨k + 1, by omega, by go_num, ⟨by have := P4.out; rwa [List.append_assoc, ← hT.out] at this⟩⟩
          · obtain rfl : k = l.length := by omega
            obtain ⟨vv, hw⟩ := HL.out.1
            have HW := As.mk hw
            have HG := As.mk HL.out.2
            clear HL hw
            go_wp2_with (go_at_call 27; refine (wstr_c HW.out (by simp)).mono ?_)
            rintro e w4 ⟨rfl, p4⟩
            have P4 := As.mk (gr_then HG.out p4 (.inr (.inr fun q hq => (HW.out.row.lt q hq).1)))
            clear p4
            go_wp2_with fail
            go_ret2
            exact ⟨rfl, P4.out⟩
      · have G1 := As.mk (gr_then G.out g1 (.inl rfl))
        clear g1
        go_wp2_with fail
        go_ret2; exact ⟨rfl, G1.out⟩
    · have hlenI : (400 : Int) < (l.length : Int) := by omega
      obtain rfl : r = false := by rw [← hr]; simp [hlen]
      go_wp2_with (go_at_call 20; refine (in_c _ _ _ _ _ (by assumption)).mono ?_; rintro e w1 ⟨rfl, rfl⟩)
      go_ret2; exact ⟨rfl, G.out⟩
  · obtain rfl : r = false := by rw [← hr]; simp [hm]
    go_wp2_with (go_at_call 20; refine (in_c _ _ _ _ _ (by assumption)).mono ?_; rintro e w1 ⟨rfl, rfl⟩)
    go_ret2; exact ⟨rfl, G.out⟩
end Go.Proofs.Ytmmgmdfhdhnmaaa
