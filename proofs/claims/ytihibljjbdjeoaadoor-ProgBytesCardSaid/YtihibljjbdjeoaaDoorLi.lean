/- The walks of prog's reg, cell and line. -/
import Derived.Test.YtihibljjbdjeoaaDoorPr
import Derived.Test.YtihibljjbdjeoaaDoorPg
namespace Go.Proofs.YtihibljjbdjeoaaDoor
open Go.RowKit
set_option linter.unusedVariables false

def regS (n : Int) : ByteArray := ⟨#[32, 114]⟩ ++ num n
def celS (n : Int) : ByteArray := ⟨#[32, 99]⟩ ++ num n
theorem regS_size (n : Int) : (regS n).size = 2 + (num n).size := by rw [regS, ByteArray.size_append]; rfl
theorem celS_size (n : Int) : (celS n).size = 2 + (num n).size := by rw [celS, ByteArray.size_append]; rfl
set_option maxRecDepth 100000 in
theorem reg_c (n : Int) (h0 : -9223372036854775808 ≤ n) (h1 : n ≤ 9223372036854775807) (w : World) (ht : Tab w) :
    Calls Tryd.prog 65 #[.int .i64 n] w fun e w' => e = .returned (.string (regS n)) ∧ w.grownBy w' none := by
  have hz := num_size n h0 h1
  have z : ¬ 9223372036854775807 < 2 + (num n).size := by omega
  have HT := As.mk ht
  clear ht hz
  go_enter Tryd.func65, Tryd.ntmps65
  go_wp2_with (go_at_call 60; refine (itoa_c n h0 h1 _ HT.out).mono ?_; rintro e w1 ⟨rfl, g1⟩)
  go_ret
  exact ⟨rfl, g1⟩
set_option maxRecDepth 100000 in
theorem cel_c (n : Int) (h0 : -9223372036854775808 ≤ n) (h1 : n ≤ 9223372036854775807) (w : World) (ht : Tab w) :
    Calls Tryd.prog 66 #[.int .i64 n] w fun e w' => e = .returned (.string (celS n)) ∧ w.grownBy w' none := by
  have hz := num_size n h0 h1
  have z : ¬ 9223372036854775807 < 2 + (num n).size := by omega
  have HT := As.mk ht
  clear ht hz
  go_enter Tryd.func66, Tryd.ntmps66
  go_wp2_with (go_at_call 60; refine (itoa_c n h0 h1 _ HT.out).mono ?_; rintro e w1 ⟨rfl, g1⟩)
  go_ret
  exact ⟨rfl, g1⟩
def In64' (n : Int) : Prop := -9223372036854775808 ≤ n ∧ n ≤ 9223372036854775807
def nameK (k : Int) : ByteArray :=
  if k = 1 then ⟨#[114, 101, 97, 100]⟩ else if k = 2 then ⟨#[119, 114, 105, 116, 101]⟩ else if k = 3 then ⟨#[115, 101, 116]⟩ else if k = 4 then ⟨#[97, 100, 100]⟩ else if k = 5 then ⟨#[115, 117, 98]⟩ else if k = 6 then ⟨#[110, 101, 101, 100]⟩
  else if k = 7 then ⟨#[114, 101, 116, 114, 121]⟩ else if k = 8 then ⟨#[97, 98, 111, 114, 116]⟩ else if k = 9 then ⟨#[116, 97, 107, 101]⟩ else if k = 10 then ⟨#[101, 105, 116, 104, 101, 114]⟩ else if k = 11 then ⟨#[111, 114]⟩ else ⟨#[101, 110, 100]⟩
def lineOf (x : POp) : ByteArray :=
  if x.k = 1 then nameK 1 ++ regS x.r ++ celS x.c else if x.k = 2 then nameK 2 ++ celS x.c ++ regS x.r else if x.k = 3 then nameK 3 ++ regS x.r ++ ⟨#[32]⟩ ++ num x.n else if x.k = 4 then nameK 4 ++ regS x.r ++ regS x.o else if x.k = 5 then nameK 5 ++ regS x.r ++ regS x.o
  else if x.k = 6 then nameK 6 ++ regS x.r else if x.k = 9 then nameK 9 ++ celS x.c else nameK x.k
def namesB : Array Value := #[.string ⟨#[]⟩, .string ⟨#[114, 101, 97, 100]⟩, .string ⟨#[119, 114, 105, 116, 101]⟩, .string ⟨#[115, 101, 116]⟩, .string ⟨#[97, 100, 100]⟩, .string ⟨#[115, 117, 98]⟩, .string ⟨#[110, 101, 101, 100]⟩, .string ⟨#[114, 101, 116, 114, 121]⟩, .string ⟨#[97, 98, 111, 114, 116]⟩, .string ⟨#[116, 97, 107, 101]⟩, .string ⟨#[101, 105, 116, 104, 101, 114]⟩, .string ⟨#[111, 114]⟩, .string ⟨#[101, 110, 100]⟩]
set_option maxRecDepth 100000 in
set_option maxHeartbeats 6400000 in
theorem line1_c (c r o n : Int) (w : World) (ht : Tab w) (hc : In64' c) (hr : In64' r) (ho : In64' o) (hn : In64' n) :
    Calls Tryd.prog 43 #[.agg #[.int .i64 1, .int .i64 c, .int .i64 r, .int .i64 o, .int .i64 n]] w fun e w' => e = .returned (.string (lineOf ⟨1, c, r, o, n⟩)) ∧ w.grownBy w' none := by
  have HT := As.mk ht
  have BN := As.mk (And.intro hc (And.intro hr (And.intro ho hn)))
  have ac := num_size c hc.1 hc.2
  have bc := celS_size c
  have ar := num_size r hr.1 hr.2
  have br := regS_size r
  have z0 : ¬ 9223372036854775807 < 4 + (regS r).size := by omega
  have z1 : ¬ 9223372036854775807 < 4 + (regS r).size + (celS c).size := by omega
  clear ac bc ar br
  clear ht hc hr ho hn
  have K := As.mk ((Blk.new w 48 #[.int .i64 1, .int .i64 c, .int .i64 r, .int .i64 o, .int .i64 n]).alloc (.cells namesB 9))
  have G := As.mk (gr_alloc (gr_alloc (gr_refl w none) (.cells #[.int .i64 1, .int .i64 c, .int .i64 r, .int .i64 o, .int .i64 n] 48)) (.cells namesB 9))
  unfold namesB at K G
  go_enter Tryd.func43, Tryd.ntmps43
  go_wp2_with fail
  generalize w.heap.size = g at *
  go_region_held3 (fun w' => w'.cell? ⟨g, 1, none⟩ = some (.int .i64 c) ∧ w'.cell? ⟨g, 2, none⟩ = some (.int .i64 r) ∧ w'.cell? ⟨g, 3, none⟩ = some (.int .i64 o) ∧ w'.cell? ⟨g, 4, none⟩ = some (.int .i64 n))
    (first | exact ⟨K.out.cell 1, K.out.cell 2, K.out.cell 3, K.out.cell 4⟩ | go_keep)
    (first
    | (go_at_call 65; refine (reg_c _ ?q0 ?q1 _ (HT.out.gr (by first | exact G.out | exact gr_drew G.out))).mono ?_; (case q0 => first | exact BN.out.2.1.1 | exact BN.out.2.2.1.1); (case q1 => first | exact BN.out.2.1.2 | exact BN.out.2.2.1.2); rintro e0 w1 ⟨rfl, hg⟩
       have nK := As.mk (Blk.grown (t := 48) (cs := #[.int .i64 1, .int .i64 c, .int .i64 r, .int .i64 o, .int .i64 n]) (b := g) (by first | exact K.out | exact K.out.drew) hg (by simp)); have nG := As.mk (gr_then (row := none) (by first | exact G.out | exact gr_drew G.out) hg (.inl rfl)); clear K G; have K := nK; have G := nG; clear nK nG; clear hg)
    | (go_at_call 66; refine (cel_c c BN.out.1.1 BN.out.1.2 _ (HT.out.gr (by first | exact G.out | exact gr_drew G.out))).mono ?_; rintro e0 w1 ⟨rfl, hg⟩
       have nK := As.mk (Blk.grown (t := 48) (cs := #[.int .i64 1, .int .i64 c, .int .i64 r, .int .i64 o, .int .i64 n]) (b := g) (by first | exact K.out | exact K.out.drew) hg (by simp)); have nG := As.mk (gr_then (row := none) (by first | exact G.out | exact gr_drew G.out) hg (.inl rfl)); clear K G; have K := nK; have G := nG; clear nK nG; clear hg)
    | (go_at_call 60; refine (itoa_c n BN.out.2.2.2.1 BN.out.2.2.2.2 _ (HT.out.gr (by first | exact G.out | exact gr_drew G.out))).mono ?_; rintro e0 w1 ⟨rfl, hg⟩
       have nK := As.mk (Blk.grown (t := 48) (cs := #[.int .i64 1, .int .i64 c, .int .i64 r, .int .i64 o, .int .i64 n]) (b := g) (by first | exact K.out | exact K.out.drew) hg (by simp)); have nG := As.mk (gr_then (row := none) (by first | exact G.out | exact gr_drew G.out) hg (.inl rfl)); clear K G; have K := nK; have G := nG; clear nK nG; clear hg))
  simp only [Exit.then]
  go_wp2_with fail
  go_ret
  exact ⟨rfl, G.out⟩
set_option maxRecDepth 100000 in
set_option maxHeartbeats 6400000 in
theorem line2_c (c r o n : Int) (w : World) (ht : Tab w) (hc : In64' c) (hr : In64' r) (ho : In64' o) (hn : In64' n) :
    Calls Tryd.prog 43 #[.agg #[.int .i64 2, .int .i64 c, .int .i64 r, .int .i64 o, .int .i64 n]] w fun e w' => e = .returned (.string (lineOf ⟨2, c, r, o, n⟩)) ∧ w.grownBy w' none := by
  have HT := As.mk ht
  have BN := As.mk (And.intro hc (And.intro hr (And.intro ho hn)))
  have ac := num_size c hc.1 hc.2
  have bc := celS_size c
  have ar := num_size r hr.1 hr.2
  have br := regS_size r
  have z0 : ¬ 9223372036854775807 < 5 + (celS c).size := by omega
  have z1 : ¬ 9223372036854775807 < 5 + (celS c).size + (regS r).size := by omega
  clear ac bc ar br
  clear ht hc hr ho hn
  have K := As.mk ((Blk.new w 48 #[.int .i64 2, .int .i64 c, .int .i64 r, .int .i64 o, .int .i64 n]).alloc (.cells namesB 9))
  have G := As.mk (gr_alloc (gr_alloc (gr_refl w none) (.cells #[.int .i64 2, .int .i64 c, .int .i64 r, .int .i64 o, .int .i64 n] 48)) (.cells namesB 9))
  unfold namesB at K G
  go_enter Tryd.func43, Tryd.ntmps43
  go_wp2_with fail
  generalize w.heap.size = g at *
  go_region_held3 (fun w' => w'.cell? ⟨g, 1, none⟩ = some (.int .i64 c) ∧ w'.cell? ⟨g, 2, none⟩ = some (.int .i64 r) ∧ w'.cell? ⟨g, 3, none⟩ = some (.int .i64 o) ∧ w'.cell? ⟨g, 4, none⟩ = some (.int .i64 n))
    (first | exact ⟨K.out.cell 1, K.out.cell 2, K.out.cell 3, K.out.cell 4⟩ | go_keep)
    (first
    | (go_at_call 65; refine (reg_c _ ?q0 ?q1 _ (HT.out.gr (by first | exact G.out | exact gr_drew G.out))).mono ?_; (case q0 => first | exact BN.out.2.1.1 | exact BN.out.2.2.1.1); (case q1 => first | exact BN.out.2.1.2 | exact BN.out.2.2.1.2); rintro e0 w1 ⟨rfl, hg⟩
       have nK := As.mk (Blk.grown (t := 48) (cs := #[.int .i64 2, .int .i64 c, .int .i64 r, .int .i64 o, .int .i64 n]) (b := g) (by first | exact K.out | exact K.out.drew) hg (by simp)); have nG := As.mk (gr_then (row := none) (by first | exact G.out | exact gr_drew G.out) hg (.inl rfl)); clear K G; have K := nK; have G := nG; clear nK nG; clear hg)
    | (go_at_call 66; refine (cel_c c BN.out.1.1 BN.out.1.2 _ (HT.out.gr (by first | exact G.out | exact gr_drew G.out))).mono ?_; rintro e0 w1 ⟨rfl, hg⟩
       have nK := As.mk (Blk.grown (t := 48) (cs := #[.int .i64 2, .int .i64 c, .int .i64 r, .int .i64 o, .int .i64 n]) (b := g) (by first | exact K.out | exact K.out.drew) hg (by simp)); have nG := As.mk (gr_then (row := none) (by first | exact G.out | exact gr_drew G.out) hg (.inl rfl)); clear K G; have K := nK; have G := nG; clear nK nG; clear hg)
    | (go_at_call 60; refine (itoa_c n BN.out.2.2.2.1 BN.out.2.2.2.2 _ (HT.out.gr (by first | exact G.out | exact gr_drew G.out))).mono ?_; rintro e0 w1 ⟨rfl, hg⟩
       have nK := As.mk (Blk.grown (t := 48) (cs := #[.int .i64 2, .int .i64 c, .int .i64 r, .int .i64 o, .int .i64 n]) (b := g) (by first | exact K.out | exact K.out.drew) hg (by simp)); have nG := As.mk (gr_then (row := none) (by first | exact G.out | exact gr_drew G.out) hg (.inl rfl)); clear K G; have K := nK; have G := nG; clear nK nG; clear hg))
  simp only [Exit.then]
  go_wp2_with fail
  go_ret
  exact ⟨rfl, G.out⟩
set_option maxRecDepth 100000 in
set_option maxHeartbeats 6400000 in
theorem line3_c (c r o n : Int) (w : World) (ht : Tab w) (hc : In64' c) (hr : In64' r) (ho : In64' o) (hn : In64' n) :
    Calls Tryd.prog 43 #[.agg #[.int .i64 3, .int .i64 c, .int .i64 r, .int .i64 o, .int .i64 n]] w fun e w' => e = .returned (.string (lineOf ⟨3, c, r, o, n⟩)) ∧ w.grownBy w' none := by
  have HT := As.mk ht
  have BN := As.mk (And.intro hc (And.intro hr (And.intro ho hn)))
  have an := num_size n hn.1 hn.2
  have ar := num_size r hr.1 hr.2
  have br := regS_size r
  have z0 : ¬ 9223372036854775807 < 3 + (regS r).size := by omega
  have z1 : ¬ 9223372036854775807 < 3 + (regS r).size + 1 := by omega
  have z2 : ¬ 9223372036854775807 < 3 + (regS r).size + 1 + (num n).size := by omega
  clear an ar br
  clear ht hc hr ho hn
  have K := As.mk ((Blk.new w 48 #[.int .i64 3, .int .i64 c, .int .i64 r, .int .i64 o, .int .i64 n]).alloc (.cells namesB 9))
  have G := As.mk (gr_alloc (gr_alloc (gr_refl w none) (.cells #[.int .i64 3, .int .i64 c, .int .i64 r, .int .i64 o, .int .i64 n] 48)) (.cells namesB 9))
  unfold namesB at K G
  go_enter Tryd.func43, Tryd.ntmps43
  go_wp2_with fail
  generalize w.heap.size = g at *
  go_region_held3 (fun w' => w'.cell? ⟨g, 1, none⟩ = some (.int .i64 c) ∧ w'.cell? ⟨g, 2, none⟩ = some (.int .i64 r) ∧ w'.cell? ⟨g, 3, none⟩ = some (.int .i64 o) ∧ w'.cell? ⟨g, 4, none⟩ = some (.int .i64 n))
    (first | exact ⟨K.out.cell 1, K.out.cell 2, K.out.cell 3, K.out.cell 4⟩ | go_keep)
    (first
    | (go_at_call 65; refine (reg_c _ ?q0 ?q1 _ (HT.out.gr (by first | exact G.out | exact gr_drew G.out))).mono ?_; (case q0 => first | exact BN.out.2.1.1 | exact BN.out.2.2.1.1); (case q1 => first | exact BN.out.2.1.2 | exact BN.out.2.2.1.2); rintro e0 w1 ⟨rfl, hg⟩
       have nK := As.mk (Blk.grown (t := 48) (cs := #[.int .i64 3, .int .i64 c, .int .i64 r, .int .i64 o, .int .i64 n]) (b := g) (by first | exact K.out | exact K.out.drew) hg (by simp)); have nG := As.mk (gr_then (row := none) (by first | exact G.out | exact gr_drew G.out) hg (.inl rfl)); clear K G; have K := nK; have G := nG; clear nK nG; clear hg)
    | (go_at_call 66; refine (cel_c c BN.out.1.1 BN.out.1.2 _ (HT.out.gr (by first | exact G.out | exact gr_drew G.out))).mono ?_; rintro e0 w1 ⟨rfl, hg⟩
       have nK := As.mk (Blk.grown (t := 48) (cs := #[.int .i64 3, .int .i64 c, .int .i64 r, .int .i64 o, .int .i64 n]) (b := g) (by first | exact K.out | exact K.out.drew) hg (by simp)); have nG := As.mk (gr_then (row := none) (by first | exact G.out | exact gr_drew G.out) hg (.inl rfl)); clear K G; have K := nK; have G := nG; clear nK nG; clear hg)
    | (go_at_call 60; refine (itoa_c n BN.out.2.2.2.1 BN.out.2.2.2.2 _ (HT.out.gr (by first | exact G.out | exact gr_drew G.out))).mono ?_; rintro e0 w1 ⟨rfl, hg⟩
       have nK := As.mk (Blk.grown (t := 48) (cs := #[.int .i64 3, .int .i64 c, .int .i64 r, .int .i64 o, .int .i64 n]) (b := g) (by first | exact K.out | exact K.out.drew) hg (by simp)); have nG := As.mk (gr_then (row := none) (by first | exact G.out | exact gr_drew G.out) hg (.inl rfl)); clear K G; have K := nK; have G := nG; clear nK nG; clear hg))
  simp only [Exit.then]
  go_wp2_with fail
  go_ret
  exact ⟨rfl, G.out⟩
set_option maxRecDepth 100000 in
set_option maxHeartbeats 6400000 in
theorem line4_c (c r o n : Int) (w : World) (ht : Tab w) (hc : In64' c) (hr : In64' r) (ho : In64' o) (hn : In64' n) :
    Calls Tryd.prog 43 #[.agg #[.int .i64 4, .int .i64 c, .int .i64 r, .int .i64 o, .int .i64 n]] w fun e w' => e = .returned (.string (lineOf ⟨4, c, r, o, n⟩)) ∧ w.grownBy w' none := by
  have HT := As.mk ht
  have BN := As.mk (And.intro hc (And.intro hr (And.intro ho hn)))
  have ao := num_size o ho.1 ho.2
  have bo := regS_size o
  have ar := num_size r hr.1 hr.2
  have br := regS_size r
  have z0 : ¬ 9223372036854775807 < 3 + (regS r).size := by omega
  have z1 : ¬ 9223372036854775807 < 3 + (regS r).size + (regS o).size := by omega
  clear ao bo ar br
  clear ht hc hr ho hn
  have K := As.mk ((Blk.new w 48 #[.int .i64 4, .int .i64 c, .int .i64 r, .int .i64 o, .int .i64 n]).alloc (.cells namesB 9))
  have G := As.mk (gr_alloc (gr_alloc (gr_refl w none) (.cells #[.int .i64 4, .int .i64 c, .int .i64 r, .int .i64 o, .int .i64 n] 48)) (.cells namesB 9))
  unfold namesB at K G
  go_enter Tryd.func43, Tryd.ntmps43
  go_wp2_with fail
  generalize w.heap.size = g at *
  go_region_held3 (fun w' => w'.cell? ⟨g, 1, none⟩ = some (.int .i64 c) ∧ w'.cell? ⟨g, 2, none⟩ = some (.int .i64 r) ∧ w'.cell? ⟨g, 3, none⟩ = some (.int .i64 o) ∧ w'.cell? ⟨g, 4, none⟩ = some (.int .i64 n))
    (first | exact ⟨K.out.cell 1, K.out.cell 2, K.out.cell 3, K.out.cell 4⟩ | go_keep)
    (first
    | (go_at_call 65; refine (reg_c _ ?q0 ?q1 _ (HT.out.gr (by first | exact G.out | exact gr_drew G.out))).mono ?_; (case q0 => first | exact BN.out.2.1.1 | exact BN.out.2.2.1.1); (case q1 => first | exact BN.out.2.1.2 | exact BN.out.2.2.1.2); rintro e0 w1 ⟨rfl, hg⟩
       have nK := As.mk (Blk.grown (t := 48) (cs := #[.int .i64 4, .int .i64 c, .int .i64 r, .int .i64 o, .int .i64 n]) (b := g) (by first | exact K.out | exact K.out.drew) hg (by simp)); have nG := As.mk (gr_then (row := none) (by first | exact G.out | exact gr_drew G.out) hg (.inl rfl)); clear K G; have K := nK; have G := nG; clear nK nG; clear hg)
    | (go_at_call 66; refine (cel_c c BN.out.1.1 BN.out.1.2 _ (HT.out.gr (by first | exact G.out | exact gr_drew G.out))).mono ?_; rintro e0 w1 ⟨rfl, hg⟩
       have nK := As.mk (Blk.grown (t := 48) (cs := #[.int .i64 4, .int .i64 c, .int .i64 r, .int .i64 o, .int .i64 n]) (b := g) (by first | exact K.out | exact K.out.drew) hg (by simp)); have nG := As.mk (gr_then (row := none) (by first | exact G.out | exact gr_drew G.out) hg (.inl rfl)); clear K G; have K := nK; have G := nG; clear nK nG; clear hg)
    | (go_at_call 60; refine (itoa_c n BN.out.2.2.2.1 BN.out.2.2.2.2 _ (HT.out.gr (by first | exact G.out | exact gr_drew G.out))).mono ?_; rintro e0 w1 ⟨rfl, hg⟩
       have nK := As.mk (Blk.grown (t := 48) (cs := #[.int .i64 4, .int .i64 c, .int .i64 r, .int .i64 o, .int .i64 n]) (b := g) (by first | exact K.out | exact K.out.drew) hg (by simp)); have nG := As.mk (gr_then (row := none) (by first | exact G.out | exact gr_drew G.out) hg (.inl rfl)); clear K G; have K := nK; have G := nG; clear nK nG; clear hg))
  simp only [Exit.then]
  go_wp2_with fail
  go_ret
  exact ⟨rfl, G.out⟩
set_option maxRecDepth 100000 in
set_option maxHeartbeats 6400000 in
theorem line5_c (c r o n : Int) (w : World) (ht : Tab w) (hc : In64' c) (hr : In64' r) (ho : In64' o) (hn : In64' n) :
    Calls Tryd.prog 43 #[.agg #[.int .i64 5, .int .i64 c, .int .i64 r, .int .i64 o, .int .i64 n]] w fun e w' => e = .returned (.string (lineOf ⟨5, c, r, o, n⟩)) ∧ w.grownBy w' none := by
  have HT := As.mk ht
  have BN := As.mk (And.intro hc (And.intro hr (And.intro ho hn)))
  have ao := num_size o ho.1 ho.2
  have bo := regS_size o
  have ar := num_size r hr.1 hr.2
  have br := regS_size r
  have z0 : ¬ 9223372036854775807 < 3 + (regS r).size := by omega
  have z1 : ¬ 9223372036854775807 < 3 + (regS r).size + (regS o).size := by omega
  clear ao bo ar br
  clear ht hc hr ho hn
  have K := As.mk ((Blk.new w 48 #[.int .i64 5, .int .i64 c, .int .i64 r, .int .i64 o, .int .i64 n]).alloc (.cells namesB 9))
  have G := As.mk (gr_alloc (gr_alloc (gr_refl w none) (.cells #[.int .i64 5, .int .i64 c, .int .i64 r, .int .i64 o, .int .i64 n] 48)) (.cells namesB 9))
  unfold namesB at K G
  go_enter Tryd.func43, Tryd.ntmps43
  go_wp2_with fail
  generalize w.heap.size = g at *
  go_region_held3 (fun w' => w'.cell? ⟨g, 1, none⟩ = some (.int .i64 c) ∧ w'.cell? ⟨g, 2, none⟩ = some (.int .i64 r) ∧ w'.cell? ⟨g, 3, none⟩ = some (.int .i64 o) ∧ w'.cell? ⟨g, 4, none⟩ = some (.int .i64 n))
    (first | exact ⟨K.out.cell 1, K.out.cell 2, K.out.cell 3, K.out.cell 4⟩ | go_keep)
    (first
    | (go_at_call 65; refine (reg_c _ ?q0 ?q1 _ (HT.out.gr (by first | exact G.out | exact gr_drew G.out))).mono ?_; (case q0 => first | exact BN.out.2.1.1 | exact BN.out.2.2.1.1); (case q1 => first | exact BN.out.2.1.2 | exact BN.out.2.2.1.2); rintro e0 w1 ⟨rfl, hg⟩
       have nK := As.mk (Blk.grown (t := 48) (cs := #[.int .i64 5, .int .i64 c, .int .i64 r, .int .i64 o, .int .i64 n]) (b := g) (by first | exact K.out | exact K.out.drew) hg (by simp)); have nG := As.mk (gr_then (row := none) (by first | exact G.out | exact gr_drew G.out) hg (.inl rfl)); clear K G; have K := nK; have G := nG; clear nK nG; clear hg)
    | (go_at_call 66; refine (cel_c c BN.out.1.1 BN.out.1.2 _ (HT.out.gr (by first | exact G.out | exact gr_drew G.out))).mono ?_; rintro e0 w1 ⟨rfl, hg⟩
       have nK := As.mk (Blk.grown (t := 48) (cs := #[.int .i64 5, .int .i64 c, .int .i64 r, .int .i64 o, .int .i64 n]) (b := g) (by first | exact K.out | exact K.out.drew) hg (by simp)); have nG := As.mk (gr_then (row := none) (by first | exact G.out | exact gr_drew G.out) hg (.inl rfl)); clear K G; have K := nK; have G := nG; clear nK nG; clear hg)
    | (go_at_call 60; refine (itoa_c n BN.out.2.2.2.1 BN.out.2.2.2.2 _ (HT.out.gr (by first | exact G.out | exact gr_drew G.out))).mono ?_; rintro e0 w1 ⟨rfl, hg⟩
       have nK := As.mk (Blk.grown (t := 48) (cs := #[.int .i64 5, .int .i64 c, .int .i64 r, .int .i64 o, .int .i64 n]) (b := g) (by first | exact K.out | exact K.out.drew) hg (by simp)); have nG := As.mk (gr_then (row := none) (by first | exact G.out | exact gr_drew G.out) hg (.inl rfl)); clear K G; have K := nK; have G := nG; clear nK nG; clear hg))
  simp only [Exit.then]
  go_wp2_with fail
  go_ret
  exact ⟨rfl, G.out⟩
set_option maxRecDepth 100000 in
set_option maxHeartbeats 6400000 in
theorem line6_c (c r o n : Int) (w : World) (ht : Tab w) (hc : In64' c) (hr : In64' r) (ho : In64' o) (hn : In64' n) :
    Calls Tryd.prog 43 #[.agg #[.int .i64 6, .int .i64 c, .int .i64 r, .int .i64 o, .int .i64 n]] w fun e w' => e = .returned (.string (lineOf ⟨6, c, r, o, n⟩)) ∧ w.grownBy w' none := by
  have HT := As.mk ht
  have BN := As.mk (And.intro hc (And.intro hr (And.intro ho hn)))
  have ar := num_size r hr.1 hr.2
  have br := regS_size r
  have z0 : ¬ 9223372036854775807 < 4 + (regS r).size := by omega
  clear ar br
  clear ht hc hr ho hn
  have K := As.mk ((Blk.new w 48 #[.int .i64 6, .int .i64 c, .int .i64 r, .int .i64 o, .int .i64 n]).alloc (.cells namesB 9))
  have G := As.mk (gr_alloc (gr_alloc (gr_refl w none) (.cells #[.int .i64 6, .int .i64 c, .int .i64 r, .int .i64 o, .int .i64 n] 48)) (.cells namesB 9))
  unfold namesB at K G
  go_enter Tryd.func43, Tryd.ntmps43
  go_wp2_with fail
  refine (reg_c r BN.out.2.1.1 BN.out.2.1.2 _ (HT.out.gr G.out)).mono ?_
  rintro e0 w1 ⟨rfl, hg⟩
  have G1 := As.mk (gr_then G.out hg (.inl rfl))
  clear hg K G
  go_wp2_with fail
  go_ret
  exact ⟨rfl, G1.out⟩
set_option maxRecDepth 100000 in
set_option maxHeartbeats 6400000 in
theorem line7_c (c r o n : Int) (w : World) (ht : Tab w) (hc : In64' c) (hr : In64' r) (ho : In64' o) (hn : In64' n) :
    Calls Tryd.prog 43 #[.agg #[.int .i64 7, .int .i64 c, .int .i64 r, .int .i64 o, .int .i64 n]] w fun e w' => e = .returned (.string (lineOf ⟨7, c, r, o, n⟩)) ∧ w.grownBy w' none := by
  have HT := As.mk ht
  have BN := As.mk (And.intro hc (And.intro hr (And.intro ho hn)))
  clear ht hc hr ho hn
  have K := As.mk ((Blk.new w 48 #[.int .i64 7, .int .i64 c, .int .i64 r, .int .i64 o, .int .i64 n]).alloc (.cells namesB 9))
  have G := As.mk (gr_alloc (gr_alloc (gr_refl w none) (.cells #[.int .i64 7, .int .i64 c, .int .i64 r, .int .i64 o, .int .i64 n] 48)) (.cells namesB 9))
  unfold namesB at K G
  go_enter Tryd.func43, Tryd.ntmps43
  go_wp2_with fail
  go_ret
  exact ⟨rfl, G.out⟩
set_option maxRecDepth 100000 in
set_option maxHeartbeats 6400000 in
theorem line8_c (c r o n : Int) (w : World) (ht : Tab w) (hc : In64' c) (hr : In64' r) (ho : In64' o) (hn : In64' n) :
    Calls Tryd.prog 43 #[.agg #[.int .i64 8, .int .i64 c, .int .i64 r, .int .i64 o, .int .i64 n]] w fun e w' => e = .returned (.string (lineOf ⟨8, c, r, o, n⟩)) ∧ w.grownBy w' none := by
  have HT := As.mk ht
  have BN := As.mk (And.intro hc (And.intro hr (And.intro ho hn)))
  clear ht hc hr ho hn
  have K := As.mk ((Blk.new w 48 #[.int .i64 8, .int .i64 c, .int .i64 r, .int .i64 o, .int .i64 n]).alloc (.cells namesB 9))
  have G := As.mk (gr_alloc (gr_alloc (gr_refl w none) (.cells #[.int .i64 8, .int .i64 c, .int .i64 r, .int .i64 o, .int .i64 n] 48)) (.cells namesB 9))
  unfold namesB at K G
  go_enter Tryd.func43, Tryd.ntmps43
  go_wp2_with fail
  go_ret
  exact ⟨rfl, G.out⟩
set_option maxRecDepth 100000 in
set_option maxHeartbeats 6400000 in
theorem line9_c (c r o n : Int) (w : World) (ht : Tab w) (hc : In64' c) (hr : In64' r) (ho : In64' o) (hn : In64' n) :
    Calls Tryd.prog 43 #[.agg #[.int .i64 9, .int .i64 c, .int .i64 r, .int .i64 o, .int .i64 n]] w fun e w' => e = .returned (.string (lineOf ⟨9, c, r, o, n⟩)) ∧ w.grownBy w' none := by
  have HT := As.mk ht
  have BN := As.mk (And.intro hc (And.intro hr (And.intro ho hn)))
  have ac := num_size c hc.1 hc.2
  have bc := celS_size c
  have z0 : ¬ 9223372036854775807 < 4 + (celS c).size := by omega
  clear ac bc
  clear ht hc hr ho hn
  have K := As.mk ((Blk.new w 48 #[.int .i64 9, .int .i64 c, .int .i64 r, .int .i64 o, .int .i64 n]).alloc (.cells namesB 9))
  have G := As.mk (gr_alloc (gr_alloc (gr_refl w none) (.cells #[.int .i64 9, .int .i64 c, .int .i64 r, .int .i64 o, .int .i64 n] 48)) (.cells namesB 9))
  unfold namesB at K G
  go_enter Tryd.func43, Tryd.ntmps43
  go_wp2_with fail
  refine (cel_c c BN.out.1.1 BN.out.1.2 _ (HT.out.gr G.out)).mono ?_
  rintro e0 w1 ⟨rfl, hg⟩
  have G1 := As.mk (gr_then G.out hg (.inl rfl))
  clear hg K G
  go_wp2_with fail
  go_ret
  exact ⟨rfl, G1.out⟩
set_option maxRecDepth 100000 in
set_option maxHeartbeats 6400000 in
theorem line10_c (c r o n : Int) (w : World) (ht : Tab w) (hc : In64' c) (hr : In64' r) (ho : In64' o) (hn : In64' n) :
    Calls Tryd.prog 43 #[.agg #[.int .i64 10, .int .i64 c, .int .i64 r, .int .i64 o, .int .i64 n]] w fun e w' => e = .returned (.string (lineOf ⟨10, c, r, o, n⟩)) ∧ w.grownBy w' none := by
  have HT := As.mk ht
  have BN := As.mk (And.intro hc (And.intro hr (And.intro ho hn)))
  clear ht hc hr ho hn
  have K := As.mk ((Blk.new w 48 #[.int .i64 10, .int .i64 c, .int .i64 r, .int .i64 o, .int .i64 n]).alloc (.cells namesB 9))
  have G := As.mk (gr_alloc (gr_alloc (gr_refl w none) (.cells #[.int .i64 10, .int .i64 c, .int .i64 r, .int .i64 o, .int .i64 n] 48)) (.cells namesB 9))
  unfold namesB at K G
  go_enter Tryd.func43, Tryd.ntmps43
  go_wp2_with fail
  go_ret
  exact ⟨rfl, G.out⟩
set_option maxRecDepth 100000 in
set_option maxHeartbeats 6400000 in
theorem line11_c (c r o n : Int) (w : World) (ht : Tab w) (hc : In64' c) (hr : In64' r) (ho : In64' o) (hn : In64' n) :
    Calls Tryd.prog 43 #[.agg #[.int .i64 11, .int .i64 c, .int .i64 r, .int .i64 o, .int .i64 n]] w fun e w' => e = .returned (.string (lineOf ⟨11, c, r, o, n⟩)) ∧ w.grownBy w' none := by
  have HT := As.mk ht
  have BN := As.mk (And.intro hc (And.intro hr (And.intro ho hn)))
  clear ht hc hr ho hn
  have K := As.mk ((Blk.new w 48 #[.int .i64 11, .int .i64 c, .int .i64 r, .int .i64 o, .int .i64 n]).alloc (.cells namesB 9))
  have G := As.mk (gr_alloc (gr_alloc (gr_refl w none) (.cells #[.int .i64 11, .int .i64 c, .int .i64 r, .int .i64 o, .int .i64 n] 48)) (.cells namesB 9))
  unfold namesB at K G
  go_enter Tryd.func43, Tryd.ntmps43
  go_wp2_with fail
  go_ret
  exact ⟨rfl, G.out⟩
set_option maxRecDepth 100000 in
set_option maxHeartbeats 6400000 in
theorem line12_c (c r o n : Int) (w : World) (ht : Tab w) (hc : In64' c) (hr : In64' r) (ho : In64' o) (hn : In64' n) :
    Calls Tryd.prog 43 #[.agg #[.int .i64 12, .int .i64 c, .int .i64 r, .int .i64 o, .int .i64 n]] w fun e w' => e = .returned (.string (lineOf ⟨12, c, r, o, n⟩)) ∧ w.grownBy w' none := by
  have HT := As.mk ht
  have BN := As.mk (And.intro hc (And.intro hr (And.intro ho hn)))
  clear ht hc hr ho hn
  have K := As.mk ((Blk.new w 48 #[.int .i64 12, .int .i64 c, .int .i64 r, .int .i64 o, .int .i64 n]).alloc (.cells namesB 9))
  have G := As.mk (gr_alloc (gr_alloc (gr_refl w none) (.cells #[.int .i64 12, .int .i64 c, .int .i64 r, .int .i64 o, .int .i64 n] 48)) (.cells namesB 9))
  unfold namesB at K G
  go_enter Tryd.func43, Tryd.ntmps43
  go_wp2_with fail
  go_ret
  exact ⟨rfl, G.out⟩
theorem opline_c (x : POp) (w : World) (ht : Tab w) (hk : inR x.k 1 12 = true) (hc : In64' x.c) (hr : In64' x.r) (ho : In64' x.o) (hn : In64' x.n) :
    Calls Tryd.prog 43 #[.agg #[.int .i64 x.k, .int .i64 x.c, .int .i64 x.r, .int .i64 x.o, .int .i64 x.n]] w fun e w' => e = .returned (.string (lineOf x)) ∧ w.grownBy w' none := by
  obtain ⟨k, c, r, o, n⟩ := x
  have h := inR_true hk
  dsimp only at *
  rcases (show k = 1 ∨ k = 2 ∨ k = 3 ∨ k = 4 ∨ k = 5 ∨ k = 6 ∨ k = 7 ∨ k = 8 ∨ k = 9 ∨ k = 10 ∨ k = 11 ∨ k = 12 by omega) with rfl | rfl | rfl | rfl | rfl | rfl | rfl | rfl | rfl | rfl | rfl | rfl
  · exact line1_c c r o n w ht hc hr ho hn
  · exact line2_c c r o n w ht hc hr ho hn
  · exact line3_c c r o n w ht hc hr ho hn
  · exact line4_c c r o n w ht hc hr ho hn
  · exact line5_c c r o n w ht hc hr ho hn
  · exact line6_c c r o n w ht hc hr ho hn
  · exact line7_c c r o n w ht hc hr ho hn
  · exact line8_c c r o n w ht hc hr ho hn
  · exact line9_c c r o n w ht hc hr ho hn
  · exact line10_c c r o n w ht hc hr ho hn
  · exact line11_c c r o n w ht hc hr ho hn
  · exact line12_c c r o n w ht hc hr ho hn
end Go.Proofs.YtihibljjbdjeoaaDoor
