/- Names of transactions as keys; map[api.Tid]bool. -/
import Derived.Test.YtpamncakhffnfaaGreatMk
import Derived.Test.YtpamncakhffnfaaGreatAj
namespace Go.Proofs.YtpamncakhffnfaaGreat
open Go.RowKit Go.Maps
set_option linter.unusedVariables false
set_option maxRecDepth 100000

def K64 (c : Int) : Prop := -9223372036854775808 ≤ c ∧ c ≤ 9223372036854775807
theorem wfK {c : Int} (h : K64 c) : (Lit.int .i64 c).wf = true := by
  obtain ⟨h1, h2⟩ := h
  simp [Lit.wf, IntKind.min, IntKind.max, IntKind.signed, IntKind.bits]
  omega
def tidV (t : PTid) : Value := .agg #[.int .i64 t.n, .int .i64 t.e, .int .i64 t.s]
def tidW (t : PTid) : Prop := K64 t.n ∧ K64 t.e ∧ K64 t.s
def tidL (t : PTid) : Lit := .string (keyBytes [.int .i64 t.n, .int .i64 t.e, .int .i64 t.s])
theorem rowTid : (23 : TypeId) < Tryz.prog.types.size := of_decide_eq_true (by kernel_rfl)
theorem wideTid : (match Tryz.prog.underlying 23 with | some (.array _ _) | some (.struct _) => true | _ => false) = true := by kernel_rfl
theorem lawTid : WideMaps.KeyLaw Tryz.prog 23 := deep_law_laid (show laidOutB Tryz.prog = true by kernel_rfl) (m := 3) (by omega) rowTid (by kernel_rfl) wideTid
theorem keyTid : Tryz.prog.keyType 23 = true := by kernel_rfl
theorem sizeTid : ∃ d, Tryz.prog.types.size + 1 = d + 2 := ⟨Tryz.prog.types.size - 1, by have : 0 < Tryz.prog.types.size := of_decide_eq_true (by kernel_rfl); omega⟩
theorem cellsTid : Tryz.prog.cellsOf 23 = 3 := by kernel_rfl
theorem cellsInt : Tryz.prog.cellsOf 3 = 1 := by kernel_rfl
theorem tid_ok (t : PTid) (h : tidW t) : keyOf Tryz.prog 23 (tidV t) = some (tidL t) := by
  obtain ⟨h1, h2, h3⟩ := h
  obtain ⟨d, hd⟩ := sizeTid
  have f1 := wfK h1
  have f2 := wfK h2
  have f3 := wfK h3
  unfold keyOf
  rw [Tryz.underlying23, hd]
  simp [keyTid, tidV, tidL, Value.formed, Tryz.underlying23, cellsTid, Program.keyLits, Value.cells, Tryz.underlying3, cellsInt, f1, f2, f3]
noncomputable def kyTid : Ky PTid where
  t := 23
  V := tidV
  L := tidL
  W := tidW
  law := Keyed.of_law lawTid
  ok := tid_ok
  inj := fun a b h => by
    obtain ⟨a1, a2, a3⟩ := a
    obtain ⟨b1, b2, b3⟩ := b
    simp [tidV] at h
    obtain ⟨rfl, rfl, rfl⟩ := h
    rfl
noncomputable def elSeenT : Elk kyTid Bool where
  t := 45
  e := 4
  R := plainElem Tryz.prog 4
  E := fun a => .lit (.bool a)
  V := fun a => .bool a
  W := fun _ => True
  z := .bool false
  zd := .lit (.bool false)
  okz := plainElem_bool Tryz.underlying4 false
  ok := fun a _ => plainElem_bool Tryz.underlying4 a
  inv := fun v a ps h => bool_inv h
  invz := fun v ps h => bool_inv h
  ut := Tryz.underlying45
  uz := fun w => by kernel_rfl
end Go.Proofs.YtpamncakhffnfaaGreat
