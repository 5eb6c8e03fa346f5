/-
  DERIVED: THE SHELF's CONTRACTS AT THIS DUMP, IN PLAIN WORDS (tools/lay-plain.mjs out of 'TryShelf.lean', which tools/lay-shelf.mjs wrote): THE SAME DECLARATIONS UNDER THE SAME NAMES: 'import', 'namespace', 'open', 'def', 'theorem' AND NOTHING ELSE: no command of the shelf's: FOR A HAND-IN. Each laying: the table of numbers ('.._ren') and one theorem, a field a fact of the dump's own or the kernel's comparison; each contract: ONE APPLICATION.
-/
import Derived.Shelf.Sort.Plain
import Derived.Ground.Names2Prog
import Derived.Shelf.Slices.In.SortNone
import Derived.Shelf.SlIterI.Nil
import Derived.Ground.GgzProg
import Derived.Test.YtggkejkleficoaaProg
namespace Go.Proofs
open Go.Shelf
def Try.lays189_ren : Go.Shelf.Ren := ⟨fun | 189 => 39 | 125 => 44 | 257 => 43 | 128 => 54 | 129 => 55 | 294 => 45 | 295 => 46 | 296 => 47 | 297 => 48 | 298 => 49 | 299 => 50 | 216 => 51 | 300 => 52 | 301 => 53 | 328 => 56 | 329 => 57 | 330 => 58 | 331 => 59 | 332 => 60 | 215 => 61 | 343 => 62 | n => n, fun | 28 => 70 | 3 => 3 | 46 => 84 | 0 => 0 | 51 => 94 | 53 => 96 | 4 => 4 | 183 => 87 | 182 => 86 | 131 => 35 | 5 => 5 | 9 => 9 | 218 => 97 | 222 => 101 | 228 => 103 | 229 => 104 | n => n, fun | n => n⟩
theorem Try.lays189 : Go.Proofs.Lays.n189 Try.prog Try.lays189_ren := {
  mixed := by kernel_rfl
  f125 := Try.func44.trans (congrArg some (by kernel_rfl))
  f128 := Try.func54.trans (congrArg some (by kernel_rfl))
  f129 := Try.func55.trans (congrArg some (by kernel_rfl))
  f189 := Try.func39.trans (congrArg some (by kernel_rfl))
  f215 := Try.func61.trans (congrArg some (by kernel_rfl))
  f216 := Try.func51.trans (congrArg some (by kernel_rfl))
  f257 := Try.func43.trans (congrArg some (by kernel_rfl))
  f294 := Try.func45.trans (congrArg some (by kernel_rfl))
  f295 := Try.func46.trans (congrArg some (by kernel_rfl))
  f296 := Try.func47.trans (congrArg some (by kernel_rfl))
  f297 := Try.func48.trans (congrArg some (by kernel_rfl))
  f298 := Try.func49.trans (congrArg some (by kernel_rfl))
  f299 := Try.func50.trans (congrArg some (by kernel_rfl))
  f300 := Try.func52.trans (congrArg some (by kernel_rfl))
  f301 := Try.func53.trans (congrArg some (by kernel_rfl))
  f328 := Try.func56.trans (congrArg some (by kernel_rfl))
  f329 := Try.func57.trans (congrArg some (by kernel_rfl))
  f330 := Try.func58.trans (congrArg some (by kernel_rfl))
  f331 := Try.func59.trans (congrArg some (by kernel_rfl))
  f332 := Try.func60.trans (congrArg some (by kernel_rfl))
  f343 := Try.func62.trans (congrArg some (by kernel_rfl))
  t0 := Try.underlying0
  a0 := Try.isAgg0
  z0 := Try.sizeOf0
  v0 := Try.zeroValue0
  t3 := Try.underlying3
  a3 := Try.isAgg3
  z3 := Try.sizeOf3
  v3 := Try.zeroValue3
  t4 := Try.underlying4
  a4 := Try.isAgg4
  z4 := Try.sizeOf4
  v4 := Try.zeroValue4
  t5 := Try.underlying5
  a5 := Try.isAgg5
  z5 := Try.sizeOf5
  v5 := Try.zeroValue5
  t9 := Try.underlying9
  a9 := Try.isAgg9
  z9 := Try.sizeOf9
  v9 := Try.zeroValue9
  t28 := Try.underlying70
  a28 := Try.isAgg70
  z28 := Try.sizeOf70
  v28 := Try.zeroValue70
  t46 := Try.underlying84
  a46 := Try.isAgg84
  z46 := Try.sizeOf84
  v46 := Try.zeroValue84
  t51 := Try.underlying94
  a51 := Try.isAgg94
  z51 := Try.sizeOf94
  v51 := Try.zeroValue94
  t53 := Try.underlying96
  a53 := Try.isAgg96
  z53 := Try.sizeOf96
  v53 := Try.zeroValue96
  t131 := Try.underlying35
  a131 := Try.isAgg35
  z131 := Try.sizeOf35
  v131 := Try.zeroValue35
  t182 := Try.underlying86
  a182 := Try.isAgg86
  z182 := Try.sizeOf86
  v182 := Try.zeroValue86
  t183 := Try.underlying87
  a183 := Try.isAgg87
  z183 := Try.sizeOf87
  v183 := Try.zeroValue87
  t218 := Try.underlying97
  a218 := Try.isAgg97
  z218 := Try.sizeOf97
  v218 := Try.zeroValue97
  t222 := Try.underlying101
  a222 := Try.isAgg101
  z222 := Try.sizeOf101
  v222 := Try.zeroValue101
  t228 := Try.underlying103
  a228 := Try.isAgg103
  z228 := Try.sizeOf103
  v228 := Try.zeroValue103
  t229 := Try.underlying104
  a229 := Try.isAgg104
  z229 := Try.sizeOf104
  v229 := Try.zeroValue104 }
open Go.Sort Go.RowKit in
theorem Try.slices_Sort_int (blk off cap : Nat) (zs : List Int) (w : World) (hH : Holds (Value.int .i64) w blk off zs.toArray) (hblk : blk < w.heap.size) (hsz : zs.length < 4611686018427387904) :
    Calls Try.prog 39 #[.slice (some ⟨blk, off, none⟩) zs.length cap] w fun e w' =>
      e = .returned (.tuple #[]) ∧ ∃ n os, w' = grow (putRow (Value.int .i64) (Sort.ahead w n) blk off (zs.mergeSort fun x y => decide (x ≤ y)).toArray) os := Any.slices_Sort_int Try.lays189 blk off cap zs w hH hblk hsz
open Go.RowKit Go.Sort in
/-- .. and plain. (LAID: no walk: one application.) -/
theorem Try.slices_Sort_int_none (p : Option Addr) (cap : Nat) (w : World) :
    Calls Try.prog 39 #[.slice p 0 cap] w fun e w' => e = .returned (.tuple #[]) ∧ w' = w := Any.slices_Sort_int_none Try.lays189 p cap w
def Try.keysA_ren : Go.Shelf.Ren := ⟨fun | 7 => 34 | 10 => 40 | n => n, fun | 23 => 55 | 26 => 3 | 3 => 64 | 28 => 73 | 0 => 0 | 27 => 72 | 33 => 49 | 4 => 4 | n => n, fun | n => n⟩
theorem Try.keysA : Go.Proofs.SlLaysZI.n7 Try.prog Try.keysA_ren := {
  mixed := by kernel_rfl
  f7 := ⟨Try.f34.name, by decide, Try.func34.trans (congrArg some (by kernel_rfl))⟩
  f10 := ⟨Try.f40.name, by decide, Try.func40.trans (congrArg some (by kernel_rfl))⟩
  t0 := Try.underlying0
  a0 := Try.isAgg0
  z0 := Try.sizeOf0
  v0 := Try.zeroValue0
  t4 := Try.underlying4
  a4 := Try.isAgg4
  z4 := Try.sizeOf4
  v4 := Try.zeroValue4
  t23 := Try.underlying55
  a23 := Try.isAgg55
  z23 := Try.sizeOf55
  v23 := Try.zeroValue55
  t26 := Try.underlying3
  a26 := Try.isAgg3
  z26 := Try.sizeOf3
  v26 := Try.zeroValue3
  t27 := Try.underlying72
  a27 := Try.isAgg72
  z27 := Try.sizeOf72
  v27 := Try.zeroValue72
  t28 := Try.underlying73
  a28 := Try.isAgg73
  z28 := Try.sizeOf73
  v28 := Try.zeroValue73
  t33 := Try.underlying49
  a33 := Try.isAgg49
  z33 := Try.sizeOf49
  v33 := Try.zeroValue49 }
def Try.sortedA_ren : Go.Shelf.Ren := ⟨fun | 6 => 33 | 8 => 38 | 9 => 39 | 11 => 42 | 13 => 44 | 12 => 43 | 23 => 54 | 24 => 55 | 14 => 45 | 15 => 46 | 16 => 47 | 17 => 48 | 18 => 49 | 19 => 50 | 20 => 51 | 21 => 52 | 22 => 53 | 25 => 56 | 26 => 57 | 27 => 58 | 28 => 59 | 29 => 60 | 30 => 61 | 31 => 62 | n => n, fun | 26 => 3 | 28 => 73 | 24 => 70 | 0 => 0 | 3 => 3 | 37 => 84 | 48 => 94 | 50 => 96 | 4 => 4 | 40 => 87 | 39 => 86 | 45 => 35 | 5 => 5 | 9 => 9 | 51 => 97 | 55 => 101 | 57 => 103 | 58 => 104 | 33 => 49 | n => n, fun | n => n⟩
theorem Try.sortedA : Go.Proofs.SlLaysZI.n6 Try.prog Try.sortedA_ren := {
  mixed := by kernel_rfl
  f6 := ⟨Try.f33.name, by decide, Try.func33.trans (congrArg some (by kernel_rfl))⟩
  f8 := ⟨Try.f38.name, by decide, Try.func38.trans (congrArg some (by kernel_rfl))⟩
  f11 := ⟨Try.f42.name, by decide, Try.func42.trans (congrArg some (by kernel_rfl))⟩
  t0 := Try.underlying0
  a0 := Try.isAgg0
  z0 := Try.sizeOf0
  v0 := Try.zeroValue0
  t24 := Try.underlying70
  a24 := Try.isAgg70
  z24 := Try.sizeOf70
  v24 := Try.zeroValue70
  t26 := Try.underlying3
  a26 := Try.isAgg3
  z26 := Try.sizeOf3
  v26 := Try.zeroValue3
  t28 := Try.underlying73
  a28 := Try.isAgg73
  z28 := Try.sizeOf73
  v28 := Try.zeroValue73
  i26 := by kernel_rfl }
end Go.Proofs
