/-
  DERIVED: THE SHELF's CONTRACTS AT THIS DUMP, IN PLAIN WORDS (tools/lay-plain.mjs out of 'YtceeabnmleemiaaMkB.lean', which tools/lay-shelf.mjs wrote): THE SAME DECLARATIONS UNDER THE SAME NAMES: 'import', 'namespace', 'open', 'def', 'theorem' AND NOTHING ELSE: no command of the shelf's: FOR A HAND-IN. Each laying: the table of numbers ('.._ren') and one theorem, a field a fact of the dump's own or the kernel's comparison; each contract: ONE APPLICATION.
-/
import Derived.Shelf.SlIterI.Nil
import Derived.Shelf.SortM.Plain
import Derived.Shelf.SortM.SortNone
import Derived.Ground.GgzProg
import Derived.Ground.SlgmProg
import Derived.Test.YtceeabnmleemiaaProg
set_option linter.unusedVariables false
set_option linter.unusedSimpArgs false
namespace Go.Proofs
open Go.Shelf
def Try.keysA_ren : Go.Shelf.Ren := ⟨fun | 7 => 27 | 10 => 38 | n => n, fun | 23 => 76 | 26 => 3 | 3 => 36 | 28 => 79 | 0 => 0 | 27 => 78 | 33 => 95 | 4 => 4 | n => n, fun | n => n⟩
theorem Try.keysA : Go.Proofs.SlLaysZI.n7 Try.prog Try.keysA_ren := {
  mixed := by kernel_rfl
  f7 := ⟨Try.f27.name, by decide, Try.func27.trans (congrArg some (by kernel_rfl))⟩
  f10 := ⟨Try.f38.name, by decide, Try.func38.trans (congrArg some (by kernel_rfl))⟩
  t0 := Try.underlying0
  a0 := Try.isAgg0
  z0 := Try.sizeOf0
  v0 := Try.zeroValue0
  t4 := Try.underlying4
  a4 := Try.isAgg4
  z4 := Try.sizeOf4
  v4 := Try.zeroValue4
  t23 := Try.underlying76
  a23 := Try.isAgg76
  z23 := Try.sizeOf76
  v23 := Try.zeroValue76
  t26 := Try.underlying3
  a26 := Try.isAgg3
  z26 := Try.sizeOf3
  v26 := Try.zeroValue3
  t27 := Try.underlying78
  a27 := Try.isAgg78
  z27 := Try.sizeOf78
  v27 := Try.zeroValue78
  t28 := Try.underlying79
  a28 := Try.isAgg79
  z28 := Try.sizeOf79
  v28 := Try.zeroValue79
  t33 := Try.underlying95
  a33 := Try.isAgg95
  z33 := Try.sizeOf95
  v33 := Try.zeroValue95 }
def Try.sortedA_ren : Go.Shelf.Ren := ⟨fun | 6 => 26 | 8 => 36 | 9 => 37 | 11 => 43 | 13 => 45 | 12 => 44 | 23 => 63 | 24 => 64 | 14 => 54 | 15 => 55 | 16 => 56 | 17 => 57 | 18 => 58 | 19 => 59 | 20 => 60 | 21 => 61 | 22 => 62 | 25 => 72 | 26 => 73 | 27 => 74 | 28 => 75 | 29 => 76 | 30 => 77 | 31 => 82 | n => n, fun | 26 => 3 | 28 => 79 | 24 => 36 | 0 => 0 | 3 => 3 | 37 => 107 | 48 => 129 | 50 => 131 | 4 => 4 | 40 => 121 | 39 => 120 | 45 => 126 | 5 => 5 | 9 => 9 | 51 => 139 | 55 => 143 | 57 => 155 | 58 => 81 | 33 => 95 | n => n, fun | n => n⟩
theorem Try.sortedA : Go.Proofs.SlLaysZI.n6 Try.prog Try.sortedA_ren := {
  mixed := by kernel_rfl
  f6 := ⟨Try.f26.name, by decide, Try.func26.trans (congrArg some (by kernel_rfl))⟩
  f8 := ⟨Try.f36.name, by decide, Try.func36.trans (congrArg some (by kernel_rfl))⟩
  f11 := ⟨Try.f43.name, by decide, Try.func43.trans (congrArg some (by kernel_rfl))⟩
  t0 := Try.underlying0
  a0 := Try.isAgg0
  z0 := Try.sizeOf0
  v0 := Try.zeroValue0
  t24 := Try.underlying36
  a24 := Try.isAgg36
  z24 := Try.sizeOf36
  v24 := Try.zeroValue36
  t26 := Try.underlying3
  a26 := Try.isAgg3
  z26 := Try.sizeOf3
  v26 := Try.zeroValue3
  t28 := Try.underlying79
  a28 := Try.isAgg79
  z28 := Try.sizeOf79
  v28 := Try.zeroValue79
  i26 := by kernel_rfl }
def Try.sortA_ren : Go.Shelf.Ren := ⟨fun | 5 => 37 | 8 => 45 | 7 => 44 | 19 => 63 | 20 => 64 | 10 => 54 | 11 => 55 | 12 => 56 | 13 => 57 | 14 => 58 | 15 => 59 | 16 => 60 | 17 => 61 | 18 => 62 | 30 => 72 | 31 => 73 | 32 => 74 | 33 => 75 | 34 => 76 | 35 => 77 | 40 => 82 | n => n, fun | 23 => 36 | 25 => 3 | 3 => 3 | 32 => 107 | 22 => 36 | 0 => 0 | 44 => 129 | 46 => 131 | 4 => 4 | 36 => 121 | 35 => 120 | 41 => 126 | 5 => 5 | 9 => 9 | 53 => 139 | 57 => 143 | 63 => 155 | 64 => 81 | n => n, fun | n => n⟩
theorem Try.sortA : Go.Proofs.SlLaysM.n5 Try.prog Try.sortA_ren := {
  mixed := by kernel_rfl
  f5 := ⟨Try.f37.name, by decide, Try.func37.trans (congrArg some (by kernel_rfl))⟩
  f7 := ⟨Try.f44.name, by decide, Try.func44.trans (congrArg some (by kernel_rfl))⟩
  f8 := Try.func45.trans (congrArg some (by kernel_rfl))
  f10 := ⟨Try.f54.name, by decide, Try.func54.trans (congrArg some (by kernel_rfl))⟩
  f11 := ⟨Try.f55.name, by decide, Try.func55.trans (congrArg some (by kernel_rfl))⟩
  f12 := ⟨Try.f56.name, by decide, Try.func56.trans (congrArg some (by kernel_rfl))⟩
  f13 := ⟨Try.f57.name, by decide, Try.func57.trans (congrArg some (by kernel_rfl))⟩
  f14 := ⟨Try.f58.name, by decide, Try.func58.trans (congrArg some (by kernel_rfl))⟩
  f15 := ⟨Try.f59.name, by decide, Try.func59.trans (congrArg some (by kernel_rfl))⟩
  f16 := ⟨Try.f60.name, by decide, Try.func60.trans (congrArg some (by kernel_rfl))⟩
  f17 := ⟨Try.f61.name, by decide, Try.func61.trans (congrArg some (by kernel_rfl))⟩
  f18 := ⟨Try.f62.name, by decide, Try.func62.trans (congrArg some (by kernel_rfl))⟩
  f19 := Try.func63.trans (congrArg some (by kernel_rfl))
  f20 := Try.func64.trans (congrArg some (by kernel_rfl))
  f30 := ⟨Try.f72.name, by decide, Try.func72.trans (congrArg some (by kernel_rfl))⟩
  f31 := Try.func73.trans (congrArg some (by kernel_rfl))
  f32 := Try.func74.trans (congrArg some (by kernel_rfl))
  f33 := ⟨Try.f75.name, by decide, Try.func75.trans (congrArg some (by kernel_rfl))⟩
  f34 := ⟨Try.f76.name, by decide, Try.func76.trans (congrArg some (by kernel_rfl))⟩
  f35 := ⟨Try.f77.name, by decide, Try.func77.trans (congrArg some (by kernel_rfl))⟩
  f40 := ⟨Try.f82.name, by decide, Try.func82.trans (congrArg some (by kernel_rfl))⟩
  t0 := Try.underlying0
  a0 := Try.isAgg0
  z0 := Try.sizeOf0
  v0 := Try.zeroValue0
  t3 := Try.underlying3
  a3 := Try.isAgg3
  z3 := Try.sizeOf3
  v3 := Try.zeroValue3
  t4 := Try.underlying4
  a4 := Try.isAgg4
  z4 := Try.sizeOf4
  v4 := Try.zeroValue4
  t5 := Try.underlying5
  a5 := Try.isAgg5
  z5 := Try.sizeOf5
  v5 := Try.zeroValue5
  t9 := Try.underlying9
  a9 := Try.isAgg9
  z9 := Try.sizeOf9
  v9 := Try.zeroValue9
  t22 := Try.underlying36
  a22 := Try.isAgg36
  z22 := Try.sizeOf36
  v22 := Try.zeroValue36
  t23 := Try.underlying36
  a23 := Try.isAgg36
  z23 := Try.sizeOf36
  v23 := Try.zeroValue36
  t25 := Try.underlying3
  a25 := Try.isAgg3
  z25 := Try.sizeOf3
  v25 := Try.zeroValue3
  t32 := Try.underlying107
  a32 := Try.isAgg107
  z32 := Try.sizeOf107
  v32 := Try.zeroValue107
  t35 := Try.underlying120
  a35 := Try.isAgg120
  z35 := Try.sizeOf120
  v35 := Try.zeroValue120
  t36 := Try.underlying121
  a36 := Try.isAgg121
  z36 := Try.sizeOf121
  v36 := Try.zeroValue121
  t41 := Try.underlying126
  a41 := Try.isAgg126
  z41 := Try.sizeOf126
  v41 := Try.zeroValue126
  t44 := Try.underlying129
  a44 := Try.isAgg129
  z44 := Try.sizeOf129
  v44 := Try.zeroValue129
  t46 := Try.underlying131
  a46 := Try.isAgg131
  z46 := Try.sizeOf131
  v46 := Try.zeroValue131
  t53 := Try.underlying139
  a53 := Try.isAgg139
  z53 := Try.sizeOf139
  v53 := Try.zeroValue139
  t57 := Try.underlying143
  a57 := Try.isAgg143
  z57 := Try.sizeOf143
  v57 := Try.zeroValue143
  t63 := Try.underlying155
  a63 := Try.isAgg155
  z63 := Try.sizeOf155
  v63 := Try.zeroValue155
  t64 := Try.underlying81
  a64 := Try.isAgg81
  z64 := Try.sizeOf81
  v64 := Try.zeroValue81 }
end Go.Proofs
