/-
  DERIVED: THE SHELF's CONTRACTS AT THIS DUMP, IN PLAIN WORDS (tools/lay-plain.mjs out of 'YtkecpgidolphfaaShelf.lean', which tools/lay-shelf.mjs wrote): THE SAME DECLARATIONS UNDER THE SAME NAMES: 'import', 'namespace', 'open', 'def', 'theorem' AND NOTHING ELSE: no command of the shelf's: FOR A HAND-IN. Each laying: the table of numbers ('.._ren') and one theorem, a field a fact of the dump's own or the kernel's comparison; each contract: ONE APPLICATION.
-/
import Derived.Shelf.Small.Bits
import Derived.Shelf.Strconv.Itoa0
import Derived.Shelf.Bits.Mul64
import Derived.Ground.Names2Prog
import Derived.Shelf.Slices.Clone
import Derived.Shelf.Slices.CompactI
import Derived.Shelf.Slices.SearchI
import Derived.Shelf.Slices.Cells
import Derived.Ground.SlgnProg
import Derived.Shelf.SlicesE.Clone
import Derived.Test.YtkecpgidolphfaaProg
namespace Go.Proofs
set_option linter.unusedVariables false
set_option linter.unusedSimpArgs false
open Go.Shelf
def Try.lays128_ren : Go.Shelf.Ren := ⟨fun | 128 => 61 | n => n, fun | 51 => 75 | 3 => 3 | 4 => 4 | 46 => 70 | 5 => 5 | 9 => 9 | n => n, fun | n => n⟩
def Try.lays125_ren : Go.Shelf.Ren := ⟨fun | 125 => 49 | 128 => 61 | 129 => 62 | n => n, fun | 46 => 70 | 3 => 3 | 51 => 75 | 53 => 78 | 4 => 4 | 5 => 5 | 9 => 9 | n => n, fun | n => n⟩
theorem Try.lays125 : Go.Proofs.Lays.n125 Try.prog Try.lays125_ren := {
  mixed := by kernel_rfl
  f125 := Try.func49.trans (congrArg some (by kernel_rfl))
  f128 := Try.func61.trans (congrArg some (by kernel_rfl))
  f129 := Try.func62.trans (congrArg some (by kernel_rfl))
  t3 := Try.underlying3
  a3 := Try.isAgg3
  z3 := Try.sizeOf3
  v3 := Try.zeroValue3
  t4 := Try.underlying4
  a4 := Try.isAgg4
  z4 := Try.sizeOf4
  v4 := Try.zeroValue4
  t5 := Try.underlying5
  a5 := Try.isAgg5
  z5 := Try.sizeOf5
  v5 := Try.zeroValue5
  t9 := Try.underlying9
  a9 := Try.isAgg9
  z9 := Try.sizeOf9
  v9 := Try.zeroValue9
  t46 := Try.underlying70
  a46 := Try.isAgg70
  z46 := Try.sizeOf70
  v46 := Try.zeroValue70
  t51 := Try.underlying75
  a51 := Try.isAgg75
  z51 := Try.sizeOf75
  v51 := Try.zeroValue75
  t53 := Try.underlying78
  a53 := Try.isAgg78
  z53 := Try.sizeOf78
  v53 := Try.zeroValue78 }
theorem Try.bits_Len (x : Int) (w : World) (h0 : 0 ≤ x) (h1 : x ≤ 18446744073709551615) :
    Calls Try.prog 49 #[.int .u64 x] w fun e w' => e = .returned (.int .i64 (Lib.bitLen x.toNat)) ∧ w' = w := Any.bits_Len Try.lays125 x w h0 h1
def Try.lays129_ren : Go.Shelf.Ren := ⟨fun | 129 => 62 | n => n, fun | 53 => 78 | 3 => 3 | 4 => 4 | 46 => 70 | 5 => 5 | 9 => 9 | n => n, fun | n => n⟩
def Try.lays264_ren : Go.Shelf.Ren := ⟨fun | 264 => 51 | n => n, fun | 53 => 78 | 46 => 70 | n => n, fun | n => n⟩
def Try.lays212_ren : Go.Shelf.Ren := ⟨fun | 212 => 47 | 263 => 50 | 264 => 51 | n => n, fun | 46 => 70 | 51 => 75 | 146 => 76 | 53 => 78 | 148 => 79 | n => n, fun | n => n⟩
theorem Try.lays212 : Go.Proofs.Lays.n212 Try.prog Try.lays212_ren := {
  mixed := by kernel_rfl
  f212 := Try.func47.trans (congrArg some (by kernel_rfl))
  f263 := Try.func50.trans (congrArg some (by kernel_rfl))
  f264 := Try.func51.trans (congrArg some (by kernel_rfl))
  t46 := Try.underlying70
  a46 := Try.isAgg70
  z46 := Try.sizeOf70
  v46 := Try.zeroValue70
  t51 := Try.underlying75
  a51 := Try.isAgg75
  z51 := Try.sizeOf75
  v51 := Try.zeroValue75
  t53 := Try.underlying78
  a53 := Try.isAgg78
  z53 := Try.sizeOf78
  v53 := Try.zeroValue78
  t146 := Try.underlying76
  a146 := Try.isAgg76
  z146 := Try.sizeOf76
  v146 := Try.zeroValue76
  t148 := Try.underlying79
  a148 := Try.isAgg79
  z148 := Try.sizeOf79
  v148 := Try.zeroValue79 }
open Go.RowKit Go.Lib in
theorem Try.bits_Mul (x y : Nat) (hx : x < 18446744073709551616) (hy : y < 18446744073709551616) (w : World) :
    Calls Try.prog 47 #[.int .u64 x, .int .u64 y] w fun e w' => e = .returned (.tuple #[.int .u64 ((x * y / 18446744073709551616 : Nat) : Int), .int .u64 ((x * y % 18446744073709551616 : Nat) : Int)]) ∧ w' = w := Any.bits_Mul Try.lays212 x y hx hy w
def Try.laysNm215_ren : Go.Shelf.Ren := ⟨fun | 15 => 39 | n => n, fun | 22 => 23 | 3 => 3 | 4 => 4 | n => n, fun | n => n⟩
def Try.laysNm220_ren : Go.Shelf.Ren := ⟨fun | 20 => 41 | n => n, fun | 22 => 23 | 3 => 3 | 4 => 4 | 0 => 0 | n => n, fun | n => n⟩
theorem Try.laysNm220 : Go.Proofs.Lays2.n20 Try.prog Try.laysNm220_ren := {
  mixed := by kernel_rfl
  f20 := Try.func41.trans (congrArg some (by kernel_rfl))
  t0 := Try.underlying0
  a0 := Try.isAgg0
  z0 := Try.sizeOf0
  v0 := Try.zeroValue0
  t3 := Try.underlying3
  a3 := Try.isAgg3
  z3 := Try.sizeOf3
  v3 := Try.zeroValue3
  t4 := Try.underlying4
  a4 := Try.isAgg4
  z4 := Try.sizeOf4
  v4 := Try.zeroValue4
  t22 := Try.underlying23
  a22 := Try.isAgg23
  z22 := Try.sizeOf23
  v22 := Try.zeroValue23
  i3 := by kernel_rfl }
open Go.RowKit Go.Lib Go.Sort in
theorem Try.slices_Compact_int (blk off cap : Nat) (zs : List Int) (w : World) (hH : Holds (Value.int .i64) w blk off zs.toArray) (hsz : zs.length ≤ 9223372036854775807) (hcap : zs.length ≤ cap) :
    Calls Try.prog 41 #[.slice (some ⟨blk, off, none⟩) zs.length cap] w fun e w' => e = .returned (.slice (some ⟨blk, off, none⟩) (Lib.compact zs).length cap) ∧ ∃ q, w' = putRow (Value.int .i64) (Sort.ahead w q) blk off (Lib.compact zs ++ List.replicate (zs.length - (Lib.compact zs).length) 0).toArray := Any.slices_Compact_int Try.laysNm220 blk off cap zs w hH hsz hcap
open Go.RowKit Go.Lib Go.Sort in
theorem Try.slices_Compact_int_empty (a : Option Addr) (cap : Nat) (w : World) :
    Calls Try.prog 41 #[.slice a 0 cap] w fun e w' => e = .returned (.slice a 0 cap) ∧ w' = w := Any.slices_Compact_int_empty Try.laysNm220 a cap w
def Try.laysNm237_ren : Go.Shelf.Ren := ⟨fun | 37 => 68 | n => n, fun | 3 => 3 | 4 => 4 | n => n, fun | n => n⟩
def Try.laysNm231_ren : Go.Shelf.Ren := ⟨fun | 31 => 58 | 37 => 68 | n => n, fun | 3 => 3 | 4 => 4 | n => n, fun | n => n⟩
def Try.laysSlE041_f39_ren : Go.Shelf.Ren := ⟨fun | 41 => 39 | n => n, fun | 22 => 23 | 23 => 3 | 4 => 4 | n => n, fun | n => n⟩
end Go.Proofs
