/- The table of types of this dump. Made by program. -/
import Derived.Test.YtkecpgidolphfaaSk16
import Derived.Test.YtkecpgidolphfaaProg
import Derived.KernelRfl
namespace Go.Proofs.Ytkecpgidolphfaa
set_option linter.unusedVariables false
set_option linter.unusedSimpArgs false
open Go Go.Sk
def TokE (P : Program) (t : TypeId) (i : TI) : Prop := ∃ info, P.info? t = some info ∧ P.underlying t = some i.desc ∧ info.size = i.size ∧ info.bytes = i.bytes ∧ info.zero = some i.zero ∧ i.zero.cells.size = i.size
theorem tok_entry {P : Program} {t : TypeId} {i : TI} (hu : P.underlying t = some i.desc) (h : (P.info? t).map (fun j => (j.size, j.bytes, j.zero)) = some (i.size, i.bytes, some i.zero)) (hz : i.zero.cells.size = i.size) :
    TokE P t i := by
  cases hi : P.info? t with
  | none => rw [hi] at h; cases h
  | some info =>
    rw [hi] at h
    simp only [Option.map_some, Option.some.injEq, Prod.mk.injEq] at h
    exact ⟨info, hi, hu, h.1, h.2.1, h.2.2, hz⟩
def tokL (P : Program) : List (Nat × TI) → Prop
  | [] => True
  | (t, i) :: r => TokE P t i ∧ tokL P r
theorem tokL_get {P : Program} : ∀ {l : List (Nat × TI)}, tokL P l → ∀ t i, Go.Sk.look l t = some i → ∃ info, P.info? t = some info ∧ P.underlying t = some i.desc ∧ info.size = i.size ∧ info.bytes = i.bytes ∧ info.zero = some i.zero ∧ i.zero.cells.size = i.size
  | [], _, t, i, h => by simp [Go.Sk.look] at h
  | (t', j) :: r, hl, t, i, h => by
    unfold Go.Sk.look at h
    split at h
    · rename_i e; subst e; injection h with h; subst h; exact hl.1
    · exact tokL_get hl.2 t i h
def ti1 : TI := ⟨.func #[] #[] false, 1, 8, .nilFunc⟩
def ti2 : TI := ⟨.int .i64, 1, 8, .int .i64 0⟩
def ti3 : TI := ⟨.int .i64, 1, 8, .int .i64 0⟩
def ti4 : TI := ⟨.bool, 1, 1, .bool false⟩
def ti5 : TI := ⟨.int .u8, 1, 1, .int .u8 0⟩
def ti6 : TI := ⟨.int .u8, 1, 1, .int .u8 0⟩
def ti7 : TI := ⟨.struct #[{ name := "x", type := 2, offset := 0, embedded := false, tag := "", pkgPath := "runtime", byteOffset := 0 }, { name := "y", type := 3, offset := 1, embedded := false, tag := "", pkgPath := "runtime", byteOffset := 8 }, { name := "signed", type := 4, offset := 2, embedded := false, tag := "", pkgPath := "runtime", byteOffset := 16 }, { name := "code", type := 6, offset := 3, embedded := false, tag := "", pkgPath := "runtime", byteOffset := 17 }], 4, 24, .agg #[.int .i64 0, .int .i64 0, .bool false, .int .u8 0]⟩
def ti8 : TI := ⟨.struct #[{ name := "x", type := 2, offset := 0, embedded := false, tag := "", pkgPath := "runtime", byteOffset := 0 }, { name := "y", type := 3, offset := 1, embedded := false, tag := "", pkgPath := "runtime", byteOffset := 8 }, { name := "signed", type := 4, offset := 2, embedded := false, tag := "", pkgPath := "runtime", byteOffset := 16 }, { name := "code", type := 6, offset := 3, embedded := false, tag := "", pkgPath := "runtime", byteOffset := 17 }], 4, 24, .agg #[.int .i64 0, .int .i64 0, .bool false, .int .u8 0]⟩
def ti9 : TI := ⟨.string, 1, 16, .string ⟨#[]⟩⟩
def ti10 : TI := ⟨.string, 1, 16, .string ⟨#[]⟩⟩
def ti11 : TI := ⟨.string, 1, 16, .string ⟨#[]⟩⟩
def ti12 : TI := ⟨.int .u64, 1, 8, .int .u64 0⟩
def ti13 : TI := ⟨.struct #[{ name := "msg", type := 9, offset := 0, embedded := false, tag := "", pkgPath := "runtime", byteOffset := 0 }, { name := "addr", type := 12, offset := 1, embedded := false, tag := "", pkgPath := "runtime", byteOffset := 16 }], 2, 24, .agg #[.string ⟨#[]⟩, .int .u64 0]⟩
def ti14 : TI := ⟨.struct #[{ name := "msg", type := 9, offset := 0, embedded := false, tag := "", pkgPath := "runtime", byteOffset := 0 }, { name := "addr", type := 12, offset := 1, embedded := false, tag := "", pkgPath := "runtime", byteOffset := 16 }], 2, 24, .agg #[.string ⟨#[]⟩, .int .u64 0]⟩
def ti15 : TI := ⟨.pointer 103, 1, 8, .pointer none⟩
def ti16 : TI := ⟨.pointer 106, 1, 8, .pointer none⟩
def ti17 : TI := ⟨.pointer 115, 1, 8, .pointer none⟩
def ti18 : TI := ⟨.struct #[{ name := "typ", type := 17, offset := 0, embedded := false, tag := "", pkgPath := "internal/runtime/maps", byteOffset := 0 }], 1, 8, .agg #[.pointer none]⟩
def ti19 : TI := ⟨.struct #[{ name := "typ", type := 17, offset := 0, embedded := false, tag := "", pkgPath := "internal/runtime/maps", byteOffset := 0 }], 1, 8, .agg #[.pointer none]⟩
def ti21 : TI := ⟨.int .i32, 1, 4, .int .i32 0⟩
def ti22 : TI := ⟨.slice 23, 1, 24, .slice none 0 0⟩
def ti23 : TI := ⟨.slice 3, 1, 24, .slice none 0 0⟩
def ti24 : TI := ⟨.struct #[{ name := "Cells", type := 3, offset := 0, embedded := false, tag := "", pkgPath := "", byteOffset := 0 }, { name := "Next", type := 22, offset := 1, embedded := false, tag := "", pkgPath := "", byteOffset := 8 }, { name := "Turn", type := 23, offset := 2, embedded := false, tag := "", pkgPath := "", byteOffset := 32 }], 3, 56, .agg #[.int .i64 0, .slice none 0 0, .slice none 0 0]⟩
def ti25 : TI := ⟨.struct #[{ name := "Cells", type := 3, offset := 0, embedded := false, tag := "", pkgPath := "", byteOffset := 0 }, { name := "Next", type := 22, offset := 1, embedded := false, tag := "", pkgPath := "", byteOffset := 8 }, { name := "Turn", type := 23, offset := 2, embedded := false, tag := "", pkgPath := "", byteOffset := 32 }], 3, 56, .agg #[.int .i64 0, .slice none 0 0, .slice none 0 0]⟩
def ti26 : TI := ⟨.array 32 5, 32, 32, .agg #[.int .u8 0, .int .u8 0, .int .u8 0, .int .u8 0, .int .u8 0, .int .u8 0, .int .u8 0, .int .u8 0, .int .u8 0, .int .u8 0, .int .u8 0, .int .u8 0, .int .u8 0, .int .u8 0, .int .u8 0, .int .u8 0, .int .u8 0, .int .u8 0, .int .u8 0, .int .u8 0, .int .u8 0, .int .u8 0, .int .u8 0, .int .u8 0, .int .u8 0, .int .u8 0, .int .u8 0, .int .u8 0, .int .u8 0, .int .u8 0, .int .u8 0, .int .u8 0]⟩
def ti27 : TI := ⟨.struct #[{ name := "Cells", type := 5, offset := 0, embedded := false, tag := "", pkgPath := "", byteOffset := 0 }, { name := "Dirs", type := 5, offset := 1, embedded := false, tag := "", pkgPath := "", byteOffset := 1 }, { name := "Turn", type := 5, offset := 2, embedded := false, tag := "", pkgPath := "", byteOffset := 2 }, { name := "Next", type := 26, offset := 3, embedded := false, tag := "", pkgPath := "", byteOffset := 3 }], 35, 35, .agg #[.int .u8 0, .int .u8 0, .int .u8 0, .int .u8 0, .int .u8 0, .int .u8 0, .int .u8 0, .int .u8 0, .int .u8 0, .int .u8 0, .int .u8 0, .int .u8 0, .int .u8 0, .int .u8 0, .int .u8 0, .int .u8 0, .int .u8 0, .int .u8 0, .int .u8 0, .int .u8 0, .int .u8 0, .int .u8 0, .int .u8 0, .int .u8 0, .int .u8 0, .int .u8 0, .int .u8 0, .int .u8 0, .int .u8 0, .int .u8 0, .int .u8 0, .int .u8 0, .int .u8 0, .int .u8 0, .int .u8 0]⟩
def ti28 : TI := ⟨.struct #[{ name := "Cells", type := 5, offset := 0, embedded := false, tag := "", pkgPath := "", byteOffset := 0 }, { name := "Dirs", type := 5, offset := 1, embedded := false, tag := "", pkgPath := "", byteOffset := 1 }, { name := "Turn", type := 5, offset := 2, embedded := false, tag := "", pkgPath := "", byteOffset := 2 }, { name := "Next", type := 26, offset := 3, embedded := false, tag := "", pkgPath := "", byteOffset := 3 }], 35, 35, .agg #[.int .u8 0, .int .u8 0, .int .u8 0, .int .u8 0, .int .u8 0, .int .u8 0, .int .u8 0, .int .u8 0, .int .u8 0, .int .u8 0, .int .u8 0, .int .u8 0, .int .u8 0, .int .u8 0, .int .u8 0, .int .u8 0, .int .u8 0, .int .u8 0, .int .u8 0, .int .u8 0, .int .u8 0, .int .u8 0, .int .u8 0, .int .u8 0, .int .u8 0, .int .u8 0, .int .u8 0, .int .u8 0, .int .u8 0, .int .u8 0, .int .u8 0, .int .u8 0, .int .u8 0, .int .u8 0, .int .u8 0]⟩
def ti29 : TI := ⟨.int .i16, 1, 2, .int .i16 0⟩
def ti30 : TI := ⟨.array 4 29, 4, 8, .agg #[.int .i16 0, .int .i16 0, .int .i16 0, .int .i16 0]⟩
def ti31 : TI := ⟨.func #[] #[4] false, 1, 8, .nilFunc⟩
def ti32 : TI := ⟨.func #[28] #[25] false, 1, 8, .nilFunc⟩
def ti33 : TI := ⟨.func #[25] #[4] false, 1, 8, .nilFunc⟩
def ti34 : TI := ⟨.int .u16, 1, 2, .int .u16 0⟩
def ti35 : TI := ⟨.func #[25, 28, 30] #[4] false, 1, 8, .nilFunc⟩
def ti36 : TI := ⟨.func #[25, 3, 3, 3] #[3] false, 1, 8, .nilFunc⟩
def ti37 : TI := ⟨.func #[25, 3, 3, 3] #[23] false, 1, 8, .nilFunc⟩
def ti38 : TI := ⟨.func #[28, 29] #[4] false, 1, 8, .nilFunc⟩
def ti39 : TI := ⟨.func #[23, 3] #[4] false, 1, 8, .nilFunc⟩
def ti40 : TI := ⟨.func #[28, 4] #[4] false, 1, 8, .nilFunc⟩
def ti41 : TI := ⟨.func #[25] #[23] false, 1, 8, .nilFunc⟩
def ti42 : TI := ⟨.func #[25, 3] #[23] false, 1, 8, .nilFunc⟩
def ti43 : TI := ⟨.func #[28] #[4] false, 1, 8, .nilFunc⟩
def ti44 : TI := ⟨.int .i64, 1, 8, .int .i64 0⟩
def ti46 : TI := ⟨.func #[25, 3] #[25, 44] false, 1, 8, .nilFunc⟩
def ti47 : TI := ⟨.func #[25, 25] #[4] false, 1, 8, .nilFunc⟩
def ti48 : TI := ⟨.func #[28, 5] #[4] false, 1, 8, .nilFunc⟩
def ti49 : TI := ⟨.func #[23, 23] #[4] false, 1, 8, .nilFunc⟩
def ti50 : TI := ⟨.func #[22, 22] #[4] false, 1, 8, .nilFunc⟩
def ti51 : TI := ⟨.func #[25] #[22] false, 1, 8, .nilFunc⟩
def ti52 : TI := ⟨.func #[28, 30] #[4] false, 1, 8, .nilFunc⟩
def ti53 : TI := ⟨.int .i8, 1, 1, .int .i8 0⟩
def ti54 : TI := ⟨.func #[3, 3] #[25, 44] false, 1, 8, .nilFunc⟩
def ti55 : TI := ⟨.func #[53, 53, 5] #[4] false, 1, 8, .nilFunc⟩
def ti56 : TI := ⟨.func #[3, 3, 3] #[4] false, 1, 8, .nilFunc⟩
def ti57 : TI := ⟨.func #[23, 58] #[4] false, 1, 8, .nilFunc⟩
def ti58 : TI := ⟨.func #[3] #[4] false, 1, 8, .nilFunc⟩
def ti59 : TI := ⟨.func #[58] #[] false, 1, 8, .nilFunc⟩
def ti60 : TI := ⟨.func #[58] #[] false, 1, 8, .nilFunc⟩
def ti61 : TI := ⟨.func #[25, 3, 3, 3] #[60] false, 1, 8, .nilFunc⟩
def ti62 : TI := ⟨.func #[23, 3] #[23] false, 1, 8, .nilFunc⟩
def ti63 : TI := ⟨.func #[23] #[23] false, 1, 8, .nilFunc⟩
def ti64 : TI := ⟨.func #[23] #[] false, 1, 8, .nilFunc⟩
def ti65 : TI := ⟨.func #[25, 3, 3] #[4] false, 1, 8, .nilFunc⟩
def ti66 : TI := ⟨.array 2 3, 2, 16, .agg #[.int .i64 0, .int .i64 0]⟩
def ti67 : TI := ⟨.array 8 66, 16, 128, .agg #[.int .i64 0, .int .i64 0, .int .i64 0, .int .i64 0, .int .i64 0, .int .i64 0, .int .i64 0, .int .i64 0, .int .i64 0, .int .i64 0, .int .i64 0, .int .i64 0, .int .i64 0, .int .i64 0, .int .i64 0, .int .i64 0]⟩
def ti68 : TI := ⟨.func #[23, 58] #[3] false, 1, 8, .nilFunc⟩
def ti69 : TI := ⟨.func #[23, 3] #[3] false, 1, 8, .nilFunc⟩
def ti70 : TI := ⟨.int .u64, 1, 8, .int .u64 0⟩
def ti72 : TI := ⟨.func #[70, 70] #[70, 70] false, 1, 8, .nilFunc⟩
def ti73 : TI := ⟨.func #[23, 3, 3, 3] #[] false, 1, 8, .nilFunc⟩
def ti74 : TI := ⟨.func #[70] #[3] false, 1, 8, .nilFunc⟩
def ti75 : TI := ⟨.int .u32, 1, 4, .int .u32 0⟩
def ti77 : TI := ⟨.func #[75, 75] #[75, 75] false, 1, 8, .nilFunc⟩
def ti78 : TI := ⟨.int .u64, 1, 8, .int .u64 0⟩
def ti80 : TI := ⟨.func #[78, 78] #[78, 78] false, 1, 8, .nilFunc⟩
def ti81 : TI := ⟨.func #[23, 3, 3] #[] false, 1, 8, .nilFunc⟩
def ti82 : TI := ⟨.int .i64, 1, 8, .int .i64 0⟩
def ti84 : TI := ⟨.func #[23, 3, 3] #[3, 82] false, 1, 8, .nilFunc⟩
def ti85 : TI := ⟨.func #[23, 3, 3] #[4] false, 1, 8, .nilFunc⟩
def ti86 : TI := ⟨.func #[3, 3] #[4] false, 1, 8, .nilFunc⟩
def ti87 : TI := ⟨.func #[23, 3, 3, 3] #[3] false, 1, 8, .nilFunc⟩
def ti89 : TI := ⟨.func #[23, 3, 3, 3] #[3, 4] false, 1, 8, .nilFunc⟩
def ti90 : TI := ⟨.func #[75] #[3] false, 1, 8, .nilFunc⟩
def ti91 : TI := ⟨.func #[78] #[3] false, 1, 8, .nilFunc⟩
def ti92 : TI := ⟨.int .u64, 1, 8, .int .u64 0⟩
def ti93 : TI := ⟨.func #[3] #[70] false, 1, 8, .nilFunc⟩
def ti94 : TI := ⟨.func #[] #[78] false, 1, 8, .nilFunc⟩
def ti95 : TI := ⟨.func #[23, 3, 96] #[3] false, 1, 8, .nilFunc⟩
def ti96 : TI := ⟨.pointer 3, 1, 8, .pointer none⟩
def ti97 : TI := ⟨.func #[23, 3, 3, 3, 96] #[3] false, 1, 8, .nilFunc⟩
def ti98 : TI := ⟨.pointer 92, 1, 8, .pointer none⟩
def ti100 : TI := ⟨.func #[23, 3, 3, 96] #[3, 3] false, 1, 8, .nilFunc⟩
def ti101 : TI := ⟨.func #[] #[9] false, 1, 8, .nilFunc⟩
def ti102 : TI := ⟨.struct #[{ name := "_interface", type := 17, offset := 0, embedded := false, tag := "", pkgPath := "runtime", byteOffset := 0 }, { name := "concrete", type := 17, offset := 1, embedded := false, tag := "", pkgPath := "runtime", byteOffset := 8 }, { name := "asserted", type := 17, offset := 2, embedded := false, tag := "", pkgPath := "runtime", byteOffset := 16 }, { name := "missingMethod", type := 9, offset := 3, embedded := false, tag := "", pkgPath := "runtime", byteOffset := 24 }], 4, 40, .agg #[.pointer none, .pointer none, .pointer none, .string ⟨#[]⟩]⟩
def ti103 : TI := ⟨.struct #[{ name := "_interface", type := 17, offset := 0, embedded := false, tag := "", pkgPath := "runtime", byteOffset := 0 }, { name := "concrete", type := 17, offset := 1, embedded := false, tag := "", pkgPath := "runtime", byteOffset := 8 }, { name := "asserted", type := 17, offset := 2, embedded := false, tag := "", pkgPath := "runtime", byteOffset := 16 }, { name := "missingMethod", type := 9, offset := 3, embedded := false, tag := "", pkgPath := "runtime", byteOffset := 24 }], 4, 40, .agg #[.pointer none, .pointer none, .pointer none, .string ⟨#[]⟩]⟩
def ti104 : TI := ⟨.array 0 16, 0, 0, .agg #[]⟩
def ti105 : TI := ⟨.struct #[{ name := "_", type := 104, offset := 0, embedded := false, tag := "", pkgPath := "runtime", byteOffset := 0 }], 0, 0, .agg #[]⟩
def ti106 : TI := ⟨.struct #[{ name := "_", type := 104, offset := 0, embedded := false, tag := "", pkgPath := "runtime", byteOffset := 0 }], 0, 0, .agg #[]⟩
def ti107 : TI := ⟨.func #[] #[3] false, 1, 8, .nilFunc⟩
def ti108 : TI := ⟨.int .u8, 1, 1, .int .u8 0⟩
def ti109 : TI := ⟨.int .u8, 1, 1, .int .u8 0⟩
def ti110 : TI := ⟨.func #[116, 116] #[4] false, 1, 8, .nilFunc⟩
def ti111 : TI := ⟨.pointer 5, 1, 8, .pointer none⟩
def ti112 : TI := ⟨.int .i32, 1, 4, .int .i32 0⟩
def ti113 : TI := ⟨.int .i32, 1, 4, .int .i32 0⟩
def ti114 : TI := ⟨.struct #[{ name := "Size_", type := 12, offset := 0, embedded := false, tag := "", pkgPath := "", byteOffset := 0 }, { name := "PtrBytes", type := 12, offset := 1, embedded := false, tag := "", pkgPath := "", byteOffset := 8 }, { name := "Hash", type := 75, offset := 2, embedded := false, tag := "", pkgPath := "", byteOffset := 16 }, { name := "TFlag", type := 108, offset := 3, embedded := false, tag := "", pkgPath := "", byteOffset := 20 }, { name := "Align_", type := 5, offset := 4, embedded := false, tag := "", pkgPath := "", byteOffset := 21 }, { name := "FieldAlign_", type := 5, offset := 5, embedded := false, tag := "", pkgPath := "", byteOffset := 22 }, { name := "Kind_", type := 109, offset := 6, embedded := false, tag := "", pkgPath := "", byteOffset := 23 }, { name := "Equal", type := 110, offset := 7, embedded := false, tag := "", pkgPath := "", byteOffset := 24 }, { name := "GCData", type := 111, offset := 8, embedded := false, tag := "", pkgPath := "", byteOffset := 32 }, { name := "Str", type := 112, offset := 9, embedded := false, tag := "", pkgPath := "", byteOffset := 40 }, { name := "PtrToThis", type := 113, offset := 10, embedded := false, tag := "", pkgPath := "", byteOffset := 44 }], 11, 48, .agg #[.int .u64 0, .int .u64 0, .int .u32 0, .int .u8 0, .int .u8 0, .int .u8 0, .int .u8 0, .nilFunc, .pointer none, .int .i32 0, .int .i32 0]⟩
def ti115 : TI := ⟨.struct #[{ name := "Size_", type := 12, offset := 0, embedded := false, tag := "", pkgPath := "", byteOffset := 0 }, { name := "PtrBytes", type := 12, offset := 1, embedded := false, tag := "", pkgPath := "", byteOffset := 8 }, { name := "Hash", type := 75, offset := 2, embedded := false, tag := "", pkgPath := "", byteOffset := 16 }, { name := "TFlag", type := 108, offset := 3, embedded := false, tag := "", pkgPath := "", byteOffset := 20 }, { name := "Align_", type := 5, offset := 4, embedded := false, tag := "", pkgPath := "", byteOffset := 21 }, { name := "FieldAlign_", type := 5, offset := 5, embedded := false, tag := "", pkgPath := "", byteOffset := 22 }, { name := "Kind_", type := 109, offset := 6, embedded := false, tag := "", pkgPath := "", byteOffset := 23 }, { name := "Equal", type := 110, offset := 7, embedded := false, tag := "", pkgPath := "", byteOffset := 24 }, { name := "GCData", type := 111, offset := 8, embedded := false, tag := "", pkgPath := "", byteOffset := 32 }, { name := "Str", type := 112, offset := 9, embedded := false, tag := "", pkgPath := "", byteOffset := 40 }, { name := "PtrToThis", type := 113, offset := 10, embedded := false, tag := "", pkgPath := "", byteOffset := 44 }], 11, 48, .agg #[.int .u64 0, .int .u64 0, .int .u32 0, .int .u8 0, .int .u8 0, .int .u8 0, .int .u8 0, .nilFunc, .pointer none, .int .i32 0, .int .i32 0]⟩
def tbl : List (Nat × TI) := [(1, ti1), (2, ti2), (3, ti3), (4, ti4), (5, ti5), (6, ti6), (7, ti7), (8, ti8), (9, ti9), (10, ti10), (11, ti11), (12, ti12), (13, ti13), (14, ti14), (15, ti15), (16, ti16), (17, ti17), (18, ti18), (19, ti19), (21, ti21), (22, ti22), (23, ti23), (24, ti24), (25, ti25), (26, ti26), (27, ti27), (28, ti28), (29, ti29), (30, ti30), (31, ti31), (32, ti32), (33, ti33), (34, ti34), (35, ti35), (36, ti36), (37, ti37), (38, ti38), (39, ti39), (40, ti40), (41, ti41), (42, ti42), (43, ti43), (44, ti44), (46, ti46), (47, ti47), (48, ti48), (49, ti49), (50, ti50), (51, ti51), (52, ti52), (53, ti53), (54, ti54), (55, ti55), (56, ti56), (57, ti57), (58, ti58), (59, ti59), (60, ti60), (61, ti61), (62, ti62), (63, ti63), (64, ti64), (65, ti65), (66, ti66), (67, ti67), (68, ti68), (69, ti69), (70, ti70), (72, ti72), (73, ti73), (74, ti74), (75, ti75), (77, ti77), (78, ti78), (80, ti80), (81, ti81), (82, ti82), (84, ti84), (85, ti85), (86, ti86), (87, ti87), (89, ti89), (90, ti90), (91, ti91), (92, ti92), (93, ti93), (94, ti94), (95, ti95), (96, ti96), (97, ti97), (98, ti98), (100, ti100), (101, ti101), (102, ti102), (103, ti103), (104, ti104), (105, ti105), (106, ti106), (107, ti107), (108, ti108), (109, ti109), (110, ti110), (111, ti111), (112, ti112), (113, ti113), (114, ti114), (115, ti115)]
def tab (t : TypeId) : Option TI := Go.Sk.look tbl t
theorem tok1 : TokE Try.prog 1 ti1 := tok_entry (by kernel_rfl) (by kernel_rfl) rfl
theorem tok2 : TokE Try.prog 2 ti2 := tok_entry (by kernel_rfl) (by kernel_rfl) rfl
theorem tok3 : TokE Try.prog 3 ti3 := tok_entry (by kernel_rfl) (by kernel_rfl) rfl
theorem tok4 : TokE Try.prog 4 ti4 := tok_entry (by kernel_rfl) (by kernel_rfl) rfl
theorem tok5 : TokE Try.prog 5 ti5 := tok_entry (by kernel_rfl) (by kernel_rfl) rfl
theorem tok6 : TokE Try.prog 6 ti6 := tok_entry (by kernel_rfl) (by kernel_rfl) rfl
theorem tok7 : TokE Try.prog 7 ti7 := tok_entry (by kernel_rfl) (by kernel_rfl) rfl
theorem tok8 : TokE Try.prog 8 ti8 := tok_entry (by kernel_rfl) (by kernel_rfl) rfl
theorem tok9 : TokE Try.prog 9 ti9 := tok_entry (by kernel_rfl) (by kernel_rfl) rfl
theorem tok10 : TokE Try.prog 10 ti10 := tok_entry (by kernel_rfl) (by kernel_rfl) rfl
theorem tok11 : TokE Try.prog 11 ti11 := tok_entry (by kernel_rfl) (by kernel_rfl) rfl
theorem tok12 : TokE Try.prog 12 ti12 := tok_entry (by kernel_rfl) (by kernel_rfl) rfl
theorem tok13 : TokE Try.prog 13 ti13 := tok_entry (by kernel_rfl) (by kernel_rfl) rfl
theorem tok14 : TokE Try.prog 14 ti14 := tok_entry (by kernel_rfl) (by kernel_rfl) rfl
theorem tok15 : TokE Try.prog 15 ti15 := tok_entry (by kernel_rfl) (by kernel_rfl) rfl
theorem tok16 : TokE Try.prog 16 ti16 := tok_entry (by kernel_rfl) (by kernel_rfl) rfl
theorem tok17 : TokE Try.prog 17 ti17 := tok_entry (by kernel_rfl) (by kernel_rfl) rfl
theorem tok18 : TokE Try.prog 18 ti18 := tok_entry (by kernel_rfl) (by kernel_rfl) rfl
theorem tok19 : TokE Try.prog 19 ti19 := tok_entry (by kernel_rfl) (by kernel_rfl) rfl
theorem tok21 : TokE Try.prog 21 ti21 := tok_entry (by kernel_rfl) (by kernel_rfl) rfl
theorem tok22 : TokE Try.prog 22 ti22 := tok_entry (by kernel_rfl) (by kernel_rfl) rfl
theorem tok23 : TokE Try.prog 23 ti23 := tok_entry (by kernel_rfl) (by kernel_rfl) rfl
theorem tok24 : TokE Try.prog 24 ti24 := tok_entry (by kernel_rfl) (by kernel_rfl) rfl
theorem tok25 : TokE Try.prog 25 ti25 := tok_entry (by kernel_rfl) (by kernel_rfl) rfl
theorem tok26 : TokE Try.prog 26 ti26 := tok_entry (by kernel_rfl) (by kernel_rfl) rfl
theorem tok27 : TokE Try.prog 27 ti27 := tok_entry (by kernel_rfl) (by kernel_rfl) rfl
theorem tok28 : TokE Try.prog 28 ti28 := tok_entry (by kernel_rfl) (by kernel_rfl) rfl
theorem tok29 : TokE Try.prog 29 ti29 := tok_entry (by kernel_rfl) (by kernel_rfl) rfl
theorem tok30 : TokE Try.prog 30 ti30 := tok_entry (by kernel_rfl) (by kernel_rfl) rfl
theorem tok31 : TokE Try.prog 31 ti31 := tok_entry (by kernel_rfl) (by kernel_rfl) rfl
theorem tok32 : TokE Try.prog 32 ti32 := tok_entry (by kernel_rfl) (by kernel_rfl) rfl
theorem tok33 : TokE Try.prog 33 ti33 := tok_entry (by kernel_rfl) (by kernel_rfl) rfl
theorem tok34 : TokE Try.prog 34 ti34 := tok_entry (by kernel_rfl) (by kernel_rfl) rfl
theorem tok35 : TokE Try.prog 35 ti35 := tok_entry (by kernel_rfl) (by kernel_rfl) rfl
theorem tok36 : TokE Try.prog 36 ti36 := tok_entry (by kernel_rfl) (by kernel_rfl) rfl
theorem tok37 : TokE Try.prog 37 ti37 := tok_entry (by kernel_rfl) (by kernel_rfl) rfl
theorem tok38 : TokE Try.prog 38 ti38 := tok_entry (by kernel_rfl) (by kernel_rfl) rfl
theorem tok39 : TokE Try.prog 39 ti39 := tok_entry (by kernel_rfl) (by kernel_rfl) rfl
theorem tok40 : TokE Try.prog 40 ti40 := tok_entry (by kernel_rfl) (by kernel_rfl) rfl
theorem tok41 : TokE Try.prog 41 ti41 := tok_entry (by kernel_rfl) (by kernel_rfl) rfl
theorem tok42 : TokE Try.prog 42 ti42 := tok_entry (by kernel_rfl) (by kernel_rfl) rfl
theorem tok43 : TokE Try.prog 43 ti43 := tok_entry (by kernel_rfl) (by kernel_rfl) rfl
theorem tok44 : TokE Try.prog 44 ti44 := tok_entry (by kernel_rfl) (by kernel_rfl) rfl
theorem tok46 : TokE Try.prog 46 ti46 := tok_entry (by kernel_rfl) (by kernel_rfl) rfl
theorem tok47 : TokE Try.prog 47 ti47 := tok_entry (by kernel_rfl) (by kernel_rfl) rfl
theorem tok48 : TokE Try.prog 48 ti48 := tok_entry (by kernel_rfl) (by kernel_rfl) rfl
theorem tok49 : TokE Try.prog 49 ti49 := tok_entry (by kernel_rfl) (by kernel_rfl) rfl
theorem tok50 : TokE Try.prog 50 ti50 := tok_entry (by kernel_rfl) (by kernel_rfl) rfl
theorem tok51 : TokE Try.prog 51 ti51 := tok_entry (by kernel_rfl) (by kernel_rfl) rfl
theorem tok52 : TokE Try.prog 52 ti52 := tok_entry (by kernel_rfl) (by kernel_rfl) rfl
theorem tok53 : TokE Try.prog 53 ti53 := tok_entry (by kernel_rfl) (by kernel_rfl) rfl
theorem tok54 : TokE Try.prog 54 ti54 := tok_entry (by kernel_rfl) (by kernel_rfl) rfl
theorem tok55 : TokE Try.prog 55 ti55 := tok_entry (by kernel_rfl) (by kernel_rfl) rfl
theorem tok56 : TokE Try.prog 56 ti56 := tok_entry (by kernel_rfl) (by kernel_rfl) rfl
theorem tok57 : TokE Try.prog 57 ti57 := tok_entry (by kernel_rfl) (by kernel_rfl) rfl
theorem tok58 : TokE Try.prog 58 ti58 := tok_entry (by kernel_rfl) (by kernel_rfl) rfl
theorem tok59 : TokE Try.prog 59 ti59 := tok_entry (by kernel_rfl) (by kernel_rfl) rfl
theorem tok60 : TokE Try.prog 60 ti60 := tok_entry (by kernel_rfl) (by kernel_rfl) rfl
theorem tok61 : TokE Try.prog 61 ti61 := tok_entry (by kernel_rfl) (by kernel_rfl) rfl
theorem tok62 : TokE Try.prog 62 ti62 := tok_entry (by kernel_rfl) (by kernel_rfl) rfl
theorem tok63 : TokE Try.prog 63 ti63 := tok_entry (by kernel_rfl) (by kernel_rfl) rfl
theorem tok64 : TokE Try.prog 64 ti64 := tok_entry (by kernel_rfl) (by kernel_rfl) rfl
theorem tok65 : TokE Try.prog 65 ti65 := tok_entry (by kernel_rfl) (by kernel_rfl) rfl
theorem tok66 : TokE Try.prog 66 ti66 := tok_entry (by kernel_rfl) (by kernel_rfl) rfl
theorem tok67 : TokE Try.prog 67 ti67 := tok_entry (by kernel_rfl) (by kernel_rfl) rfl
theorem tok68 : TokE Try.prog 68 ti68 := tok_entry (by kernel_rfl) (by kernel_rfl) rfl
theorem tok69 : TokE Try.prog 69 ti69 := tok_entry (by kernel_rfl) (by kernel_rfl) rfl
theorem tok70 : TokE Try.prog 70 ti70 := tok_entry (by kernel_rfl) (by kernel_rfl) rfl
theorem tok72 : TokE Try.prog 72 ti72 := tok_entry (by kernel_rfl) (by kernel_rfl) rfl
theorem tok73 : TokE Try.prog 73 ti73 := tok_entry (by kernel_rfl) (by kernel_rfl) rfl
theorem tok74 : TokE Try.prog 74 ti74 := tok_entry (by kernel_rfl) (by kernel_rfl) rfl
theorem tok75 : TokE Try.prog 75 ti75 := tok_entry (by kernel_rfl) (by kernel_rfl) rfl
theorem tok77 : TokE Try.prog 77 ti77 := tok_entry (by kernel_rfl) (by kernel_rfl) rfl
theorem tok78 : TokE Try.prog 78 ti78 := tok_entry (by kernel_rfl) (by kernel_rfl) rfl
theorem tok80 : TokE Try.prog 80 ti80 := tok_entry (by kernel_rfl) (by kernel_rfl) rfl
theorem tok81 : TokE Try.prog 81 ti81 := tok_entry (by kernel_rfl) (by kernel_rfl) rfl
theorem tok82 : TokE Try.prog 82 ti82 := tok_entry (by kernel_rfl) (by kernel_rfl) rfl
theorem tok84 : TokE Try.prog 84 ti84 := tok_entry (by kernel_rfl) (by kernel_rfl) rfl
theorem tok85 : TokE Try.prog 85 ti85 := tok_entry (by kernel_rfl) (by kernel_rfl) rfl
theorem tok86 : TokE Try.prog 86 ti86 := tok_entry (by kernel_rfl) (by kernel_rfl) rfl
theorem tok87 : TokE Try.prog 87 ti87 := tok_entry (by kernel_rfl) (by kernel_rfl) rfl
theorem tok89 : TokE Try.prog 89 ti89 := tok_entry (by kernel_rfl) (by kernel_rfl) rfl
theorem tok90 : TokE Try.prog 90 ti90 := tok_entry (by kernel_rfl) (by kernel_rfl) rfl
theorem tok91 : TokE Try.prog 91 ti91 := tok_entry (by kernel_rfl) (by kernel_rfl) rfl
theorem tok92 : TokE Try.prog 92 ti92 := tok_entry (by kernel_rfl) (by kernel_rfl) rfl
theorem tok93 : TokE Try.prog 93 ti93 := tok_entry (by kernel_rfl) (by kernel_rfl) rfl
theorem tok94 : TokE Try.prog 94 ti94 := tok_entry (by kernel_rfl) (by kernel_rfl) rfl
theorem tok95 : TokE Try.prog 95 ti95 := tok_entry (by kernel_rfl) (by kernel_rfl) rfl
theorem tok96 : TokE Try.prog 96 ti96 := tok_entry (by kernel_rfl) (by kernel_rfl) rfl
theorem tok97 : TokE Try.prog 97 ti97 := tok_entry (by kernel_rfl) (by kernel_rfl) rfl
theorem tok98 : TokE Try.prog 98 ti98 := tok_entry (by kernel_rfl) (by kernel_rfl) rfl
theorem tok100 : TokE Try.prog 100 ti100 := tok_entry (by kernel_rfl) (by kernel_rfl) rfl
theorem tok101 : TokE Try.prog 101 ti101 := tok_entry (by kernel_rfl) (by kernel_rfl) rfl
theorem tok102 : TokE Try.prog 102 ti102 := tok_entry (by kernel_rfl) (by kernel_rfl) rfl
theorem tok103 : TokE Try.prog 103 ti103 := tok_entry (by kernel_rfl) (by kernel_rfl) rfl
theorem tok104 : TokE Try.prog 104 ti104 := tok_entry (by kernel_rfl) (by kernel_rfl) rfl
theorem tok105 : TokE Try.prog 105 ti105 := tok_entry (by kernel_rfl) (by kernel_rfl) rfl
theorem tok106 : TokE Try.prog 106 ti106 := tok_entry (by kernel_rfl) (by kernel_rfl) rfl
theorem tok107 : TokE Try.prog 107 ti107 := tok_entry (by kernel_rfl) (by kernel_rfl) rfl
theorem tok108 : TokE Try.prog 108 ti108 := tok_entry (by kernel_rfl) (by kernel_rfl) rfl
theorem tok109 : TokE Try.prog 109 ti109 := tok_entry (by kernel_rfl) (by kernel_rfl) rfl
theorem tok110 : TokE Try.prog 110 ti110 := tok_entry (by kernel_rfl) (by kernel_rfl) rfl
theorem tok111 : TokE Try.prog 111 ti111 := tok_entry (by kernel_rfl) (by kernel_rfl) rfl
theorem tok112 : TokE Try.prog 112 ti112 := tok_entry (by kernel_rfl) (by kernel_rfl) rfl
theorem tok113 : TokE Try.prog 113 ti113 := tok_entry (by kernel_rfl) (by kernel_rfl) rfl
theorem tok114 : TokE Try.prog 114 ti114 := tok_entry (by kernel_rfl) (by kernel_rfl) rfl
theorem tok115 : TokE Try.prog 115 ti115 := tok_entry (by kernel_rfl) (by kernel_rfl) rfl
theorem tok : TOK Try.prog tab := fun t i h => tokL_get (P := Try.prog) (l := tbl) ⟨tok1, tok2, tok3, tok4, tok5, tok6, tok7, tok8, tok9, tok10, tok11, tok12, tok13, tok14, tok15, tok16, tok17, tok18, tok19, tok21, tok22, tok23, tok24, tok25, tok26, tok27, tok28, tok29, tok30, tok31, tok32, tok33, tok34, tok35, tok36, tok37, tok38, tok39, tok40, tok41, tok42, tok43, tok44, tok46, tok47, tok48, tok49, tok50, tok51, tok52, tok53, tok54, tok55, tok56, tok57, tok58, tok59, tok60, tok61, tok62, tok63, tok64, tok65, tok66, tok67, tok68, tok69, tok70, tok72, tok73, tok74, tok75, tok77, tok78, tok80, tok81, tok82, tok84, tok85, tok86, tok87, tok89, tok90, tok91, tok92, tok93, tok94, tok95, tok96, tok97, tok98, tok100, tok101, tok102, tok103, tok104, tok105, tok106, tok107, tok108, tok109, tok110, tok111, tok112, tok113, tok114, tok115, trivial⟩ t i h
end Go.Proofs.Ytkecpgidolphfaa
