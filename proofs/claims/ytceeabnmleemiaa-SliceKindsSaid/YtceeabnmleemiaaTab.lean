/- The table of types of this dump. Made by program. -/
import Derived.Test.YtceeabnmleemiaaSk14
import Derived.Test.YtceeabnmleemiaaProg
import Derived.KernelRfl
set_option linter.unusedVariables false
set_option linter.unusedSimpArgs false
namespace Go.Proofs.Ytceeabnmleemiaa
open Go Go.Sk
def TokE (P : Program) (t : TypeId) (i : TI) : Prop := ∃ info, P.info? t = some info ∧ P.underlying t = some i.desc ∧ info.size = i.size ∧ info.bytes = i.bytes ∧ info.zero = some i.zero ∧ i.zero.cells.size = i.size
theorem tok_entry {P : Program} {t : TypeId} {i : TI} (hu : P.underlying t = some i.desc) (h : (P.info? t).map (fun j => (j.size, j.bytes, j.zero)) = some (i.size, i.bytes, some i.zero)) (hz : i.zero.cells.size = i.size) :
    TokE P t i := by
  cases hi : P.info? t with
  | none => rw [hi] at h; cases h
  | some info =>
    rw [hi] at h
    simp only [Option.map_some, Option.some.injEq, Prod.mk.injEq] at h
    exact ⟨info, hi, hu, h.1, h.2.1, h.2.2, hz⟩
def tokL (P : Program) : List (Nat × TI) → Prop
  | [] => True
  | (t, i) :: r => TokE P t i ∧ tokL P r
theorem tokL_get {P : Program} : ∀ {l : List (Nat × TI)}, tokL P l → ∀ t i, Go.Sk.look l t = some i → ∃ info, P.info? t = some info ∧ P.underlying t = some i.desc ∧ info.size = i.size ∧ info.bytes = i.bytes ∧ info.zero = some i.zero ∧ i.zero.cells.size = i.size
  | [], _, t, i, h => by simp [Go.Sk.look] at h
  | (t', j) :: r, hl, t, i, h => by
    unfold Go.Sk.look at h
    split at h
    · rename_i e; subst e; injection h with h; subst h; exact hl.1
    · exact tokL_get hl.2 t i h
def ti1 : TI := ⟨.func #[] #[] false, 1, 8, .nilFunc⟩
def ti2 : TI := ⟨.int .i64, 1, 8, .int .i64 0⟩
def ti3 : TI := ⟨.int .i64, 1, 8, .int .i64 0⟩
def ti4 : TI := ⟨.bool, 1, 1, .bool false⟩
def ti5 : TI := ⟨.int .u8, 1, 1, .int .u8 0⟩
def ti6 : TI := ⟨.int .u8, 1, 1, .int .u8 0⟩
def ti7 : TI := ⟨.struct #[{ name := "x", type := 2, offset := 0, embedded := false, tag := "", pkgPath := "runtime", byteOffset := 0 }, { name := "y", type := 3, offset := 1, embedded := false, tag := "", pkgPath := "runtime", byteOffset := 8 }, { name := "signed", type := 4, offset := 2, embedded := false, tag := "", pkgPath := "runtime", byteOffset := 16 }, { name := "code", type := 6, offset := 3, embedded := false, tag := "", pkgPath := "runtime", byteOffset := 17 }], 4, 24, .agg #[.int .i64 0, .int .i64 0, .bool false, .int .u8 0]⟩
def ti8 : TI := ⟨.struct #[{ name := "x", type := 2, offset := 0, embedded := false, tag := "", pkgPath := "runtime", byteOffset := 0 }, { name := "y", type := 3, offset := 1, embedded := false, tag := "", pkgPath := "runtime", byteOffset := 8 }, { name := "signed", type := 4, offset := 2, embedded := false, tag := "", pkgPath := "runtime", byteOffset := 16 }, { name := "code", type := 6, offset := 3, embedded := false, tag := "", pkgPath := "runtime", byteOffset := 17 }], 4, 24, .agg #[.int .i64 0, .int .i64 0, .bool false, .int .u8 0]⟩
def ti9 : TI := ⟨.string, 1, 16, .string ⟨#[]⟩⟩
def ti10 : TI := ⟨.string, 1, 16, .string ⟨#[]⟩⟩
def ti11 : TI := ⟨.string, 1, 16, .string ⟨#[]⟩⟩
def ti12 : TI := ⟨.int .u64, 1, 8, .int .u64 0⟩
def ti13 : TI := ⟨.struct #[{ name := "msg", type := 9, offset := 0, embedded := false, tag := "", pkgPath := "runtime", byteOffset := 0 }, { name := "addr", type := 12, offset := 1, embedded := false, tag := "", pkgPath := "runtime", byteOffset := 16 }], 2, 24, .agg #[.string ⟨#[]⟩, .int .u64 0]⟩
def ti14 : TI := ⟨.struct #[{ name := "msg", type := 9, offset := 0, embedded := false, tag := "", pkgPath := "runtime", byteOffset := 0 }, { name := "addr", type := 12, offset := 1, embedded := false, tag := "", pkgPath := "runtime", byteOffset := 16 }], 2, 24, .agg #[.string ⟨#[]⟩, .int .u64 0]⟩
def ti15 : TI := ⟨.pointer 171, 1, 8, .pointer none⟩
def ti16 : TI := ⟨.pointer 174, 1, 8, .pointer none⟩
def ti17 : TI := ⟨.pointer 183, 1, 8, .pointer none⟩
def ti18 : TI := ⟨.struct #[{ name := "typ", type := 17, offset := 0, embedded := false, tag := "", pkgPath := "internal/runtime/maps", byteOffset := 0 }], 1, 8, .agg #[.pointer none]⟩
def ti19 : TI := ⟨.struct #[{ name := "typ", type := 17, offset := 0, embedded := false, tag := "", pkgPath := "internal/runtime/maps", byteOffset := 0 }], 1, 8, .agg #[.pointer none]⟩
def ti21 : TI := ⟨.int .i32, 1, 4, .int .i32 0⟩
def ti22 : TI := ⟨.slice 5, 1, 24, .slice none 0 0⟩
def ti23 : TI := ⟨.array 2 22, 2, 48, .agg #[.slice none 0 0, .slice none 0 0]⟩
def ti24 : TI := ⟨.slice 100, 1, 24, .slice none 0 0⟩
def ti25 : TI := ⟨.array 6 5, 6, 6, .agg #[.int .u8 0, .int .u8 0, .int .u8 0, .int .u8 0, .int .u8 0, .int .u8 0]⟩
def ti26 : TI := ⟨.struct #[{ name := "W", type := 5, offset := 0, embedded := false, tag := "", pkgPath := "", byteOffset := 0 }, { name := "H", type := 5, offset := 1, embedded := false, tag := "", pkgPath := "", byteOffset := 1 }, { name := "Cut", type := 5, offset := 2, embedded := false, tag := "", pkgPath := "", byteOffset := 2 }, { name := "K", type := 23, offset := 3, embedded := false, tag := "", pkgPath := "", byteOffset := 8 }, { name := "C", type := 24, offset := 5, embedded := false, tag := "", pkgPath := "", byteOffset := 56 }, { name := "F", type := 25, offset := 6, embedded := false, tag := "", pkgPath := "", byteOffset := 80 }], 12, 88, .agg #[.int .u8 0, .int .u8 0, .int .u8 0, .slice none 0 0, .slice none 0 0, .slice none 0 0, .int .u8 0, .int .u8 0, .int .u8 0, .int .u8 0, .int .u8 0, .int .u8 0]⟩
def ti27 : TI := ⟨.struct #[{ name := "W", type := 5, offset := 0, embedded := false, tag := "", pkgPath := "", byteOffset := 0 }, { name := "H", type := 5, offset := 1, embedded := false, tag := "", pkgPath := "", byteOffset := 1 }, { name := "Cut", type := 5, offset := 2, embedded := false, tag := "", pkgPath := "", byteOffset := 2 }, { name := "K", type := 23, offset := 3, embedded := false, tag := "", pkgPath := "", byteOffset := 8 }, { name := "C", type := 24, offset := 5, embedded := false, tag := "", pkgPath := "", byteOffset := 56 }, { name := "F", type := 25, offset := 6, embedded := false, tag := "", pkgPath := "", byteOffset := 80 }], 12, 88, .agg #[.int .u8 0, .int .u8 0, .int .u8 0, .slice none 0 0, .slice none 0 0, .slice none 0 0, .int .u8 0, .int .u8 0, .int .u8 0, .int .u8 0, .int .u8 0, .int .u8 0]⟩
def ti28 : TI := ⟨.array 4 5, 4, 4, .agg #[.int .u8 0, .int .u8 0, .int .u8 0, .int .u8 0]⟩
def ti29 : TI := ⟨.struct #[{ name := "Cell", type := 25, offset := 0, embedded := false, tag := "", pkgPath := "", byteOffset := 0 }, { name := "Kind", type := 25, offset := 6, embedded := false, tag := "", pkgPath := "", byteOffset := 6 }, { name := "Hand", type := 28, offset := 12, embedded := false, tag := "", pkgPath := "", byteOffset := 12 }, { name := "Rights", type := 5, offset := 16, embedded := false, tag := "", pkgPath := "", byteOffset := 16 }, { name := "Side", type := 5, offset := 17, embedded := false, tag := "", pkgPath := "", byteOffset := 17 }], 18, 18, .agg #[.int .u8 0, .int .u8 0, .int .u8 0, .int .u8 0, .int .u8 0, .int .u8 0, .int .u8 0, .int .u8 0, .int .u8 0, .int .u8 0, .int .u8 0, .int .u8 0, .int .u8 0, .int .u8 0, .int .u8 0, .int .u8 0, .int .u8 0, .int .u8 0]⟩
def ti30 : TI := ⟨.struct #[{ name := "Cell", type := 25, offset := 0, embedded := false, tag := "", pkgPath := "", byteOffset := 0 }, { name := "Kind", type := 25, offset := 6, embedded := false, tag := "", pkgPath := "", byteOffset := 6 }, { name := "Hand", type := 28, offset := 12, embedded := false, tag := "", pkgPath := "", byteOffset := 12 }, { name := "Rights", type := 5, offset := 16, embedded := false, tag := "", pkgPath := "", byteOffset := 16 }, { name := "Side", type := 5, offset := 17, embedded := false, tag := "", pkgPath := "", byteOffset := 17 }], 18, 18, .agg #[.int .u8 0, .int .u8 0, .int .u8 0, .int .u8 0, .int .u8 0, .int .u8 0, .int .u8 0, .int .u8 0, .int .u8 0, .int .u8 0, .int .u8 0, .int .u8 0, .int .u8 0, .int .u8 0, .int .u8 0, .int .u8 0, .int .u8 0, .int .u8 0]⟩
def ti31 : TI := ⟨.struct #[{ name := "G", type := 27, offset := 0, embedded := false, tag := "", pkgPath := "", byteOffset := 0 }, { name := "P", type := 30, offset := 12, embedded := false, tag := "", pkgPath := "", byteOffset := 88 }, { name := "Picks", type := 22, offset := 30, embedded := false, tag := "", pkgPath := "", byteOffset := 112 }], 31, 136, .agg #[.int .u8 0, .int .u8 0, .int .u8 0, .slice none 0 0, .slice none 0 0, .slice none 0 0, .int .u8 0, .int .u8 0, .int .u8 0, .int .u8 0, .int .u8 0, .int .u8 0, .int .u8 0, .int .u8 0, .int .u8 0, .int .u8 0, .int .u8 0, .int .u8 0, .int .u8 0, .int .u8 0, .int .u8 0, .int .u8 0, .int .u8 0, .int .u8 0, .int .u8 0, .int .u8 0, .int .u8 0, .int .u8 0, .int .u8 0, .int .u8 0, .slice none 0 0]⟩
def ti32 : TI := ⟨.struct #[{ name := "G", type := 27, offset := 0, embedded := false, tag := "", pkgPath := "", byteOffset := 0 }, { name := "P", type := 30, offset := 12, embedded := false, tag := "", pkgPath := "", byteOffset := 88 }, { name := "Picks", type := 22, offset := 30, embedded := false, tag := "", pkgPath := "", byteOffset := 112 }], 31, 136, .agg #[.int .u8 0, .int .u8 0, .int .u8 0, .slice none 0 0, .slice none 0 0, .slice none 0 0, .int .u8 0, .int .u8 0, .int .u8 0, .int .u8 0, .int .u8 0, .int .u8 0, .int .u8 0, .int .u8 0, .int .u8 0, .int .u8 0, .int .u8 0, .int .u8 0, .int .u8 0, .int .u8 0, .int .u8 0, .int .u8 0, .int .u8 0, .int .u8 0, .int .u8 0, .int .u8 0, .int .u8 0, .int .u8 0, .int .u8 0, .int .u8 0, .slice none 0 0]⟩
def ti33 : TI := ⟨.slice 30, 1, 24, .slice none 0 0⟩
def ti34 : TI := ⟨.func #[] #[4] false, 1, 8, .nilFunc⟩
def ti35 : TI := ⟨.slice 36, 1, 24, .slice none 0 0⟩
def ti36 : TI := ⟨.slice 3, 1, 24, .slice none 0 0⟩
def ti37 : TI := ⟨.struct #[{ name := "Cells", type := 3, offset := 0, embedded := false, tag := "", pkgPath := "", byteOffset := 0 }, { name := "Next", type := 35, offset := 1, embedded := false, tag := "", pkgPath := "", byteOffset := 8 }, { name := "Turn", type := 36, offset := 2, embedded := false, tag := "", pkgPath := "", byteOffset := 32 }], 3, 56, .agg #[.int .i64 0, .slice none 0 0, .slice none 0 0]⟩
def ti38 : TI := ⟨.struct #[{ name := "Cells", type := 3, offset := 0, embedded := false, tag := "", pkgPath := "", byteOffset := 0 }, { name := "Next", type := 35, offset := 1, embedded := false, tag := "", pkgPath := "", byteOffset := 8 }, { name := "Turn", type := 36, offset := 2, embedded := false, tag := "", pkgPath := "", byteOffset := 32 }], 3, 56, .agg #[.int .i64 0, .slice none 0 0, .slice none 0 0]⟩
def ti39 : TI := ⟨.slice 73, 1, 24, .slice none 0 0⟩
def ti40 : TI := ⟨.slice 102, 1, 24, .slice none 0 0⟩
def ti41 : TI := ⟨.struct #[{ name := "Board", type := 38, offset := 0, embedded := false, tag := "", pkgPath := "", byteOffset := 0 }, { name := "Kinds", type := 39, offset := 3, embedded := false, tag := "", pkgPath := "", byteOffset := 56 }, { name := "Rights", type := 3, offset := 4, embedded := false, tag := "", pkgPath := "", byteOffset := 80 }, { name := "Must", type := 4, offset := 5, embedded := false, tag := "", pkgPath := "", byteOffset := 88 }, { name := "Clauses", type := 40, offset := 6, embedded := false, tag := "", pkgPath := "", byteOffset := 96 }, { name := "Blocked", type := 3, offset := 7, embedded := false, tag := "", pkgPath := "", byteOffset := 120 }, { name := "Endless", type := 3, offset := 8, embedded := false, tag := "", pkgPath := "", byteOffset := 128 }], 9, 136, .agg #[.int .i64 0, .slice none 0 0, .slice none 0 0, .slice none 0 0, .int .i64 0, .bool false, .slice none 0 0, .int .i64 0, .int .i64 0]⟩
def ti42 : TI := ⟨.struct #[{ name := "Board", type := 38, offset := 0, embedded := false, tag := "", pkgPath := "", byteOffset := 0 }, { name := "Kinds", type := 39, offset := 3, embedded := false, tag := "", pkgPath := "", byteOffset := 56 }, { name := "Rights", type := 3, offset := 4, embedded := false, tag := "", pkgPath := "", byteOffset := 80 }, { name := "Must", type := 4, offset := 5, embedded := false, tag := "", pkgPath := "", byteOffset := 88 }, { name := "Clauses", type := 40, offset := 6, embedded := false, tag := "", pkgPath := "", byteOffset := 96 }, { name := "Blocked", type := 3, offset := 7, embedded := false, tag := "", pkgPath := "", byteOffset := 120 }, { name := "Endless", type := 3, offset := 8, embedded := false, tag := "", pkgPath := "", byteOffset := 128 }], 9, 136, .agg #[.int .i64 0, .slice none 0 0, .slice none 0 0, .slice none 0 0, .int .i64 0, .bool false, .slice none 0 0, .int .i64 0, .int .i64 0]⟩
def ti43 : TI := ⟨.slice 56, 1, 24, .slice none 0 0⟩
def ti45 : TI := ⟨.func #[32, 33] #[42, 43] false, 1, 8, .nilFunc⟩
def ti46 : TI := ⟨.struct #[{ name := "Kinds", type := 36, offset := 0, embedded := false, tag := "", pkgPath := "", byteOffset := 0 }], 1, 24, .agg #[.slice none 0 0]⟩
def ti47 : TI := ⟨.struct #[{ name := "Kinds", type := 36, offset := 0, embedded := false, tag := "", pkgPath := "", byteOffset := 0 }], 1, 24, .agg #[.slice none 0 0]⟩
def ti48 : TI := ⟨.func #[42] #[47] false, 1, 8, .nilFunc⟩
def ti49 : TI := ⟨.func #[42, 25] #[47] false, 1, 8, .nilFunc⟩
def ti50 : TI := ⟨.func #[42, 47] #[4] false, 1, 8, .nilFunc⟩
def ti51 : TI := ⟨.func #[47, 43] #[35] false, 1, 8, .nilFunc⟩
def ti52 : TI := ⟨.func #[36, 36] #[4] false, 1, 8, .nilFunc⟩
def ti53 : TI := ⟨.func #[47, 56] #[3] false, 1, 8, .nilFunc⟩
def ti54 : TI := ⟨.array 2 36, 2, 48, .agg #[.slice none 0 0, .slice none 0 0]⟩
def ti55 : TI := ⟨.struct #[{ name := "At", type := 36, offset := 0, embedded := false, tag := "", pkgPath := "", byteOffset := 0 }, { name := "Hand", type := 54, offset := 1, embedded := false, tag := "", pkgPath := "", byteOffset := 24 }, { name := "Rights", type := 3, offset := 3, embedded := false, tag := "", pkgPath := "", byteOffset := 72 }, { name := "Side", type := 3, offset := 4, embedded := false, tag := "", pkgPath := "", byteOffset := 80 }], 5, 88, .agg #[.slice none 0 0, .slice none 0 0, .slice none 0 0, .int .i64 0, .int .i64 0]⟩
def ti56 : TI := ⟨.struct #[{ name := "At", type := 36, offset := 0, embedded := false, tag := "", pkgPath := "", byteOffset := 0 }, { name := "Hand", type := 54, offset := 1, embedded := false, tag := "", pkgPath := "", byteOffset := 24 }, { name := "Rights", type := 3, offset := 3, embedded := false, tag := "", pkgPath := "", byteOffset := 72 }, { name := "Side", type := 3, offset := 4, embedded := false, tag := "", pkgPath := "", byteOffset := 80 }], 5, 88, .agg #[.slice none 0 0, .slice none 0 0, .slice none 0 0, .int .i64 0, .int .i64 0]⟩
def ti57 : TI := ⟨.func #[47, 56, 56] #[4] false, 1, 8, .nilFunc⟩
def ti58 : TI := ⟨.func #[32, 33, 25] #[4] false, 1, 8, .nilFunc⟩
def ti59 : TI := ⟨.func #[32, 33] #[4] false, 1, 8, .nilFunc⟩
def ti61 : TI := ⟨.func #[32] #[42, 56] false, 1, 8, .nilFunc⟩
def ti62 : TI := ⟨.func #[42, 3] #[36] false, 1, 8, .nilFunc⟩
def ti63 : TI := ⟨.func #[36, 3] #[4] false, 1, 8, .nilFunc⟩
def ti64 : TI := ⟨.func #[32, 5] #[4] false, 1, 8, .nilFunc⟩
def ti65 : TI := ⟨.func #[42, 56] #[3] false, 1, 8, .nilFunc⟩
def ti66 : TI := ⟨.func #[32, 25] #[4] false, 1, 8, .nilFunc⟩
def ti67 : TI := ⟨.struct #[{ name := "Op", type := 3, offset := 0, embedded := false, tag := "", pkgPath := "", byteOffset := 0 }, { name := "N", type := 3, offset := 1, embedded := false, tag := "", pkgPath := "", byteOffset := 8 }], 2, 16, .agg #[.int .i64 0, .int .i64 0]⟩
def ti68 : TI := ⟨.struct #[{ name := "Op", type := 3, offset := 0, embedded := false, tag := "", pkgPath := "", byteOffset := 0 }, { name := "N", type := 3, offset := 1, embedded := false, tag := "", pkgPath := "", byteOffset := 8 }], 2, 16, .agg #[.int .i64 0, .int .i64 0]⟩
def ti69 : TI := ⟨.slice 68, 1, 24, .slice none 0 0⟩
def ti70 : TI := ⟨.slice 68, 1, 24, .slice none 0 0⟩
def ti71 : TI := ⟨.slice 70, 1, 24, .slice none 0 0⟩
def ti72 : TI := ⟨.struct #[{ name := "Name", type := 9, offset := 0, embedded := false, tag := "", pkgPath := "", byteOffset := 0 }, { name := "Progs", type := 71, offset := 1, embedded := false, tag := "", pkgPath := "", byteOffset := 16 }, { name := "Keep", type := 4, offset := 2, embedded := false, tag := "", pkgPath := "", byteOffset := 40 }], 3, 48, .agg #[.string ⟨#[]⟩, .slice none 0 0, .bool false]⟩
def ti73 : TI := ⟨.struct #[{ name := "Name", type := 9, offset := 0, embedded := false, tag := "", pkgPath := "", byteOffset := 0 }, { name := "Progs", type := 71, offset := 1, embedded := false, tag := "", pkgPath := "", byteOffset := 16 }, { name := "Keep", type := 4, offset := 2, embedded := false, tag := "", pkgPath := "", byteOffset := 40 }], 3, 48, .agg #[.string ⟨#[]⟩, .slice none 0 0, .bool false]⟩
def ti74 : TI := ⟨.func #[42, 30] #[56] false, 1, 8, .nilFunc⟩
def ti75 : TI := ⟨.func #[42, 3, 3] #[4] false, 1, 8, .nilFunc⟩
def ti76 : TI := ⟨.map 3 36, 1, 8, .map none⟩
def ti77 : TI := ⟨.func #[79] #[36] false, 1, 8, .nilFunc⟩
def ti78 : TI := ⟨.func #[95] #[] false, 1, 8, .nilFunc⟩
def ti79 : TI := ⟨.func #[95] #[] false, 1, 8, .nilFunc⟩
def ti80 : TI := ⟨.func #[76] #[79] false, 1, 8, .nilFunc⟩
def ti82 : TI := ⟨.func #[3] #[3, 3] false, 1, 8, .nilFunc⟩
def ti83 : TI := ⟨.struct #[{ name := "Kind", type := 3, offset := 0, embedded := false, tag := "", pkgPath := "", byteOffset := 0 }, { name := "Side", type := 3, offset := 1, embedded := false, tag := "", pkgPath := "", byteOffset := 8 }], 2, 16, .agg #[.int .i64 0, .int .i64 0]⟩
def ti84 : TI := ⟨.struct #[{ name := "Kind", type := 3, offset := 0, embedded := false, tag := "", pkgPath := "", byteOffset := 0 }, { name := "Side", type := 3, offset := 1, embedded := false, tag := "", pkgPath := "", byteOffset := 8 }], 2, 16, .agg #[.int .i64 0, .int .i64 0]⟩
def ti85 : TI := ⟨.func #[3] #[84] false, 1, 8, .nilFunc⟩
def ti86 : TI := ⟨.array 6 4, 6, 6, .agg #[.bool false, .bool false, .bool false, .bool false, .bool false, .bool false]⟩
def ti87 : TI := ⟨.array 6 4, 6, 6, .agg #[.bool false, .bool false, .bool false, .bool false, .bool false, .bool false]⟩
def ti88 : TI := ⟨.array 6 87, 36, 36, .agg #[.bool false, .bool false, .bool false, .bool false, .bool false, .bool false, .bool false, .bool false, .bool false, .bool false, .bool false, .bool false, .bool false, .bool false, .bool false, .bool false, .bool false, .bool false, .bool false, .bool false, .bool false, .bool false, .bool false, .bool false, .bool false, .bool false, .bool false, .bool false, .bool false, .bool false, .bool false, .bool false, .bool false, .bool false, .bool false, .bool false]⟩
def ti89 : TI := ⟨.func #[73] #[87] false, 1, 8, .nilFunc⟩
def ti90 : TI := ⟨.func #[36] #[3] false, 1, 8, .nilFunc⟩
def ti91 : TI := ⟨.func #[27] #[42] false, 1, 8, .nilFunc⟩
def ti92 : TI := ⟨.func #[42, 56, 36] #[43] false, 1, 8, .nilFunc⟩
def ti93 : TI := ⟨.func #[42, 56, 3] #[36] false, 1, 8, .nilFunc⟩
def ti94 : TI := ⟨.func #[36] #[] false, 1, 8, .nilFunc⟩
def ti95 : TI := ⟨.func #[3] #[4] false, 1, 8, .nilFunc⟩
def ti96 : TI := ⟨.func #[3, 3, 3] #[4] false, 1, 8, .nilFunc⟩
def ti97 : TI := ⟨.func #[5, 5, 5] #[38] false, 1, 8, .nilFunc⟩
def ti98 : TI := ⟨.slice 9, 1, 24, .slice none 0 0⟩
def ti99 : TI := ⟨.func #[5, 3, 3, 3] #[70] false, 1, 8, .nilFunc⟩
def ti100 : TI := ⟨.array 3 5, 3, 3, .agg #[.int .u8 0, .int .u8 0, .int .u8 0]⟩
def ti101 : TI := ⟨.struct #[{ name := "If", type := 3, offset := 0, embedded := false, tag := "", pkgPath := "", byteOffset := 0 }, { name := "Kind", type := 3, offset := 1, embedded := false, tag := "", pkgPath := "", byteOffset := 8 }, { name := "N", type := 3, offset := 2, embedded := false, tag := "", pkgPath := "", byteOffset := 16 }, { name := "Then", type := 3, offset := 3, embedded := false, tag := "", pkgPath := "", byteOffset := 24 }], 4, 32, .agg #[.int .i64 0, .int .i64 0, .int .i64 0, .int .i64 0]⟩
def ti102 : TI := ⟨.struct #[{ name := "If", type := 3, offset := 0, embedded := false, tag := "", pkgPath := "", byteOffset := 0 }, { name := "Kind", type := 3, offset := 1, embedded := false, tag := "", pkgPath := "", byteOffset := 8 }, { name := "N", type := 3, offset := 2, embedded := false, tag := "", pkgPath := "", byteOffset := 16 }, { name := "Then", type := 3, offset := 3, embedded := false, tag := "", pkgPath := "", byteOffset := 24 }], 4, 32, .agg #[.int .i64 0, .int .i64 0, .int .i64 0, .int .i64 0]⟩
def ti103 : TI := ⟨.func #[42, 56] #[43] false, 1, 8, .nilFunc⟩
def ti104 : TI := ⟨.func #[36, 79] #[36] false, 1, 8, .nilFunc⟩
def ti105 : TI := ⟨.func #[36, 3, 3, 3] #[] false, 1, 8, .nilFunc⟩
def ti106 : TI := ⟨.func #[107] #[3] false, 1, 8, .nilFunc⟩
def ti107 : TI := ⟨.int .u64, 1, 8, .int .u64 0⟩
def ti108 : TI := ⟨.int .i64, 1, 8, .int .i64 0⟩
def ti110 : TI := ⟨.func #[3, 3] #[38, 108] false, 1, 8, .nilFunc⟩
def ti111 : TI := ⟨.func #[38, 3] #[38, 108] false, 1, 8, .nilFunc⟩
def ti112 : TI := ⟨.func #[70, 3, 3, 3] #[70] false, 1, 8, .nilFunc⟩
def ti113 : TI := ⟨.func #[22] #[70] false, 1, 8, .nilFunc⟩
def ti114 : TI := ⟨.slice 117, 1, 24, .slice none 0 0⟩
def ti115 : TI := ⟨.func #[42, 56] #[114] false, 1, 8, .nilFunc⟩
def ti116 : TI := ⟨.struct #[{ name := "Pos", type := 56, offset := 0, embedded := false, tag := "", pkgPath := "", byteOffset := 0 }, { name := "Took", type := 4, offset := 5, embedded := false, tag := "", pkgPath := "", byteOffset := 88 }], 6, 96, .agg #[.slice none 0 0, .slice none 0 0, .slice none 0 0, .int .i64 0, .int .i64 0, .bool false]⟩
def ti117 : TI := ⟨.struct #[{ name := "Pos", type := 56, offset := 0, embedded := false, tag := "", pkgPath := "", byteOffset := 0 }, { name := "Took", type := 4, offset := 5, embedded := false, tag := "", pkgPath := "", byteOffset := 88 }], 6, 96, .agg #[.slice none 0 0, .slice none 0 0, .slice none 0 0, .int .i64 0, .int .i64 0, .bool false]⟩
def ti118 : TI := ⟨.func #[43] #[43] false, 1, 8, .nilFunc⟩
def ti119 : TI := ⟨.func #[36, 3, 3] #[] false, 1, 8, .nilFunc⟩
def ti120 : TI := ⟨.int .i64, 1, 8, .int .i64 0⟩
def ti122 : TI := ⟨.func #[36, 3, 3] #[3, 120] false, 1, 8, .nilFunc⟩
def ti123 : TI := ⟨.func #[36, 3, 3] #[4] false, 1, 8, .nilFunc⟩
def ti124 : TI := ⟨.func #[3, 3] #[4] false, 1, 8, .nilFunc⟩
def ti125 : TI := ⟨.func #[36, 3, 3, 3] #[3] false, 1, 8, .nilFunc⟩
def ti127 : TI := ⟨.func #[36, 3, 3, 3] #[3, 4] false, 1, 8, .nilFunc⟩
def ti128 : TI := ⟨.func #[129] #[3] false, 1, 8, .nilFunc⟩
def ti129 : TI := ⟨.int .u32, 1, 4, .int .u32 0⟩
def ti130 : TI := ⟨.func #[131] #[3] false, 1, 8, .nilFunc⟩
def ti131 : TI := ⟨.int .u64, 1, 8, .int .u64 0⟩
def ti132 : TI := ⟨.func #[22, 3] #[3] false, 1, 8, .nilFunc⟩
def ti133 : TI := ⟨.func #[102, 56] #[4] false, 1, 8, .nilFunc⟩
def ti135 : TI := ⟨.func #[42, 56, 3, 3] #[114, 108] false, 1, 8, .nilFunc⟩
def ti136 : TI := ⟨.func #[56] #[56] false, 1, 8, .nilFunc⟩
def ti137 : TI := ⟨.func #[3, 3] #[3] false, 1, 8, .nilFunc⟩
def ti138 : TI := ⟨.func #[56, 56] #[4] false, 1, 8, .nilFunc⟩
def ti139 : TI := ⟨.int .u64, 1, 8, .int .u64 0⟩
def ti140 : TI := ⟨.func #[3] #[107] false, 1, 8, .nilFunc⟩
def ti141 : TI := ⟨.func #[] #[131] false, 1, 8, .nilFunc⟩
def ti142 : TI := ⟨.func #[36, 3, 143] #[3] false, 1, 8, .nilFunc⟩
def ti143 : TI := ⟨.pointer 3, 1, 8, .pointer none⟩
def ti144 : TI := ⟨.func #[36, 3, 3, 3, 143] #[3] false, 1, 8, .nilFunc⟩
def ti145 : TI := ⟨.func #[56, 3, 3] #[3] false, 1, 8, .nilFunc⟩
def ti146 : TI := ⟨.slice 150, 1, 24, .slice none 0 0⟩
def ti147 : TI := ⟨.struct #[{ name := "Steps", type := 146, offset := 0, embedded := false, tag := "", pkgPath := "", byteOffset := 0 }, { name := "E", type := 108, offset := 1, embedded := false, tag := "", pkgPath := "", byteOffset := 24 }], 2, 32, .agg #[.slice none 0 0, .int .i64 0]⟩
def ti148 : TI := ⟨.struct #[{ name := "Steps", type := 146, offset := 0, embedded := false, tag := "", pkgPath := "", byteOffset := 0 }, { name := "E", type := 108, offset := 1, embedded := false, tag := "", pkgPath := "", byteOffset := 24 }], 2, 32, .agg #[.slice none 0 0, .int .i64 0]⟩
def ti149 : TI := ⟨.func #[42, 56, 3, 3] #[148] false, 1, 8, .nilFunc⟩
def ti150 : TI := ⟨.slice 152, 1, 24, .slice none 0 0⟩
def ti151 : TI := ⟨.struct #[{ name := "P", type := 56, offset := 0, embedded := false, tag := "", pkgPath := "", byteOffset := 0 }, { name := "Kind", type := 3, offset := 5, embedded := false, tag := "", pkgPath := "", byteOffset := 88 }, { name := "Cursor", type := 3, offset := 6, embedded := false, tag := "", pkgPath := "", byteOffset := 96 }, { name := "Took", type := 4, offset := 7, embedded := false, tag := "", pkgPath := "", byteOffset := 104 }], 8, 112, .agg #[.slice none 0 0, .slice none 0 0, .slice none 0 0, .int .i64 0, .int .i64 0, .int .i64 0, .int .i64 0, .bool false]⟩
def ti152 : TI := ⟨.struct #[{ name := "P", type := 56, offset := 0, embedded := false, tag := "", pkgPath := "", byteOffset := 0 }, { name := "Kind", type := 3, offset := 5, embedded := false, tag := "", pkgPath := "", byteOffset := 88 }, { name := "Cursor", type := 3, offset := 6, embedded := false, tag := "", pkgPath := "", byteOffset := 96 }, { name := "Took", type := 4, offset := 7, embedded := false, tag := "", pkgPath := "", byteOffset := 104 }], 8, 112, .agg #[.slice none 0 0, .slice none 0 0, .slice none 0 0, .int .i64 0, .int .i64 0, .int .i64 0, .int .i64 0, .bool false]⟩
def ti153 : TI := ⟨.func #[114, 117] #[114] false, 1, 8, .nilFunc⟩
def ti154 : TI := ⟨.func #[56, 56] #[3] false, 1, 8, .nilFunc⟩
def ti155 : TI := ⟨.pointer 139, 1, 8, .pointer none⟩
def ti156 : TI := ⟨.func #[36, 3, 3, 143] #[3, 3] false, 1, 8, .nilFunc⟩
def ti157 : TI := ⟨.func #[42, 56] #[4] false, 1, 8, .nilFunc⟩
def ti158 : TI := ⟨.func #[150, 150] #[150] false, 1, 8, .nilFunc⟩
def ti159 : TI := ⟨.func #[42, 152, 68] #[150] false, 1, 8, .nilFunc⟩
def ti160 : TI := ⟨.func #[117, 117] #[4] false, 1, 8, .nilFunc⟩
def ti161 : TI := ⟨.func #[36, 36] #[3] false, 1, 8, .nilFunc⟩
def ti162 : TI := ⟨.func #[42, 36] #[4] false, 1, 8, .nilFunc⟩
def ti163 : TI := ⟨.func #[152, 152] #[4] false, 1, 8, .nilFunc⟩
def ti164 : TI := ⟨.func #[38, 3, 3, 3] #[3] false, 1, 8, .nilFunc⟩
def ti165 : TI := ⟨.func #[152, 4] #[150] false, 1, 8, .nilFunc⟩
def ti166 : TI := ⟨.func #[42, 152, 3] #[150] false, 1, 8, .nilFunc⟩
def ti167 : TI := ⟨.func #[42, 152] #[150] false, 1, 8, .nilFunc⟩
def ti168 : TI := ⟨.func #[38, 3, 3, 3] #[36] false, 1, 8, .nilFunc⟩
def ti169 : TI := ⟨.func #[] #[9] false, 1, 8, .nilFunc⟩
def ti170 : TI := ⟨.struct #[{ name := "_interface", type := 17, offset := 0, embedded := false, tag := "", pkgPath := "runtime", byteOffset := 0 }, { name := "concrete", type := 17, offset := 1, embedded := false, tag := "", pkgPath := "runtime", byteOffset := 8 }, { name := "asserted", type := 17, offset := 2, embedded := false, tag := "", pkgPath := "runtime", byteOffset := 16 }, { name := "missingMethod", type := 9, offset := 3, embedded := false, tag := "", pkgPath := "runtime", byteOffset := 24 }], 4, 40, .agg #[.pointer none, .pointer none, .pointer none, .string ⟨#[]⟩]⟩
def ti171 : TI := ⟨.struct #[{ name := "_interface", type := 17, offset := 0, embedded := false, tag := "", pkgPath := "runtime", byteOffset := 0 }, { name := "concrete", type := 17, offset := 1, embedded := false, tag := "", pkgPath := "runtime", byteOffset := 8 }, { name := "asserted", type := 17, offset := 2, embedded := false, tag := "", pkgPath := "runtime", byteOffset := 16 }, { name := "missingMethod", type := 9, offset := 3, embedded := false, tag := "", pkgPath := "runtime", byteOffset := 24 }], 4, 40, .agg #[.pointer none, .pointer none, .pointer none, .string ⟨#[]⟩]⟩
def ti172 : TI := ⟨.array 0 16, 0, 0, .agg #[]⟩
def ti173 : TI := ⟨.struct #[{ name := "_", type := 172, offset := 0, embedded := false, tag := "", pkgPath := "runtime", byteOffset := 0 }], 0, 0, .agg #[]⟩
def ti174 : TI := ⟨.struct #[{ name := "_", type := 172, offset := 0, embedded := false, tag := "", pkgPath := "runtime", byteOffset := 0 }], 0, 0, .agg #[]⟩
def ti175 : TI := ⟨.func #[] #[3] false, 1, 8, .nilFunc⟩
def ti176 : TI := ⟨.int .u8, 1, 1, .int .u8 0⟩
def ti177 : TI := ⟨.int .u8, 1, 1, .int .u8 0⟩
def ti178 : TI := ⟨.func #[184, 184] #[4] false, 1, 8, .nilFunc⟩
def ti179 : TI := ⟨.pointer 5, 1, 8, .pointer none⟩
def ti180 : TI := ⟨.int .i32, 1, 4, .int .i32 0⟩
def ti181 : TI := ⟨.int .i32, 1, 4, .int .i32 0⟩
def ti182 : TI := ⟨.struct #[{ name := "Size_", type := 12, offset := 0, embedded := false, tag := "", pkgPath := "", byteOffset := 0 }, { name := "PtrBytes", type := 12, offset := 1, embedded := false, tag := "", pkgPath := "", byteOffset := 8 }, { name := "Hash", type := 129, offset := 2, embedded := false, tag := "", pkgPath := "", byteOffset := 16 }, { name := "TFlag", type := 176, offset := 3, embedded := false, tag := "", pkgPath := "", byteOffset := 20 }, { name := "Align_", type := 5, offset := 4, embedded := false, tag := "", pkgPath := "", byteOffset := 21 }, { name := "FieldAlign_", type := 5, offset := 5, embedded := false, tag := "", pkgPath := "", byteOffset := 22 }, { name := "Kind_", type := 177, offset := 6, embedded := false, tag := "", pkgPath := "", byteOffset := 23 }, { name := "Equal", type := 178, offset := 7, embedded := false, tag := "", pkgPath := "", byteOffset := 24 }, { name := "GCData", type := 179, offset := 8, embedded := false, tag := "", pkgPath := "", byteOffset := 32 }, { name := "Str", type := 180, offset := 9, embedded := false, tag := "", pkgPath := "", byteOffset := 40 }, { name := "PtrToThis", type := 181, offset := 10, embedded := false, tag := "", pkgPath := "", byteOffset := 44 }], 11, 48, .agg #[.int .u64 0, .int .u64 0, .int .u32 0, .int .u8 0, .int .u8 0, .int .u8 0, .int .u8 0, .nilFunc, .pointer none, .int .i32 0, .int .i32 0]⟩
def ti183 : TI := ⟨.struct #[{ name := "Size_", type := 12, offset := 0, embedded := false, tag := "", pkgPath := "", byteOffset := 0 }, { name := "PtrBytes", type := 12, offset := 1, embedded := false, tag := "", pkgPath := "", byteOffset := 8 }, { name := "Hash", type := 129, offset := 2, embedded := false, tag := "", pkgPath := "", byteOffset := 16 }, { name := "TFlag", type := 176, offset := 3, embedded := false, tag := "", pkgPath := "", byteOffset := 20 }, { name := "Align_", type := 5, offset := 4, embedded := false, tag := "", pkgPath := "", byteOffset := 21 }, { name := "FieldAlign_", type := 5, offset := 5, embedded := false, tag := "", pkgPath := "", byteOffset := 22 }, { name := "Kind_", type := 177, offset := 6, embedded := false, tag := "", pkgPath := "", byteOffset := 23 }, { name := "Equal", type := 178, offset := 7, embedded := false, tag := "", pkgPath := "", byteOffset := 24 }, { name := "GCData", type := 179, offset := 8, embedded := false, tag := "", pkgPath := "", byteOffset := 32 }, { name := "Str", type := 180, offset := 9, embedded := false, tag := "", pkgPath := "", byteOffset := 40 }, { name := "PtrToThis", type := 181, offset := 10, embedded := false, tag := "", pkgPath := "", byteOffset := 44 }], 11, 48, .agg #[.int .u64 0, .int .u64 0, .int .u32 0, .int .u8 0, .int .u8 0, .int .u8 0, .int .u8 0, .nilFunc, .pointer none, .int .i32 0, .int .i32 0]⟩
def tbl : List (Nat × TI) := [(1, ti1), (2, ti2), (3, ti3), (4, ti4), (5, ti5), (6, ti6), (7, ti7), (8, ti8), (9, ti9), (10, ti10), (11, ti11), (12, ti12), (13, ti13), (14, ti14), (15, ti15), (16, ti16), (17, ti17), (18, ti18), (19, ti19), (21, ti21), (22, ti22), (23, ti23), (24, ti24), (25, ti25), (26, ti26), (27, ti27), (28, ti28), (29, ti29), (30, ti30), (31, ti31), (32, ti32), (33, ti33), (34, ti34), (35, ti35), (36, ti36), (37, ti37), (38, ti38), (39, ti39), (40, ti40), (41, ti41), (42, ti42), (43, ti43), (45, ti45), (46, ti46), (47, ti47), (48, ti48), (49, ti49), (50, ti50), (51, ti51), (52, ti52), (53, ti53), (54, ti54), (55, ti55), (56, ti56), (57, ti57), (58, ti58), (59, ti59), (61, ti61), (62, ti62), (63, ti63), (64, ti64), (65, ti65), (66, ti66), (67, ti67), (68, ti68), (69, ti69), (70, ti70), (71, ti71), (72, ti72), (73, ti73), (74, ti74), (75, ti75), (76, ti76), (77, ti77), (78, ti78), (79, ti79), (80, ti80), (82, ti82), (83, ti83), (84, ti84), (85, ti85), (86, ti86), (87, ti87), (88, ti88), (89, ti89), (90, ti90), (91, ti91), (92, ti92), (93, ti93), (94, ti94), (95, ti95), (96, ti96), (97, ti97), (98, ti98), (99, ti99), (100, ti100), (101, ti101), (102, ti102), (103, ti103), (104, ti104), (105, ti105), (106, ti106), (107, ti107), (108, ti108), (110, ti110), (111, ti111), (112, ti112), (113, ti113), (114, ti114), (115, ti115), (116, ti116), (117, ti117), (118, ti118), (119, ti119), (120, ti120), (122, ti122), (123, ti123), (124, ti124), (125, ti125), (127, ti127), (128, ti128), (129, ti129), (130, ti130), (131, ti131), (132, ti132), (133, ti133), (135, ti135), (136, ti136), (137, ti137), (138, ti138), (139, ti139), (140, ti140), (141, ti141), (142, ti142), (143, ti143), (144, ti144), (145, ti145), (146, ti146), (147, ti147), (148, ti148), (149, ti149), (150, ti150), (151, ti151), (152, ti152), (153, ti153), (154, ti154), (155, ti155), (156, ti156), (157, ti157), (158, ti158), (159, ti159), (160, ti160), (161, ti161), (162, ti162), (163, ti163), (164, ti164), (165, ti165), (166, ti166), (167, ti167), (168, ti168), (169, ti169), (170, ti170), (171, ti171), (172, ti172), (173, ti173), (174, ti174), (175, ti175), (176, ti176), (177, ti177), (178, ti178), (179, ti179), (180, ti180), (181, ti181), (182, ti182), (183, ti183)]
def tab (t : TypeId) : Option TI := Go.Sk.look tbl t
theorem tok1 : TokE Try.prog 1 ti1 := tok_entry (by kernel_rfl) (by kernel_rfl) rfl
theorem tok2 : TokE Try.prog 2 ti2 := tok_entry (by kernel_rfl) (by kernel_rfl) rfl
theorem tok3 : TokE Try.prog 3 ti3 := tok_entry (by kernel_rfl) (by kernel_rfl) rfl
theorem tok4 : TokE Try.prog 4 ti4 := tok_entry (by kernel_rfl) (by kernel_rfl) rfl
theorem tok5 : TokE Try.prog 5 ti5 := tok_entry (by kernel_rfl) (by kernel_rfl) rfl
theorem tok6 : TokE Try.prog 6 ti6 := tok_entry (by kernel_rfl) (by kernel_rfl) rfl
theorem tok7 : TokE Try.prog 7 ti7 := tok_entry (by kernel_rfl) (by kernel_rfl) rfl
theorem tok8 : TokE Try.prog 8 ti8 := tok_entry (by kernel_rfl) (by kernel_rfl) rfl
theorem tok9 : TokE Try.prog 9 ti9 := tok_entry (by kernel_rfl) (by kernel_rfl) rfl
theorem tok10 : TokE Try.prog 10 ti10 := tok_entry (by kernel_rfl) (by kernel_rfl) rfl
theorem tok11 : TokE Try.prog 11 ti11 := tok_entry (by kernel_rfl) (by kernel_rfl) rfl
theorem tok12 : TokE Try.prog 12 ti12 := tok_entry (by kernel_rfl) (by kernel_rfl) rfl
theorem tok13 : TokE Try.prog 13 ti13 := tok_entry (by kernel_rfl) (by kernel_rfl) rfl
theorem tok14 : TokE Try.prog 14 ti14 := tok_entry (by kernel_rfl) (by kernel_rfl) rfl
theorem tok15 : TokE Try.prog 15 ti15 := tok_entry (by kernel_rfl) (by kernel_rfl) rfl
theorem tok16 : TokE Try.prog 16 ti16 := tok_entry (by kernel_rfl) (by kernel_rfl) rfl
theorem tok17 : TokE Try.prog 17 ti17 := tok_entry (by kernel_rfl) (by kernel_rfl) rfl
theorem tok18 : TokE Try.prog 18 ti18 := tok_entry (by kernel_rfl) (by kernel_rfl) rfl
theorem tok19 : TokE Try.prog 19 ti19 := tok_entry (by kernel_rfl) (by kernel_rfl) rfl
theorem tok21 : TokE Try.prog 21 ti21 := tok_entry (by kernel_rfl) (by kernel_rfl) rfl
theorem tok22 : TokE Try.prog 22 ti22 := tok_entry (by kernel_rfl) (by kernel_rfl) rfl
theorem tok23 : TokE Try.prog 23 ti23 := tok_entry (by kernel_rfl) (by kernel_rfl) rfl
theorem tok24 : TokE Try.prog 24 ti24 := tok_entry (by kernel_rfl) (by kernel_rfl) rfl
theorem tok25 : TokE Try.prog 25 ti25 := tok_entry (by kernel_rfl) (by kernel_rfl) rfl
theorem tok26 : TokE Try.prog 26 ti26 := tok_entry (by kernel_rfl) (by kernel_rfl) rfl
theorem tok27 : TokE Try.prog 27 ti27 := tok_entry (by kernel_rfl) (by kernel_rfl) rfl
theorem tok28 : TokE Try.prog 28 ti28 := tok_entry (by kernel_rfl) (by kernel_rfl) rfl
theorem tok29 : TokE Try.prog 29 ti29 := tok_entry (by kernel_rfl) (by kernel_rfl) rfl
theorem tok30 : TokE Try.prog 30 ti30 := tok_entry (by kernel_rfl) (by kernel_rfl) rfl
theorem tok31 : TokE Try.prog 31 ti31 := tok_entry (by kernel_rfl) (by kernel_rfl) rfl
theorem tok32 : TokE Try.prog 32 ti32 := tok_entry (by kernel_rfl) (by kernel_rfl) rfl
theorem tok33 : TokE Try.prog 33 ti33 := tok_entry (by kernel_rfl) (by kernel_rfl) rfl
theorem tok34 : TokE Try.prog 34 ti34 := tok_entry (by kernel_rfl) (by kernel_rfl) rfl
theorem tok35 : TokE Try.prog 35 ti35 := tok_entry (by kernel_rfl) (by kernel_rfl) rfl
theorem tok36 : TokE Try.prog 36 ti36 := tok_entry (by kernel_rfl) (by kernel_rfl) rfl
theorem tok37 : TokE Try.prog 37 ti37 := tok_entry (by kernel_rfl) (by kernel_rfl) rfl
theorem tok38 : TokE Try.prog 38 ti38 := tok_entry (by kernel_rfl) (by kernel_rfl) rfl
theorem tok39 : TokE Try.prog 39 ti39 := tok_entry (by kernel_rfl) (by kernel_rfl) rfl
theorem tok40 : TokE Try.prog 40 ti40 := tok_entry (by kernel_rfl) (by kernel_rfl) rfl
theorem tok41 : TokE Try.prog 41 ti41 := tok_entry (by kernel_rfl) (by kernel_rfl) rfl
theorem tok42 : TokE Try.prog 42 ti42 := tok_entry (by kernel_rfl) (by kernel_rfl) rfl
theorem tok43 : TokE Try.prog 43 ti43 := tok_entry (by kernel_rfl) (by kernel_rfl) rfl
theorem tok45 : TokE Try.prog 45 ti45 := tok_entry (by kernel_rfl) (by kernel_rfl) rfl
theorem tok46 : TokE Try.prog 46 ti46 := tok_entry (by kernel_rfl) (by kernel_rfl) rfl
theorem tok47 : TokE Try.prog 47 ti47 := tok_entry (by kernel_rfl) (by kernel_rfl) rfl
theorem tok48 : TokE Try.prog 48 ti48 := tok_entry (by kernel_rfl) (by kernel_rfl) rfl
theorem tok49 : TokE Try.prog 49 ti49 := tok_entry (by kernel_rfl) (by kernel_rfl) rfl
theorem tok50 : TokE Try.prog 50 ti50 := tok_entry (by kernel_rfl) (by kernel_rfl) rfl
theorem tok51 : TokE Try.prog 51 ti51 := tok_entry (by kernel_rfl) (by kernel_rfl) rfl
theorem tok52 : TokE Try.prog 52 ti52 := tok_entry (by kernel_rfl) (by kernel_rfl) rfl
theorem tok53 : TokE Try.prog 53 ti53 := tok_entry (by kernel_rfl) (by kernel_rfl) rfl
theorem tok54 : TokE Try.prog 54 ti54 := tok_entry (by kernel_rfl) (by kernel_rfl) rfl
theorem tok55 : TokE Try.prog 55 ti55 := tok_entry (by kernel_rfl) (by kernel_rfl) rfl
theorem tok56 : TokE Try.prog 56 ti56 := tok_entry (by kernel_rfl) (by kernel_rfl) rfl
theorem tok57 : TokE Try.prog 57 ti57 := tok_entry (by kernel_rfl) (by kernel_rfl) rfl
theorem tok58 : TokE Try.prog 58 ti58 := tok_entry (by kernel_rfl) (by kernel_rfl) rfl
theorem tok59 : TokE Try.prog 59 ti59 := tok_entry (by kernel_rfl) (by kernel_rfl) rfl
theorem tok61 : TokE Try.prog 61 ti61 := tok_entry (by kernel_rfl) (by kernel_rfl) rfl
theorem tok62 : TokE Try.prog 62 ti62 := tok_entry (by kernel_rfl) (by kernel_rfl) rfl
theorem tok63 : TokE Try.prog 63 ti63 := tok_entry (by kernel_rfl) (by kernel_rfl) rfl
theorem tok64 : TokE Try.prog 64 ti64 := tok_entry (by kernel_rfl) (by kernel_rfl) rfl
theorem tok65 : TokE Try.prog 65 ti65 := tok_entry (by kernel_rfl) (by kernel_rfl) rfl
theorem tok66 : TokE Try.prog 66 ti66 := tok_entry (by kernel_rfl) (by kernel_rfl) rfl
theorem tok67 : TokE Try.prog 67 ti67 := tok_entry (by kernel_rfl) (by kernel_rfl) rfl
theorem tok68 : TokE Try.prog 68 ti68 := tok_entry (by kernel_rfl) (by kernel_rfl) rfl
theorem tok69 : TokE Try.prog 69 ti69 := tok_entry (by kernel_rfl) (by kernel_rfl) rfl
theorem tok70 : TokE Try.prog 70 ti70 := tok_entry (by kernel_rfl) (by kernel_rfl) rfl
theorem tok71 : TokE Try.prog 71 ti71 := tok_entry (by kernel_rfl) (by kernel_rfl) rfl
theorem tok72 : TokE Try.prog 72 ti72 := tok_entry (by kernel_rfl) (by kernel_rfl) rfl
theorem tok73 : TokE Try.prog 73 ti73 := tok_entry (by kernel_rfl) (by kernel_rfl) rfl
theorem tok74 : TokE Try.prog 74 ti74 := tok_entry (by kernel_rfl) (by kernel_rfl) rfl
theorem tok75 : TokE Try.prog 75 ti75 := tok_entry (by kernel_rfl) (by kernel_rfl) rfl
theorem tok76 : TokE Try.prog 76 ti76 := tok_entry (by kernel_rfl) (by kernel_rfl) rfl
theorem tok77 : TokE Try.prog 77 ti77 := tok_entry (by kernel_rfl) (by kernel_rfl) rfl
theorem tok78 : TokE Try.prog 78 ti78 := tok_entry (by kernel_rfl) (by kernel_rfl) rfl
theorem tok79 : TokE Try.prog 79 ti79 := tok_entry (by kernel_rfl) (by kernel_rfl) rfl
theorem tok80 : TokE Try.prog 80 ti80 := tok_entry (by kernel_rfl) (by kernel_rfl) rfl
theorem tok82 : TokE Try.prog 82 ti82 := tok_entry (by kernel_rfl) (by kernel_rfl) rfl
theorem tok83 : TokE Try.prog 83 ti83 := tok_entry (by kernel_rfl) (by kernel_rfl) rfl
theorem tok84 : TokE Try.prog 84 ti84 := tok_entry (by kernel_rfl) (by kernel_rfl) rfl
theorem tok85 : TokE Try.prog 85 ti85 := tok_entry (by kernel_rfl) (by kernel_rfl) rfl
theorem tok86 : TokE Try.prog 86 ti86 := tok_entry (by kernel_rfl) (by kernel_rfl) rfl
theorem tok87 : TokE Try.prog 87 ti87 := tok_entry (by kernel_rfl) (by kernel_rfl) rfl
theorem tok88 : TokE Try.prog 88 ti88 := tok_entry (by kernel_rfl) (by kernel_rfl) rfl
theorem tok89 : TokE Try.prog 89 ti89 := tok_entry (by kernel_rfl) (by kernel_rfl) rfl
theorem tok90 : TokE Try.prog 90 ti90 := tok_entry (by kernel_rfl) (by kernel_rfl) rfl
theorem tok91 : TokE Try.prog 91 ti91 := tok_entry (by kernel_rfl) (by kernel_rfl) rfl
theorem tok92 : TokE Try.prog 92 ti92 := tok_entry (by kernel_rfl) (by kernel_rfl) rfl
theorem tok93 : TokE Try.prog 93 ti93 := tok_entry (by kernel_rfl) (by kernel_rfl) rfl
theorem tok94 : TokE Try.prog 94 ti94 := tok_entry (by kernel_rfl) (by kernel_rfl) rfl
theorem tok95 : TokE Try.prog 95 ti95 := tok_entry (by kernel_rfl) (by kernel_rfl) rfl
theorem tok96 : TokE Try.prog 96 ti96 := tok_entry (by kernel_rfl) (by kernel_rfl) rfl
theorem tok97 : TokE Try.prog 97 ti97 := tok_entry (by kernel_rfl) (by kernel_rfl) rfl
theorem tok98 : TokE Try.prog 98 ti98 := tok_entry (by kernel_rfl) (by kernel_rfl) rfl
theorem tok99 : TokE Try.prog 99 ti99 := tok_entry (by kernel_rfl) (by kernel_rfl) rfl
theorem tok100 : TokE Try.prog 100 ti100 := tok_entry (by kernel_rfl) (by kernel_rfl) rfl
theorem tok101 : TokE Try.prog 101 ti101 := tok_entry (by kernel_rfl) (by kernel_rfl) rfl
theorem tok102 : TokE Try.prog 102 ti102 := tok_entry (by kernel_rfl) (by kernel_rfl) rfl
theorem tok103 : TokE Try.prog 103 ti103 := tok_entry (by kernel_rfl) (by kernel_rfl) rfl
theorem tok104 : TokE Try.prog 104 ti104 := tok_entry (by kernel_rfl) (by kernel_rfl) rfl
theorem tok105 : TokE Try.prog 105 ti105 := tok_entry (by kernel_rfl) (by kernel_rfl) rfl
theorem tok106 : TokE Try.prog 106 ti106 := tok_entry (by kernel_rfl) (by kernel_rfl) rfl
theorem tok107 : TokE Try.prog 107 ti107 := tok_entry (by kernel_rfl) (by kernel_rfl) rfl
theorem tok108 : TokE Try.prog 108 ti108 := tok_entry (by kernel_rfl) (by kernel_rfl) rfl
theorem tok110 : TokE Try.prog 110 ti110 := tok_entry (by kernel_rfl) (by kernel_rfl) rfl
theorem tok111 : TokE Try.prog 111 ti111 := tok_entry (by kernel_rfl) (by kernel_rfl) rfl
theorem tok112 : TokE Try.prog 112 ti112 := tok_entry (by kernel_rfl) (by kernel_rfl) rfl
theorem tok113 : TokE Try.prog 113 ti113 := tok_entry (by kernel_rfl) (by kernel_rfl) rfl
theorem tok114 : TokE Try.prog 114 ti114 := tok_entry (by kernel_rfl) (by kernel_rfl) rfl
theorem tok115 : TokE Try.prog 115 ti115 := tok_entry (by kernel_rfl) (by kernel_rfl) rfl
theorem tok116 : TokE Try.prog 116 ti116 := tok_entry (by kernel_rfl) (by kernel_rfl) rfl
theorem tok117 : TokE Try.prog 117 ti117 := tok_entry (by kernel_rfl) (by kernel_rfl) rfl
theorem tok118 : TokE Try.prog 118 ti118 := tok_entry (by kernel_rfl) (by kernel_rfl) rfl
theorem tok119 : TokE Try.prog 119 ti119 := tok_entry (by kernel_rfl) (by kernel_rfl) rfl
theorem tok120 : TokE Try.prog 120 ti120 := tok_entry (by kernel_rfl) (by kernel_rfl) rfl
theorem tok122 : TokE Try.prog 122 ti122 := tok_entry (by kernel_rfl) (by kernel_rfl) rfl
theorem tok123 : TokE Try.prog 123 ti123 := tok_entry (by kernel_rfl) (by kernel_rfl) rfl
theorem tok124 : TokE Try.prog 124 ti124 := tok_entry (by kernel_rfl) (by kernel_rfl) rfl
theorem tok125 : TokE Try.prog 125 ti125 := tok_entry (by kernel_rfl) (by kernel_rfl) rfl
theorem tok127 : TokE Try.prog 127 ti127 := tok_entry (by kernel_rfl) (by kernel_rfl) rfl
theorem tok128 : TokE Try.prog 128 ti128 := tok_entry (by kernel_rfl) (by kernel_rfl) rfl
theorem tok129 : TokE Try.prog 129 ti129 := tok_entry (by kernel_rfl) (by kernel_rfl) rfl
theorem tok130 : TokE Try.prog 130 ti130 := tok_entry (by kernel_rfl) (by kernel_rfl) rfl
theorem tok131 : TokE Try.prog 131 ti131 := tok_entry (by kernel_rfl) (by kernel_rfl) rfl
theorem tok132 : TokE Try.prog 132 ti132 := tok_entry (by kernel_rfl) (by kernel_rfl) rfl
theorem tok133 : TokE Try.prog 133 ti133 := tok_entry (by kernel_rfl) (by kernel_rfl) rfl
theorem tok135 : TokE Try.prog 135 ti135 := tok_entry (by kernel_rfl) (by kernel_rfl) rfl
theorem tok136 : TokE Try.prog 136 ti136 := tok_entry (by kernel_rfl) (by kernel_rfl) rfl
theorem tok137 : TokE Try.prog 137 ti137 := tok_entry (by kernel_rfl) (by kernel_rfl) rfl
theorem tok138 : TokE Try.prog 138 ti138 := tok_entry (by kernel_rfl) (by kernel_rfl) rfl
theorem tok139 : TokE Try.prog 139 ti139 := tok_entry (by kernel_rfl) (by kernel_rfl) rfl
theorem tok140 : TokE Try.prog 140 ti140 := tok_entry (by kernel_rfl) (by kernel_rfl) rfl
theorem tok141 : TokE Try.prog 141 ti141 := tok_entry (by kernel_rfl) (by kernel_rfl) rfl
theorem tok142 : TokE Try.prog 142 ti142 := tok_entry (by kernel_rfl) (by kernel_rfl) rfl
theorem tok143 : TokE Try.prog 143 ti143 := tok_entry (by kernel_rfl) (by kernel_rfl) rfl
theorem tok144 : TokE Try.prog 144 ti144 := tok_entry (by kernel_rfl) (by kernel_rfl) rfl
theorem tok145 : TokE Try.prog 145 ti145 := tok_entry (by kernel_rfl) (by kernel_rfl) rfl
theorem tok146 : TokE Try.prog 146 ti146 := tok_entry (by kernel_rfl) (by kernel_rfl) rfl
theorem tok147 : TokE Try.prog 147 ti147 := tok_entry (by kernel_rfl) (by kernel_rfl) rfl
theorem tok148 : TokE Try.prog 148 ti148 := tok_entry (by kernel_rfl) (by kernel_rfl) rfl
theorem tok149 : TokE Try.prog 149 ti149 := tok_entry (by kernel_rfl) (by kernel_rfl) rfl
theorem tok150 : TokE Try.prog 150 ti150 := tok_entry (by kernel_rfl) (by kernel_rfl) rfl
theorem tok151 : TokE Try.prog 151 ti151 := tok_entry (by kernel_rfl) (by kernel_rfl) rfl
theorem tok152 : TokE Try.prog 152 ti152 := tok_entry (by kernel_rfl) (by kernel_rfl) rfl
theorem tok153 : TokE Try.prog 153 ti153 := tok_entry (by kernel_rfl) (by kernel_rfl) rfl
theorem tok154 : TokE Try.prog 154 ti154 := tok_entry (by kernel_rfl) (by kernel_rfl) rfl
theorem tok155 : TokE Try.prog 155 ti155 := tok_entry (by kernel_rfl) (by kernel_rfl) rfl
theorem tok156 : TokE Try.prog 156 ti156 := tok_entry (by kernel_rfl) (by kernel_rfl) rfl
theorem tok157 : TokE Try.prog 157 ti157 := tok_entry (by kernel_rfl) (by kernel_rfl) rfl
theorem tok158 : TokE Try.prog 158 ti158 := tok_entry (by kernel_rfl) (by kernel_rfl) rfl
theorem tok159 : TokE Try.prog 159 ti159 := tok_entry (by kernel_rfl) (by kernel_rfl) rfl
theorem tok160 : TokE Try.prog 160 ti160 := tok_entry (by kernel_rfl) (by kernel_rfl) rfl
theorem tok161 : TokE Try.prog 161 ti161 := tok_entry (by kernel_rfl) (by kernel_rfl) rfl
theorem tok162 : TokE Try.prog 162 ti162 := tok_entry (by kernel_rfl) (by kernel_rfl) rfl
theorem tok163 : TokE Try.prog 163 ti163 := tok_entry (by kernel_rfl) (by kernel_rfl) rfl
theorem tok164 : TokE Try.prog 164 ti164 := tok_entry (by kernel_rfl) (by kernel_rfl) rfl
theorem tok165 : TokE Try.prog 165 ti165 := tok_entry (by kernel_rfl) (by kernel_rfl) rfl
theorem tok166 : TokE Try.prog 166 ti166 := tok_entry (by kernel_rfl) (by kernel_rfl) rfl
theorem tok167 : TokE Try.prog 167 ti167 := tok_entry (by kernel_rfl) (by kernel_rfl) rfl
theorem tok168 : TokE Try.prog 168 ti168 := tok_entry (by kernel_rfl) (by kernel_rfl) rfl
theorem tok169 : TokE Try.prog 169 ti169 := tok_entry (by kernel_rfl) (by kernel_rfl) rfl
theorem tok170 : TokE Try.prog 170 ti170 := tok_entry (by kernel_rfl) (by kernel_rfl) rfl
theorem tok171 : TokE Try.prog 171 ti171 := tok_entry (by kernel_rfl) (by kernel_rfl) rfl
theorem tok172 : TokE Try.prog 172 ti172 := tok_entry (by kernel_rfl) (by kernel_rfl) rfl
theorem tok173 : TokE Try.prog 173 ti173 := tok_entry (by kernel_rfl) (by kernel_rfl) rfl
theorem tok174 : TokE Try.prog 174 ti174 := tok_entry (by kernel_rfl) (by kernel_rfl) rfl
theorem tok175 : TokE Try.prog 175 ti175 := tok_entry (by kernel_rfl) (by kernel_rfl) rfl
theorem tok176 : TokE Try.prog 176 ti176 := tok_entry (by kernel_rfl) (by kernel_rfl) rfl
theorem tok177 : TokE Try.prog 177 ti177 := tok_entry (by kernel_rfl) (by kernel_rfl) rfl
theorem tok178 : TokE Try.prog 178 ti178 := tok_entry (by kernel_rfl) (by kernel_rfl) rfl
theorem tok179 : TokE Try.prog 179 ti179 := tok_entry (by kernel_rfl) (by kernel_rfl) rfl
theorem tok180 : TokE Try.prog 180 ti180 := tok_entry (by kernel_rfl) (by kernel_rfl) rfl
theorem tok181 : TokE Try.prog 181 ti181 := tok_entry (by kernel_rfl) (by kernel_rfl) rfl
theorem tok182 : TokE Try.prog 182 ti182 := tok_entry (by kernel_rfl) (by kernel_rfl) rfl
theorem tok183 : TokE Try.prog 183 ti183 := tok_entry (by kernel_rfl) (by kernel_rfl) rfl
theorem tok : TOK Try.prog tab := fun t i h => tokL_get (P := Try.prog) (l := tbl) ⟨tok1, tok2, tok3, tok4, tok5, tok6, tok7, tok8, tok9, tok10, tok11, tok12, tok13, tok14, tok15, tok16, tok17, tok18, tok19, tok21, tok22, tok23, tok24, tok25, tok26, tok27, tok28, tok29, tok30, tok31, tok32, tok33, tok34, tok35, tok36, tok37, tok38, tok39, tok40, tok41, tok42, tok43, tok45, tok46, tok47, tok48, tok49, tok50, tok51, tok52, tok53, tok54, tok55, tok56, tok57, tok58, tok59, tok61, tok62, tok63, tok64, tok65, tok66, tok67, tok68, tok69, tok70, tok71, tok72, tok73, tok74, tok75, tok76, tok77, tok78, tok79, tok80, tok82, tok83, tok84, tok85, tok86, tok87, tok88, tok89, tok90, tok91, tok92, tok93, tok94, tok95, tok96, tok97, tok98, tok99, tok100, tok101, tok102, tok103, tok104, tok105, tok106, tok107, tok108, tok110, tok111, tok112, tok113, tok114, tok115, tok116, tok117, tok118, tok119, tok120, tok122, tok123, tok124, tok125, tok127, tok128, tok129, tok130, tok131, tok132, tok133, tok135, tok136, tok137, tok138, tok139, tok140, tok141, tok142, tok143, tok144, tok145, tok146, tok147, tok148, tok149, tok150, tok151, tok152, tok153, tok154, tok155, tok156, tok157, tok158, tok159, tok160, tok161, tok162, tok163, tok164, tok165, tok166, tok167, tok168, tok169, tok170, tok171, tok172, tok173, tok174, tok175, tok176, tok177, tok178, tok179, tok180, tok181, tok182, tok183, trivial⟩ t i h
end Go.Proofs.Ytceeabnmleemiaa
