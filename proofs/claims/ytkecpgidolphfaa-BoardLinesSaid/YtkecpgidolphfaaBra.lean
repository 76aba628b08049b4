/- Contracts of functions of the program, proved by the checker. -/
import Derived.Test.YtkecpgidolphfaaBp
import Derived.Test.YtkecpgidolphfaaRows
import Derived.Test.YtkecpgidolphfaaSk11
namespace Go.Proofs.Ytkecpgidolphfaa
set_option linter.unusedVariables false
set_option linter.unusedSimpArgs false
open Go Go.Sk Go.ChangeShapes Go.WideShapes Go.ChangeAt Go.RowKit

theorem own : ownKnob Try.prog.godebug = none := by kernel_rfl

theorem has_u8 {m : Int} (h : IntKind.u8.has m) : u8 m := by
  simp [IntKind.has, IntKind.min, IntKind.max, IntKind.signed, IntKind.bits] at h
  exact ⟨by omega, by omega⟩
theorem wf_i16 {m : Int} (h : (Lit.int .i16 m).wf = true) : -32768 ≤ m ∧ m ≤ 32767 := by
  simp [Lit.wf, IntKind.has, IntKind.min, IntKind.max, IntKind.signed, IntKind.bits] at h
  omega
theorem raw_open {w : World} {r : Reach} {b0 : Nat} {v : Value} (h : Value.okWide Try.prog w r b0 28 v) : ∃ x : Rw, x.ok ∧ ∀ (N : Nat → Prop) (V : VV), RepT N w V x.av v := by
  obtain ⟨ns, rfl, hl, hk⟩ := okWide_ints (ts := List.replicate 35 5) Try.underlying28 (by kernel_rfl) (by kernel_rfl) (fun u hu => by rw [List.eq_of_mem_replicate hu]; exact Try.underlying5) h
  match ns, hl with
  | c :: d :: t :: r, hl =>
    refine ⟨⟨c, d, t, r⟩, ⟨has_u8 (hk 0 _ rfl), has_u8 (hk 1 _ rfl), has_u8 (hk 2 _ rfl), fun i i0 i1 => ?_, by simpa using hl⟩, fun N V => ?_⟩
    · have hl' : r.length = 32 := by simpa using hl
      exact has_u8 (hk (i.toNat + 3) _ (by simpa using nth_some (l := r) i0 (by omega)))
    · have := rep_ints (N := N) (w := w) (V := V) .u8 (c :: d :: t :: r)
      exact this
theorem bdL_U {A : Nat → Prop} : ∀ l : List Int, bdL A (l.map U)
  | [] => by simp [bdL]
  | n :: r => by
    rw [List.map_cons]
    unfold bdL
    exact ⟨by simp [U, bd], bdL_U r⟩
theorem raw_bd {A : Nat → Prop} (x : Rw) : bd A x.av := by
  have := bdL_U (A := A) (x.cells :: x.dirs :: x.turn :: x.ns)
  unfold Rw.av bd
  exact this
end Go.Proofs.Ytkecpgidolphfaa
