/- For every input, the law skewerlaw01.BoardMatchesReference returns true, and its arguments read behind the call as they read before it. No condition. -/
import Derived.Test.YtkecpgidolphfaaByg
import Derived.Test.YtkecpgidolphfaaBra
namespace Go.Proofs.Ytkecpgidolphfaa.boardMatchesReference
set_option linter.unusedVariables false
set_option linter.unusedSimpArgs false
open Go Go.Sk Go.ChangeShapes Go.WideShapes Go.ChangeAt Go.RowKit

set_option maxRecDepth 100000 in
theorem lifted (os : Os) (started : os.Started) (H : Type) (enc : TypeId × Value → H) :
    ReturnsInHanded {} Try.checked os 8 .any (Rows.boardMatchesReferenceSpec.pre6 enc Try.prog Try.f8 Rows.boardMatchesReferenceRow.domain false) (Rows.boardMatchesReferenceSpec.post enc Try.prog Try.f8 false true false false) := by
  refine returnsInHanded_of_change (C := Try.checked) own started (by kernel_rfl) Try.func8
    (ChangeSpec.witness6 (enc := enc) (C := Try.checked) false ⟨#[], #[.agg (Array.replicate 35 (.int .u8 0)), .agg (Array.replicate 4 (.int .i16 0))], []⟩ 8 (by kernel_rfl) (by kernel_rfl) (by kernel_rfl) (by kernel_rfl)) ?_
  intro W base args ds gs before hval0 hW hcnd _
  have hval : ∀ (j : Nat) t v, Try.f8.params[j]? = some t → args[j]? = some v → Value.okWide Try.prog W .any base t v := hval0
  have hW' := hW
  obtain ⟨p, q, hA0, hV, rfl, hfz, hnd⟩ := hW
  have hA : DataW.TrodAll enc Try.prog W 0 (fun _ => true) true Try.f8.params.toList args.toList ds p := hA0
  rw [Try.params8] at hA hval
  obtain ⟨v0, vs0, d0, ds0, p0, q0, hargs, rfl, rfl, h0, r0⟩ := trodAll_cons hA
  obtain ⟨v1, vs1, d1, ds1, p1, q1, rfl, rfl, rfl, h1, r1⟩ := trodAll_cons r0
  obtain ⟨rfl, rfl, rfl⟩ := trodAll_nil r1
  obtain rfl : args = #[v0, v1] := by cases args; simp_all
  obtain ⟨rfl, rfl⟩ := trodVars_none hV
  obtain ⟨x, hx, hr0⟩ := raw_open (hval 0 _ v0 rfl rfl)
  obtain ⟨v1, v2, v3, v4, rfl, w1⟩ := a4_open (hval 1 _ v1 rfl rfl)
  clear hA0 hval0
  refine ((BoardMatchesReference_p x hx v1 v2 v3 v4 w1).calls (W := W) (vs := #[v0, .agg #[.int .i16 v1, .int .i16 v2, .int .i16 v3, .int .i16 v4]]) rfl (fun j g1 g2 => ?_) ?_).mono fun e W' ⟨he, hb⟩ => ?_
  · match j, g1, g2 with
    | 0, _, _ => exact hr0 _ _
    | 1, _, _ => exact a4_rep _ _ _ _
  · exact ⟨raw_bd x, ⟨⟨trivial, trivial, trivial, trivial, trivial⟩, trivial⟩⟩
  subst he
  exact ⟨_, rfl, law_post (t := 4) hW' rfl rfl hb (by kernel_rfl) (by decide +kernel) rfl Try.underlying4⟩

theorem over : Rows.boardMatchesReferenceRow.holds Try.pinned (OpenSpec.ofChange Rows.boardMatchesReferenceSpec) :=
  OpenClaim.holds_of_wide 8 Try.f8 rfl rfl rfl rfl rfl rfl rfl ⟨rfl, rfl, rfl, rfl, rfl⟩ rfl rfl rfl rfl rfl (by kernel_rfl) Try.func8 (by kernel_rfl)
    (of_decide_eq_true (by kernel_rfl)) (by unfold Func.isWrapper; first | (rw [if_pos (by decide +kernel)]; kernel_rfl) | (rw [if_neg (by decide +kernel)]; exact ⟨rfl, rfl⟩))
    (fun os started H enc _ => lifted os started H enc)

/-- THE STATEMENT. -/
theorem proved : Rows.BoardMatchesReferenceSaid :=
  over
#print axioms proved
end Go.Proofs.Ytkecpgidolphfaa.boardMatchesReference
