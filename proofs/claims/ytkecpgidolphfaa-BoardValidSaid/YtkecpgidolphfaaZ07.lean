/- For every input, the law skewerlaw01.BoardValid returns true, and its arguments read behind the call as they read before it. No condition. -/
import Derived.Test.YtkecpgidolphfaaZ06
import Derived.Test.YtkecpgidolphfaaZ03
set_option linter.unusedVariables false
set_option linter.unusedSimpArgs false
namespace Go.Proofs.Ytkecpgidolphfaa.boardValid
open Go Go.Sk Go.ChangeShapes Go.WideShapes Go.ChangeAt Go.RowKit
set_option maxRecDepth 100000 in
theorem lifted (os : Os) (started : os.Started) (H : Type) (enc : TypeId × Value → H) :
    ReturnsInHanded {} Try.checked os 3 .any (Rows.boardValidSpec.pre6 enc Try.prog Try.f3 Rows.boardValidRow.domain false) (Rows.boardValidSpec.post enc Try.prog Try.f3 false true false false) := by
  refine returnsInHanded_of_change (C := Try.checked) own started (by kernel_rfl) Try.func3
    (ChangeSpec.witness6 (enc := enc) (C := Try.checked) false ⟨#[], #[.agg #[.int .i64 0, .slice none 0 0, .slice none 0 0], .agg (Array.replicate 35 (.int .u8 0)), .agg (Array.replicate 4 (.int .i16 0))], []⟩ 8 (by kernel_rfl) (by kernel_rfl) (by kernel_rfl) (by kernel_rfl)) ?_
  intro W base args ds gs before hval0 hW hcnd _
  have hval : ∀ (j : Nat) t v, Try.f3.params[j]? = some t → args[j]? = some v → Value.okWide Try.prog W .any base t v := hval0
  have hW' := hW
  obtain ⟨p, q, hA0, hV, rfl, hfz, hnd⟩ := hW
  have hA : DataW.TrodAll enc Try.prog W 0 (fun _ => true) true Try.f3.params.toList args.toList ds p := hA0
  rw [Try.params3] at hA hval
  obtain ⟨v0, vs0, d0, ds0, p0, q0, hargs, rfl, rfl, h0, r0⟩ := trodAll_cons hA
  obtain ⟨v1, vs1, d1, ds1, p1, q1, rfl, rfl, rfl, h1, r1⟩ := trodAll_cons r0
  obtain ⟨v2, vs2, d2, ds2, p2, q2, rfl, rfl, rfl, h2, r2⟩ := trodAll_cons r1
  obtain ⟨rfl, rfl, rfl⟩ := trodAll_nil r2
  obtain rfl : args = #[v0, v1, v2] := by cases args; simp_all
  obtain ⟨rfl, rfl⟩ := trodVars_none hV
  obtain ⟨b, hb, hr0⟩ := open_bd (hval 0 _ v0 rfl rfl) h0
  obtain ⟨x, hx, hr1⟩ := raw_open (hval 1 _ v1 rfl rfl)
  obtain ⟨k1, k2, k3, k4, rfl, w2⟩ := a4_open (hval 2 _ v2 rfl rfl)
  clear hA0 hval0
  refine ((BoardValid_p b hb x hx k1 k2 k3 k4 w2).calls (W := W) (vs := #[v0, v1, .agg #[.int .i16 k1, .int .i16 k2, .int .i16 k3, .int .i16 k4]]) rfl (fun j g1 g2 => ?_) ?_).mono fun e W' ⟨he, hb⟩ => ?_
  · match j, g1, g2 with
    | 0, _, _ => exact hr0 _
    | 1, _, _ => exact hr1 _ _
    | 2, _, _ => exact a4_rep _ _ _ _
  · exact ⟨bd_bd b, ⟨raw_bd x, ⟨⟨trivial, trivial, trivial, trivial, trivial⟩, trivial⟩⟩⟩
  subst he
  exact ⟨_, rfl, law_post (t := 4) hW' rfl rfl hb (by kernel_rfl) (by decide +kernel) rfl Try.underlying4⟩
theorem over : Rows.boardValidRow.holds Try.pinned (OpenSpec.ofChange Rows.boardValidSpec) :=
  OpenClaim.holds_of_wide 3 Try.f3 rfl rfl rfl rfl rfl rfl rfl ⟨rfl, rfl, rfl, rfl, rfl⟩ rfl rfl rfl rfl rfl (by kernel_rfl) Try.func3 (by kernel_rfl)
    (of_decide_eq_true (by kernel_rfl)) (by unfold Func.isWrapper; first | (rw [if_pos (by decide +kernel)]; kernel_rfl) | (rw [if_neg (by decide +kernel)]; exact ⟨rfl, rfl⟩))
    (fun os started H enc _ => lifted os started H enc)
theorem proved : Rows.BoardValidSaid :=
  over
#print axioms proved
end Go.Proofs.Ytkecpgidolphfaa.boardValid
