/- For every input, the law skewerlaw28.InvCounts returns true, and its arguments read behind the call as they read before it. No condition. -/
import Derived.Test.YtejljpjdifblpaaZ30
import Derived.Test.YtejljpjdifblpaaZ19
set_option linter.unusedVariables false
set_option linter.unusedSimpArgs false
namespace Go.Proofs.Ytejljpjdifblpaa.invCounts
open Go Go.Sk Go.ChangeShapes Go.WideShapes Go.ChangeAt Go.RowKit
set_option maxRecDepth 100000 in
theorem lifted (os:Os) (started:os.Started) (H:Type) (enc:TypeId × Value→H) :
  ReturnsInHanded {} Try.checked os 4 .any (Rows.invCountsSpec.pre6 enc Try.prog Try.f4 Rows.invCountsRow.domain false) (Rows.invCountsSpec.post enc Try.prog Try.f4 false true false false):=by
 refine returnsInHanded_of_change (C:=Try.checked) own started (by kernel_rfl) Try.func4
  (ChangeSpec.witness6 (enc:=enc) (C:=Try.checked) false ⟨#[],#[.agg #[.int .u8 0,.int .u8 0,.int .u8 0,.slice none 0 0,.slice none 0 0,.slice none 0 0,.int .u8 0,.int .u8 0,.int .u8 0,.int .u8 0,.int .u8 0,.int .u8 0,.int .u8 0,.int .u8 0,.int .u8 0,.int .u8 0,.int .u8 0,.int .u8 0,.int .u8 0,.int .u8 0,.int .u8 0,.int .u8 0,.int .u8 0,.int .u8 0,.int .u8 0,.int .u8 0,.int .u8 0,.int .u8 0,.int .u8 0,.int .u8 0,.slice none 0 0],.agg #[.int .u8 0,.int .u8 0]],[]⟩ 8 (by kernel_rfl) (by kernel_rfl) (by kernel_rfl) (by kernel_rfl)) ?_
 intro W base args ds gs before hval0 hW hcnd _
 have hval:∀ (j:Nat) t v,Try.f4.params[j]?=some t→args[j]?=some v→Value.okWide Try.prog W .any base t v:=hval0
 have hW':=hW
 obtain ⟨p,q,hA0,hV,rfl,hfz,hnd⟩:=hW
 have hA:DataW.TrodAll enc Try.prog W 0 (fun _=>true) true Try.f4.params.toList args.toList ds p:=hA0
 rw [Try.params4] at hA hval
 obtain ⟨v0,vs0,d0,ds0,p0,q0,hargs,rfl,rfl,h0,r0⟩:=trodAll_cons hA
 obtain ⟨v1,vs1,d1,ds1,p1,q1,rfl,rfl,rfl,h1,r1⟩:=trodAll_cons r0
 obtain ⟨rfl,rfl,rfl⟩:=trodAll_nil r1
 obtain rfl:args=#[v0,v1]:=by cases args;simp_all
 obtain ⟨rfl,rfl⟩:=trodVars_none hV
 obtain ⟨x,hx,hr0⟩:=open_r6 (hval 0 _ v0 rfl rfl) h0
 obtain ⟨w0,w1,hb1,hr1⟩:=open_a2 (hval 1 _ v1 rfl rfl) h1
 clear hA0 hval0
 refine ((InvCounts_p x hx w0 w1 hb1).calls (W:=W) (vs:=#[v0,v1]) rfl (fun j g1 g2=>?_) ?_).mono fun e W' ⟨he,hb⟩=>?_
 ·match j,g1,g2 with
  | 0,_,_=>exact hr0 _
  | 1,_,_=>exact hr1 _
 ·exact ⟨r6_bd x,⟨⟨trivial,trivial,trivial⟩,trivial⟩⟩
 subst he
 exact ⟨_,rfl,law_post (t:=4) hW' rfl rfl hb (by kernel_rfl) (by decide +kernel) rfl Try.underlying4⟩
theorem over:Rows.invCountsRow.holds Try.pinned (OpenSpec.ofChange Rows.invCountsSpec) :=
 OpenClaim.holds_of_wide 4 Try.f4 rfl rfl rfl rfl rfl rfl rfl ⟨rfl,rfl,rfl,rfl,rfl⟩ rfl rfl rfl rfl rfl (by kernel_rfl) Try.func4 (by kernel_rfl)
  (of_decide_eq_true (by kernel_rfl)) (by unfold Func.isWrapper;first | (rw [if_pos (by decide +kernel)];kernel_rfl) | (rw [if_neg (by decide +kernel)];exact ⟨rfl,rfl⟩))
  (fun os started H enc _=>lifted os started H enc)
theorem proved:Rows.InvCountsSaid :=
 over
#print axioms proved
end Go.Proofs.Ytejljpjdifblpaa.invCounts
