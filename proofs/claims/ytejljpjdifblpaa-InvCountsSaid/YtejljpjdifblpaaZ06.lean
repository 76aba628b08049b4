/- Contracts of functions of the program, proved by the checker; and plain laws. -/
import Derived.Test.YtejljpjdifblpaaZ05
set_option linter.unusedVariables false
set_option linter.unusedSimpArgs false
namespace Go.Proofs.Ytejljpjdifblpaa
open Go Go.Sk
set_option maxHeartbeats 4000000 in
set_option maxRecDepth 10000 in
theorem Step_p (g:Gm) (hg:g.ok) (s:Rs) (hs:s.ok g) (x:Stp) (hx:StpOk g.nd g.nk g.rights x):Pure Try.prog 85 [g.av,Sa s,St1 x] (Sas (g.stepR s x)) none:=by
 have ec:(s.p.ct.map I).length=s.p.ct.length:=List.length_map _
 have hlen:=hs.len
 have hu0:=hs.u0
 have hu1:=hs.u1
 have hr:=hs.c s.cur hs.u0 hs.u1
 have hk:=ofK_rg hg hr.1 hr.2
 have ho:=Of_p (nth s.p.ct s.cur) (by have:=hg.k6;omega)
 have r0:=hs.r0
 have r1:=hs.r1
 have g4:=hg.r4
 have r16:s.p.rights < 16:=by
  have:(2:Int) ^ g.rights.toNat≤2 ^ 4:=by exact_mod_cast Nat.pow_le_pow_right (by decide) (by omega)
  omega
 have hsl:=slide_p g hg s hs x.n
 have hpu:=push_p g hg s hs x.n
 have hta:=take_p g hg s hs
 have hto:=To23_p g.b hg.b s.p.side x.n s.cur
 obtain ⟨op,n⟩:=x
 unfold StpOk at hx
 unfold Gm.stepR
 dsimp only at *
 have hop:op=1∨op=2∨op=3∨op=4∨op=5∨op=6∨op=7∨op=8∨op=9∨op=10:=by omega
 have k1:=only_p { s with cur:=g.b.to s.p.side n s.cur } (decide (g.b.to s.p.side n s.cur≥0))
 have k3:=only_p s (decide (ofK (nth s.p.ct s.cur) < 0))
 have k9:=only_p s (bitR s.p.rights n == 1)
 generalize g.b.to s.p.side n s.cur=to at *
 refine fun_of tok D_ok Try.func85 rfl Try.ntmps85 Try.results85 (by kernel_rfl) (by simp) (by simp) ?_
 conv=>whnf
 rcases hop with rfl | rfl | rfl | rfl | rfl | rfl | rfl | rfl | rfl | rfl
 ·repeat' ((first
   | refine lvK ?_
   | refine ⟨_,_,ho,lvN ?_⟩
   | (refine .inl ?_;(conv=>whnf);refine ⟨_,_,ho,lvN ?_⟩)
   | refine ⟨_,_,hto,lvN ?_⟩
   | (refine .inl ?_;(conv=>whnf);refine ⟨_,_,hto,lvN ?_⟩)
   | refine ⟨_,_,k1,lvN ?_⟩
   | (refine .inl ?_;(conv=>whnf);refine ⟨_,_,k1,lvN ?_⟩)
   | refine lvE ?_
   | fail) <;> try (apply Cj.mk <;> first | exact trivial | intros))
 ·repeat' ((first
   | refine lvK ?_
   | refine ⟨_,_,ho,lvN ?_⟩
   | (refine .inl ?_;(conv=>whnf);refine ⟨_,_,ho,lvN ?_⟩)
   | refine ⟨_,_,hsl,lvN ?_⟩
   | (refine .inl ?_;(conv=>whnf);refine ⟨_,_,hsl,lvN ?_⟩)
   | refine lvE ?_
   | fail) <;> try (apply Cj.mk <;> first | exact trivial | intros))
 ·repeat' ((first
   | refine lvK ?_
   | refine ⟨_,_,ho,lvN ?_⟩
   | (refine .inl ?_;(conv=>whnf);refine ⟨_,_,ho,lvN ?_⟩)
   | refine ⟨_,_,k3,lvN ?_⟩
   | (refine .inl ?_;(conv=>whnf);refine ⟨_,_,k3,lvN ?_⟩)
   | refine lvE ?_
   | fail) <;> try (apply Cj.mk <;> first | exact trivial | intros))
 ·by_cases h0:ofK (nth s.p.ct s.cur)≥0
  ·rw [decide_eq_true h0,Bool.true_and]
   repeat' ((first
    | refine lvK ?_
    | refine ⟨_,_,ho,lvN ?_⟩
    | (refine .inl ?_;(conv=>whnf);refine ⟨_,_,ho,lvN ?_⟩)
    | refine ⟨_,_,only_p s (ofS (nth s.p.ct s.cur) != s.p.side),lvN ?_⟩
    | (refine .inl ?_;(conv=>whnf);refine ⟨_,_,only_p s (ofS (nth s.p.ct s.cur) != s.p.side),lvN ?_⟩)
    | refine lvE ?_
    | fail) <;> try (apply Cj.mk <;> first | exact trivial | intros))
  ·rw [decide_eq_false h0,Bool.false_and]
   repeat' ((first
    | refine lvK ?_
    | refine ⟨_,_,ho,lvN ?_⟩
    | (refine .inl ?_;(conv=>whnf);refine ⟨_,_,ho,lvN ?_⟩)
    | refine ⟨_,_,only_p s false,lvN ?_⟩
    | (refine .inl ?_;(conv=>whnf);refine ⟨_,_,only_p s false,lvN ?_⟩)
    | refine lvE ?_
    | fail) <;> try (apply Cj.mk <;> first | exact trivial | intros))
 ·by_cases h0:ofK (nth s.p.ct s.cur)≥0
  ·rw [decide_eq_true h0,Bool.true_and]
   repeat' ((first
    | refine lvK ?_
    | refine ⟨_,_,ho,lvN ?_⟩
    | (refine .inl ?_;(conv=>whnf);refine ⟨_,_,ho,lvN ?_⟩)
    | refine ⟨_,_,only_p s (ofS (nth s.p.ct s.cur) == s.p.side),lvN ?_⟩
    | (refine .inl ?_;(conv=>whnf);refine ⟨_,_,only_p s (ofS (nth s.p.ct s.cur) == s.p.side),lvN ?_⟩)
    | refine lvE ?_
    | fail) <;> try (apply Cj.mk <;> first | exact trivial | intros))
  ·rw [decide_eq_false h0,Bool.false_and]
   repeat' ((first
    | refine lvK ?_
    | refine ⟨_,_,ho,lvN ?_⟩
    | (refine .inl ?_;(conv=>whnf);refine ⟨_,_,ho,lvN ?_⟩)
    | refine ⟨_,_,only_p s false,lvN ?_⟩
    | (refine .inl ?_;(conv=>whnf);refine ⟨_,_,only_p s false,lvN ?_⟩)
    | refine lvE ?_
    | fail) <;> try (apply Cj.mk <;> first | exact trivial | intros))
 ·repeat' ((first
   | refine lvK ?_
   | refine ⟨_,_,ho,lvN ?_⟩
   | (refine .inl ?_;(conv=>whnf);refine ⟨_,_,ho,lvN ?_⟩)
   | refine ⟨_,_,hta,lvN ?_⟩
   | (refine .inl ?_;(conv=>whnf);refine ⟨_,_,hta,lvN ?_⟩)
   | refine lvE ?_
   | fail) <;> try (apply Cj.mk <;> first | exact trivial | intros))
 ·repeat' ((first
   | refine lvK ?_
   | refine ⟨_,_,ho,lvN ?_⟩
   | (refine .inl ?_;(conv=>whnf);refine ⟨_,_,ho,lvN ?_⟩)
   | refine ⟨_,_,hpu,lvN ?_⟩
   | (refine .inl ?_;(conv=>whnf);refine ⟨_,_,hpu,lvN ?_⟩)
   | refine lvE ?_
   | fail) <;> try (apply Cj.mk <;> first | exact trivial | intros))
 ·repeat' ((first
   | refine lvK ?_
   | refine ⟨_,_,ho,lvN ?_⟩
   | (refine .inl ?_;(conv=>whnf);refine ⟨_,_,ho,lvN ?_⟩)
   | refine lvE ?_
   | fail) <;> try (apply Cj.mk <;> first | exact trivial | intros))
 ·repeat' ((first
   | refine lvK ?_
   | refine ⟨_,_,ho,lvN ?_⟩
   | (refine .inl ?_;(conv=>whnf);refine ⟨_,_,ho,lvN ?_⟩)
   | refine ⟨_,_,k9,lvN ?_⟩
   | (refine .inl ?_;(conv=>whnf);refine ⟨_,_,k9,lvN ?_⟩)
   | refine lvE ?_
   | fail) <;> try (apply Cj.mk <;> first | exact trivial | intros))
 ·repeat' ((first
   | refine lvK ?_
   | refine ⟨_,_,ho,lvN ?_⟩
   | (refine .inl ?_;(conv=>whnf);refine ⟨_,_,ho,lvN ?_⟩)
   | refine lvE ?_
   | fail) <;> try (apply Cj.mk <;> first | exact trivial | intros))
end Go.Proofs.Ytejljpjdifblpaa
