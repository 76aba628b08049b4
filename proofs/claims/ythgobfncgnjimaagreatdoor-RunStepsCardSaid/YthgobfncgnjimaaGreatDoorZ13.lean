/- Contracts of functions of the program, proved by the checker; and plain laws. -/
import Derived.Test.YthgobfncgnjimaaGreatDoorZ09
set_option linter.unusedVariables false
set_option linter.unusedSimpArgs false
namespace Go.Proofs.YthgobfncgnjimaaGreatDoor
open Go Go.Sk
theorem only_le (s:Rs) (x:Int):onlyR s (decide (x≤8))=if x > 8 then [] else [s]:=by
 unfold onlyR
 by_cases h:x≤8
 ·rw [if_pos (decide_eq_true h),if_neg (by omega)]
 ·rw [if_neg (by simpa using h),if_pos (by omega)]
set_option maxHeartbeats 4000000 in
set_option maxRecDepth 10000 in
theorem stake_p (g:Gm) (hg:g.ok) (s:Rs) (hs:s.ok g) (n:Int):Pure Tryz.prog 102 [Sa s,g.av,I n] (Sas (g.stepR s ⟨6,n⟩)) none:=by
 have cp:=own_p s (hs.pos.small hg)
 have hm:=sman_p g hg s hs
 have ec:(s.p.ct.map I).length=s.p.ct.length:=List.length_map _
 have hlen:=hs.len
 have hu0:=hs.u0
 have hu1:=hs.u1
 have hr:=hs.c s.cur hs.u0 hs.u1
 have hk:=ofK_rg hg hr.1 hr.2
 have hnk:g.nk=g.kinds.length:=rfl
 have en:(g.kinds.map Kn).length=g.kinds.length:=List.length_map _
 have e0:(s.p.h0.map I).length=s.p.h0.length:=List.length_map _
 have e1:(s.p.h1.map I).length=s.p.h1.length:=List.length_map _
 have l0:=hs.h0.len
 have l1:=hs.h1.len
 have v0:=hs.h0.v (ofK (nth s.p.ct s.cur))
 have v1:=hs.h1.v (ofK (nth s.p.ct s.cur))
 have hsd:=hs.sd
 have hhand:Ps.hand=fun p=>if p.side=0 then p.h0 else p.h1:=rfl
 rw [show g.stepR s ⟨6,n⟩=g.takeR s from rfl]
 unfold Gm.takeR
 clear hs
 obtain ⟨⟨ct,h0,h1,rr,side⟩,kind,cur,tk⟩:=s
 dsimp only at *
 generalize ofK (nth ct cur)=kk at *
 generalize ofS (nth ct cur)=ks at *
 refine fun_of tok D_ok Tryz.func102 rfl Tryz.ntmps102 Tryz.results102 (by kernel_rfl) (by simp) (by simp) ?_
 conv=>whnf
 by_cases h:kk < 0∨ks=side
 ·rw [if_pos h]
  repeat' (first | ((first | refine lvK ?_ | refine ⟨_,_,hm,lvN ?_⟩ | (refine .inl ?_;(conv=>whnf);first | refine ⟨_,_,hm,lvN ?_⟩));apply Cj.mk <;> first | exact trivial | intros) | (refine lvE ?_;apply Cj.mk <;> first | exact trivial | intros) | fail)
  all_goals (exfalso;omega)
 ·rw [if_neg h]
  rcases hsd with rfl | rfl
  ·obtain ⟨p,hp⟩:∃ p:Ps,p=(⟨ct.set cur.toNat 0,h0,h1,rr,0⟩:Ps):=⟨_,rfl⟩
   obtain ⟨q,hq⟩:∃ q:Ps,q=p.setH (p.hand.set kk.toNat (nth p.hand kk+1)):=⟨_,rfl⟩
   have k1:=provided_p ⟨q,kind,cur,true⟩ (decide (nth q.hand kk≤8))
   subst hq hp
   by_cases hkp:g.keep kk=true
   ·rw [if_pos hkp]
    have hkp2:(nth g.kinds kk).keep=true:=hkp
    repeat' (first | ((first | refine lvD ?_ | refine ⟨_,_,hm,lvN ?_⟩ | (refine .inl ?_;(conv=>whnf);first | refine ⟨_,_,hm,lvN ?_⟩) | (refine .inr (.inl ?_);(conv=>whnf);refine ⟨[],[],[Sa (⟨⟨ct,h0,h1,rr,0⟩,kind,cur,tk⟩:Rs)],_,_,⟨rfl,rfl,rfl⟩,cp,lvN ?_⟩));apply Cj.mk <;> first | exact trivial | intros) | (refine ShowsJ.mk (by kernel_rfl) (by kernel_rfl) (by kernel_rfl) (lvL ?_) (lvL ?_) rfl <;> (try (apply Cj.mk <;> first | exact trivial | intros))) | (refine lvE ?_;apply Cj.mk <;> first | exact trivial | intros) | fail)
    refine drawP [2,3,4] ?_
    conv=>whnf
    try dsimp only [St.after,St.afterAt,St.pin,St.unpin,initSt,initT,numO,cellsA,Option.map,ren,renL,renO,St.setObj,headSt,List.cons_append,List.nil_append,List.length_nil,Nat.reduceAdd]
    repeat' (first | ((first | refine lvK ?_ | refine ⟨_,_,k1,lvN ?_⟩ | (refine .inl ?_;(conv=>whnf);first | refine ⟨_,_,k1,lvN ?_⟩));apply Cj.mk <;> first | exact trivial | intros) | (refine lvE ?_;apply Cj.mk <;> first | exact trivial | intros) | fail)
    ·refine congrArg (List.map Sa) ?_
     rw [only_le]
     show (if nth (h0.set kk.toNat (nth h0 kk+1)) kk > 8 then [] else [_])=(if nth h0 kk+1 > 8 then [] else [_])
     rw [nth_set_eq (by omega) (by omega)]
    all_goals (exfalso;simp_all)
   ·rw [if_neg hkp]
    have hkp2:¬ (nth g.kinds kk).keep=true:=hkp
    repeat' (first | ((first | refine lvD ?_ | refine ⟨_,_,hm,lvN ?_⟩ | (refine .inl ?_;(conv=>whnf);first | refine ⟨_,_,hm,lvN ?_⟩) | (refine .inr (.inl ?_);(conv=>whnf);refine ⟨[],[],[Sa (⟨⟨ct,h0,h1,rr,0⟩,kind,cur,tk⟩:Rs)],_,_,⟨rfl,rfl,rfl⟩,cp,lvN ?_⟩));apply Cj.mk <;> first | exact trivial | intros) | (refine ShowsJ.mk (by kernel_rfl) (by kernel_rfl) (by kernel_rfl) (lvL ?_) (lvL ?_) rfl <;> (try (apply Cj.mk <;> first | exact trivial | intros))) | (refine lvE ?_;apply Cj.mk <;> first | exact trivial | intros) | fail)
    ·exfalso;simp_all
  ·obtain ⟨p,hp⟩:∃ p:Ps,p=(⟨ct.set cur.toNat 0,h0,h1,rr,1⟩:Ps):=⟨_,rfl⟩
   obtain ⟨q,hq⟩:∃ q:Ps,q=p.setH (p.hand.set kk.toNat (nth p.hand kk+1)):=⟨_,rfl⟩
   have k1:=provided_p ⟨q,kind,cur,true⟩ (decide (nth q.hand kk≤8))
   subst hq hp
   by_cases hkp:g.keep kk=true
   ·rw [if_pos hkp]
    have hkp2:(nth g.kinds kk).keep=true:=hkp
    repeat' (first | ((first | refine lvD ?_ | refine ⟨_,_,hm,lvN ?_⟩ | (refine .inl ?_;(conv=>whnf);first | refine ⟨_,_,hm,lvN ?_⟩) | (refine .inr (.inl ?_);(conv=>whnf);refine ⟨[],[],[Sa (⟨⟨ct,h0,h1,rr,1⟩,kind,cur,tk⟩:Rs)],_,_,⟨rfl,rfl,rfl⟩,cp,lvN ?_⟩));apply Cj.mk <;> first | exact trivial | intros) | (refine ShowsJ.mk (by kernel_rfl) (by kernel_rfl) (by kernel_rfl) (lvL ?_) (lvL ?_) rfl <;> (try (apply Cj.mk <;> first | exact trivial | intros))) | (refine lvE ?_;apply Cj.mk <;> first | exact trivial | intros) | fail)
    refine drawP [2,3,4] ?_
    conv=>whnf
    try dsimp only [St.after,St.afterAt,St.pin,St.unpin,initSt,initT,numO,cellsA,Option.map,ren,renL,renO,St.setObj,headSt,List.cons_append,List.nil_append,List.length_nil,Nat.reduceAdd]
    repeat' (first | ((first | refine lvK ?_ | refine ⟨_,_,k1,lvN ?_⟩ | (refine .inl ?_;(conv=>whnf);first | refine ⟨_,_,k1,lvN ?_⟩));apply Cj.mk <;> first | exact trivial | intros) | (refine lvE ?_;apply Cj.mk <;> first | exact trivial | intros) | fail)
    ·refine congrArg (List.map Sa) ?_
     rw [only_le]
     show (if nth (h1.set kk.toNat (nth h1 kk+1)) kk > 8 then [] else [_])=(if nth h1 kk+1 > 8 then [] else [_])
     rw [nth_set_eq (by omega) (by omega)]
    all_goals (exfalso;simp_all)
   ·rw [if_neg hkp]
    have hkp2:¬ (nth g.kinds kk).keep=true:=hkp
    repeat' (first | ((first | refine lvD ?_ | refine ⟨_,_,hm,lvN ?_⟩ | (refine .inl ?_;(conv=>whnf);first | refine ⟨_,_,hm,lvN ?_⟩) | (refine .inr (.inl ?_);(conv=>whnf);refine ⟨[],[],[Sa (⟨⟨ct,h0,h1,rr,1⟩,kind,cur,tk⟩:Rs)],_,_,⟨rfl,rfl,rfl⟩,cp,lvN ?_⟩));apply Cj.mk <;> first | exact trivial | intros) | (refine ShowsJ.mk (by kernel_rfl) (by kernel_rfl) (by kernel_rfl) (lvL ?_) (lvL ?_) rfl <;> (try (apply Cj.mk <;> first | exact trivial | intros))) | (refine lvE ?_;apply Cj.mk <;> first | exact trivial | intros) | fail)
    ·exfalso;simp_all
set_option maxHeartbeats 4000000 in
set_option maxRecDepth 10000 in
theorem spush_p (g:Gm) (hg:g.ok) (s:Rs) (hs:s.ok g) (n:Int):Pure Tryz.prog 103 [Sa s,g.av,I n] (Sas (g.stepR s ⟨7,n⟩)) none:=by
 have ht:=To15_p g.b hg.b s.p.side n s.cur
 have htr:=g.b.to_lt hg.b s.p.side n s.cur
 have cp:=own_p s (hs.pos.small hg)
 rw [show g.stepR s ⟨7,n⟩=g.pushR s n from rfl]
 unfold Gm.pushR
 generalize g.b.to s.p.side n s.cur=to at *
 dsimp only
 have ec:(s.p.ct.map I).length=s.p.ct.length:=List.length_map _
 have hlen:=hs.len
 have hu0:=hs.u0
 have hu1:=hs.u1
 refine fun_of tok D_ok Tryz.func103 rfl Tryz.ntmps103 Tryz.results103 (by kernel_rfl) (by simp) (by simp) ?_
 conv=>whnf
 repeat' (first | ((first | refine lvD ?_ | refine ⟨_,_,ht,lvN ?_⟩ | (refine .inl ?_;(conv=>whnf);first | refine ⟨_,_,ht,lvN ?_⟩) | (refine .inr (.inl ?_);(conv=>whnf);refine ⟨[],[],[Sa s],_,_,⟨rfl,rfl,rfl⟩,cp,lvN ?_⟩));apply Cj.mk <;> first | exact trivial | intros) | (refine ShowsJ.mk (by kernel_rfl) (by kernel_rfl) (by kernel_rfl) (lvL ?_) (lvL ?_) rfl <;> (try (apply Cj.mk <;> first | exact trivial | intros))) | (refine lvE ?_;apply Cj.mk <;> first | exact trivial | intros) | fail)
 iterate 3
  ·rw [if_pos (by omega)]
   rfl
 rw [if_neg (by omega)]
 refine drawH [0,1,2,3,4,5,6,7,8,9,10,11,12,13] [⟨35,0,0,.ref 2⟩,⟨3,0,6,I s.cur⟩] (by kernel_rfl) ?_
 conv=>whnf
 refine PinE.mk (by kernel_rfl) ?_
 refine ⟨?_,drawK (by kernel_rfl) ?_⟩
 ·conv=>whnf
  first | exact trivial | (refine And.intro (by omega) (And.intro (by omega) ?_);(conv=>whnf);first | exact trivial | (refine And.intro (by omega) (And.intro (by omega) ?_);(conv=>whnf);exact trivial))
 repeat' (first | (refine lvK ?_;apply Cj.mk <;> first | exact trivial | intros) | (refine lvE ?_;apply Cj.mk <;> first | exact trivial | intros) | fail)
set_option maxHeartbeats 4000000 in
set_option maxRecDepth 10000 in
theorem sstep_p (g:Gm) (hg:g.ok) (s:Rs) (hs:s.ok g) (x:Stp) (hx:StpOk g.nd g.nk g.rights x):Pure Tryz.prog 70 [g.av,Sa s,St1 x] (Sas (g.stepR s x)) none:=by
 obtain ⟨op,n⟩:=x
 unfold StpOk at hx
 dsimp only at hx
 have hop:op=1∨op=2∨op=3∨op=4∨op=5∨op=6∨op=7∨op=8∨op=9∨op=10:=by omega
 rcases hop with rfl | rfl | rfl | rfl | rfl | rfl | rfl | rfl | rfl | rfl
 ·have c:=swalk_p g hg s hs n
  refine fun_of tok D_ok Tryz.func70 rfl Tryz.ntmps70 Tryz.results70 (by kernel_rfl) (by simp) (by simp) ?_
  conv=>whnf
  repeat' (first | ((first | refine lvK ?_ | refine ⟨_,_,c,lvN ?_⟩ | (refine .inl ?_;(conv=>whnf);first | refine ⟨_,_,c,lvN ?_⟩));apply Cj.mk <;> first | exact trivial | intros) | (refine lvE ?_;apply Cj.mk <;> first | exact trivial | intros) | fail)
 ·have c:=sslide_p g hg s hs n
  refine fun_of tok D_ok Tryz.func70 rfl Tryz.ntmps70 Tryz.results70 (by kernel_rfl) (by simp) (by simp) ?_
  conv=>whnf
  repeat' (first | ((first | refine lvK ?_ | refine ⟨_,_,c,lvN ?_⟩ | (refine .inl ?_;(conv=>whnf);first | refine ⟨_,_,c,lvN ?_⟩));apply Cj.mk <;> first | exact trivial | intros) | (refine lvE ?_;apply Cj.mk <;> first | exact trivial | intros) | fail)
 ·have c:=sempty_p g hg s hs n
  refine fun_of tok D_ok Tryz.func70 rfl Tryz.ntmps70 Tryz.results70 (by kernel_rfl) (by simp) (by simp) ?_
  conv=>whnf
  repeat' (first | ((first | refine lvK ?_ | refine ⟨_,_,c,lvN ?_⟩ | (refine .inl ?_;(conv=>whnf);first | refine ⟨_,_,c,lvN ?_⟩));apply Cj.mk <;> first | exact trivial | intros) | (refine lvE ?_;apply Cj.mk <;> first | exact trivial | intros) | fail)
 ·have c:=senemy_p g hg s hs n
  refine fun_of tok D_ok Tryz.func70 rfl Tryz.ntmps70 Tryz.results70 (by kernel_rfl) (by simp) (by simp) ?_
  conv=>whnf
  repeat' (first | ((first | refine lvK ?_ | refine ⟨_,_,c,lvN ?_⟩ | (refine .inl ?_;(conv=>whnf);first | refine ⟨_,_,c,lvN ?_⟩));apply Cj.mk <;> first | exact trivial | intros) | (refine lvE ?_;apply Cj.mk <;> first | exact trivial | intros) | fail)
 ·have c:=sfriend_p g hg s hs n
  refine fun_of tok D_ok Tryz.func70 rfl Tryz.ntmps70 Tryz.results70 (by kernel_rfl) (by simp) (by simp) ?_
  conv=>whnf
  repeat' (first | ((first | refine lvK ?_ | refine ⟨_,_,c,lvN ?_⟩ | (refine .inl ?_;(conv=>whnf);first | refine ⟨_,_,c,lvN ?_⟩));apply Cj.mk <;> first | exact trivial | intros) | (refine lvE ?_;apply Cj.mk <;> first | exact trivial | intros) | fail)
 ·have c:=stake_p g hg s hs n
  refine fun_of tok D_ok Tryz.func70 rfl Tryz.ntmps70 Tryz.results70 (by kernel_rfl) (by simp) (by simp) ?_
  conv=>whnf
  repeat' (first | ((first | refine lvK ?_ | refine ⟨_,_,c,lvN ?_⟩ | (refine .inl ?_;(conv=>whnf);first | refine ⟨_,_,c,lvN ?_⟩));apply Cj.mk <;> first | exact trivial | intros) | (refine lvE ?_;apply Cj.mk <;> first | exact trivial | intros) | fail)
 ·have c:=spush_p g hg s hs n
  refine fun_of tok D_ok Tryz.func70 rfl Tryz.ntmps70 Tryz.results70 (by kernel_rfl) (by simp) (by simp) ?_
  conv=>whnf
  repeat' (first | ((first | refine lvK ?_ | refine ⟨_,_,c,lvN ?_⟩ | (refine .inl ?_;(conv=>whnf);first | refine ⟨_,_,c,lvN ?_⟩));apply Cj.mk <;> first | exact trivial | intros) | (refine lvE ?_;apply Cj.mk <;> first | exact trivial | intros) | fail)
 ·have c:=sbecome_p g hg s hs n
  refine fun_of tok D_ok Tryz.func70 rfl Tryz.ntmps70 Tryz.results70 (by kernel_rfl) (by simp) (by simp) ?_
  conv=>whnf
  repeat' (first | ((first | refine lvK ?_ | refine ⟨_,_,c,lvN ?_⟩ | (refine .inl ?_;(conv=>whnf);first | refine ⟨_,_,c,lvN ?_⟩));apply Cj.mk <;> first | exact trivial | intros) | (refine lvE ?_;apply Cj.mk <;> first | exact trivial | intros) | fail)
 ·have c:=sneed_p g hg s hs n (by omega) (by omega)
  refine fun_of tok D_ok Tryz.func70 rfl Tryz.ntmps70 Tryz.results70 (by kernel_rfl) (by simp) (by simp) ?_
  conv=>whnf
  repeat' (first | ((first | refine lvK ?_ | refine ⟨_,_,c,lvN ?_⟩ | (refine .inl ?_;(conv=>whnf);first | refine ⟨_,_,c,lvN ?_⟩));apply Cj.mk <;> first | exact trivial | intros) | (refine lvE ?_;apply Cj.mk <;> first | exact trivial | intros) | fail)
 ·have c:=slose_p g hg s hs n (by omega) (by omega)
  refine fun_of tok D_ok Tryz.func70 rfl Tryz.ntmps70 Tryz.results70 (by kernel_rfl) (by simp) (by simp) ?_
  conv=>whnf
  repeat' (first | ((first | refine lvK ?_ | refine ⟨_,_,c,lvN ?_⟩ | (refine .inl ?_;(conv=>whnf);first | refine ⟨_,_,c,lvN ?_⟩));apply Cj.mk <;> first | exact trivial | intros) | (refine lvE ?_;apply Cj.mk <;> first | exact trivial | intros) | fail)
end Go.Proofs.YthgobfncgnjimaaGreatDoor
