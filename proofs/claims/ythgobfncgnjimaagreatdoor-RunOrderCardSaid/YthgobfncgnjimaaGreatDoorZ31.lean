/- Contracts of functions of the program, proved by the checker. -/
import Derived.Test.YthgobfncgnjimaaGreatDoorZ30
set_option linter.unusedVariables false
set_option linter.unusedSimpArgs false
namespace Go.Proofs.YthgobfncgnjimaaGreatDoor
open Go Go.Sk
set_option maxHeartbeats 8000000 in
set_option maxRecDepth 10000 in
theorem RunOrder_p (x:R6) (hx:x.ok) (n:Int) (hn:0≤n∧n≤255):Pure Tryz.prog 4 [.ag x.cs,U8 n] (Bo true) none:=by
 have hmade:=Made6_p x hx
 have hg:=R6.gm_ok hx
 have hp:=R6.ps_ok hx
 have hup:=sanity5_p
 generalize x.gm=g at *
 generalize x.ps=p at *
 by_cases hne:g.chs p=[]
 ·have hpk:=Pick0_p g hg p hp n hne
  refine fun_of tok D_ok Tryz.func4 rfl Tryz.ntmps4 Tryz.results4 (by kernel_rfl) (by simp) (by simp) ?_
  conv=>whnf
  repeat' (first | ((first | refine lvK ?_ | refine ⟨_,_,hup,lvN ?_⟩ | refine ⟨_,_,hmade,lvN ?_⟩ | refine ⟨_,_,hpk,lvN ?_⟩ | (refine .inl ?_;(conv=>whnf);first | refine ⟨_,_,hup,lvN ?_⟩ | refine ⟨_,_,hmade,lvN ?_⟩ | refine ⟨_,_,hpk,lvN ?_⟩));apply Cj.mk <;> first | exact trivial | intros) | (refine lvE ?_;apply Cj.mk <;> first | exact trivial | intros) | fail)
 have hpk:=Pick_p g hg p hp n hn hne
 have hcr:=pick_run hg hp n hne
 generalize g.pick p n=c at *
 obtain ⟨cell,i⟩:=c
 dsimp only at hcr
 have q1:=PRuns_p g hg p _ _ hcr
 have hrl:=runsR_len hg hcr
 have hok:=fun o (ho:o∈g.runsR p cell i)=>runsR_ok hg hcr ho
 have hrs:=fun o (ho:o∈g.runsR p cell i)=>runs_rs hg hcr ho
 have hasc:=runs_asc g p cell i
 have hpr:=rights16 hg hp
 have hps:=hp.s
 have hlen:=hp.len
 have c9:=hg.c9
 have k6:=hg.k6
 have c0:=hcr.c0
 have c1:=hcr.c1
 have k0:=hcr.k0
 have k1:=hcr.k1 hg
 have i0:=hcr.i0
 have i1:=hcr.i1
 have hr:=hp.c cell c0 c1
 have ho:=Of_p (nth p.ct cell) (by omega)
 have hnk:g.nk=g.kinds.length:=rfl
 have en:(g.kinds.map Kn).length=g.kinds.length:=List.length_map _
 have el:(p.ct.map I).length=p.ct.length:=List.length_map _
 have e1:((nth g.kinds (ofK (nth p.ct cell))).progs.map Pg).length=(nth g.kinds (ofK (nth p.ct cell))).progs.length:=List.length_map _
 have hpg:=hcr.pg hg
 have el8:=hpg.l8
 have e2:((g.prog p cell i).map St1).length=(g.prog p cell i).length:=List.length_map _
 have hprog:g.prog p cell i=nth (nth g.kinds (ofK (nth p.ct cell))).progs i:=rfl
 have hL:=g.runsR p cell i
 generalize g.runsR p cell i=L at *
 have eL:(L.map Ou).length=L.length:=List.length_map _
 refine fun_of tok D_ok Tryz.func4 rfl Tryz.ntmps4 Tryz.results4 (by kernel_rfl) (by simp) (by simp) ?_
 conv=>whnf
 repeat' (first | ((first | refine lvK ?_ | refine ⟨_,_,hup,lvN ?_⟩ | refine ⟨_,_,hmade,lvN ?_⟩ | refine ⟨_,_,hpk,lvN ?_⟩ | refine ⟨_,_,q1,lvN ?_⟩ | (refine .inl ?_;(conv=>whnf);first | refine ⟨_,_,hup,lvN ?_⟩ | refine ⟨_,_,hmade,lvN ?_⟩ | refine ⟨_,_,hpk,lvN ?_⟩ | refine ⟨_,_,q1,lvN ?_⟩));apply Cj.mk <;> first | exact trivial | intros) | (refine lvE ?_;apply Cj.mk <;> first | exact trivial | intros) | fail)
 refine .of (fun k=>[(11,I k)]) (fun k=>[]) 4 (fun k=>0≤k∧k≤L.length) (fun k=>(L.length - k).toNat) 0 ?_
 conv=>whnf
 refine ⟨⟨[],hdA (lvL ?_) (lvL ?_)⟩,?_,fun k ⟨q0,q1⟩=>lvN ?_⟩ <;> (try (apply Cj.mk <;> first | exact trivial | intros))
 ·exact ⟨by omega,by omega⟩
 by_cases hk:k < L.length
 ·have hm:=nth_mem (l:=L) q0 hk
  have hko:=hok _ hm
  have hkr:=hrs _ hm
  have hv:=R4Valid_p g hg (nth L k).p
  rw [decide_eq_true hko] at hv
  have hk16:=rights16 hg hko
  have hsb:=hkr.1
  have hsd:=hkr.2.1
  by_cases hk0:k=0
  ·skip
   repeat' (first | (refine lvD ?_;apply Cj.mk <;> first | exact trivial | intros) | (refine ShowsJ.mk (by kernel_rfl) (by kernel_rfl) (by kernel_rfl) (lvL ?_) (lvL ?_) rfl <;> (try (apply Cj.mk <;> first | exact trivial | intros))) | (refine lvE ?_;apply Cj.mk <;> first | exact trivial | intros) | fail)
   refine drawA2 (by decide +kernel) ?_
   conv=>whnf
   dsimp only [St.after,St.afterAt,St.pin,St.unpin,initSt,initT,numO,cellsA,Option.map,ren,renL,renO,St.setObj,headSt,List.cons_append,List.nil_append,List.length_nil,Nat.reduceAdd]
   try (conv=>enter [7,3];whnf)
   repeat' ((first | ((with_reducible refine preI ?_);(first | refine preNil ?_ | refine preOp rfl rfl ?_ | refine preT rfl rfl rfl rfl ?_ | refine preF rfl rfl rfl rfl ?_ | refine preTS rfl rfl rfl rfl ?_ | refine preFS rfl rfl rfl rfl ?_ | refine preSkip rfl rfl rfl rfl ?_ | refine preGT rfl rfl rfl rfl ?_ | refine preGF rfl rfl rfl rfl ?_)) | (refine ifET (by omega) ?_) | (refine ifEF (by omega) ?_) | (refine ifNF (by omega) ?_) | (refine ifNT (by omega) ?_) | (refine ifDT (by omega) ?_) | (refine ifDF (by omega) ?_) | (refine calI (by omega) ?_) | (refine ixM (by omega) (by omega) rfl ?_) | (refine And.intro (by omega) ?_;refine cshr64 (by omega) ?_) | (refine candn0 (by omega) hsb ?_) | (refine ⟨_,_,hv,?_⟩)) <;> (conv=>whnf))
   refine ⟨k+1,⟨[],hdA (lvL ?_) (lvL ?_)⟩,?_,by (try dsimp only);omega,rfl⟩ <;> (try (apply Cj.mk <;> first | exact trivial | intros))
   exact ⟨by omega,by omega⟩
  ·have hm1:=nth_mem (l:=L) (i:=k - 1) (by omega) (by omega)
   have hls:=Less_p (nth L (k - 1)) (nth L k) ((hok _ hm1).small hg) (hko.small hg)
   rw [decide_eq_true (pw_nth (R:=fun a b=>cmpO a b < 0) hasc (by omega) (by omega) hk)] at hls
   repeat' (first | (refine lvD ?_;apply Cj.mk <;> first | exact trivial | intros) | (refine ShowsJ.mk (by kernel_rfl) (by kernel_rfl) (by kernel_rfl) (lvL ?_) (lvL ?_) rfl <;> (try (apply Cj.mk <;> first | exact trivial | intros))) | (refine lvE ?_;apply Cj.mk <;> first | exact trivial | intros) | fail)
   refine drawA2 (by decide +kernel) ?_
   conv=>whnf
   dsimp only [St.after,St.afterAt,St.pin,St.unpin,initSt,initT,numO,cellsA,Option.map,ren,renL,renO,St.setObj,headSt,List.cons_append,List.nil_append,List.length_nil,Nat.reduceAdd]
   try (conv=>enter [7,3];whnf)
   repeat' ((first | ((with_reducible refine preI ?_);(first | refine preNil ?_ | refine preOp rfl rfl ?_ | refine preT rfl rfl rfl rfl ?_ | refine preF rfl rfl rfl rfl ?_ | refine preTS rfl rfl rfl rfl ?_ | refine preFS rfl rfl rfl rfl ?_ | refine preSkip rfl rfl rfl rfl ?_ | refine preGT rfl rfl rfl rfl ?_ | refine preGF rfl rfl rfl rfl ?_)) | (refine ifET (by omega) ?_) | (refine ifEF (by omega) ?_) | (refine ifNF (by omega) ?_) | (refine ifNT (by omega) ?_) | (refine ifDT (by omega) ?_) | (refine ifDF (by omega) ?_) | (refine calI (by omega) ?_) | (refine ixM (by omega) (by omega) rfl ?_) | (refine And.intro (by omega) ?_;refine cshr64 (by omega) ?_) | (refine candn0 (by omega) hsb ?_) | (refine ⟨_,_,hv,?_⟩) | (refine ⟨_,_,hls,?_⟩)) <;> (conv=>whnf))
   refine ⟨k+1,⟨[],hdA (lvL ?_) (lvL ?_)⟩,?_,by (try dsimp only);omega,rfl⟩ <;> (try (apply Cj.mk <;> first | exact trivial | intros))
   exact ⟨by omega,by omega⟩
 ·repeat' (first
   | (refine lvK ?_;apply Cj.mk <;> first | exact trivial | intros)
   | (refine ⟨_,_,ho,lvN ?_⟩;apply Cj.mk <;> first | exact trivial | intros)
   | (refine .inl ?_;(conv=>whnf);refine ⟨_,_,ho,lvN ?_⟩;apply Cj.mk <;> first | exact trivial | intros)
   | (refine lvE ?_;apply Cj.mk <;> first | exact trivial | intros)
   | fail)
  rw [← hprog]
  refine .of (fun k=>[(14,I k)]) (fun k=>[]) 21 (fun k=>0≤k∧k≤(g.prog p cell i).length) (fun k=>((g.prog p cell i).length - k).toNat) 0 ?_
  conv=>whnf
  refine ⟨⟨[],hdA (lvL ?_) (lvL ?_)⟩,?_,fun k ⟨r0,r1⟩=>lvN ?_⟩ <;> (try (apply Cj.mk <;> first | exact trivial | intros))
  ·exact ⟨by omega,by omega⟩
  by_cases hk2:k < (g.prog p cell i).length
  ·have hx:=hpg.st _ (nth_mem r0 hk2)
   by_cases h9:(nth (g.prog p cell i) k).op=9
   ·have hx9:0≤(nth (g.prog p cell i) k).n∧(nth (g.prog p cell i) k).n < 4:=by
     have h4:=hg.r4
     unfold StpOk at hx
     omega
    by_cases hL0:L.length=0
    ·skip
     repeat' (first | (refine lvD ?_;apply Cj.mk <;> first | exact trivial | intros) | (refine ShowsJ.mk (by kernel_rfl) (by kernel_rfl) (by kernel_rfl) (lvL ?_) (lvL ?_) rfl <;> (try (apply Cj.mk <;> first | exact trivial | intros))) | (refine lvE ?_;apply Cj.mk <;> first | exact trivial | intros) | fail)
     refine drawA2 (by decide +kernel) ?_
     conv=>whnf
     dsimp only [St.after,St.afterAt,St.pin,St.unpin,initSt,initT,numO,cellsA,Option.map,ren,renL,renO,St.setObj,headSt,List.cons_append,List.nil_append,List.length_nil,Nat.reduceAdd]
     try (conv=>enter [7,3];whnf)
     repeat' ((first | ((with_reducible refine preI ?_);(first | refine preNil ?_ | refine preOp rfl rfl ?_ | refine preT rfl rfl rfl rfl ?_ | refine preF rfl rfl rfl rfl ?_ | refine preTS rfl rfl rfl rfl ?_ | refine preFS rfl rfl rfl rfl ?_ | refine preSkip rfl rfl rfl rfl ?_ | refine preGT rfl rfl rfl rfl ?_ | refine preGF rfl rfl rfl rfl ?_)) | (refine ifET (by omega) ?_) | (refine ifEF (by omega) ?_) | (refine ifNF (by omega) ?_) | (refine ifNT (by omega) ?_) | (refine ifDT (by omega) ?_) | (refine ifDF (by omega) ?_) | (refine calI (by omega) ?_) | (refine ixM (by omega) (by omega) rfl ?_) | (refine And.intro (by omega) ?_;refine cshr64 (by omega) ?_) | (refine cand64 ?_) | (refine ifE (fun _=>?_) (fun _=>?_)) | (refine ifD (fun _=>?_) (fun _=>?_))) <;> (conv=>whnf))
     all_goals (try (exfalso;omega))
     all_goals
      refine ⟨k+1,⟨[],hdA (lvL ?_) (lvL ?_)⟩,?_,by (try dsimp only);omega,rfl⟩ <;> (try (apply Cj.mk <;> first | exact trivial | intros))
      ·exact ⟨by omega,by omega⟩
    ·have hb:=(hrs _ (nth_mem (l:=L) (i:=0) (by omega) (by omega))).2.2 k r0 hk2 h9
     unfold bitR at hb
     repeat' (first | (refine lvD ?_;apply Cj.mk <;> first | exact trivial | intros) | (refine ShowsJ.mk (by kernel_rfl) (by kernel_rfl) (by kernel_rfl) (lvL ?_) (lvL ?_) rfl <;> (try (apply Cj.mk <;> first | exact trivial | intros))) | (refine lvE ?_;apply Cj.mk <;> first | exact trivial | intros) | fail)
     refine drawA2 (by decide +kernel) ?_
     conv=>whnf
     dsimp only [St.after,St.afterAt,St.pin,St.unpin,initSt,initT,numO,cellsA,Option.map,ren,renL,renO,St.setObj,headSt,List.cons_append,List.nil_append,List.length_nil,Nat.reduceAdd]
     try (conv=>enter [7,3];whnf)
     repeat' ((first | ((with_reducible refine preI ?_);(first | refine preNil ?_ | refine preOp rfl rfl ?_ | refine preT rfl rfl rfl rfl ?_ | refine preF rfl rfl rfl rfl ?_ | refine preTS rfl rfl rfl rfl ?_ | refine preFS rfl rfl rfl rfl ?_ | refine preSkip rfl rfl rfl rfl ?_ | refine preGT rfl rfl rfl rfl ?_ | refine preGF rfl rfl rfl rfl ?_)) | (refine ifET (by omega) ?_) | (refine ifEF (by omega) ?_) | (refine ifNF (by omega) ?_) | (refine ifNT (by omega) ?_) | (refine ifDT (by omega) ?_) | (refine ifDF (by omega) ?_) | (refine calI (by omega) ?_) | (refine ixM (by omega) (by omega) rfl ?_) | (refine And.intro (by omega) ?_;refine cshr64 (by omega) ?_) | (refine cand64 ?_) | (refine ifE (fun _=>?_) (fun _=>?_)) | (refine ifD (fun _=>?_) (fun _=>?_))) <;> (conv=>whnf))
     refine ⟨k+1,⟨[],hdA (lvL ?_) (lvL ?_)⟩,?_,by (try dsimp only);omega,rfl⟩ <;> (try (apply Cj.mk <;> first | exact trivial | intros))
     exact ⟨by omega,by omega⟩
   ·repeat' (first
     | (refine lvK ?_;apply Cj.mk <;> first | exact trivial | intros)
     | (refine lvE ?_;apply Cj.mk <;> first | exact trivial | intros)
     | fail)
    refine ⟨k+1,⟨[],hdA (lvL ?_) (lvL ?_)⟩,?_,by (try dsimp only);omega,rfl⟩ <;> (try (apply Cj.mk <;> first | exact trivial | intros))
    exact ⟨by omega,by omega⟩
  ·repeat' (first
    | (refine lvK ?_;apply Cj.mk <;> first | exact trivial | intros)
    | (refine lvE ?_;apply Cj.mk <;> first | exact trivial | intros)
    | fail)
end Go.Proofs.YthgobfncgnjimaaGreatDoor
