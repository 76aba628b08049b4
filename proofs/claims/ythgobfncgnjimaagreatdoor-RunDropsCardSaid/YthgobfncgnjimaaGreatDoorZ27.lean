/- Contracts of functions of the program, proved by the checker. -/
import Derived.Test.YthgobfncgnjimaaGreatDoorZ26
set_option linter.unusedVariables false
set_option linter.unusedSimpArgs false
namespace Go.Proofs.YthgobfncgnjimaaGreatDoor
open Go Go.Sk
set_option maxHeartbeats 16000000 in
set_option maxRecDepth 10000 in
theorem RunDrops0 (x:R6) (hx:x.ok) (hz:x.ps.side=0):Pure Tryz.prog 10 [.ag x.cs] (Bo true) none:=by
 have hmade:=Made6_p x hx
 have hg:=R6.gm_ok hx
 have hp:=R6.ps_ok hx
 have hup:=sanity5_p
 generalize x.gm=g at *
 generalize x.ps=p at *
 have hd:=PDrops_p g hg p hp
 have hcnt:=drops_count hg hp
 have hdl:=dropsL_len hg p
 have hcl:=canon_len (c:=cmpP) (g.dropsL p)
 have hasc:=canon_asc cmpP_tot (g.dropsL p)
 have hmem:∀ o,o∈canon cmpP (g.dropsL p)→∃ k c:Int,0≤k∧k < g.nk∧0≤c∧c < g.b.cells∧canDrop p k c=true∧o=dropQ p k c:=fun o ho=>mem_dropsL ((mem_canon cmpP_tot).1 ho)
 have hok:∀ o,o∈canon cmpP (g.dropsL p)→o.ok g:=fun o ho=>dropsL_ok hg hp ((mem_canon cmpP_tot).1 ho)
 generalize canon cmpP (g.dropsL p)=D at *
 have eD:(D.map Ps.av).length=D.length:=List.length_map _
 have hlen:=hp.len
 have c9:=hg.c9
 have hc1:=hg.b.c1
 have k6:=hg.k6
 have hnk:g.nk=g.kinds.length:=rfl
 have en:(g.kinds.map Kn).length=g.kinds.length:=List.length_map _
 have hkr:=kindsN_rg p.hand g.nk
 have her:=emptyN_rg p.ct g.b.cells
 have hmul:0≤kindsN p.hand g.nk * emptyN p.ct g.b.cells:=Int.mul_nonneg hkr.1 her.1
 have hcp:=Copied_p p (hp.small hg)
 have l0:=hp.h0.len
 have l1:=hp.h1.len
 have v0:=hp.h0.v
 have v1:=hp.h1.v
 have hps:=hp.small hg
 obtain ⟨ct,h0,h1,rr,side⟩:=p
 dsimp only at hz hlen l0 l1 v0 v1
 subst hz
 have hh:(⟨ct,h0,h1,rr,0⟩:Ps).hand=h0:=rfl
 rw [hh] at hcnt hkr hmul
 dsimp only at hcnt her hmul
 have el:(ct.map I).length=ct.length:=List.length_map _
 have e0:(h0.map I).length=h0.length:=List.length_map _
 have e1:(h1.map I).length=h1.length:=List.length_map _
 refine fun_of tok D_ok Tryz.func10 rfl Tryz.ntmps10 Tryz.results10 (by kernel_rfl) (by simp) (by simp) ?_
 conv=>whnf
 repeat' (first | ((first | refine lvK ?_ | refine ⟨_,_,hup,lvN ?_⟩ | refine ⟨_,_,hmade,lvN ?_⟩ | refine ⟨_,_,hd,lvN ?_⟩ | (refine .inl ?_;(conv=>whnf);first | refine ⟨_,_,hup,lvN ?_⟩ | refine ⟨_,_,hmade,lvN ?_⟩ | refine ⟨_,_,hd,lvN ?_⟩));apply Cj.mk <;> first | exact trivial | intros) | (refine lvE ?_;apply Cj.mk <;> first | exact trivial | intros) | fail)
 refine .of (fun k=>[(9,I k),(7,I (kindsN h0 k))]) (fun k=>[]) 3 (fun k=>0≤k∧k≤g.nk) (fun k=>(g.nk - k).toNat) 0 ?_
 conv=>whnf
 refine ⟨⟨[],hdA (lvL ?_) (lvL ?_)⟩,?_,fun k ⟨k0,k1⟩=>lvN ?_⟩ <;> (try (apply Cj.mk <;> first | exact trivial | intros))
 ·exact ⟨by omega,by omega⟩
 have hkk:=kindsN_rg h0 k
 by_cases hk:k < g.nk
 ·have hsu:=kindsN_succ h0 k0
  by_cases hpos:nth h0 k > 0
  ·rw [if_pos hpos] at hsu
   repeat' (first | (refine lvK ?_;apply Cj.mk <;> first | exact trivial | intros) | (refine lvE ?_;apply Cj.mk <;> first | exact trivial | intros) | fail)
   refine ⟨k+1,⟨[],hdA (lvL ?_) (lvL ?_)⟩,?_,by (try dsimp only);omega,rfl⟩ <;> (try (apply Cj.mk <;> first | exact trivial | intros))
   ·rw [hsu]
   ·exact ⟨by omega,by omega⟩
  ·rw [if_neg hpos,Int.add_zero] at hsu
   repeat' (first | (refine lvK ?_;apply Cj.mk <;> first | exact trivial | intros) | (refine lvE ?_;apply Cj.mk <;> first | exact trivial | intros) | fail)
   refine ⟨k+1,⟨[],hdA (lvL ?_) (lvL ?_)⟩,?_,by (try dsimp only);omega,rfl⟩ <;> (try (apply Cj.mk <;> first | exact trivial | intros))
   ·rw [hsu]
   ·exact ⟨by omega,by omega⟩
 obtain rfl:k=g.nk:=by omega
 repeat' (first | (refine lvK ?_;apply Cj.mk <;> first | exact trivial | intros) | (refine lvE ?_;apply Cj.mk <;> first | exact trivial | intros) | fail)
 refine .of (fun c=>[(10,I c),(8,I (emptyN ct c))]) (fun c=>[]) 3 (fun c=>0≤c∧c≤g.b.cells) (fun c=>(g.b.cells - c).toNat) 0 ?_
 conv=>whnf
 refine ⟨⟨[],hdA (lvL ?_) (lvL ?_)⟩,?_,fun c ⟨c0,c1⟩=>lvN ?_⟩ <;> (try (apply Cj.mk <;> first | exact trivial | intros))
 ·exact ⟨by omega,by omega⟩
 have hec:=emptyN_rg ct c
 by_cases hc:c < g.b.cells
 ·have hsu:=emptyN_succ ct c0
  by_cases hpos:nth ct c=0
  ·rw [if_pos hpos] at hsu
   repeat' (first | (refine lvK ?_;apply Cj.mk <;> first | exact trivial | intros) | (refine lvE ?_;apply Cj.mk <;> first | exact trivial | intros) | fail)
   refine ⟨c+1,⟨[],hdA (lvL ?_) (lvL ?_)⟩,?_,by (try dsimp only);omega,rfl⟩ <;> (try (apply Cj.mk <;> first | exact trivial | intros))
   ·rw [hsu]
   ·exact ⟨by omega,by omega⟩
  ·rw [if_neg hpos,Int.add_zero] at hsu
   repeat' (first | (refine lvK ?_;apply Cj.mk <;> first | exact trivial | intros) | (refine lvE ?_;apply Cj.mk <;> first | exact trivial | intros) | fail)
   refine ⟨c+1,⟨[],hdA (lvL ?_) (lvL ?_)⟩,?_,by (try dsimp only);omega,rfl⟩ <;> (try (apply Cj.mk <;> first | exact trivial | intros))
   ·rw [hsu]
   ·exact ⟨by omega,by omega⟩
 obtain rfl:c=g.b.cells:=by omega
 repeat' (first | (refine lvK ?_;apply Cj.mk <;> first | exact trivial | intros) | (refine lvE ?_;apply Cj.mk <;> first | exact trivial | intros) | fail)
 refine .of (fun i=>[(11,I i)]) (fun i=>[]) 3 (fun i=>0≤i∧i≤D.length) (fun i=>(D.length - i).toNat) 0 ?_
 conv=>whnf
 refine ⟨⟨[],hdA (lvL ?_) (lvL ?_)⟩,?_,fun i ⟨i0,i1⟩=>lvN ?_⟩ <;> (try (apply Cj.mk <;> first | exact trivial | intros))
 ·exact ⟨by omega,by omega⟩
 by_cases hi:i < D.length
 ·have hm:=nth_mem i0 hi
  obtain ⟨kk,cc,kk0,kk1,cc0,cc1,hcan,hq⟩:=hmem _ hm
  have hko:=hok _ hm
  have hv:=R4Valid_p g hg (nth D i)
  rw [decide_eq_true hko] at hv
  have hcd:=canDrop_iff.1 hcan
  have hz0:nth ct cc=0:=hcd.2
  have hh0:nth h0 kk≠0:=hcd.1
  have hcode:=code_rg (s:=0) kk0 kk1 k6 (by decide)
  have hvk:=v0 kk kk0 kk1
  have hql:=hko.len
  have eq1:((nth D i).ct.map I).length=(nth D i).ct.length:=List.length_map _
  have hqct:(nth D i).ct=ct.set cc.toNat (code kk 0):=by rw [hq];rfl
  have hqn:∀ c:Int,0≤c→c < g.b.cells→nth (nth D i).ct c=if cc=c then code kk 0 else nth ct c:=fun c c0 c1=>by rw [hqct,nth_set cc0 c0 (by omega)]
  have hqc:=hqn cc cc0 cc1
  rw [if_pos rfl] at hqc
  have hcmp:=R4Compare_p (nth D i) (nth D i) (hko.small hg) (hko.small hg)
  rw [cmpP_tot.self] at hcmp
  have hqa:(nth D i).av=.ag [Is (ct.set cc.toNat (nth (nth D i).ct cc)),Is (if (0:Int)=0 then h0.set kk.toNat (nth h0 kk - 1) else h0),Is (if (0:Int)=0 then h1 else h1.set kk.toNat (nth h1 kk - 1)),I rr,I (1 - 0)]:=by
   rw [hqc,hq];rfl
  first
   | rw [if_pos rfl,if_pos rfl] at hqa
   | rw [if_neg (by decide),if_neg (by decide)] at hqa
  have hcmp2:=hcmp
  conv at hcmp2=>enter [3,2,1];rw [hqa]
  have hof:=Of_p (nth (nth D i).ct cc) (by omega)
  have hrg:=ofK_rg hg (c:=nth (nth D i).ct cc) (by omega) (by omega)
  have hofk:ofK (nth (nth D i).ct cc)=kk:=by omega
  have hofs:ofS (nth (nth D i).ct cc)=0:=by omega
  rw [hofk,hofs] at hof
  have hprev:0 < i→Pure Tryz.prog 24 [(nth D (i - 1)).av,(nth D i).av] (I (cmpP (nth D (i - 1)) (nth D i))) none∧cmpP (nth D (i - 1)) (nth D i) < 0:=fun q =>
   ⟨R4Compare_p _ _ ((hok _ (nth_mem (by omega) (by omega))).small hg) (hko.small hg),pw_nth (R:=fun a b=>cmpP a b < 0) hasc (by omega) (by omega) hi⟩
  by_cases hi0:i=0
  ·repeat' (first
    | (refine lvK ?_;apply Cj.mk <;> first | exact trivial | intros)
    | (refine ⟨_,_,hv,lvN ?_⟩;apply Cj.mk <;> first | exact trivial | intros)
    | (refine .inl ?_;(conv=>whnf);refine ⟨_,_,hv,lvN ?_⟩;apply Cj.mk <;> first | exact trivial | intros)
    | (refine .inr (.inl ?_);(conv=>whnf);refine ⟨[],[],[(⟨ct,h0,h1,rr,0⟩:Ps).av],_,_,⟨rfl,rfl,rfl⟩,hcp,lvN ?_⟩;apply Cj.mk <;> first | exact trivial | intros)
    | (refine lvE ?_;apply Cj.mk <;> first | exact trivial | intros)
    | fail)
   refine .of (fun c=>[(14,I c),(13,I (if cc < c then cc else -1))]) (fun c=>[]) 31 (fun c=>0≤c∧c≤g.b.cells) (fun c=>(g.b.cells - c).toNat) 0 ?_
   conv=>whnf
   refine ⟨⟨[],hdA (lvL ?_) (lvL ?_)⟩,?_,fun c ⟨c0,c1⟩=>lvN ?_⟩ <;> (try (apply Cj.mk <;> first | exact trivial | intros))
   ·rw [if_neg (by omega)]
   ·exact ⟨by omega,by omega⟩
   by_cases hc:c < g.b.cells
   ·have hqx:=hqn c c0 hc
    by_cases hcc:cc=c
    ·rw [if_pos hcc] at hqx
     subst hcc
     repeat' (first | (refine lvK ?_;apply Cj.mk <;> first | exact trivial | intros) | (refine lvE ?_;apply Cj.mk <;> first | exact trivial | intros) | fail)
     refine ⟨cc+1,⟨[],hdA (lvL ?_) (lvL ?_)⟩,?_,by (try dsimp only);omega,rfl⟩ <;> (try (apply Cj.mk <;> first | exact trivial | intros))
     ·rw [if_pos (by omega)]
     ·exact ⟨by omega,by omega⟩
    ·rw [if_neg hcc] at hqx
     have hsame:(if cc < c+1 then cc else -1)=(if cc < c then cc else -1):=by
      by_cases q:cc < c
      ·rw [if_pos q,if_pos (by omega)]
      ·rw [if_neg q,if_neg (by omega)]
     repeat' (first | (refine lvK ?_;apply Cj.mk <;> first | exact trivial | intros) | (refine lvE ?_;apply Cj.mk <;> first | exact trivial | intros) | fail)
     refine ⟨c+1,⟨[],hdA (lvL ?_) (lvL ?_)⟩,?_,by (try dsimp only);omega,rfl⟩ <;> (try (apply Cj.mk <;> first | exact trivial | intros))
     ·rw [hsame]
     ·exact ⟨by omega,by omega⟩
   obtain rfl:c=g.b.cells:=by omega
   rw [if_pos cc1]
   repeat' (first | ((first | refine lvK ?_ | refine ⟨_,_,hof,lvN ?_⟩ | (refine .inl ?_;(conv=>whnf);first | refine ⟨_,_,hof,lvN ?_⟩) | refine ⟨_,hcmp2,rfl,lvN ?_⟩);apply Cj.mk <;> first | exact trivial | intros) | (refine lvE ?_;apply Cj.mk <;> first | exact trivial | intros) | fail)
   refine ⟨i+1,⟨[],hdA (lvL ?_) (lvL ?_)⟩,?_,by (try dsimp only);omega,rfl⟩ <;> (try (apply Cj.mk <;> first | exact trivial | intros))
   exact ⟨by omega,by omega⟩
  ·obtain ⟨hpv,hlt⟩:=hprev (by omega)
   generalize cmpP (nth D (i - 1)) (nth D i)=cv at *
   repeat' (first | ((first | refine lvK ?_ | refine ⟨_,_,hv,lvN ?_⟩ | refine ⟨_,_,hpv,lvN ?_⟩ | (refine .inl ?_;(conv=>whnf);first | refine ⟨_,_,hv,lvN ?_⟩ | refine ⟨_,_,hpv,lvN ?_⟩) | (refine .inr (.inl ?_);(conv=>whnf);refine ⟨[],[],[(⟨ct,h0,h1,rr,0⟩:Ps).av],_,_,⟨rfl,rfl,rfl⟩,hcp,lvN ?_⟩));apply Cj.mk <;> first | exact trivial | intros) | (refine lvE ?_;apply Cj.mk <;> first | exact trivial | intros) | fail)
   refine .of (fun c=>[(14,I c),(13,I (if cc < c then cc else -1))]) (fun c=>[]) 31 (fun c=>0≤c∧c≤g.b.cells) (fun c=>(g.b.cells - c).toNat) 0 ?_
   conv=>whnf
   refine ⟨⟨[],hdA (lvL ?_) (lvL ?_)⟩,?_,fun c ⟨c0,c1⟩=>lvN ?_⟩ <;> (try (apply Cj.mk <;> first | exact trivial | intros))
   ·rw [if_neg (by omega)]
   ·exact ⟨by omega,by omega⟩
   by_cases hc:c < g.b.cells
   ·have hqx:=hqn c c0 hc
    by_cases hcc:cc=c
    ·rw [if_pos hcc] at hqx
     subst hcc
     repeat' (first | (refine lvK ?_;apply Cj.mk <;> first | exact trivial | intros) | (refine lvE ?_;apply Cj.mk <;> first | exact trivial | intros) | fail)
     refine ⟨cc+1,⟨[],hdA (lvL ?_) (lvL ?_)⟩,?_,by (try dsimp only);omega,rfl⟩ <;> (try (apply Cj.mk <;> first | exact trivial | intros))
     ·rw [if_pos (by omega)]
     ·exact ⟨by omega,by omega⟩
    ·rw [if_neg hcc] at hqx
     have hsame:(if cc < c+1 then cc else -1)=(if cc < c then cc else -1):=by
      by_cases q:cc < c
      ·rw [if_pos q,if_pos (by omega)]
      ·rw [if_neg q,if_neg (by omega)]
     repeat' (first | (refine lvK ?_;apply Cj.mk <;> first | exact trivial | intros) | (refine lvE ?_;apply Cj.mk <;> first | exact trivial | intros) | fail)
     refine ⟨c+1,⟨[],hdA (lvL ?_) (lvL ?_)⟩,?_,by (try dsimp only);omega,rfl⟩ <;> (try (apply Cj.mk <;> first | exact trivial | intros))
     ·rw [hsame]
     ·exact ⟨by omega,by omega⟩
   obtain rfl:c=g.b.cells:=by omega
   rw [if_pos cc1]
   repeat' (first | ((first | refine lvK ?_ | refine ⟨_,_,hof,lvN ?_⟩ | (refine .inl ?_;(conv=>whnf);first | refine ⟨_,_,hof,lvN ?_⟩) | refine ⟨_,hcmp2,rfl,lvN ?_⟩);apply Cj.mk <;> first | exact trivial | intros) | (refine lvE ?_;apply Cj.mk <;> first | exact trivial | intros) | fail)
   refine ⟨i+1,⟨[],hdA (lvL ?_) (lvL ?_)⟩,?_,by (try dsimp only);omega,rfl⟩ <;> (try (apply Cj.mk <;> first | exact trivial | intros))
   exact ⟨by omega,by omega⟩
 ·repeat' (first
   | (refine lvK ?_;apply Cj.mk <;> first | exact trivial | intros)
   | (refine lvE ?_;apply Cj.mk <;> first | exact trivial | intros)
   | fail)
end Go.Proofs.YthgobfncgnjimaaGreatDoor
