/- Contracts of functions of the program, proved by the checker. -/
import Derived.Test.YthgobfncgnjimaaGreatDoorZ33
import Derived.Test.YthgobfncgnjimaaGreatDoorZ30
set_option linter.unusedVariables false
set_option linter.unusedSimpArgs false
namespace Go.Proofs.YthgobfncgnjimaaGreatDoor
open Go Go.Sk
theorem made_takes (x:R6) (k:Int) (k0:0≤k) (k1:k < x.gm.nk) {l:List Stp} (hl:l∈(nth x.gm.kinds k).progs):takes l≤2:=by
 have hk:nth x.gm.kinds k=x.g.kd k:=nth_map_ints k0 (by rw [← R3.made_nk];exact k1)
 rw [hk] at hl
 obtain ⟨n,_,rfl⟩:=List.mem_map.1 (show l∈((x.g.kl k).take (4:Int).toNat).map fun n=>progMade n 8 x.g.nk x.g.rights from hl)
 exact progMade_takes
theorem prog_takes (x:R6) {p:Ps} {cell i:Int} (hx:x.ok) (h:CanRun x.gm p cell i):takes (x.gm.prog p cell i)≤2 :=
 made_takes x _ h.k0 (h.k1 (R6.gm_ok hx)) (nth_mem h.i0 h.i1)
def keptF (g:Gm) (p q:Ps) (k:Int):Int:=if g.keep k then menL p.ct (1 - p.side) k - menL q.ct (1 - p.side) k else 0
theorem kept_rg {g:Gm} (hg:g.ok) {p q:Ps} (hp:p.ok g) (hq:q.ok g) {k:Int} (k1:k≤g.nk):-54≤sumTo (keptF g p q) k.toNat∧sumTo (keptF g p q) k.toNat≤54:=by
 have h6:=hg.k6
 have:=sumTo_le (keptF g p q) 9 (by decide) k.toNat fun j j0 j1=>by
  have h1:=men_rg hg hp (1 - p.side) j
  have h2:=men_rg hg hq (1 - p.side) j
  unfold keptF
  split <;> omega
 omega
set_option maxHeartbeats 8000000 in
set_option maxRecDepth 10000 in
theorem RunMen_p (x:R6) (hx:x.ok) (n:Int) (hn:0≤n∧n≤255):Pure Tryz.prog 3 [.ag x.cs,U8 n] (Bo true) none:=by
 have hmade:=Made6_p x hx
 have hg:=R6.gm_ok hx
 have hp:=R6.ps_ok hx
 have hup:=sanity5_p
 have ht2:=fun cell i=>prog_takes x (p:=x.ps) (cell:=cell) (i:=i) hx
 generalize x.gm=g at *
 generalize x.ps=p at *
 by_cases hne:g.chs p=[]
 ·have hpk:=Pick0_p g hg p hp n hne
  refine fun_of tok D_ok Tryz.func3 rfl Tryz.ntmps3 Tryz.results3 (by kernel_rfl) (by simp) (by simp) ?_
  conv=>whnf
  repeat' (first | ((first | refine lvK ?_ | refine ⟨_,_,hup,lvN ?_⟩ | refine ⟨_,_,hmade,lvN ?_⟩ | refine ⟨_,_,hpk,lvN ?_⟩ | (refine .inl ?_;(conv=>whnf);first | refine ⟨_,_,hup,lvN ?_⟩ | refine ⟨_,_,hmade,lvN ?_⟩ | refine ⟨_,_,hpk,lvN ?_⟩));apply Cj.mk <;> first | exact trivial | intros) | (refine lvE ?_;apply Cj.mk <;> first | exact trivial | intros) | fail)
 have hpk:=Pick_p g hg p hp n hn hne
 have hcr:=pick_run hg hp n hne
 generalize g.pick p n=c at *
 obtain ⟨cell,i⟩:=c
 dsimp only at hcr
 have q1:=PRuns_p g hg p _ _ hcr
 have hrl:=runsR_len hg hcr
 have hok:=fun o (ho:o∈g.runsR p cell i)=>runsR_ok hg hcr ho
 have hmo:=fun o (ho:o∈g.runsR p cell i)=>runs_men hg hcr ho
 have ht:=ht2 cell i hcr
 have hps:=hp.s
 have c9:=hg.c9
 have k6:=hg.k6
 have kk1:=hg.k1
 have c0:=hcr.c0
 have c1:=hcr.c1
 have hnk:g.nk=g.kinds.length:=rfl
 have en:(g.kinds.map Kn).length=g.kinds.length:=List.length_map _
 generalize takes (g.prog p cell i)=t at *
 generalize g.runsR p cell i=L at *
 have eL:(L.map Ou).length=L.length:=List.length_map _
 have mp:=Men_p g hg p hp p.side hps
 have mo:=Men_p g hg p hp (1 - p.side) (by omega)
 have cp:=R4Count_p g hg p hp (1 - p.side) (by omega)
 have hcl:=cntR_len g p (1 - p.side)
 have hcm:((cntR g p (1 - p.side)).map I).length=(cntR g p (1 - p.side)).length:=List.length_map _
 refine fun_of tok D_ok Tryz.func3 rfl Tryz.ntmps3 Tryz.results3 (by kernel_rfl) (by simp) (by simp) ?_
 conv=>whnf
 repeat' (first | ((first | refine lvK ?_ | refine ⟨_,_,hup,lvN ?_⟩ | refine ⟨_,_,hmade,lvN ?_⟩ | refine ⟨_,_,hpk,lvN ?_⟩ | refine ⟨_,_,q1,lvN ?_⟩ | (refine .inl ?_;(conv=>whnf);first | refine ⟨_,_,hup,lvN ?_⟩ | refine ⟨_,_,hmade,lvN ?_⟩ | refine ⟨_,_,hpk,lvN ?_⟩ | refine ⟨_,_,q1,lvN ?_⟩));apply Cj.mk <;> first | exact trivial | intros) | (refine lvE ?_;apply Cj.mk <;> first | exact trivial | intros) | fail)
 refine .of (fun k=>[(11,I k)]) (fun k=>[]) 4 (fun k=>0≤k∧k≤L.length) (fun k=>(L.length - k).toNat) 0 ?_
 conv=>whnf
 refine ⟨⟨[],hdA (lvL ?_) (lvL ?_)⟩,?_,fun k ⟨q0,q1⟩=>lvN ?_⟩ <;> (try (apply Cj.mk <;> first | exact trivial | intros))
 ·exact ⟨by omega,by omega⟩
 by_cases hk:k < L.length
 ·have hm:=nth_mem (l:=L) q0 hk
  have hko:=hok _ hm
  have hmm:=hmo _ hm
  have hv:=R4Valid_p g hg (nth L k).p
  rw [decide_eq_true hko] at hv
  have m1:=Men_p g hg _ hko p.side hps
  have m2:=Men_p g hg _ hko (1 - p.side) (by omega)
  have cq:=R4Count_p g hg _ hko (1 - p.side) (by omega)
  have hdl:=cntR_len g (nth L k).p (1 - p.side)
  have hdm:((cntR g (nth L k).p (1 - p.side)).map I).length=(cntR g (nth L k).p (1 - p.side)).length:=List.length_map _
  have r1:=sum_rg hg hp p.side (k:=g.nk) (by omega)
  have r2:=sum_rg hg hp (1 - p.side) (k:=g.nk) (by omega)
  have r3:=sum_rg hg hko p.side (k:=g.nk) (by omega)
  have r4:=sum_rg hg hko (1 - p.side) (k:=g.nk) (by omega)
  have hown:=hmm.own
  have hsum:=hmm.sum
  have hhnd:=hmm.hnd
  have hoth:=hmm.oth
  have htk:=hmm.took
  have hkr:=fun m (h:m≤g.nk)=>kept_rg hg hp hko h
  rw [show (fun k_1=>if g.keep k_1 then menL p.ct (1 - p.side) k_1 - menL (nth L k).p.ct (1 - p.side) k_1 else 0)=keptF g p (nth L k).p from rfl] at hhnd
  have htb:(nth L k).took=true∧0 < t∨(nth L k).took=false∧t=0:=by
   by_cases h:0 < t
   ·exact .inl ⟨by rw [htk,decide_eq_true h],h⟩
   ·exact .inr ⟨by rw [htk,decide_eq_false h],by omega⟩
  repeat' (first | ((first | refine lvK ?_ | refine ⟨_,_,hv,lvN ?_⟩ | refine ⟨_,_,mp,lvN ?_⟩ | refine ⟨_,_,mo,lvN ?_⟩ | refine ⟨_,_,m1,lvN ?_⟩ | refine ⟨_,_,m2,lvN ?_⟩ | (refine .inl ?_;(conv=>whnf);first | refine ⟨_,_,hv,lvN ?_⟩ | refine ⟨_,_,mp,lvN ?_⟩ | refine ⟨_,_,mo,lvN ?_⟩ | refine ⟨_,_,m1,lvN ?_⟩ | refine ⟨_,_,m2,lvN ?_⟩));apply Cj.mk <;> first | exact trivial | intros) | (refine lvE ?_;apply Cj.mk <;> first | exact trivial | intros) | fail)
  refine .of (fun m=>[(19,I m),(18,I (sumTo (keptF g p (nth L k).p) m.toNat))]) (fun m=>[]) 31 (fun m=>0≤m∧m≤g.nk) (fun m=>(g.nk - m).toNat) 0 ?_
  conv=>whnf
  refine ⟨⟨[],hdA (lvL ?_) (lvL ?_)⟩,?_,fun m ⟨m0,m1⟩=>lvN ?_⟩ <;> (try (apply Cj.mk <;> first | exact trivial | intros))
  ·exact ⟨by omega,by omega⟩
  have hk1:=hkr m m1
  by_cases hmk:m < g.nk
  ·have hsu:=sumTo_succ (keptF g p (nth L k).p) m0
   have hk2:=hkr (m+1) (by omega)
   have n1:=cntR_nth g p (1 - p.side) m0 hmk
   have n2:=cntR_nth g (nth L k).p (1 - p.side) m0 hmk
   have b1:=men_rg hg hp (1 - p.side) m
   have b2:=men_rg hg hko (1 - p.side) m
   by_cases hkp:(nth g.kinds m).keep=true
   ·have hkf:keptF g p (nth L k).p m=menL p.ct (1 - p.side) m - menL (nth L k).p.ct (1 - p.side) m:=if_pos hkp
    repeat' (first | ((first | refine lvK ?_ | refine ⟨_,_,cp,lvN ?_⟩ | refine ⟨_,_,cq,lvN ?_⟩ | (refine .inl ?_;(conv=>whnf);first | refine ⟨_,_,cp,lvN ?_⟩ | refine ⟨_,_,cq,lvN ?_⟩));apply Cj.mk <;> first | exact trivial | intros) | (refine lvE ?_;apply Cj.mk <;> first | exact trivial | intros) | fail)
    all_goals (try (exfalso;rename_i q;rw [hkp] at q;cases q;done))
    refine ⟨m+1,⟨[],hdA (lvL ?_) (lvL ?_)⟩,?_,by (try dsimp only);omega,rfl⟩ <;> (try (apply Cj.mk <;> first | exact trivial | intros))
    ·rw [hsu,hkf,n1,n2]
    ·exact ⟨by omega,by omega⟩
   ·have hkf:keptF g p (nth L k).p m=0:=if_neg hkp
    have hkp':(nth g.kinds m).keep=false:=by simpa using hkp
    repeat' (first | ((first | refine lvK ?_ | refine ⟨_,_,cp,lvN ?_⟩ | refine ⟨_,_,cq,lvN ?_⟩ | (refine .inl ?_;(conv=>whnf);first | refine ⟨_,_,cp,lvN ?_⟩ | refine ⟨_,_,cq,lvN ?_⟩));apply Cj.mk <;> first | exact trivial | intros) | (refine lvE ?_;apply Cj.mk <;> first | exact trivial | intros) | fail)
    all_goals (try (exfalso;rename_i q;rw [hkp'] at q;cases q;done))
    refine ⟨m+1,⟨[],hdA (lvL ?_) (lvL ?_)⟩,?_,by (try dsimp only);omega,rfl⟩ <;> (try (apply Cj.mk <;> first | exact trivial | intros))
    ·rw [hsu,hkf,Int.add_zero]
    ·exact ⟨by omega,by omega⟩
  obtain rfl:m=g.nk:=by omega
  rw [← hoth] at *
  rcases htb with ⟨htk1,ht1⟩ | ⟨htk1,ht1⟩
  ·repeat' (first
    | (refine lvK ?_;apply Cj.mk <;> first | exact trivial | intros)
    | (refine lvE ?_;apply Cj.mk <;> first | exact trivial | intros)
    | fail)
   ·refine ⟨k+1,⟨[],hdA (lvL ?_) (lvL ?_)⟩,?_,by (try dsimp only);omega,rfl⟩ <;> (try (apply Cj.mk <;> first | exact trivial | intros))
    exact ⟨by omega,by omega⟩
   exfalso
   rename_i q
   exact q (by rw [htk1];exact decide_eq_true (by omega))
  ·repeat' (first
    | (refine lvK ?_;apply Cj.mk <;> first | exact trivial | intros)
    | (refine lvE ?_;apply Cj.mk <;> first | exact trivial | intros)
    | fail)
   ·refine ⟨k+1,⟨[],hdA (lvL ?_) (lvL ?_)⟩,?_,by (try dsimp only);omega,rfl⟩ <;> (try (apply Cj.mk <;> first | exact trivial | intros))
    exact ⟨by omega,by omega⟩
   exfalso
   rename_i q
   exact q (by rw [htk1];exact decide_eq_false (by omega))
 ·repeat' (first
   | (refine lvK ?_;apply Cj.mk <;> first | exact trivial | intros)
   | (refine lvE ?_;apply Cj.mk <;> first | exact trivial | intros)
   | fail)
end Go.Proofs.YthgobfncgnjimaaGreatDoor
