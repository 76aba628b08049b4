/- Contracts of functions of the program, proved by the checker. -/
import Derived.Test.YthgobfncgnjimaaGreatDoorZ41
set_option linter.unusedVariables false
set_option linter.unusedSimpArgs false
namespace Go.Proofs.YthgobfncgnjimaaGreatDoor
open Go Go.Sk
set_option maxHeartbeats 16000000 in
set_option maxRecDepth 10000 in
theorem RunSides2 (x:R6) (hx:x.ok) (n:Int) (hn:0≤n∧n≤255) (hnk:x.gm.nk=2):Pure Tryz.prog 6 [.ag x.cs,U8 n] (Bo true) none:=by
 have hmade:=Made6_p x hx
 have hg:=R6.gm_ok hx
 have hp:=R6.ps_ok hx
 have hup:=sanity5_p
 generalize x.gm=g at *
 generalize x.ps=p at *
 by_cases hne:g.chs p=[]
 ·have hpk:=Pick0_p g hg p hp n hne
  refine fun_of tok D_ok Tryz.func6 rfl Tryz.ntmps6 Tryz.results6 (by kernel_rfl) (by simp) (by simp) ?_
  conv=>whnf
  repeat' (first | ((first | refine lvK ?_ | refine ⟨_,_,hup,lvN ?_⟩ | refine ⟨_,_,hmade,lvN ?_⟩ | refine ⟨_,_,hpk,lvN ?_⟩ | (refine .inl ?_;(conv=>whnf);first | refine ⟨_,_,hup,lvN ?_⟩ | refine ⟨_,_,hmade,lvN ?_⟩ | refine ⟨_,_,hpk,lvN ?_⟩));apply Cj.mk <;> first | exact trivial | intros) | (refine lvE ?_;apply Cj.mk <;> first | exact trivial | intros) | fail)
 have hpk:=Pick_p g hg p hp n hn hne
 have hcr:=pick_run hg hp n hne
 generalize g.pick p n=c at *
 obtain ⟨cell,i⟩:=c
 dsimp only at hcr
 have q1:=PRuns_p g hg p _ _ hcr
 have q2:=PRuns_p g.turned (turned_ok hg) (exP p) _ _ (ex_run hg hcr)
 have hE:=Exch_p g hg p hp
 have hMl:=runsR_len (turned_ok hg) (ex_run hg hcr)
 have hLl:=runsR_len hg hcr
 have hMok:∀ o,o∈g.turned.runsR (exP p) cell i→o.p.ok g:=fun o ho=>by
  obtain ⟨q,hq,rfl⟩:=(ex_mem hg hcr).1 ho
  exact exP_ok hg (runsR_ok hg hcr hq)
 have hLsm:∀ o,o∈g.runsR p cell i→o.p.small:=fun o ho=>(runsR_ok hg hcr ho).small hg
 have hEM:∀ o,o∈g.turned.runsR (exP p) cell i→Pure Tryz.prog 26 [o.p.av] (exP o.p).av none:=fun o ho=>Exch_p g hg o.p (hMok o ho)
 have hXs:∀ o,o∈g.turned.runsR (exP p) cell i→(exO o).p.small:=fun o ho=>(exP_ok hg (hMok o ho)).small hg
 have hVM:∀ o,o∈g.turned.runsR (exP p) cell i→Pure Tryz.prog 15 [g.av,o.p.av] (Bo true) none:=fun o ho=>by
  have:=R4Valid_p g hg o.p
  rwa [decide_eq_true (hMok o ho)] at this
 have hback:backL (g.turned.runsR (exP p) cell i)=g.runsR p cell i:=ex_back hg hcr
 have hso:=SameOut_p (g.runsR p cell i) (g.runsR p cell i) (by omega) hLsm hLsm
 rw [decide_eq_true rfl] at hso
 clear hMok hLsm
 generalize g.turned.runsR (exP p) cell i=M at *
 generalize g.runsR p cell i=L at *
 have eM:(M.map Ou).length=M.length:=List.length_map _
 have hpl:=hg.pl
 have hpgs:=hg.pg
 have hbk:=hg.b
 obtain ⟨b,kinds,rights,must,cls,bl,en⟩:=g
 have hn1:(kinds.length:Int)=2:=hnk
 have hint:TreHint:=⟨⟩
 have hown:OwnHint:=⟨⟩
 have hfT:∀ a:Kd,(∀ pg,pg∈a.progs→PgOk b.next.length kinds.length rights pg)→∀ j:Int,0≤j→j < a.progs.length→Pure Tryz.prog 25 [Pg (nth a.progs j),Is b.turn] (Pg (trP b (nth a.progs j))) none:=fun a ha j j0 j1=>by
  have hq:=ha _ (nth_mem j0 j1)
  exact Turned_p b hbk (nth a.progs j) hq.l8 fun y hy hl=>by
   have:=hq.st y hy
   unfold StpOk at this
   omega
 obtain ⟨a,a',rfl⟩:∃ a a',kinds=[a,a']:=by
  match kinds,hn1 with
  | [a,a'],_=>exact ⟨a,a',rfl⟩
 refine fun_of tok D_ok Tryz.func6 rfl Tryz.ntmps6 Tryz.results6 (by kernel_rfl) (by simp) (by simp) ?_
 conv=>whnf
 repeat' (first | ((first | refine lvK ?_ | refine ⟨_,_,hup,lvN ?_⟩ | refine ⟨_,_,hmade,lvN ?_⟩ | refine ⟨_,_,hpk,lvN ?_⟩ | (refine .inl ?_;(conv=>whnf);first | refine ⟨_,_,hup,lvN ?_⟩ | refine ⟨_,_,hmade,lvN ?_⟩ | refine ⟨_,_,hpk,lvN ?_⟩) | refine And.intro (show 2 * 48≤140737488355328 by decide) (And.intro (show 2≤4611686018427387904 by decide) (lvN ?_)));apply Cj.mk <;> first | exact trivial | intros) | (refine lvE ?_;apply Cj.mk <;> first | exact trivial | intros) | fail)
 refine .of (fun k:Int=>[(10,I k)]) (fun k=>[(5,kO2 b a a' k)]) 6 (fun k=>k=0∨k=1∨k=2) (fun k=>(2 - k).toNat) 0 ?_
 conv=>whnf
 refine ⟨⟨[],hdA (lvL ?_) (lvL ?_)⟩,.inl rfl,fun k hk01=>?_⟩ <;> (try (apply Cj.mk <;> first | exact trivial | intros))
 rcases hk01 with rfl | rfl | rfl
 ·have hpl0:a.progs.length≤8:=hpl 0 (by omega) (by show (0:Int) < (2:Nat);omega)
  have hT0:=hfT a (hpgs 0 (by omega) (by show (0:Int) < (2:Nat);omega))
  have ep0:(List.map Pg (nth [a,a'] 0).progs).length=a.progs.length:=List.length_map _
  repeat' (first | ((first | refine lvK ?_ | refine And.intro (show (List.map Pg (nth [a,a'] 0).progs).length * 24≤140737488355328 by omega) (And.intro (by omega) (lvN ?_)) | refine And.intro (Int.le_refl 0) (And.intro Nat.zero_lt_two (lvN ?_)) | refine ⟨_,rfl,lvN ?_⟩);apply Cj.mk <;> first | exact trivial | intros) | (refine lvE ?_;apply Cj.mk <;> first | exact trivial | intros) | fail)
  refine .of (fun j=>[(11,I j)]) (fun j=>[(16,.arr 1 ((mapTo (trP b) a.progs j).map Pg))]) 19 (fun j=>0≤j∧j≤a.progs.length) (fun j=>(a.progs.length - j).toNat) 0 ?_
  conv=>whnf
  refine ⟨⟨[],hdA (lvL ?_) (lvL ?_)⟩,?_,fun j ⟨j0,j1⟩=>lvN ?_⟩ <;> (try (apply Cj.mk <;> first | exact trivial | intros))
  ·exact ⟨by omega,by omega⟩
  have eml:=mapTo_len (trP b) a.progs j
  have emm:((mapTo (trP b) a.progs j).map Pg).length=(mapTo (trP b) a.progs j).length:=List.length_map _
  by_cases hj:j < a.progs.length
  ·have hjj:j < ((nth [a,a'] 0).progs.length:Int):=hj
   have hT:=hT0 j j0 hj
   have hst:=mapTo_set (trP b) j0 hj
   repeat' (first | ((first | refine lvK ?_ | refine ⟨_,_,hT,lvN ?_⟩ | (refine .inl ?_;(conv=>whnf);first | refine ⟨_,_,hT,lvN ?_⟩) | refine And.intro (Int.le_refl 0) (And.intro Nat.zero_lt_two (lvN ?_)) | refine ⟨_,rfl,lvN ?_⟩);apply Cj.mk <;> first | exact trivial | intros) | (refine lvE ?_;apply Cj.mk <;> first | exact trivial | intros) | fail)
   refine ⟨j+1,⟨[],hdA (lvL ?_) (lvL ?_)⟩,?_,by (try dsimp only);omega,rfl⟩ <;> (try (apply Cj.mk <;> first | exact trivial | intros))
   ·rw [← hst,List.map_set];rfl
   ·exact ⟨by omega,by omega⟩
  ·obtain rfl:j=a.progs.length:=by omega
   rw [mapTo_all]
   repeat' (first | (refine lvK ?_;apply Cj.mk <;> first | exact trivial | intros) | (refine lvE ?_;apply Cj.mk <;> first | exact trivial | intros) | fail)
   refine ⟨1,⟨[(5,1,16)],?_⟩,.inr (.inl rfl),by (try dsimp only);omega,rfl⟩
   conv=>whnf
   refine ⟨_,rfl,rfl,(by kernel_rfl),(by kernel_rfl),(by kernel_rfl),lvL ?_,lvL ?_⟩ <;> (try (apply Cj.mk <;> first | exact trivial | intros))
 ·have hpl0:a'.progs.length≤8:=hpl 1 (by omega) (by show (1:Int) < (2:Nat);omega)
  have hT0:=hfT a' (hpgs 1 (by omega) (by show (1:Int) < (2:Nat);omega))
  have ep0:(List.map Pg (nth [a,a'] 1).progs).length=a'.progs.length:=List.length_map _
  repeat' (first | ((first | refine lvK ?_ | refine And.intro (show (List.map Pg (nth [a,a'] 1).progs).length * 24≤140737488355328 by omega) (And.intro (by omega) (lvN ?_)) | refine And.intro Int.one_nonneg (And.intro Nat.one_lt_two (lvN ?_)) | refine ⟨_,rfl,lvN ?_⟩);apply Cj.mk <;> first | exact trivial | intros) | (refine lvE ?_;apply Cj.mk <;> first | exact trivial | intros) | fail)
  refine .of (fun j=>[(11,I j)]) (fun j=>[(16,.arr 1 ((mapTo (trP b) a'.progs j).map Pg))]) 19 (fun j=>0≤j∧j≤a'.progs.length) (fun j=>(a'.progs.length - j).toNat) 0 ?_
  conv=>whnf
  refine ⟨⟨[],hdA (lvL ?_) (lvL ?_)⟩,?_,fun j ⟨j0,j1⟩=>lvN ?_⟩ <;> (try (apply Cj.mk <;> first | exact trivial | intros))
  ·exact ⟨by omega,by omega⟩
  have eml:=mapTo_len (trP b) a'.progs j
  have emm:((mapTo (trP b) a'.progs j).map Pg).length=(mapTo (trP b) a'.progs j).length:=List.length_map _
  by_cases hj:j < a'.progs.length
  ·have hjj:j < ((nth [a,a'] 1).progs.length:Int):=hj
   have hT:=hT0 j j0 hj
   have hst:=mapTo_set (trP b) j0 hj
   repeat' (first | ((first | refine lvK ?_ | refine ⟨_,_,hT,lvN ?_⟩ | (refine .inl ?_;(conv=>whnf);first | refine ⟨_,_,hT,lvN ?_⟩) | refine And.intro Int.one_nonneg (And.intro Nat.one_lt_two (lvN ?_)) | refine ⟨_,rfl,lvN ?_⟩);apply Cj.mk <;> first | exact trivial | intros) | (refine lvE ?_;apply Cj.mk <;> first | exact trivial | intros) | fail)
   refine ⟨j+1,⟨[],hdA (lvL ?_) (lvL ?_)⟩,?_,by (try dsimp only);omega,rfl⟩ <;> (try (apply Cj.mk <;> first | exact trivial | intros))
   ·rw [← hst,List.map_set];rfl
   ·exact ⟨by omega,by omega⟩
  ·obtain rfl:j=a'.progs.length:=by omega
   rw [mapTo_all]
   repeat' (first | (refine lvK ?_;apply Cj.mk <;> first | exact trivial | intros) | (refine lvE ?_;apply Cj.mk <;> first | exact trivial | intros) | fail)
   refine ⟨2,⟨[(5,4,16)],?_⟩,.inr (.inr rfl),by (try dsimp only);omega,rfl⟩
   conv=>whnf
   refine ⟨_,rfl,rfl,(by kernel_rfl),(by kernel_rfl),(by kernel_rfl),lvL ?_,lvL ?_⟩ <;> (try (apply Cj.mk <;> first | exact trivial | intros))
   rename_i q e e' h1 h2
   exact (pubL_two rfl rfl).2 q e e' h1 h2
 ·repeat' (first
   | (refine lvK ?_;apply Cj.mk <;> first | exact trivial | intros)
   | (refine ⟨_,_,q1,lvN ?_⟩;apply Cj.mk <;> first | exact trivial | intros)
   | (refine .inl ?_;(conv=>whnf);refine ⟨_,_,q1,lvN ?_⟩;apply Cj.mk <;> first | exact trivial | intros)
   | (refine ⟨_,_,hE,lvN ?_⟩;apply Cj.mk <;> first | exact trivial | intros)
   | (refine .inl ?_;(conv=>whnf);refine ⟨_,_,hE,lvN ?_⟩;apply Cj.mk <;> first | exact trivial | intros)
   | (refine ⟨_,_,q2,lvN ?_⟩;apply Cj.mk <;> first | exact trivial | intros)
   | (refine .inl ?_;(conv=>whnf);refine ⟨_,_,q2,lvN ?_⟩;apply Cj.mk <;> first | exact trivial | intros)
   | (refine lvE ?_;apply Cj.mk <;> first | exact trivial | intros)
   | fail)
  refine .of (fun k=>[(17,I k),(16,Ous (backL (M.take k.toNat)))]) (fun k=>[]) 6 (fun k=>0≤k∧k≤M.length) (fun k=>(M.length - k).toNat) 0 ?_
  conv=>whnf
  refine ⟨⟨[],hdA (lvL ?_) (lvL ?_)⟩,?_,fun k ⟨k0,k1⟩=>lvN ?_⟩ <;> (try (apply Cj.mk <;> first | exact trivial | intros))
  ·exact ⟨by omega,by omega⟩
  by_cases hk:k < M.length
  ·have hm:=nth_mem k0 hk
   have hv:=hVM _ hm
   have hex:=hEM _ hm
   have hbl:=backL_len (M.take k.toNat) []
   have hin:=Insert_p (backL (M.take k.toNat)) (exO (nth M k)) (by unfold backL;rw [List.length_take] at hbl;simp at hbl;omega) (fun o ho=>by
    rcases backL_mem _ _ _ ho with ho | ⟨q,hq,rfl⟩
    ·simp at ho
    ·exact hXs q (List.mem_of_mem_take hq)) (hXs _ hm)
   rw [← backL_succ k0 hk] at hin
   repeat' (first | ((first | refine lvK ?_ | refine ⟨_,_,hv,lvN ?_⟩ | refine ⟨_,_,hex,lvN ?_⟩ | refine ⟨_,_,hin,lvN ?_⟩ | (refine .inl ?_;(conv=>whnf);first | refine ⟨_,_,hv,lvN ?_⟩ | refine ⟨_,_,hex,lvN ?_⟩ | refine ⟨_,_,hin,lvN ?_⟩));apply Cj.mk <;> first | exact trivial | intros) | (refine lvE ?_;apply Cj.mk <;> first | exact trivial | intros) | fail)
   refine ⟨k+1,⟨[],hdA (lvL ?_) (lvL ?_)⟩,?_,by (try dsimp only);omega,rfl⟩ <;> (try (apply Cj.mk <;> first | exact trivial | intros))
   exact ⟨by omega,by omega⟩
  ·obtain rfl:k=M.length:=by omega
   rw [take_all (Int.le_refl _),hback]
   repeat' (first | ((first | refine lvK ?_ | refine ⟨_,_,hso,lvN ?_⟩ | (refine .inl ?_;(conv=>whnf);first | refine ⟨_,_,hso,lvN ?_⟩));apply Cj.mk <;> first | exact trivial | intros) | (refine lvE ?_;apply Cj.mk <;> first | exact trivial | intros) | fail)
end Go.Proofs.YthgobfncgnjimaaGreatDoor
