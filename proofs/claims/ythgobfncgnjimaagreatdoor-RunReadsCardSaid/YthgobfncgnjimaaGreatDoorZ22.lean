/- Contracts of functions of the program, proved by the checker; and plain laws. -/
import Derived.Test.YthgobfncgnjimaaGreatDoorZ21
import Derived.Test.YthgobfncgnjimaaGreatDoorZ09
import Derived.Test.YthgobfncgnjimaaGreatDoorZ15
import Derived.Test.YthgobfncgnjimaaGreatDoorZ16
import Derived.Test.YthgobfncgnjimaaGreatDoorZ18
set_option linter.unusedVariables false
set_option linter.unusedSimpArgs false
namespace Go.Proofs.YthgobfncgnjimaaGreatDoor
open Go Go.Sk
theorem plP_small (a b c s:Int):(plP a b c s).small:=⟨by show 3≤_;decide,by show 1≤_;decide,by show 1≤_;decide⟩
set_option maxHeartbeats 16000000 in
set_option maxRecDepth 10000 in
theorem sanity5_p:Pure Tryz.prog 11 [] (Bo true) none:=by
 have rS:=row_p pgS
 have rT:=row_p pgT
 have rP:=row_p pgP
 have rG:=row_p pgG
 have p1:=place_p 1 0 2 0
 have p2:=place_p 1 0 2 1
 have p3:=place_p 1 1 0 0
 have p4:=place_p 9 0 2 0
 have q1:=place_p 0 1 2 1
 have q2:=place_p 0 0 1 1
 have q3:=place_p 1 2 0 0
 have q4:=place_p 0 1 1 1
 have c1:=PRuns_p (rowG pgS) gS_ok (plP 1 0 2 0) 0 0 (run_of (by decide +kernel) (by decide) (by decide) (by decide) (by decide) (by decide))
 rw [ex1] at c1
 have c2:=PRuns_p (rowG pgT) gT_ok (plP 1 0 2 0) 0 0 (run_of (by decide +kernel) (by decide) (by decide) (by decide) (by decide) (by decide))
 rw [ex2] at c2
 have c3:=PRuns_p (rowG pgS) gS_ok (plP 1 0 2 1) 2 0 (run_of (by decide +kernel) (by decide) (by decide) (by decide) (by decide) (by decide))
 rw [ex3] at c3
 have c4:=PRuns_p (rowG pgP) gP_ok (plP 1 1 0 0) 0 0 (run_of (by decide +kernel) (by decide) (by decide) (by decide) (by decide) (by decide))
 rw [ex4] at c4
 have c5:=PRuns_p (rowG pgG) gG_ok (plP 1 1 0 0) 0 0 (run_of (by decide +kernel) (by decide) (by decide) (by decide) (by decide) (by decide))
 rw [ex5] at c5
 have c6:=PReads_p (rowG pgS) gS_ok (plP 1 0 2 0) 0 0 (run_of (by decide +kernel) (by decide) (by decide) (by decide) (by decide) (by decide))
 rw [ex6] at c6
 have c7:=PRuns_err (rowG pgS) gS_ok (plP 1 0 2 0) (by show 3≤_;decide) 2 0 (fun h=>absurd h.sd (by decide))
 rw [show (rowG pgS).errR (plP 1 0 2 0)=50 from if_pos (by decide +kernel)] at c7
 have c8:=PRuns_err (rowG pgS) gS_ok (plP 9 0 2 0) (by show 3≤_;decide) 0 0 (fun h=>absurd h.ok (by decide +kernel))
 rw [show (rowG pgS).errR (plP 9 0 2 0)=40 from if_neg (by decide +kernel)] at c8
 have o1:=one_p (plP 0 1 2 1) (plP_small ..) false
 have o2:=one_p (plP 0 0 1 1) (plP_small ..) true
 have o3:=one_p (plP 1 2 0 0) (plP_small ..) false
 have o4:=one_p (plP 0 1 1 1) (plP_small ..) false
 have hi:=Ints5_p [0,1,2] [0,1,2] (by decide)
 rw [decide_eq_true rfl] at hi
 refine fun_of tok D_ok Tryz.func11 rfl Tryz.ntmps11 Tryz.results11 (by kernel_rfl) (by simp) (by simp) ?_
 conv=>whnf
 repeat' (first | ((first | refine lvK ?_ | refine ⟨_,_,rS,lvN ?_⟩ | (refine .inl ?_;(conv=>whnf);first | refine ⟨_,_,rS,lvN ?_⟩) | (refine .inr (.inl ?_);(conv=>whnf);refine ⟨_,_,rS,lvN ?_⟩));apply Cj.mk <;> first | exact trivial | intros) | (refine lvE ?_;apply Cj.mk <;> first | exact trivial | intros) | fail)
 refine .inr (.inr (.inl ⟨{ tmps:=[(32,(rowG pgS).av),(1,.ref 0),(2,.ref 1),(3,.ref 2)],objs:=[(0,.pub (pgS.map St1)),(1,.arr 2 (pgT.map St1)),(2,.arr 2 (pgP.map St1))],next:=3,size:=148,par:=[] },exitS [.obj 0,.obj 1,.obj 2] (by kernel_rfl) (by kernel_rfl) (by kernel_rfl) (lvL ?_) (lvL ?_),.inr (.inr ?_)⟩))
 ·apply Cj.mk <;> first | exact trivial | intros
 ·apply Cj.mk <;> first | exact trivial | intros
 conv=>whnf
 refine ⟨_,_,p1,lvN ?_⟩
 apply Cj.mk <;> first | exact trivial | intros
 repeat' (first | ((first | refine lvK ?_ | refine ⟨_,_,c1,lvN ?_⟩ | refine ⟨_,_,rT,lvN ?_⟩ | (refine .inl ?_;(conv=>whnf);first | refine ⟨_,_,c1,lvN ?_⟩ | refine ⟨_,_,rT,lvN ?_⟩) | (refine .inr (.inl ?_);(conv=>whnf);refine ⟨_,_,rT,lvN ?_⟩));apply Cj.mk <;> first | exact trivial | intros) | (refine lvE ?_;apply Cj.mk <;> first | exact trivial | intros) | fail)
 refine .inr (.inr (.inl ⟨{ tmps:=[(39,(rowG pgT).av),(1,.ref 0),(2,.ref 1),(3,.ref 2),(4,Ous [⟨plP 0 1 2 1,false⟩]),(5,I 0)],objs:=[(0,.pub (pgS.map St1)),(1,.pub (pgT.map St1)),(2,.arr 2 (pgP.map St1))],next:=3,size:=148,par:=[] },exitS [.obj 0,.obj 1,.obj 2] (by kernel_rfl) (by kernel_rfl) (by kernel_rfl) (lvL ?_) (lvL ?_),.inr (.inr ?_)⟩))
 ·apply Cj.mk <;> first | exact trivial | intros
 ·apply Cj.mk <;> first | exact trivial | intros
 conv=>whnf
 refine ⟨_,_,p1,lvN ?_⟩
 apply Cj.mk <;> first | exact trivial | intros
 repeat' (first | ((first | refine lvK ?_ | refine ⟨_,_,c2,lvN ?_⟩ | refine ⟨_,_,rS,lvN ?_⟩ | (refine .inl ?_;(conv=>whnf);first | refine ⟨_,_,c2,lvN ?_⟩ | refine ⟨_,_,rS,lvN ?_⟩) | (refine .inr (.inl ?_);(conv=>whnf);refine ⟨_,_,rS,lvN ?_⟩));apply Cj.mk <;> first | exact trivial | intros) | (refine lvE ?_;apply Cj.mk <;> first | exact trivial | intros) | fail)
 refine .inr (.inr (.inl ⟨{ tmps:=[(46,(rowG pgS).av),(1,.ref 0),(2,.ref 1),(3,.ref 2),(4,Ous [⟨plP 0 1 2 1,false⟩]),(5,I 0),(6,Ous [⟨plP 0 0 1 1,true⟩]),(7,I 0)],objs:=[(0,.pub (pgS.map St1)),(1,.pub (pgT.map St1)),(2,.arr 2 (pgP.map St1))],next:=3,size:=148,par:=[] },exitS [.obj 0,.obj 1,.obj 2] (by kernel_rfl) (by kernel_rfl) (by kernel_rfl) (lvL ?_) (lvL ?_),.inr (.inr ?_)⟩))
 ·apply Cj.mk <;> first | exact trivial | intros
 ·apply Cj.mk <;> first | exact trivial | intros
 conv=>whnf
 refine ⟨_,_,p2,lvN ?_⟩
 apply Cj.mk <;> first | exact trivial | intros
 repeat' (first | ((first | refine lvK ?_ | refine ⟨_,_,c3,lvN ?_⟩ | refine ⟨_,_,rP,lvN ?_⟩ | (refine .inl ?_;(conv=>whnf);first | refine ⟨_,_,c3,lvN ?_⟩ | refine ⟨_,_,rP,lvN ?_⟩) | (refine .inr (.inl ?_);(conv=>whnf);refine ⟨_,_,rP,lvN ?_⟩));apply Cj.mk <;> first | exact trivial | intros) | (refine lvE ?_;apply Cj.mk <;> first | exact trivial | intros) | fail)
 refine .inr (.inr (.inl ⟨{ tmps:=[(53,(rowG pgP).av),(1,.ref 0),(2,.ref 1),(3,.ref 2),(4,Ous [⟨plP 0 1 2 1,false⟩]),(5,I 0),(6,Ous [⟨plP 0 0 1 1,true⟩]),(7,I 0),(8,Ous [⟨plP 1 2 0 0,false⟩]),(9,I 0)],objs:=[(0,.pub (pgS.map St1)),(1,.pub (pgT.map St1)),(2,.pub (pgP.map St1))],next:=3,size:=148,par:=[] },exitS [.obj 0,.obj 1,.obj 2] (by kernel_rfl) (by kernel_rfl) (by kernel_rfl) (lvL ?_) (lvL ?_),.inr (.inr ?_)⟩))
 ·apply Cj.mk <;> first | exact trivial | intros
 ·apply Cj.mk <;> first | exact trivial | intros
 conv=>whnf
 refine ⟨_,_,p3,lvN ?_⟩
 apply Cj.mk <;> first | exact trivial | intros
 repeat' (first | ((first | refine lvK ?_ | refine ⟨_,_,c4,lvN ?_⟩ | refine ⟨_,_,rG,lvN ?_⟩ | (refine .inl ?_;(conv=>whnf);first | refine ⟨_,_,c4,lvN ?_⟩ | refine ⟨_,_,rG,lvN ?_⟩) | (refine .inr (.inl ?_);(conv=>whnf);refine ⟨_,_,rG,lvN ?_⟩));apply Cj.mk <;> first | exact trivial | intros) | (refine lvE ?_;apply Cj.mk <;> first | exact trivial | intros) | fail)
 refine .inr (.inr (.inl ⟨{ tmps:=[(61,(rowG pgG).av),(1,.ref 0),(2,.ref 1),(3,.ref 2),(4,Ous [⟨plP 0 1 2 1,false⟩]),(5,I 0),(6,Ous [⟨plP 0 0 1 1,true⟩]),(7,I 0),(8,Ous [⟨plP 1 2 0 0,false⟩]),(9,I 0),(10,Ous [⟨plP 0 1 1 1,false⟩]),(11,I 0)],objs:=[(0,.pub (pgS.map St1)),(1,.pub (pgT.map St1)),(2,.pub (pgP.map St1))],next:=3,size:=148,par:=[] },exitS [.obj 0,.obj 1,.obj 2] (by kernel_rfl) (by kernel_rfl) (by kernel_rfl) (lvL ?_) (lvL ?_),.inr (.inr ?_)⟩))
 ·apply Cj.mk <;> first | exact trivial | intros
 ·apply Cj.mk <;> first | exact trivial | intros
 conv=>whnf
 refine ⟨_,_,p3,lvN ?_⟩
 apply Cj.mk <;> first | exact trivial | intros
 repeat' (first | ((first | refine lvK ?_ | refine ⟨_,_,c5,lvN ?_⟩ | refine ⟨_,_,rS,lvN ?_⟩ | (refine .inl ?_;(conv=>whnf);first | refine ⟨_,_,c5,lvN ?_⟩ | refine ⟨_,_,rS,lvN ?_⟩) | (refine .inr (.inl ?_);(conv=>whnf);refine ⟨_,_,rS,lvN ?_⟩));apply Cj.mk <;> first | exact trivial | intros) | (refine lvE ?_;apply Cj.mk <;> first | exact trivial | intros) | fail)
 refine .inr (.inr (.inl ⟨{ tmps:=[(68,(rowG pgS).av),(1,.ref 0),(2,.ref 1),(3,.ref 2),(4,Ous [⟨plP 0 1 2 1,false⟩]),(5,I 0),(6,Ous [⟨plP 0 0 1 1,true⟩]),(7,I 0),(8,Ous [⟨plP 1 2 0 0,false⟩]),(9,I 0),(10,Ous [⟨plP 0 1 1 1,false⟩]),(11,I 0),(12,Ous []),(13,I 0)],objs:=[(0,.pub (pgS.map St1)),(1,.pub (pgT.map St1)),(2,.pub (pgP.map St1))],next:=3,size:=148,par:=[] },exitS [.obj 0,.obj 1,.obj 2] (by kernel_rfl) (by kernel_rfl) (by kernel_rfl) (lvL ?_) (lvL ?_),.inr (.inr ?_)⟩))
 ·apply Cj.mk <;> first | exact trivial | intros
 ·apply Cj.mk <;> first | exact trivial | intros
 conv=>whnf
 refine ⟨_,_,p1,lvN ?_⟩
 apply Cj.mk <;> first | exact trivial | intros
 repeat' (first | ((first | refine lvK ?_ | refine ⟨_,_,c6,lvN ?_⟩ | refine ⟨_,_,rS,lvN ?_⟩ | (refine .inl ?_;(conv=>whnf);first | refine ⟨_,_,c6,lvN ?_⟩ | refine ⟨_,_,rS,lvN ?_⟩) | (refine .inr (.inl ?_);(conv=>whnf);refine ⟨_,_,rS,lvN ?_⟩));apply Cj.mk <;> first | exact trivial | intros) | (refine lvE ?_;apply Cj.mk <;> first | exact trivial | intros) | fail)
 refine .inr (.inr (.inl ⟨{ tmps:=[(75,(rowG pgS).av),(1,.ref 0),(2,.ref 1),(3,.ref 2),(4,Ous [⟨plP 0 1 2 1,false⟩]),(5,I 0),(6,Ous [⟨plP 0 0 1 1,true⟩]),(7,I 0),(8,Ous [⟨plP 1 2 0 0,false⟩]),(9,I 0),(10,Ous [⟨plP 0 1 1 1,false⟩]),(11,I 0),(12,Ous []),(13,I 0),(14,Is [0,1,2]),(15,I 0)],objs:=[(0,.pub (pgS.map St1)),(1,.pub (pgT.map St1)),(2,.pub (pgP.map St1))],next:=3,size:=148,par:=[] },exitS [.obj 0,.obj 1,.obj 2] (by kernel_rfl) (by kernel_rfl) (by kernel_rfl) (lvL ?_) (lvL ?_),.inr (.inr ?_)⟩))
 ·apply Cj.mk <;> first | exact trivial | intros
 ·apply Cj.mk <;> first | exact trivial | intros
 conv=>whnf
 refine ⟨_,_,p1,lvN ?_⟩
 apply Cj.mk <;> first | exact trivial | intros
 repeat' (first | ((first | refine lvK ?_ | refine ⟨_,_,c7,lvN ?_⟩ | refine ⟨_,_,rS,lvN ?_⟩ | (refine .inl ?_;(conv=>whnf);first | refine ⟨_,_,c7,lvN ?_⟩ | refine ⟨_,_,rS,lvN ?_⟩) | (refine .inr (.inl ?_);(conv=>whnf);refine ⟨_,_,rS,lvN ?_⟩));apply Cj.mk <;> first | exact trivial | intros) | (refine lvE ?_;apply Cj.mk <;> first | exact trivial | intros) | fail)
 refine .inr (.inr (.inl ⟨{ tmps:=[(82,(rowG pgS).av),(1,.ref 0),(2,.ref 1),(3,.ref 2),(4,Ous [⟨plP 0 1 2 1,false⟩]),(5,I 0),(6,Ous [⟨plP 0 0 1 1,true⟩]),(7,I 0),(8,Ous [⟨plP 1 2 0 0,false⟩]),(9,I 0),(10,Ous [⟨plP 0 1 1 1,false⟩]),(11,I 0),(12,Ous []),(13,I 0),(14,Is [0,1,2]),(15,I 0),(16,.sl []),(17,I 50)],objs:=[(0,.pub (pgS.map St1)),(1,.pub (pgT.map St1)),(2,.pub (pgP.map St1))],next:=3,size:=148,par:=[] },exitS [.obj 0,.obj 1,.obj 2] (by kernel_rfl) (by kernel_rfl) (by kernel_rfl) (lvL ?_) (lvL ?_),.inr (.inr ?_)⟩))
 ·apply Cj.mk <;> first | exact trivial | intros
 ·apply Cj.mk <;> first | exact trivial | intros
 conv=>whnf
 refine ⟨_,_,p4,lvN ?_⟩
 apply Cj.mk <;> first | exact trivial | intros
 repeat' (first | ((first | refine lvK ?_ | refine ⟨_,_,c8,lvN ?_⟩ | (refine .inl ?_;(conv=>whnf);first | refine ⟨_,_,c8,lvN ?_⟩));apply Cj.mk <;> first | exact trivial | intros) | (refine lvE ?_;apply Cj.mk <;> first | exact trivial | intros) | fail)
 refine .inr (.inr (.inl ⟨{ tmps:=[(118,Bo true),(119,Ous [⟨plP 0 1 2 1,false⟩]),(6,Ous [⟨plP 0 0 1 1,true⟩]),(8,Ous [⟨plP 1 2 0 0,false⟩]),(10,Ous [⟨plP 0 1 1 1,false⟩]),(12,Ous []),(14,Is [0,1,2])],objs:=[],next:=0,size:=148,par:=[] },exitS [] (by kernel_rfl) (by kernel_rfl) (by kernel_rfl) (lvL ?_) (lvL ?_),.inr (.inr ?_)⟩))
 ·apply Cj.mk <;> first | exact trivial | intros
 ·apply Cj.mk <;> first | exact trivial | intros
 conv=>whnf
 refine ⟨_,_,q1,lvN ?_⟩
 apply Cj.mk <;> first | exact trivial | intros
 repeat' (first | ((first | refine lvK ?_ | refine ⟨_,_,o1,lvN ?_⟩ | refine ⟨_,_,q2,lvN ?_⟩ | refine ⟨_,_,o2,lvN ?_⟩ | refine ⟨_,_,q3,lvN ?_⟩ | refine ⟨_,_,o3,lvN ?_⟩ | refine ⟨_,_,q4,lvN ?_⟩ | refine ⟨_,_,o4,lvN ?_⟩ | refine ⟨_,_,hi,lvN ?_⟩ | (refine .inl ?_;(conv=>whnf);first | refine ⟨_,_,o1,lvN ?_⟩ | refine ⟨_,_,q2,lvN ?_⟩ | refine ⟨_,_,o2,lvN ?_⟩ | refine ⟨_,_,q3,lvN ?_⟩ | refine ⟨_,_,o3,lvN ?_⟩ | refine ⟨_,_,q4,lvN ?_⟩ | refine ⟨_,_,o4,lvN ?_⟩ | refine ⟨_,_,hi,lvN ?_⟩) | (refine .inr (.inl ?_);(conv=>whnf);refine ⟨_,_,hi,lvN ?_⟩));apply Cj.mk <;> first | exact trivial | intros) | (refine lvE ?_;apply Cj.mk <;> first | exact trivial | intros) | fail)
def Ch3 (t:Int × Int × Bool):AV:=.ag [I t.1,I t.2.1,Bo t.2.2]
theorem apX {xs ys zs:List AV} {n b:Nat} {K:List AV→Prop} (hb:b≤4096) (hl:xs.length+ys.length≤34359738368) (hy:∀ e,e∈ys→(cellsA e).length=n) (hz:xs++ys=zs) (k:K zs) :
  (∀ e,e∈ys→(cellsA e).length=n)∧(xs.length+ys.length) * b≤140737488355328∧xs.length+ys.length≤4611686018427387904∧CalcL (xs++ys) K :=
 ⟨hy,by
  calc (xs.length+ys.length) * b≤34359738368 * 4096:=Nat.mul_le_mul hl hb
   _≤_:=by decide,by omega,.mk _ hz k⟩
theorem chs_len {g:Gm} (hg:g.ok) {p:Ps} (h:p.ok g):(g.chs p).length≤72:=by
 have hc:=hg.b.c1
 have c9:=hg.c9
 obtain ⟨n,hn⟩:=Int.eq_ofNat_of_zero_le (show 0≤g.b.cells by omega)
 have:=chN_len hg h n (by omega)
 unfold Gm.chs
 rw [hn]
 omega
theorem readsR_len (g:Gm) (hg:g.ok) (p:Ps) (cell i:Int):(g.readsR p cell i).length≤9:=by
 have h:=seenI_len g.b.cells (g.readsL p cell i)
 have c9:=hg.c9
 unfold Gm.readsR
 omega
set_option maxHeartbeats 8000000 in
set_option maxRecDepth 10000 in
theorem RunMatches_p (x:R6) (hx:x.ok) (cell i:Int):Pure Tryz.prog 9 [.ag x.cs,I cell,I i] (Bo true) none:=by
 have hmade:=Made6_p x hx
 have hg:=R6.gm_ok hx
 have hp:=R6.ps_ok hx
 have hup:=sanity5_p
 have hs:=hx.p x.p.s (by simp [R4.l])
 obtain ⟨xg,xp,picks⟩:=x
 have hs0:0≤xp.s:=hs.1
 have hs1:xp.s≤255:=hs.2
 generalize (⟨xg,xp,picks⟩:R6).gm=g at *
 generalize (⟨xg,xp,picks⟩:R6).ps=p at *
 have hch:=Choices_p g hg p hp
 have hcl:=chs_len hg hp
 have hlen:=hp.len
 have c9:=hg.c9
 have hd1:=PDrops_p g hg p hp
 have hd2:=Drops_p g hg p hp
 have hdl:=dropsL_len hg p
 have hcan:=canon_len (c:=cmpP) (g.dropsL p)
 have hds:∀ o,o∈canon cmpP (g.dropsL p)→o.small:=fun o ho=>(dropsL_ok hg hp ((mem_canon cmpP_tot).1 ho)).small hg
 have hsp:=SamePos_p (canon cmpP (g.dropsL p)) (canon cmpP (g.dropsL p)) (by omega) hds hds
 rw [decide_eq_true rfl] at hsp
 obtain ⟨L,hL⟩:∃ L:List (Int × Int × Bool),L=(g.chs p).map (fun c=>(c.1,c.2,true))++[(cell,i,false),(xp.s,i,false)]:=⟨_,rfl⟩
 have hLl:L.length=(g.chs p).length+2:=by rw [hL];simp
 have eL:(L.map Ch3).length=L.length:=List.length_map _
 have hLm:(g.chs p).map Ch++[.ag [I cell,I i,Bo false],.ag [I xp.s,I i,Bo false]]=L.map Ch3:=by
  rw [hL,List.map_append,List.map_map];rfl
 refine fun_of tok D_ok Tryz.func9 rfl Tryz.ntmps9 Tryz.results9 (by kernel_rfl) (by simp) (by simp) ?_
 conv=>whnf
 have eC:((g.chs p).map Ch).length=(g.chs p).length:=List.length_map _
 repeat' (first | ((first | refine lvK ?_ | refine ⟨_,_,hup,lvN ?_⟩ | refine ⟨_,_,hmade,lvN ?_⟩ | refine ⟨_,_,hch,lvN ?_⟩ | (refine .inl ?_;(conv=>whnf);first | refine ⟨_,_,hup,lvN ?_⟩ | refine ⟨_,_,hmade,lvN ?_⟩ | refine ⟨_,_,hch,lvN ?_⟩) | (refine apX (by decide) (by show ((g.chs p).map Ch).length+2≤_;omega) (by intro e he;simp only [List.mem_cons,List.not_mem_nil,or_false] at he;rcases he with rfl | rfl <;> rfl) hLm (lvN ?_)));apply Cj.mk <;> first | exact trivial | intros) | (refine lvE ?_;apply Cj.mk <;> first | exact trivial | intros) | fail)
 refine .of (fun k=>[(11,I k),(10,.ref 16)]) (fun k=>[(16,.arr 3 (L.map Ch3))]) 17 (fun k=>0≤k∧k≤L.length) (fun k=>(L.length - k).toNat) 0 ?_
 conv=>whnf
 refine ⟨⟨[],hdA (lvL ?_) (lvL ?_)⟩,?_,fun k ⟨k0,k1⟩=>lvN ?_⟩ <;> (try (apply Cj.mk <;> first | exact trivial | intros))
 ·exact ⟨by omega,by omega⟩
 by_cases hk:k < L.length
 ·by_cases hcr:CanRun g p (nth L k).1 (nth L k).2.1
  ·have q1:=PRuns_p g hg p _ _ hcr
   have q2:=Runs_p g hg p _ _ hcr
   have q3:=PReads_p g hg p _ _ hcr
   have q4:=RReads_p g hg p _ _ hcr
   have hrl:=runsR_len hg hcr
   have hrs:∀ o,o∈g.runsR p (nth L k).1 (nth L k).2.1→o.p.small:=fun o ho=>(runsR_ok hg hcr ho).small hg
   have q5:=SameOut_p _ _ (by omega) hrs hrs
   rw [decide_eq_true rfl] at q5
   have hrr:=readsR_len g hg p (nth L k).1 (nth L k).2.1
   have q6:=Ints5_p (g.readsR p (nth L k).1 (nth L k).2.1) (g.readsR p (nth L k).1 (nth L k).2.1) (by omega)
   rw [decide_eq_true rfl] at q6
   repeat' (first | ((first | refine lvK ?_ | refine ⟨_,_,q1,lvN ?_⟩ | refine ⟨_,_,q2,lvN ?_⟩ | refine ⟨_,_,q3,lvN ?_⟩ | refine ⟨_,_,q4,lvN ?_⟩ | refine ⟨_,_,q5,lvN ?_⟩ | refine ⟨_,_,q6,lvN ?_⟩ | (refine .inl ?_;(conv=>whnf);first | refine ⟨_,_,q1,lvN ?_⟩ | refine ⟨_,_,q2,lvN ?_⟩ | refine ⟨_,_,q3,lvN ?_⟩ | refine ⟨_,_,q4,lvN ?_⟩ | refine ⟨_,_,q5,lvN ?_⟩ | refine ⟨_,_,q6,lvN ?_⟩));apply Cj.mk <;> first | exact trivial | intros) | (refine lvE ?_;apply Cj.mk <;> first | exact trivial | intros) | fail)
   refine ⟨k+1,⟨[],hdA (lvL ?_) (lvL ?_)⟩,?_,by (try dsimp only);omega,rfl⟩ <;> (try (apply Cj.mk <;> first | exact trivial | intros))
   ·exact ⟨by omega,by omega⟩
  ·have q1:=PRuns_err g hg p (by omega) _ _ hcr
   have q2:=RRuns_err g hg p hp _ _ hcr
   have q3:=PReads_err g hg p (by omega) _ _ hcr
   have q4:=RReads_err g hg p hp _ _ hcr
   rw [show g.errR p=50 from if_pos hp] at q1 q3
   have q5:=SameOut_p [] [] (by simp) (by simp) (by simp)
   rw [decide_eq_true rfl] at q5
   have q6:=Ints5_p [] [] (by simp)
   rw [decide_eq_true rfl] at q6
   repeat' (first | ((first | refine lvK ?_ | refine ⟨_,_,q1,lvN ?_⟩ | refine ⟨_,_,q2,lvN ?_⟩ | refine ⟨_,_,q3,lvN ?_⟩ | refine ⟨_,_,q4,lvN ?_⟩ | refine ⟨_,_,q5,lvN ?_⟩ | refine ⟨_,_,q6,lvN ?_⟩ | (refine .inl ?_;(conv=>whnf);first | refine ⟨_,_,q1,lvN ?_⟩ | refine ⟨_,_,q2,lvN ?_⟩ | refine ⟨_,_,q3,lvN ?_⟩ | refine ⟨_,_,q4,lvN ?_⟩ | refine ⟨_,_,q5,lvN ?_⟩ | refine ⟨_,_,q6,lvN ?_⟩));apply Cj.mk <;> first | exact trivial | intros) | (refine lvE ?_;apply Cj.mk <;> first | exact trivial | intros) | fail)
   refine ⟨k+1,⟨[],hdA (lvL ?_) (lvL ?_)⟩,?_,by (try dsimp only);omega,rfl⟩ <;> (try (apply Cj.mk <;> first | exact trivial | intros))
   ·exact ⟨by omega,by omega⟩
 ·repeat' (first
   | (refine lvK ?_;apply Cj.mk <;> first | exact trivial | intros)
   | (refine ⟨_,_,hd1,lvN ?_⟩;apply Cj.mk <;> first | exact trivial | intros)
   | (refine .inl ?_;(conv=>whnf);refine ⟨_,_,hd1,lvN ?_⟩;apply Cj.mk <;> first | exact trivial | intros)
   | (refine ⟨_,_,hd2,lvN ?_⟩;apply Cj.mk <;> first | exact trivial | intros)
   | (refine .inl ?_;(conv=>whnf);refine ⟨_,_,hd2,lvN ?_⟩;apply Cj.mk <;> first | exact trivial | intros)
   | (refine ⟨_,_,hsp,lvN ?_⟩;apply Cj.mk <;> first | exact trivial | intros)
   | (refine .inl ?_;(conv=>whnf);refine ⟨_,_,hsp,lvN ?_⟩;apply Cj.mk <;> first | exact trivial | intros)
   | (refine lvE ?_;apply Cj.mk <;> first | exact trivial | intros)
   | fail)
end Go.Proofs.YthgobfncgnjimaaGreatDoor
