/- Contracts of functions of the program, proved by the checker; and plain laws. -/
import Derived.Test.YthgobfncgnjimaaGreatDoorZ21
import Derived.Test.YthgobfncgnjimaaGreatDoorZ09
import Derived.Test.YthgobfncgnjimaaGreatDoorZ15
import Derived.Test.YthgobfncgnjimaaGreatDoorZ16
import Derived.Test.YthgobfncgnjimaaGreatDoorZ18
set_option linter.unusedVariables false
set_option linter.unusedSimpArgs false
namespace Go.Proofs.YthgobfncgnjimaaGreatDoor
open Go Go.Sk
theorem plP_small (a b c s:Int):(plP a b c s).small:=⟨by show 3≤_;decide,by show 1≤_;decide,by show 1≤_;decide⟩
set_option maxHeartbeats 16000000 in
set_option maxRecDepth 10000 in
theorem sanity5_p:Pure Tryz.prog 11 [] (Bo true) none:=by
 have rS:=row_p pgS
 have rT:=row_p pgT
 have rP:=row_p pgP
 have rG:=row_p pgG
 have p1:=place_p 1 0 2 0
 have p2:=place_p 1 0 2 1
 have p3:=place_p 1 1 0 0
 have p4:=place_p 9 0 2 0
 have q1:=place_p 0 1 2 1
 have q2:=place_p 0 0 1 1
 have q3:=place_p 1 2 0 0
 have q4:=place_p 0 1 1 1
 have c1:=PRuns_p (rowG pgS) gS_ok (plP 1 0 2 0) 0 0 (run_of (by decide +kernel) (by decide) (by decide) (by decide) (by decide) (by decide))
 rw [ex1] at c1
 have c2:=PRuns_p (rowG pgT) gT_ok (plP 1 0 2 0) 0 0 (run_of (by decide +kernel) (by decide) (by decide) (by decide) (by decide) (by decide))
 rw [ex2] at c2
 have c3:=PRuns_p (rowG pgS) gS_ok (plP 1 0 2 1) 2 0 (run_of (by decide +kernel) (by decide) (by decide) (by decide) (by decide) (by decide))
 rw [ex3] at c3
 have c4:=PRuns_p (rowG pgP) gP_ok (plP 1 1 0 0) 0 0 (run_of (by decide +kernel) (by decide) (by decide) (by decide) (by decide) (by decide))
 rw [ex4] at c4
 have c5:=PRuns_p (rowG pgG) gG_ok (plP 1 1 0 0) 0 0 (run_of (by decide +kernel) (by decide) (by decide) (by decide) (by decide) (by decide))
 rw [ex5] at c5
 have c6:=PReads_p (rowG pgS) gS_ok (plP 1 0 2 0) 0 0 (run_of (by decide +kernel) (by decide) (by decide) (by decide) (by decide) (by decide))
 rw [ex6] at c6
 have c7:=PRuns_err (rowG pgS) gS_ok (plP 1 0 2 0) (by show 3≤_;decide) 2 0 (fun h=>absurd h.sd (by decide))
 rw [show (rowG pgS).errR (plP 1 0 2 0)=50 from if_pos (by decide +kernel)] at c7
 have c8:=PRuns_err (rowG pgS) gS_ok (plP 9 0 2 0) (by show 3≤_;decide) 0 0 (fun h=>absurd h.ok (by decide +kernel))
 rw [show (rowG pgS).errR (plP 9 0 2 0)=40 from if_neg (by decide +kernel)] at c8
 have o1:=one_p (plP 0 1 2 1) (plP_small ..) false
 have o2:=one_p (plP 0 0 1 1) (plP_small ..) true
 have o3:=one_p (plP 1 2 0 0) (plP_small ..) false
 have o4:=one_p (plP 0 1 1 1) (plP_small ..) false
 have hi:=Ints5_p [0,1,2] [0,1,2] (by decide)
 rw [decide_eq_true rfl] at hi
 refine fun_of tok D_ok Tryz.func11 rfl Tryz.ntmps11 Tryz.results11 (by kernel_rfl) (by simp) (by simp) ?_
 conv=>whnf
 repeat' (first | ((first | refine lvK ?_ | refine ⟨_,_,rS,lvN ?_⟩ | (refine .inl ?_;(conv=>whnf);first | refine ⟨_,_,rS,lvN ?_⟩) | (refine .inr (.inl ?_);(conv=>whnf);refine ⟨_,_,rS,lvN ?_⟩));apply Cj.mk <;> first | exact trivial | intros) | (refine lvE ?_;apply Cj.mk <;> first | exact trivial | intros) | fail)
 refine .inr (.inr (.inl ⟨{ tmps:=[(32,(rowG pgS).av),(1,.ref 0),(2,.ref 1),(3,.ref 2)],objs:=[(0,.pub (pgS.map St1)),(1,.arr 2 (pgT.map St1)),(2,.arr 2 (pgP.map St1))],next:=3,size:=148,par:=[] },exitS [.obj 0,.obj 1,.obj 2] (by kernel_rfl) (by kernel_rfl) (by kernel_rfl) (lvL ?_) (lvL ?_),.inr (.inr ?_)⟩))
 ·apply Cj.mk <;> first | exact trivial | intros
 ·apply Cj.mk <;> first | exact trivial | intros
 conv=>whnf
 refine ⟨_,_,p1,lvN ?_⟩
 apply Cj.mk <;> first | exact trivial | intros
 repeat' (first | ((first | refine lvK ?_ | refine ⟨_,_,c1,lvN ?_⟩ | refine ⟨_,_,rT,lvN ?_⟩ | (refine .inl ?_;(conv=>whnf);first | refine ⟨_,_,c1,lvN ?_⟩ | refine ⟨_,_,rT,lvN ?_⟩) | (refine .inr (.inl ?_);(conv=>whnf);refine ⟨_,_,rT,lvN ?_⟩));apply Cj.mk <;> first | exact trivial | intros) | (refine lvE ?_;apply Cj.mk <;> first | exact trivial | intros) | fail)
 refine .inr (.inr (.inl ⟨{ tmps:=[(39,(rowG pgT).av),(1,.ref 0),(2,.ref 1),(3,.ref 2),(4,Ous [⟨plP 0 1 2 1,false⟩]),(5,I 0)],objs:=[(0,.pub (pgS.map St1)),(1,.pub (pgT.map St1)),(2,.arr 2 (pgP.map St1))],next:=3,size:=148,par:=[] },exitS [.obj 0,.obj 1,.obj 2] (by kernel_rfl) (by kernel_rfl) (by kernel_rfl) (lvL ?_) (lvL ?_),.inr (.inr ?_)⟩))
 ·apply Cj.mk <;> first | exact trivial | intros
 ·apply Cj.mk <;> first | exact trivial | intros
 conv=>whnf
 refine ⟨_,_,p1,lvN ?_⟩
 apply Cj.mk <;> first | exact trivial | intros
 repeat' (first | ((first | refine lvK ?_ | refine ⟨_,_,c2,lvN ?_⟩ | refine ⟨_,_,rS,lvN ?_⟩ | (refine .inl ?_;(conv=>whnf);first | refine ⟨_,_,c2,lvN ?_⟩ | refine ⟨_,_,rS,lvN ?_⟩) | (refine .inr (.inl ?_);(conv=>whnf);refine ⟨_,_,rS,lvN ?_⟩));apply Cj.mk <;> first | exact trivial | intros) | (refine lvE ?_;apply Cj.mk <;> first | exact trivial | intros) | fail)
 refine .inr (.inr (.inl ⟨{ tmps:=[(46,(rowG pgS).av),(1,.ref 0),(2,.ref 1),(3,.ref 2),(4,Ous [⟨plP 0 1 2 1,false⟩]),(5,I 0),(6,Ous [⟨plP 0 0 1 1,true⟩]),(7,I 0)],objs:=[(0,.pub (pgS.map St1)),(1,.pub (pgT.map St1)),(2,.arr 2 (pgP.map St1))],next:=3,size:=148,par:=[] },exitS [.obj 0,.obj 1,.obj 2] (by kernel_rfl) (by kernel_rfl) (by kernel_rfl) (lvL ?_) (lvL ?_),.inr (.inr ?_)⟩))
 ·apply Cj.mk <;> first | exact trivial | intros
 ·apply Cj.mk <;> first | exact trivial | intros
 conv=>whnf
 refine ⟨_,_,p2,lvN ?_⟩
 apply Cj.mk <;> first | exact trivial | intros
 repeat' (first | ((first | refine lvK ?_ | refine ⟨_,_,c3,lvN ?_⟩ | refine ⟨_,_,rP,lvN ?_⟩ | (refine .inl ?_;(conv=>whnf);first | refine ⟨_,_,c3,lvN ?_⟩ | refine ⟨_,_,rP,lvN ?_⟩) | (refine .inr (.inl ?_);(conv=>whnf);refine ⟨_,_,rP,lvN ?_⟩));apply Cj.mk <;> first | exact trivial | intros) | (refine lvE ?_;apply Cj.mk <;> first | exact trivial | intros) | fail)
 refine .inr (.inr (.inl ⟨{ tmps:=[(53,(rowG pgP).av),(1,.ref 0),(2,.ref 1),(3,.ref 2),(4,Ous [⟨plP 0 1 2 1,false⟩]),(5,I 0),(6,Ous [⟨plP 0 0 1 1,true⟩]),(7,I 0),(8,Ous [⟨plP 1 2 0 0,false⟩]),(9,I 0)],objs:=[(0,.pub (pgS.map St1)),(1,.pub (pgT.map St1)),(2,.pub (pgP.map St1))],next:=3,size:=148,par:=[] },exitS [.obj 0,.obj 1,.obj 2] (by kernel_rfl) (by kernel_rfl) (by kernel_rfl) (lvL ?_) (lvL ?_),.inr (.inr ?_)⟩))
 ·apply Cj.mk <;> first | exact trivial | intros
 ·apply Cj.mk <;> first | exact trivial | intros
 conv=>whnf
 refine ⟨_,_,p3,lvN ?_⟩
 apply Cj.mk <;> first | exact trivial | intros
 repeat' (first | ((first | refine lvK ?_ | refine ⟨_,_,c4,lvN ?_⟩ | refine ⟨_,_,rG,lvN ?_⟩ | (refine .inl ?_;(conv=>whnf);first | refine ⟨_,_,c4,lvN ?_⟩ | refine ⟨_,_,rG,lvN ?_⟩) | (refine .inr (.inl ?_);(conv=>whnf);refine ⟨_,_,rG,lvN ?_⟩));apply Cj.mk <;> first | exact trivial | intros) | (refine lvE ?_;apply Cj.mk <;> first | exact trivial | intros) | fail)
 refine .inr (.inr (.inl ⟨{ tmps:=[(61,(rowG pgG).av),(1,.ref 0),(2,.ref 1),(3,.ref 2),(4,Ous [⟨plP 0 1 2 1,false⟩]),(5,I 0),(6,Ous [⟨plP 0 0 1 1,true⟩]),(7,I 0),(8,Ous [⟨plP 1 2 0 0,false⟩]),(9,I 0),(10,Ous [⟨plP 0 1 1 1,false⟩]),(11,I 0)],objs:=[(0,.pub (pgS.map St1)),(1,.pub (pgT.map St1)),(2,.pub (pgP.map St1))],next:=3,size:=148,par:=[] },exitS [.obj 0,.obj 1,.obj 2] (by kernel_rfl) (by kernel_rfl) (by kernel_rfl) (lvL ?_) (lvL ?_),.inr (.inr ?_)⟩))
 ·apply Cj.mk <;> first | exact trivial | intros
 ·apply Cj.mk <;> first | exact trivial | intros
 conv=>whnf
 refine ⟨_,_,p3,lvN ?_⟩
 apply Cj.mk <;> first | exact trivial | intros
 repeat' (first | ((first | refine lvK ?_ | refine ⟨_,_,c5,lvN ?_⟩ | refine ⟨_,_,rS,lvN ?_⟩ | (refine .inl ?_;(conv=>whnf);first | refine ⟨_,_,c5,lvN ?_⟩ | refine ⟨_,_,rS,lvN ?_⟩) | (refine .inr (.inl ?_);(conv=>whnf);refine ⟨_,_,rS,lvN ?_⟩));apply Cj.mk <;> first | exact trivial | intros) | (refine lvE ?_;apply Cj.mk <;> first | exact trivial | intros) | fail)
 refine .inr (.inr (.inl ⟨{ tmps:=[(68,(rowG pgS).av),(1,.ref 0),(2,.ref 1),(3,.ref 2),(4,Ous [⟨plP 0 1 2 1,false⟩]),(5,I 0),(6,Ous [⟨plP 0 0 1 1,true⟩]),(7,I 0),(8,Ous [⟨plP 1 2 0 0,false⟩]),(9,I 0),(10,Ous [⟨plP 0 1 1 1,false⟩]),(11,I 0),(12,Ous []),(13,I 0)],objs:=[(0,.pub (pgS.map St1)),(1,.pub (pgT.map St1)),(2,.pub (pgP.map St1))],next:=3,size:=148,par:=[] },exitS [.obj 0,.obj 1,.obj 2] (by kernel_rfl) (by kernel_rfl) (by kernel_rfl) (lvL ?_) (lvL ?_),.inr (.inr ?_)⟩))
 ·apply Cj.mk <;> first | exact trivial | intros
 ·apply Cj.mk <;> first | exact trivial | intros
 conv=>whnf
 refine ⟨_,_,p1,lvN ?_⟩
 apply Cj.mk <;> first | exact trivial | intros
 repeat' (first | ((first | refine lvK ?_ | refine ⟨_,_,c6,lvN ?_⟩ | refine ⟨_,_,rS,lvN ?_⟩ | (refine .inl ?_;(conv=>whnf);first | refine ⟨_,_,c6,lvN ?_⟩ | refine ⟨_,_,rS,lvN ?_⟩) | (refine .inr (.inl ?_);(conv=>whnf);refine ⟨_,_,rS,lvN ?_⟩));apply Cj.mk <;> first | exact trivial | intros) | (refine lvE ?_;apply Cj.mk <;> first | exact trivial | intros) | fail)
 refine .inr (.inr (.inl ⟨{ tmps:=[(75,(rowG pgS).av),(1,.ref 0),(2,.ref 1),(3,.ref 2),(4,Ous [⟨plP 0 1 2 1,false⟩]),(5,I 0),(6,Ous [⟨plP 0 0 1 1,true⟩]),(7,I 0),(8,Ous [⟨plP 1 2 0 0,false⟩]),(9,I 0),(10,Ous [⟨plP 0 1 1 1,false⟩]),(11,I 0),(12,Ous []),(13,I 0),(14,Is [0,1,2]),(15,I 0)],objs:=[(0,.pub (pgS.map St1)),(1,.pub (pgT.map St1)),(2,.pub (pgP.map St1))],next:=3,size:=148,par:=[] },exitS [.obj 0,.obj 1,.obj 2] (by kernel_rfl) (by kernel_rfl) (by kernel_rfl) (lvL ?_) (lvL ?_),.inr (.inr ?_)⟩))
 ·apply Cj.mk <;> first | exact trivial | intros
 ·apply Cj.mk <;> first | exact trivial | intros
 conv=>whnf
 refine ⟨_,_,p1,lvN ?_⟩
 apply Cj.mk <;> first | exact trivial | intros
 repeat' (first | ((first | refine lvK ?_ | refine ⟨_,_,c7,lvN ?_⟩ | refine ⟨_,_,rS,lvN ?_⟩ | (refine .inl ?_;(conv=>whnf);first | refine ⟨_,_,c7,lvN ?_⟩ | refine ⟨_,_,rS,lvN ?_⟩) | (refine .inr (.inl ?_);(conv=>whnf);refine ⟨_,_,rS,lvN ?_⟩));apply Cj.mk <;> first | exact trivial | intros) | (refine lvE ?_;apply Cj.mk <;> first | exact trivial | intros) | fail)
 refine .inr (.inr (.inl ⟨{ tmps:=[(82,(rowG pgS).av),(1,.ref 0),(2,.ref 1),(3,.ref 2),(4,Ous [⟨plP 0 1 2 1,false⟩]),(5,I 0),(6,Ous [⟨plP 0 0 1 1,true⟩]),(7,I 0),(8,Ous [⟨plP 1 2 0 0,false⟩]),(9,I 0),(10,Ous [⟨plP 0 1 1 1,false⟩]),(11,I 0),(12,Ous []),(13,I 0),(14,Is [0,1,2]),(15,I 0),(16,.sl []),(17,I 50)],objs:=[(0,.pub (pgS.map St1)),(1,.pub (pgT.map St1)),(2,.pub (pgP.map St1))],next:=3,size:=148,par:=[] },exitS [.obj 0,.obj 1,.obj 2] (by kernel_rfl) (by kernel_rfl) (by kernel_rfl) (lvL ?_) (lvL ?_),.inr (.inr ?_)⟩))
 ·apply Cj.mk <;> first | exact trivial | intros
 ·apply Cj.mk <;> first | exact trivial | intros
 conv=>whnf
 refine ⟨_,_,p4,lvN ?_⟩
 apply Cj.mk <;> first | exact trivial | intros
 repeat' (first | ((first | refine lvK ?_ | refine ⟨_,_,c8,lvN ?_⟩ | (refine .inl ?_;(conv=>whnf);first | refine ⟨_,_,c8,lvN ?_⟩));apply Cj.mk <;> first | exact trivial | intros) | (refine lvE ?_;apply Cj.mk <;> first | exact trivial | intros) | fail)
 refine .inr (.inr (.inl ⟨{ tmps:=[(118,Bo true),(119,Ous [⟨plP 0 1 2 1,false⟩]),(6,Ous [⟨plP 0 0 1 1,true⟩]),(8,Ous [⟨plP 1 2 0 0,false⟩]),(10,Ous [⟨plP 0 1 1 1,false⟩]),(12,Ous []),(14,Is [0,1,2])],objs:=[],next:=0,size:=148,par:=[] },exitS [] (by kernel_rfl) (by kernel_rfl) (by kernel_rfl) (lvL ?_) (lvL ?_),.inr (.inr ?_)⟩))
 ·apply Cj.mk <;> first | exact trivial | intros
 ·apply Cj.mk <;> first | exact trivial | intros
 conv=>whnf
 refine ⟨_,_,q1,lvN ?_⟩
 apply Cj.mk <;> first | exact trivial | intros
 repeat' (first | ((first | refine lvK ?_ | refine ⟨_,_,o1,lvN ?_⟩ | refine ⟨_,_,q2,lvN ?_⟩ | refine ⟨_,_,o2,lvN ?_⟩ | refine ⟨_,_,q3,lvN ?_⟩ | refine ⟨_,_,o3,lvN ?_⟩ | refine ⟨_,_,q4,lvN ?_⟩ | refine ⟨_,_,o4,lvN ?_⟩ | refine ⟨_,_,hi,lvN ?_⟩ | (refine .inl ?_;(conv=>whnf);first | refine ⟨_,_,o1,lvN ?_⟩ | refine ⟨_,_,q2,lvN ?_⟩ | refine ⟨_,_,o2,lvN ?_⟩ | refine ⟨_,_,q3,lvN ?_⟩ | refine ⟨_,_,o3,lvN ?_⟩ | refine ⟨_,_,q4,lvN ?_⟩ | refine ⟨_,_,o4,lvN ?_⟩ | refine ⟨_,_,hi,lvN ?_⟩) | (refine .inr (.inl ?_);(conv=>whnf);refine ⟨_,_,hi,lvN ?_⟩));apply Cj.mk <;> first | exact trivial | intros) | (refine lvE ?_;apply Cj.mk <;> first | exact trivial | intros) | fail)
def Ch3 (t:Int × Int × Bool):AV:=.ag [I t.1,I t.2.1,Bo t.2.2]
end Go.Proofs.YthgobfncgnjimaaGreatDoor
