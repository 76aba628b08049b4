/- Contracts of functions of the program, proved by the checker; and plain laws. -/
import Derived.Test.YtejljpjdifblpaaZ21
set_option linter.unusedVariables false
set_option linter.unusedSimpArgs false
namespace Go.Proofs.Ytejljpjdifblpaa
open Go Go.Sk
structure Grow (T:Int→List Int) (u:Int→Int) (n:Int) (L:List Int):Prop where
 z:T 0=[]
 l:∀ k:Int,(T k).length=k.toNat
 s:∀ k:Int,0≤k→T (k+1)=T k++[u k]
 e:L=T n
theorem grow (u:Int→Int) (n:Int):∃ T,Grow T u n ((ints n).map u) :=
 ⟨fun k=>(ints k).map u,rfl,fun k=>by rw [List.length_map,ints_len],fun k k0=>by show (ints (k+1)).map u=_;rw [ints_succ k0,List.map_append];rfl,rfl⟩
set_option maxHeartbeats 4000000 in
set_option maxRecDepth 10000 in
theorem mtake_p (g:Gm) (hg:g.ok) (x:Iv) (hx:x.ok g) (last:List Int) (side now:Int) (hs:side=0∨side=1) (a:Ac) (a0:0≤a.a) (a1:a.a < g.b.cells) :
  Fun Try.prog 69 [.box (mvC g x side now (.ref 1)),.arr 1 (last.map I)] [.ptr 0 0,Aa a] (Is (x.takeL g side a.a)) [.box (mvC g x side now (.ref 1)),.arr 1 (last.map I)]:=by
 have k6:=hg.k6
 have en:(g.kinds.map Kn).length=g.kinds.length:=List.length_map _
 have hnk:g.nk=g.kinds.length:=rfl
 have hl:=fun n h=>lift1_p g x last side now n a.a h
 have e2:(x.h0.map I).length=x.h0.length:=List.length_map _
 have e3:(x.h1.map I).length=x.h1.length:=List.length_map _
 have l0:=hx.l0
 have l1:=hx.l1
 have m3:=hx.m3
 unfold Iv.takeL
 obtain ⟨T,hT⟩:=grow (fun k=>x.lift (code k (1 - side)) a.a+(if g.keep k then nth (x.hd side) k else 0)) g.nk
 rw [hT.e]
 unfold mvC at hl ⊢
 rcases hs with rfl | rfl
 ·refine fun_of tok D_ok Try.func69 rfl Try.ntmps69 Try.results69 (by kernel_rfl) (by simp) (by simp) ?_
  conv=>whnf
  repeat' ((first
   | refine lvK ?_
   | refine lvE ?_
   | fail) <;> try (apply Cj.mk <;> first | exact trivial | intros))
  refine .of (fun k=>[(15,I k),(5,.ref 3)]) (fun k=>[(3,.arr 1 ((T k).map I))]) 4 (fun k=>0≤k∧k≤g.nk) (fun k=>(g.nk - k).toNat) 0 ?_
  conv=>whnf
  refine ⟨⟨[],hdA (lvL ?_) (lvL ?_)⟩,?_,fun k ⟨k0,k1⟩=>lvN ?_⟩ <;> (try (apply Cj.mk <;> first | exact trivial | intros))
  ·rw [hT.z];rfl
  ·exact ⟨by omega,by omega⟩
  by_cases hk:k < g.nk
  ·have hr:=hx.mvR hg (n:=code k (1 - 0)) (c:=a.a) (by unfold code;omega) (by unfold code;omega) a0 a1
   have hc:=ICode_p k (1 - 0)
   have hl:=hl _ hr
   have hsu:=hT.s k k0
   have htl:=hT.l k
   have hv:-1000 < x.lift (code k (1 - 0)) a.a∧x.lift (code k (1 - 0)) a.a < 1000:=by
    obtain ⟨n0,n1,c0,c1,c2,a0,a1,b0,b1⟩:=hr
    unfold Iv.lift Iv.mn
    omega
   have hh:0≤nth x.h0 k∧nth x.h0 k < x.mod:=hx.hd 0 k k0 hk
   have hhd:x.hd 0=x.h0:=rfl
   rw [hhd] at hsu
   generalize x.lift (code k (1 - 0)) a.a=v at *
   generalize code k (1 - 0)=w at *
   repeat' ((first
    | refine lvD ?_
    | refine ShowsJ.mk (by kernel_rfl) (by kernel_rfl) (by kernel_rfl) (lvL ?_) (lvL ?_) rfl
    | refine lvE ?_
    | fail) <;> try (apply Cj.mk <;> first | exact trivial | intros))
   refine drawN 10 (by decide +kernel) ?_
   conv=>whnf
   try dsimp only [St.after,St.afterAt,St.pin,St.unpin,initSt,initT,numO,cellsA,Option.map,ren,renL,renO,St.setObj,headSt,List.cons_append,List.nil_append,List.length_nil,Nat.reduceAdd]
   try (conv=>enter [7,3];whnf)
   repeat' ((first
    | refine lvK ?_
    | (refine .inl ?_;(conv=>whnf);refine ⟨[0,1],_,[.ptr 0 0,I w,I a.a],_,_,⟨rfl,rfl,rfl⟩,hl,lvN ?_⟩)
    | refine ⟨_,_,hc,lvN ?_⟩
    | (refine .inl ?_;(conv=>whnf);refine ⟨_,_,hc,lvN ?_⟩)
    | refine lvE ?_
    | fail) <;> try (apply Cj.mk <;> first | exact trivial | intros))
   ·rename_i z
    rw [if_pos (show g.keep k=true from z)] at hsu
    refine ⟨k+1,⟨[],hdA (lvL ?_) (lvL ?_)⟩,?_,by (try dsimp only);omega,rfl⟩ <;> (try (apply Cj.mk <;> first | exact trivial | intros))
    ·rw [hsu]
    ·exact ⟨by omega,by omega⟩
   ·rename_i z
    rw [if_neg (show ¬ g.keep k=true from fun h=>by rw [show g.keep k=false from z] at h;cases h),Int.add_zero] at hsu
    refine ⟨k+1,⟨[],hdA (lvL ?_) (lvL ?_)⟩,?_,by (try dsimp only);omega,rfl⟩ <;> (try (apply Cj.mk <;> first | exact trivial | intros))
    ·rw [hsu]
    ·exact ⟨by omega,by omega⟩
  ·obtain rfl:k=g.nk:=by omega
   repeat' ((first
    | refine lvK ?_
    | refine lvE ?_
    | fail) <;> try (apply Cj.mk <;> first | exact trivial | intros))
 ·refine fun_of tok D_ok Try.func69 rfl Try.ntmps69 Try.results69 (by kernel_rfl) (by simp) (by simp) ?_
  conv=>whnf
  repeat' ((first
   | refine lvK ?_
   | refine lvE ?_
   | fail) <;> try (apply Cj.mk <;> first | exact trivial | intros))
  refine .of (fun k=>[(15,I k),(5,.ref 3)]) (fun k=>[(3,.arr 1 ((T k).map I))]) 4 (fun k=>0≤k∧k≤g.nk) (fun k=>(g.nk - k).toNat) 0 ?_
  conv=>whnf
  refine ⟨⟨[],hdA (lvL ?_) (lvL ?_)⟩,?_,fun k ⟨k0,k1⟩=>lvN ?_⟩ <;> (try (apply Cj.mk <;> first | exact trivial | intros))
  ·rw [hT.z];rfl
  ·exact ⟨by omega,by omega⟩
  by_cases hk:k < g.nk
  ·have hr:=hx.mvR hg (n:=code k (1 - 1)) (c:=a.a) (by unfold code;omega) (by unfold code;omega) a0 a1
   have hc:=ICode_p k (1 - 1)
   have hl:=hl _ hr
   have hsu:=hT.s k k0
   have htl:=hT.l k
   have hv:-1000 < x.lift (code k (1 - 1)) a.a∧x.lift (code k (1 - 1)) a.a < 1000:=by
    obtain ⟨n0,n1,c0,c1,c2,a0,a1,b0,b1⟩:=hr
    unfold Iv.lift Iv.mn
    omega
   have hh:0≤nth x.h1 k∧nth x.h1 k < x.mod:=hx.hd 1 k k0 hk
   have hhd:x.hd 1=x.h1:=rfl
   rw [hhd] at hsu
   generalize x.lift (code k (1 - 1)) a.a=v at *
   generalize code k (1 - 1)=w at *
   repeat' ((first
    | refine lvD ?_
    | refine ShowsJ.mk (by kernel_rfl) (by kernel_rfl) (by kernel_rfl) (lvL ?_) (lvL ?_) rfl
    | refine lvE ?_
    | fail) <;> try (apply Cj.mk <;> first | exact trivial | intros))
   refine drawN 10 (by decide +kernel) ?_
   conv=>whnf
   try dsimp only [St.after,St.afterAt,St.pin,St.unpin,initSt,initT,numO,cellsA,Option.map,ren,renL,renO,St.setObj,headSt,List.cons_append,List.nil_append,List.length_nil,Nat.reduceAdd]
   try (conv=>enter [7,3];whnf)
   repeat' ((first
    | refine lvK ?_
    | (refine .inl ?_;(conv=>whnf);refine ⟨[0,1],_,[.ptr 0 0,I w,I a.a],_,_,⟨rfl,rfl,rfl⟩,hl,lvN ?_⟩)
    | refine ⟨_,_,hc,lvN ?_⟩
    | (refine .inl ?_;(conv=>whnf);refine ⟨_,_,hc,lvN ?_⟩)
    | refine lvE ?_
    | fail) <;> try (apply Cj.mk <;> first | exact trivial | intros))
   ·rename_i z
    rw [if_pos (show g.keep k=true from z)] at hsu
    refine ⟨k+1,⟨[],hdA (lvL ?_) (lvL ?_)⟩,?_,by (try dsimp only);omega,rfl⟩ <;> (try (apply Cj.mk <;> first | exact trivial | intros))
    ·rw [hsu]
    ·exact ⟨by omega,by omega⟩
   ·rename_i z
    rw [if_neg (show ¬ g.keep k=true from fun h=>by rw [show g.keep k=false from z] at h;cases h),Int.add_zero] at hsu
    refine ⟨k+1,⟨[],hdA (lvL ?_) (lvL ?_)⟩,?_,by (try dsimp only);omega,rfl⟩ <;> (try (apply Cj.mk <;> first | exact trivial | intros))
    ·rw [hsu]
    ·exact ⟨by omega,by omega⟩
  ·obtain rfl:k=g.nk:=by omega
   repeat' ((first
    | refine lvK ?_
    | refine lvE ?_
    | fail) <;> try (apply Cj.mk <;> first | exact trivial | intros))
set_option maxHeartbeats 4000000 in
set_option maxRecDepth 10000 in
theorem mpush_p (g:Gm) (hg:g.ok) (x:Iv) (hx:x.ok g) (last:List Int) (side now:Int) (a:Ac) (a0:0≤a.a) (a1:a.a < g.b.cells) (b0:0≤a.b) (b1:a.b < g.b.cells) :
  Fun Try.prog 70 [.box (mvC g x side now (.ref 1)),.arr 1 (last.map I)] [.ptr 0 0,Aa a] (Is (x.pushL g a.a a.b)) [.box (mvC g x side now (.ref 1)),.arr 1 (last.map I)]:=by
 have k6:=hg.k6
 have k1:=hg.k1
 have hlen:=hx.len
 have em:(x.men.map Is).length=x.men.length:=List.length_map _
 have hl:=fun n h=>lift1_p g x last side now n a.a h
 have hp:=fun n h=>put1_p g x last side now n a.b h
 unfold Iv.pushL
 obtain ⟨T,hT⟩:=grow (fun n=>x.lift (n+1) a.a - x.lift (n+1) a.b) (2 * g.nk)
 rw [hT.e]
 unfold mvC at hl hp ⊢
 refine fun_of tok D_ok Try.func70 rfl Try.ntmps70 Try.results70 (by kernel_rfl) (by simp) (by simp) ?_
 conv=>whnf
 repeat' ((first
  | refine lvK ?_
  | refine lvE ?_
  | fail) <;> try (apply Cj.mk <;> first | exact trivial | intros))
 refine .of (fun i=>[(6,I (i+1)),(5,.ref 3)]) (fun i=>[(3,.arr 1 ((T i).map I))]) 4 (fun i=>0≤i∧i≤2 * g.nk) (fun i=>(2 * g.nk - i).toNat) 0 ?_
 conv=>whnf
 refine ⟨⟨[],hdA (lvL ?_) (lvL ?_)⟩,?_,fun i ⟨i0,i1⟩=>lvN ?_⟩ <;> (try (apply Cj.mk <;> first | exact trivial | intros))
 ·rw [hT.z];rfl
 ·exact ⟨by omega,by omega⟩
 by_cases hi:i < 2 * g.nk
 ·have hra:=hx.mvR hg (n:=i+1) (c:=a.a) (by omega) (by omega) a0 a1
  have hrb:=hx.mvR hg (n:=i+1) (c:=a.b) (by omega) (by omega) b0 b1
  have hl:=hl _ hra
  have hp:=hp _ hrb
  have hsu:=hT.s i i0
  have htl:=hT.l i
  have hv:-1000 < x.lift (i+1) a.a∧x.lift (i+1) a.a < 1000:=by
   obtain ⟨n0,n1,c0,c1,c2,a0,a1,b0,b1⟩:=hra
   unfold Iv.lift Iv.mn
   omega
  have hw:-1000 < x.lift (i+1) a.b∧x.lift (i+1) a.b < 1000:=by
   obtain ⟨n0,n1,c0,c1,c2,a0,a1,b0,b1⟩:=hrb
   unfold Iv.lift Iv.mn
   omega
  generalize x.lift (i+1) a.a=v at *
  generalize x.lift (i+1) a.b=w at *
  repeat' ((first
   | refine lvD ?_
   | refine ShowsJ.mk (by kernel_rfl) (by kernel_rfl) (by kernel_rfl) (lvL ?_) (lvL ?_) rfl
   | refine lvE ?_
   | fail) <;> try (apply Cj.mk <;> first | exact trivial | intros))
  refine drawJ [0,1,2,3,4,6,7,8,9] [⟨0,2,1,I a.a⟩,⟨0,2,2,I a.b⟩] [(5,.ref 3)] [(3,.arr 1 ((T (i+1)).map I))] 4 (by decide +kernel) ?_
  conv=>whnf
  refine And.intro ?_ ?_
  ·repeat' ((first
    | refine lvD ?_
    | (refine .inl ?_;(conv=>whnf);refine ⟨[0,1],_,[.ptr 0 0,I (i+1),I a.a],_,_,⟨rfl,rfl,rfl⟩,hl,lvN ?_⟩)
    | (refine .inl ?_;(conv=>whnf);refine ⟨[0,1],_,[.ptr 0 0,I (i+1),I a.b],_,_,⟨rfl,rfl,rfl⟩,hp,lvN ?_⟩)
    | refine ShowsJ.mk (by kernel_rfl) (by kernel_rfl) (by kernel_rfl) (lvL ?_) (lvL ?_) rfl
    | refine lvE ?_
    | fail) <;> try (apply Cj.mk <;> first | exact trivial | intros))
   rw [hsu,Int.sub_eq_add_neg]
  repeat' ((first
   | refine lvK ?_
   | refine lvE ?_
   | fail) <;> try (apply Cj.mk <;> first | exact trivial | intros))
  refine ⟨i+1,⟨[],hdA (lvL ?_) (lvL ?_)⟩,?_,by (try dsimp only);omega,rfl⟩ <;> (try (apply Cj.mk <;> first | exact trivial | intros))
  exact ⟨by omega,by omega⟩
 ·obtain rfl:i=2 * g.nk:=by omega
  repeat' ((first
   | refine lvK ?_
   | refine lvE ?_
   | fail) <;> try (apply Cj.mk <;> first | exact trivial | intros))
set_option maxHeartbeats 4000000 in
set_option maxRecDepth 10000 in
theorem mlose_p (g:Gm) (x:Iv) (last:List Int) (side now:Int) (a:Ac) (a0:0≤a.a) (a1:a.a < x.rights.length) (hll:last.length=x.rights.length) (v0:0≤nth x.rights a.a) (v1:nth x.rights a.a < 1000) :
  Fun Try.prog 71 [.box (mvC g x side now (.ref 1)),.arr 1 (last.map I)] [.ptr 0 0,Aa a] (Is (x.loseL last a.a)) [.box (mvC g x side now (.ref 1)),.arr 1 ((last.set a.a.toNat 10).map I)]:=by
 have er:(x.rights.map I).length=x.rights.length:=List.length_map _
 have el:(last.map I).length=last.length:=List.length_map _
 unfold mvC Iv.loseL
 by_cases h9:nth last a.a=9
 ·rw [if_pos h9]
  refine fun_of tok D_ok Try.func71 rfl Try.ntmps71 Try.results71 (by kernel_rfl) (by simp) (by simp) ?_
  conv=>whnf
  repeat' ((first
   | refine lvK ?_
   | refine lvE ?_
   | fail) <;> try (apply Cj.mk <;> first | exact trivial | intros))
  rw [Int.zero_sub];rfl
 ·rw [if_neg h9]
  by_cases h10:nth last a.a=10
  ·rw [if_pos h10]
   refine fun_of tok D_ok Try.func71 rfl Try.ntmps71 Try.results71 (by kernel_rfl) (by simp) (by simp) ?_
   conv=>whnf
   repeat' ((first
    | refine lvK ?_
    | refine lvE ?_
    | fail) <;> try (apply Cj.mk <;> first | exact trivial | intros))
  ·rw [if_neg h10]
   refine fun_of tok D_ok Try.func71 rfl Try.ntmps71 Try.results71 (by kernel_rfl) (by simp) (by simp) ?_
   conv=>whnf
   repeat' ((first
    | refine lvK ?_
    | refine lvE ?_
    | fail) <;> try (apply Cj.mk <;> first | exact trivial | intros))
   rw [Int.zero_sub];rfl
set_option maxHeartbeats 4000000 in
set_option maxRecDepth 10000 in
theorem mneed_p (g:Gm) (x:Iv) (last:List Int) (side now:Int) (a:Ac) (a0:0≤a.a) (a1:a.a < last.length) :
  Fun Try.prog 72 [.box (mvC g x side now (.ref 1)),.arr 1 (last.map I),.box [.ptr 0 0]] [Aa a,.ptr 2 0] (.sl []) [.box (mvC g x side now (.ref 1)),.arr 1 ((last.set a.a.toNat 9).map I),.box [.ptr 0 0]]:=by
 have el:(last.map I).length=last.length:=List.length_map _
 unfold mvC
 refine fun_of tok D_ok Try.func72 rfl Try.ntmps72 Try.results72 (by kernel_rfl) (by simp) (by simp) ?_
 conv=>whnf
 repeat' ((first
  | refine lvK ?_
  | refine lvE ?_
  | fail) <;> try (apply Cj.mk <;> first | exact trivial | intros))
set_option maxHeartbeats 4000000 in
set_option maxRecDepth 10000 in
theorem mbecome_p (g:Gm) (x:Iv) (last:List Int) (side now:Int) (a:Ac) :
  Fun Try.prog 73 [.box (mvC g x side now (.ref 1)),.arr 1 (last.map I),.box [.ptr 0 0]] [Aa a,.ptr 2 0] (.sl []) [.box (mvC g x side (code a.a side) (.ref 1)),.arr 1 (last.map I),.box [.ptr 0 0]]:=by
 have hc:=ICode_p a.a side
 unfold mvC
 generalize code a.a side=w at *
 refine fun_of tok D_ok Try.func73 rfl Try.ntmps73 Try.results73 (by kernel_rfl) (by simp) (by simp) ?_
 conv=>whnf
 repeat' ((first
  | refine lvK ?_
  | refine ⟨_,_,hc,lvN ?_⟩
  | (refine .inl ?_;(conv=>whnf);refine ⟨_,_,hc,lvN ?_⟩)
  | refine lvE ?_
  | fail) <;> try (apply Cj.mk <;> first | exact trivial | intros))
end Go.Proofs.Ytejljpjdifblpaa
