/- Contracts of functions of the program, proved by the checker; and plain laws. -/
import Derived.Test.YtejljpjdifblpaaZ23
set_option linter.unusedVariables false
set_option linter.unusedSimpArgs false
namespace Go.Proofs.Ytejljpjdifblpaa
open Go Go.Sk
theorem tmod_zero {a m:Int}:a.tmod m=0↔a % m=0:=⟨fun h=>Int.emod_eq_zero_of_dvd (Int.dvd_of_tmod_eq_zero h),fun h=>Int.tmod_eq_zero_of_dvd (Int.dvd_of_emod_eq_zero h)⟩
theorem sameB_all {m:Int} {L:List Int} (h:∀ q:Int,0≤q→q < L.length→(nth L q - nth L 0) % m=0):sameB m L=true:=by
 unfold sameB
 rw [List.all_eq_true]
 intro n hn
 obtain ⟨q,q0,q1,rfl⟩:=mem_nth hn
 rw [h q q0 q1];rfl
theorem sameB_not {m:Int} {L:List Int} {q:Int} (q0:0≤q) (q1:q < L.length) (h:(nth L q - nth L 0) % m≠0):sameB m L=false:=by
 cases hb:sameB m L with
 | false=>rfl
 | true =>
  unfold sameB at hb
  rw [List.all_eq_true] at hb
  exact absurd (by simpa using hb _ (nth_mem q0 q1)) h
set_option maxHeartbeats 8000000 in
set_option maxRecDepth 10000 in
theorem keeps_p (g:Gm) (hg:g.ok) (x:Iv) (hx:x.ok g) (side k cell:Int) (hs:side=0∨side=1) (k0:0≤k) (k1:k < g.nk) (c0:0≤cell) (c1:cell < g.b.cells) (p:Pth) (hp:PtOk g p) (hop:∀ a,a∈p.acts→3≤a.op∧a.op≤10) (hpl:p.acts.length≤100) :
  Fun Try.prog 36 [.box (mvC g x side (code k side) (.ref 1)),.arr 1 ((List.replicate g.rights.toNat 0).map I)] [.ptr 0 0,I cell,Pa p] (Bo (x.keepsB g side k cell p)) [.dead,.dead]:=by
 have k6:=hg.k6
 have hcr:1≤code k side∧code k side≤2 * g.nk:=by unfold code;omega
 have hl0:=hx.lift_rg hg (n:=code k side) (c:=cell) (by omega) (by omega) c0 c1
 have hm0:=lift1_p g x (List.replicate g.rights.toNat 0) side (code k side) (code k side) cell (hx.mvR hg (by omega) (by omega) c0 c1)
 have m2:=hx.m2
 have m3:=hx.m3
 have hs1:=hx.s1
 have hs0:=hx.s0
 have hm1:=turn1_p g x (List.replicate g.rights.toNat 0) side (code k side) hs hs0 (by omega)
 have hm2:=macts_p g x (List.replicate g.rights.toNat 0) side (code k side)
 have htr:-1000 < x.turn side∧x.turn side < 1000:=by
  unfold Iv.turn
  rcases hs with rfl | rfl
  ·omega
  ·omega
 have ea:(p.acts.map Aa).length=p.acts.length:=List.length_map _
 have hst:x.start g side k cell=⟨x.lift (code k side) cell+x.turn side,code k side,List.replicate g.rights.toNat 0⟩:=rfl
 unfold mvC actsA NilF at hm2
 unfold mvC at hm0 hm1 ⊢
 refine fun_of tok D_ok Try.func36 rfl Try.ntmps36 Try.results36 (by kernel_rfl) (by simp) (by simp) ?_
 conv=>whnf
 repeat' ((first
  | refine lvK ?_
  | (refine .inl ?_;(conv=>whnf);refine ⟨[0,1],_,[.ptr 0 0,I (code k side),I cell],_,_,⟨rfl,rfl,rfl⟩,hm0,lvN ?_⟩)
  | (refine .inl ?_;(conv=>whnf);refine ⟨[0,1],_,[.ptr 0 0],_,_,⟨rfl,rfl,rfl⟩,hm1,lvN ?_⟩)
  | (refine .inl ?_;(conv=>whnf);refine ⟨[0,1],_,[.ptr 0 0],_,_,⟨rfl,rfl,rfl⟩,hm2,lvN ?_⟩)
  | refine lvE ?_
  | fail) <;> try (apply Cj.mk <;> first | exact trivial | intros))
 have hS0:x.runA g side (p.acts.take (0:Int).toNat) (x.start g side k cell)=⟨x.lift (code k side) cell+x.turn side,code k side,List.replicate g.rights.toNat 0⟩:=rfl
 have hSs:∀ i:Int,0≤i→i < p.acts.length→x.runA g side (p.acts.take (i+1).toNat) (x.start g side k cell)=x.stepK g side (x.runA g side (p.acts.take i.toNat) (x.start g side k cell)) (nth p.acts i):=fun i i0 i1=>by rw [take_snoc i0 i1,runA_snoc]
 have hSk:∀ i:Int,0≤i→i < p.acts.length→x.keepsAB g side (p.acts.take (i+1).toNat) (x.start g side k cell)=(x.keepsAB g side (p.acts.take i.toNat) (x.start g side k cell) && sameB x.mod (x.actL g side (x.runA g side (p.acts.take i.toNat) (x.start g side k cell)).last (nth p.acts i))):=fun i i0 i1=>by rw [take_snoc i0 i1,keepsAB_snoc]
 have hSr:∀ i:Int,0≤i→i≤p.acts.length→((x.runA g side (p.acts.take i.toNat) (x.start g side k cell)).last.length:Int)=g.rights∧-2000 - 3000 * i≤(x.runA g side (p.acts.take i.toNat) (x.start g side k cell)).sum∧(x.runA g side (p.acts.take i.toNat) (x.start g side k cell)).sum≤2000+3000 * i∧1≤(x.runA g side (p.acts.take i.toNat) (x.start g side k cell)).now∧(x.runA g side (p.acts.take i.toNat) (x.start g side k cell)).now≤2 * g.nk:=fun i i0 i1=>by
  have h1:=runA_rg hg hx hs (p.acts.take i.toNat) (x.start g side k cell) fun a ha=>hp.acts a (List.mem_of_mem_take ha)
  have h2:=run_now hg x hs (p.acts.take i.toNat) (x.start g side k cell) (fun a ha=>hp.acts a (List.mem_of_mem_take ha)) hcr
  have h3:(x.start g side k cell).last.length=g.rights.toNat:=by rw [hst];exact List.length_replicate
  have h4:(x.start g side k cell).sum=x.lift (code k side) cell+x.turn side:=rfl
  have h5:=take_len i0 i1
  have r0:=hg.r0
  exact ⟨by omega,by omega,by omega,h2.1,h2.2⟩
 have hfin:x.keepsB g side k cell p=(x.keepsAB g side p.acts (x.start g side k cell) && ((x.runA g side p.acts (x.start g side k cell)).sum - x.lift (x.runA g side p.acts (x.start g side k cell)).now p.to) % x.mod == 0):=rfl
 have htk:p.acts.take (p.acts.length:Int).toNat=p.acts:=take_all (Int.le_refl _)
 have hSf:∀ i:Int,i < p.acts.length→x.keepsAB g side (p.acts.take (i+1).toNat) (x.start g side k cell)=false→x.keepsB g side k cell p=false:=fun i i1 h=>by
  rw [hfin]
  have:=keepsAB_app x g side (p.acts.drop (i+1).toNat) (p.acts.take (i+1).toNat) (x.start g side k cell)
  rw [List.take_append_drop] at this
  cases hb:x.keepsAB g side p.acts (x.start g side k cell) with
  | true=>rw [this hb] at h;cases h
  | false=>rfl
 rw [← htk] at hfin
 obtain ⟨S,hS⟩:∃ S:Int→Kp,S=fun i=>x.runA g side (p.acts.take i.toNat) (x.start g side k cell):=⟨_,rfl⟩
 obtain ⟨B,hB⟩:∃ B:Int→Bool,B=fun i=>x.keepsAB g side (p.acts.take i.toNat) (x.start g side k cell):=⟨_,rfl⟩
 have hS0:S 0=⟨x.lift (code k side) cell+x.turn side,code k side,List.replicate g.rights.toNat 0⟩:=by rw [hS];exact hS0
 have hB0:B 0=true:=by rw [hB];rfl
 have hSs:∀ i:Int,0≤i→i < p.acts.length→S (i+1)=x.stepK g side (S i) (nth p.acts i):=by rw [hS];exact hSs
 have hSk:∀ i:Int,0≤i→i < p.acts.length→B (i+1)=(B i && sameB x.mod (x.actL g side (S i).last (nth p.acts i))):=by rw [hS,hB];exact hSk
 have hSr:∀ i:Int,0≤i→i≤p.acts.length→((S i).last.length:Int)=g.rights∧-2000 - 3000 * i≤(S i).sum∧(S i).sum≤2000+3000 * i∧1≤(S i).now∧(S i).now≤2 * g.nk:=by rw [hS];exact hSr
 have hSf:∀ i:Int,i < p.acts.length→B (i+1)=false→x.keepsB g side k cell p=false:=by rw [hB];exact hSf
 have hfin:x.keepsB g side k cell p=(B p.acts.length && ((S p.acts.length).sum - x.lift (S p.acts.length).now p.to) % x.mod == 0):=by rw [hS,hB];exact hfin
 clear hS hB htk hst
 generalize x.keepsB g side k cell p=res at *
 refine loopQ fun R1 hR1=>?_
 refine .of (fun i=>[(30,I i),(7,I (S i).sum)]) (fun i=>[(0,.box [I g.b.cells,Iss g.b.next,Is g.b.turn,.sl (g.kinds.map Kn),I g.rights,Bo g.must,.sl (g.cls.map Ca),I g.blocked,I g.endless,I x.mod,Iss x.men,Is x.h0,Is x.h1,Is x.rights,I x.side,I side,I (S i).now,.ref 1]),(1,.arr 1 ((S i).last.map I))]) 5 (fun i=>0≤i∧i≤p.acts.length∧B i=true) (fun i=>(p.acts.length - i).toNat) 0 ?_
 conv=>whnf
 refine ⟨⟨[],hdA (lvL ?_) (lvL ?_)⟩,?_,fun i ⟨i0,i1,hBi⟩=>lvN ?_⟩ <;> (try (apply Cj.mk <;> first | exact trivial | intros))
 ·rw [hS0]
 ·rw [hS0]
 ·rw [hS0]
 ·exact ⟨by omega,by omega,hB0⟩
 obtain ⟨r1,r2,r3,r4,r5⟩:=hSr i i0 i1
 by_cases hi:i < p.acts.length
 ·have hA:=hp.acts _ (nth_mem i0 hi)
  have hO:=hop _ (nth_mem i0 hi)
  have hs1:=hSs i i0 hi
  have hk1:=hSk i i0 hi
  have hc6:=fun h=>mtake_p g hg x hx (S i).last side (S i).now hs (nth p.acts i) (hA.1 h).1 (hA.1 h).2
  have hc7:=fun h=>mpush_p g hg x hx (S i).last side (S i).now (nth p.acts i) (hA.2.1 h).1 (hA.2.1 h).2.1 (hA.2.1 h).2.2.1 (hA.2.1 h).2.2.2
  have hlr:=hx.lr
  have hc10:=fun h=>mlose_p g x (S i).last side (S i).now (nth p.acts i) (hA.2.2.1 (.inr h)).1 (by have:=(hA.2.2.1 (.inr h)).2;omega) (by omega) (hx.rt _ (hA.2.2.1 (.inr h)).1 (hA.2.2.1 (.inr h)).2).1 (by have:=(hx.rt _ (hA.2.2.1 (.inr h)).1 (hA.2.2.1 (.inr h)).2).2;omega)
  have hc9:=fun h=>mneed_p g x (S i).last side (S i).now (nth p.acts i) (hA.2.2.1 (.inl h)).1 (by have:=(hA.2.2.1 (.inl h)).2;omega)
  have hc8:=mbecome_p g x (S i).last side (S i).now (nth p.acts i)
  have hrg:=hx.act_rg hg hs (S i).last hA
  unfold mvC at hc6 hc7 hc8 hc9 hc10
  have hSfi:=hSf i hi
  repeat' ((first
   | refine lvK ?_
   | refine lvE ?_
   | fail) <;> try (apply Cj.mk <;> first | exact trivial | intros))
  clear hSf hSr hSs hSk hop hp
  generalize nth p.acts i=a at *
  obtain ⟨op,A,A'⟩:=a
  dsimp only at *
  have hO8:op=3∨op=4∨op=5∨op=6∨op=7∨op=8∨op=9∨op=10:=by omega
  rcases hO8 with rfl | rfl | rfl | rfl | rfl | rfl | rfl | rfl
  ·have hs2:S (i+1)=⟨(S i).sum+0,(S i).now,(S i).last⟩:=hs1
   have hk2:B (i+1)=(B i && true):=hk1
   rw [Int.add_zero] at hs2
   have hB2:B (i+1)=true:=by rw [hk2,hBi];rfl
   conv=>whnf
   repeat' ((first
    | refine lvK ?_
    | refine lvE ?_
    | fail) <;> try (apply Cj.mk <;> first | exact trivial | intros))
   refine ⟨i+1,⟨[],hdA (lvL ?_) (lvL ?_)⟩,?_,by (try dsimp only);omega,rfl⟩ <;> (try (apply Cj.mk <;> first | exact trivial | intros))
   all_goals first | exact ⟨by omega,by omega,hB2⟩ | (rw [hs2];done)
  ·have hs2:S (i+1)=⟨(S i).sum+0,(S i).now,(S i).last⟩:=hs1
   have hk2:B (i+1)=(B i && true):=hk1
   rw [Int.add_zero] at hs2
   have hB2:B (i+1)=true:=by rw [hk2,hBi];rfl
   conv=>whnf
   repeat' ((first
    | refine lvK ?_
    | refine lvE ?_
    | fail) <;> try (apply Cj.mk <;> first | exact trivial | intros))
   refine ⟨i+1,⟨[],hdA (lvL ?_) (lvL ?_)⟩,?_,by (try dsimp only);omega,rfl⟩ <;> (try (apply Cj.mk <;> first | exact trivial | intros))
   all_goals first | exact ⟨by omega,by omega,hB2⟩ | (rw [hs2];done)
  ·have hs2:S (i+1)=⟨(S i).sum+0,(S i).now,(S i).last⟩:=hs1
   have hk2:B (i+1)=(B i && true):=hk1
   rw [Int.add_zero] at hs2
   have hB2:B (i+1)=true:=by rw [hk2,hBi];rfl
   conv=>whnf
   repeat' ((first
    | refine lvK ?_
    | refine lvE ?_
    | fail) <;> try (apply Cj.mk <;> first | exact trivial | intros))
   refine ⟨i+1,⟨[],hdA (lvL ?_) (lvL ?_)⟩,?_,by (try dsimp only);omega,rfl⟩ <;> (try (apply Cj.mk <;> first | exact trivial | intros))
   all_goals first | exact ⟨by omega,by omega,hB2⟩ | (rw [hs2];done)
  ·have hcx:=hc6 rfl
   have hs2:S (i+1)=⟨(S i).sum+nth (x.takeL g side A) 0,(S i).now,(S i).last⟩:=hs1
   have hk2:B (i+1)=(B i && sameB x.mod (x.takeL g side A)):=hk1
   have hrg:∀ n,n∈(x.takeL g side A)→-3000≤n∧n≤3000:=hrg
   have hcx:Fun Try.prog _ _ _ (Is (x.takeL g side A)) _:=hcx
   clear hs1 hk1 hc6 hc7 hc8 hc9 hc10
   have hLl:(x.takeL g side A).length≤1000:=by unfold Iv.takeL;rw [List.length_map,ints_len];omega
   generalize (x.takeL g side A)=L at *
   have eL:(L.map I).length=L.length:=List.length_map _
   have h00:=nth0_rg (b:=3000) (by omega) hrg
   conv=>whnf
   repeat' ((first
    | refine lvK ?_
    | (refine .inl ?_;(conv=>whnf);refine ⟨[0,1],_,[.ptr 0 0,Aa ⟨6,A,A'⟩],_,_,⟨rfl,rfl,rfl⟩,hcx,lvN ?_⟩)
    | refine lvE ?_
    | fail) <;> try (apply Cj.mk <;> first | exact trivial | intros))
   refine .of (fun j=>[(45,I j)]) (fun j=>[]) 6 (fun j=>0≤j∧j≤L.length∧∀ q:Int,0≤q→q < j→(nth L q - nth L 0) % x.mod=0) (fun j=>(L.length - j).toNat) 0 ?_
   conv=>whnf
   refine ⟨⟨[],hdA (lvL ?_) (lvL ?_)⟩,?_,fun j ⟨j0,j1,hq⟩=>lvN ?_⟩ <;> (try (apply Cj.mk <;> first | exact trivial | intros))
   ·exact ⟨by omega,by omega,fun q q0 q1=>by omega⟩
   by_cases hj:j < L.length
   ·have hv:=hrg _ (nth_mem j0 hj)
    by_cases hz:(nth L j - nth L 0) % x.mod=0
    ·have hz':=tmod_zero.2 hz
     repeat' ((first
      | refine lvK ?_
      | refine And.intro (by omega) (Calc.mk _ rfl (lvN ?_))
      | refine lvE ?_
      | fail) <;> try (apply Cj.mk <;> first | exact trivial | intros))
     refine ⟨j+1,⟨[],hdA (lvL ?_) (lvL ?_)⟩,?_,by (try dsimp only);omega,rfl⟩ <;> (try (apply Cj.mk <;> first | exact trivial | intros))
     refine ⟨by omega,by omega,fun q q0 q1=>?_⟩
     by_cases hqj:q=j
     ·rw [hqj];exact hz
     ·exact hq q q0 (by omega)
    ·have hz':¬ (nth L j - nth L 0).tmod x.mod=0:=fun h=>hz (tmod_zero.1 h)
     have hres:res=false:=hSfi (by rw [hk2,sameB_not j0 hj hz,Bool.and_false])
     repeat' ((first
      | refine lvK ?_
      | refine And.intro (by omega) (Calc.mk _ rfl (lvN ?_))
      | refine lvE ?_
      | fail) <;> try (apply Cj.mk <;> first | exact trivial | intros))
     refine hR1 _ _ ?_
     conv=>whnf
     try dsimp only [St.after,St.afterAt,St.pin,St.unpin,initSt,initT,numO,cellsA,Option.map,ren,renL,renO,St.setObj,headSt,List.cons_append,List.nil_append,List.length_nil,Nat.reduceAdd]
     repeat' ((first
      | refine lvK ?_
      | refine lvE ?_
      | fail) <;> try (apply Cj.mk <;> first | exact trivial | intros))
     rw [hres]
   ·have hB2:B (i+1)=true:=by rw [hk2,hBi,sameB_all fun q q0 q1=>hq q q0 (by omega)];rfl
    by_cases hL:0 < L.length
    ·repeat' ((first
      | refine lvK ?_
      | refine lvE ?_
      | fail) <;> try (apply Cj.mk <;> first | exact trivial | intros))
     refine ⟨i+1,⟨[],hdA (lvL ?_) (lvL ?_)⟩,?_,by (try dsimp only);omega,rfl⟩ <;> (try (apply Cj.mk <;> first | exact trivial | intros))
     all_goals first | exact ⟨by omega,by omega,hB2⟩ | (rw [hs2];done)
    ·have hL0:nth L 0=0:=by have:L=[]:=List.eq_nil_of_length_eq_zero (by omega);rw [this];rfl
     rw [hL0,Int.add_zero] at hs2
     repeat' ((first
      | refine lvK ?_
      | refine lvE ?_
      | fail) <;> try (apply Cj.mk <;> first | exact trivial | intros))
     refine ⟨i+1,⟨[],hdA (lvL ?_) (lvL ?_)⟩,?_,by (try dsimp only);omega,rfl⟩ <;> (try (apply Cj.mk <;> first | exact trivial | intros))
     all_goals first | exact ⟨by omega,by omega,hB2⟩ | (rw [hs2];done)
  ·have hcx:=hc7 rfl
   have hs2:S (i+1)=⟨(S i).sum+nth (x.pushL g A A') 0,(S i).now,(S i).last⟩:=hs1
   have hk2:B (i+1)=(B i && sameB x.mod (x.pushL g A A')):=hk1
   have hrg:∀ n,n∈(x.pushL g A A')→-3000≤n∧n≤3000:=hrg
   have hcx:Fun Try.prog _ _ _ (Is (x.pushL g A A')) _:=hcx
   clear hs1 hk1 hc6 hc7 hc8 hc9 hc10
   have hLl:(x.pushL g A A').length≤1000:=by unfold Iv.pushL;rw [List.length_map,ints_len];omega
   generalize (x.pushL g A A')=L at *
   have eL:(L.map I).length=L.length:=List.length_map _
   have h00:=nth0_rg (b:=3000) (by omega) hrg
   conv=>whnf
   repeat' ((first
    | refine lvK ?_
    | (refine .inl ?_;(conv=>whnf);refine ⟨[0,1],_,[.ptr 0 0,Aa ⟨7,A,A'⟩],_,_,⟨rfl,rfl,rfl⟩,hcx,lvN ?_⟩)
    | refine lvE ?_
    | fail) <;> try (apply Cj.mk <;> first | exact trivial | intros))
   refine .of (fun j=>[(45,I j)]) (fun j=>[]) 6 (fun j=>0≤j∧j≤L.length∧∀ q:Int,0≤q→q < j→(nth L q - nth L 0) % x.mod=0) (fun j=>(L.length - j).toNat) 0 ?_
   conv=>whnf
   refine ⟨⟨[],hdA (lvL ?_) (lvL ?_)⟩,?_,fun j ⟨j0,j1,hq⟩=>lvN ?_⟩ <;> (try (apply Cj.mk <;> first | exact trivial | intros))
   ·exact ⟨by omega,by omega,fun q q0 q1=>by omega⟩
   by_cases hj:j < L.length
   ·have hv:=hrg _ (nth_mem j0 hj)
    by_cases hz:(nth L j - nth L 0) % x.mod=0
    ·have hz':=tmod_zero.2 hz
     repeat' ((first
      | refine lvK ?_
      | refine And.intro (by omega) (Calc.mk _ rfl (lvN ?_))
      | refine lvE ?_
      | fail) <;> try (apply Cj.mk <;> first | exact trivial | intros))
     refine ⟨j+1,⟨[],hdA (lvL ?_) (lvL ?_)⟩,?_,by (try dsimp only);omega,rfl⟩ <;> (try (apply Cj.mk <;> first | exact trivial | intros))
     refine ⟨by omega,by omega,fun q q0 q1=>?_⟩
     by_cases hqj:q=j
     ·rw [hqj];exact hz
     ·exact hq q q0 (by omega)
    ·have hz':¬ (nth L j - nth L 0).tmod x.mod=0:=fun h=>hz (tmod_zero.1 h)
     have hres:res=false:=hSfi (by rw [hk2,sameB_not j0 hj hz,Bool.and_false])
     repeat' ((first
      | refine lvK ?_
      | refine And.intro (by omega) (Calc.mk _ rfl (lvN ?_))
      | refine lvE ?_
      | fail) <;> try (apply Cj.mk <;> first | exact trivial | intros))
     refine hR1 _ _ ?_
     conv=>whnf
     try dsimp only [St.after,St.afterAt,St.pin,St.unpin,initSt,initT,numO,cellsA,Option.map,ren,renL,renO,St.setObj,headSt,List.cons_append,List.nil_append,List.length_nil,Nat.reduceAdd]
     repeat' ((first
      | refine lvK ?_
      | refine lvE ?_
      | fail) <;> try (apply Cj.mk <;> first | exact trivial | intros))
     rw [hres]
   ·have hB2:B (i+1)=true:=by rw [hk2,hBi,sameB_all fun q q0 q1=>hq q q0 (by omega)];rfl
    by_cases hL:0 < L.length
    ·repeat' ((first
      | refine lvK ?_
      | refine lvE ?_
      | fail) <;> try (apply Cj.mk <;> first | exact trivial | intros))
     refine ⟨i+1,⟨[],hdA (lvL ?_) (lvL ?_)⟩,?_,by (try dsimp only);omega,rfl⟩ <;> (try (apply Cj.mk <;> first | exact trivial | intros))
     all_goals first | exact ⟨by omega,by omega,hB2⟩ | (rw [hs2];done)
    ·have hL0:nth L 0=0:=by have:L=[]:=List.eq_nil_of_length_eq_zero (by omega);rw [this];rfl
     rw [hL0,Int.add_zero] at hs2
     repeat' ((first
      | refine lvK ?_
      | refine lvE ?_
      | fail) <;> try (apply Cj.mk <;> first | exact trivial | intros))
     refine ⟨i+1,⟨[],hdA (lvL ?_) (lvL ?_)⟩,?_,by (try dsimp only);omega,rfl⟩ <;> (try (apply Cj.mk <;> first | exact trivial | intros))
     all_goals first | exact ⟨by omega,by omega,hB2⟩ | (rw [hs2];done)
  ·have hcx:=hc8
   obtain ⟨L,hL⟩:∃ L:List Int,L=[]:=⟨_,rfl⟩
   have hs2:S (i+1)=⟨(S i).sum+nth L 0,code A side,(S i).last⟩:=by rw [hL];exact hs1
   have hk2:B (i+1)=(B i && sameB x.mod L):=by rw [hL];exact hk1
   have hrg:∀ n,n∈L→-3000≤n∧n≤3000:=by rw [hL];exact hrg
   rw [show (AV.sl [])=Is L by rw [hL];rfl] at hcx
   have hLl:L.length≤1000:=by rw [hL];simp
   clear hs1 hk1 hc6 hc7 hc8 hc9 hc10 hL
   have eL:(L.map I).length=L.length:=List.length_map _
   have h00:=nth0_rg (b:=3000) (by omega) hrg
   conv=>whnf
   repeat' ((first
    | refine lvK ?_
    | (refine .inl ?_;(conv=>whnf);refine ⟨[0,1,3],_,[Aa ⟨8,A,A'⟩,.ptr 2 0],_,_,⟨rfl,rfl,rfl⟩,hcx,lvN ?_⟩)
    | refine lvE ?_
    | fail) <;> try (apply Cj.mk <;> first | exact trivial | intros))
   refine .of (fun j=>[(45,I j)]) (fun j=>[]) 6 (fun j=>0≤j∧j≤L.length∧∀ q:Int,0≤q→q < j→(nth L q - nth L 0) % x.mod=0) (fun j=>(L.length - j).toNat) 0 ?_
   conv=>whnf
   refine ⟨⟨[],hdA (lvL ?_) (lvL ?_)⟩,?_,fun j ⟨j0,j1,hq⟩=>lvN ?_⟩ <;> (try (apply Cj.mk <;> first | exact trivial | intros))
   ·exact ⟨by omega,by omega,fun q q0 q1=>by omega⟩
   by_cases hj:j < L.length
   ·have hv:=hrg _ (nth_mem j0 hj)
    by_cases hz:(nth L j - nth L 0) % x.mod=0
    ·have hz':=tmod_zero.2 hz
     repeat' ((first
      | refine lvK ?_
      | refine And.intro (by omega) (Calc.mk _ rfl (lvN ?_))
      | refine lvE ?_
      | fail) <;> try (apply Cj.mk <;> first | exact trivial | intros))
     refine ⟨j+1,⟨[],hdA (lvL ?_) (lvL ?_)⟩,?_,by (try dsimp only);omega,rfl⟩ <;> (try (apply Cj.mk <;> first | exact trivial | intros))
     refine ⟨by omega,by omega,fun q q0 q1=>?_⟩
     by_cases hqj:q=j
     ·rw [hqj];exact hz
     ·exact hq q q0 (by omega)
    ·have hz':¬ (nth L j - nth L 0).tmod x.mod=0:=fun h=>hz (tmod_zero.1 h)
     have hres:res=false:=hSfi (by rw [hk2,sameB_not j0 hj hz,Bool.and_false])
     repeat' ((first
      | refine lvK ?_
      | refine And.intro (by omega) (Calc.mk _ rfl (lvN ?_))
      | refine lvE ?_
      | fail) <;> try (apply Cj.mk <;> first | exact trivial | intros))
     refine hR1 _ _ ?_
     conv=>whnf
     try dsimp only [St.after,St.afterAt,St.pin,St.unpin,initSt,initT,numO,cellsA,Option.map,ren,renL,renO,St.setObj,headSt,List.cons_append,List.nil_append,List.length_nil,Nat.reduceAdd]
     repeat' ((first
      | refine lvK ?_
      | refine lvE ?_
      | fail) <;> try (apply Cj.mk <;> first | exact trivial | intros))
     rw [hres]
   ·have hB2:B (i+1)=true:=by rw [hk2,hBi,sameB_all fun q q0 q1=>hq q q0 (by omega)];rfl
    by_cases hL:0 < L.length
    ·repeat' ((first
      | refine lvK ?_
      | refine lvE ?_
      | fail) <;> try (apply Cj.mk <;> first | exact trivial | intros))
     refine ⟨i+1,⟨[],hdA (lvL ?_) (lvL ?_)⟩,?_,by (try dsimp only);omega,rfl⟩ <;> (try (apply Cj.mk <;> first | exact trivial | intros))
     all_goals first | exact ⟨by omega,by omega,hB2⟩ | (rw [hs2];done)
    ·have hL0:nth L 0=0:=by have:L=[]:=List.eq_nil_of_length_eq_zero (by omega);rw [this];rfl
     rw [hL0,Int.add_zero] at hs2
     repeat' ((first
      | refine lvK ?_
      | refine lvE ?_
      | fail) <;> try (apply Cj.mk <;> first | exact trivial | intros))
     refine ⟨i+1,⟨[],hdA (lvL ?_) (lvL ?_)⟩,?_,by (try dsimp only);omega,rfl⟩ <;> (try (apply Cj.mk <;> first | exact trivial | intros))
     all_goals first | exact ⟨by omega,by omega,hB2⟩ | (rw [hs2];done)
  ·have hcx:=hc9 rfl
   obtain ⟨L,hL⟩:∃ L:List Int,L=[]:=⟨_,rfl⟩
   have hs2:S (i+1)=⟨(S i).sum+nth L 0,(S i).now,(S i).last.set A.toNat 9⟩:=by rw [hL];exact hs1
   have hk2:B (i+1)=(B i && sameB x.mod L):=by rw [hL];exact hk1
   have hrg:∀ n,n∈L→-3000≤n∧n≤3000:=by rw [hL];exact hrg
   rw [show (AV.sl [])=Is L by rw [hL];rfl] at hcx
   have hLl:L.length≤1000:=by rw [hL];simp
   clear hs1 hk1 hc6 hc7 hc8 hc9 hc10 hL
   have eL:(L.map I).length=L.length:=List.length_map _
   have h00:=nth0_rg (b:=3000) (by omega) hrg
   conv=>whnf
   repeat' ((first
    | refine lvK ?_
    | (refine .inl ?_;(conv=>whnf);refine ⟨[0,1,3],_,[Aa ⟨9,A,A'⟩,.ptr 2 0],_,_,⟨rfl,rfl,rfl⟩,hcx,lvN ?_⟩)
    | refine lvE ?_
    | fail) <;> try (apply Cj.mk <;> first | exact trivial | intros))
   refine .of (fun j=>[(45,I j)]) (fun j=>[]) 6 (fun j=>0≤j∧j≤L.length∧∀ q:Int,0≤q→q < j→(nth L q - nth L 0) % x.mod=0) (fun j=>(L.length - j).toNat) 0 ?_
   conv=>whnf
   refine ⟨⟨[],hdA (lvL ?_) (lvL ?_)⟩,?_,fun j ⟨j0,j1,hq⟩=>lvN ?_⟩ <;> (try (apply Cj.mk <;> first | exact trivial | intros))
   ·exact ⟨by omega,by omega,fun q q0 q1=>by omega⟩
   by_cases hj:j < L.length
   ·have hv:=hrg _ (nth_mem j0 hj)
    by_cases hz:(nth L j - nth L 0) % x.mod=0
    ·have hz':=tmod_zero.2 hz
     repeat' ((first
      | refine lvK ?_
      | refine And.intro (by omega) (Calc.mk _ rfl (lvN ?_))
      | refine lvE ?_
      | fail) <;> try (apply Cj.mk <;> first | exact trivial | intros))
     refine ⟨j+1,⟨[],hdA (lvL ?_) (lvL ?_)⟩,?_,by (try dsimp only);omega,rfl⟩ <;> (try (apply Cj.mk <;> first | exact trivial | intros))
     refine ⟨by omega,by omega,fun q q0 q1=>?_⟩
     by_cases hqj:q=j
     ·rw [hqj];exact hz
     ·exact hq q q0 (by omega)
    ·have hz':¬ (nth L j - nth L 0).tmod x.mod=0:=fun h=>hz (tmod_zero.1 h)
     have hres:res=false:=hSfi (by rw [hk2,sameB_not j0 hj hz,Bool.and_false])
     repeat' ((first
      | refine lvK ?_
      | refine And.intro (by omega) (Calc.mk _ rfl (lvN ?_))
      | refine lvE ?_
      | fail) <;> try (apply Cj.mk <;> first | exact trivial | intros))
     refine hR1 _ _ ?_
     conv=>whnf
     try dsimp only [St.after,St.afterAt,St.pin,St.unpin,initSt,initT,numO,cellsA,Option.map,ren,renL,renO,St.setObj,headSt,List.cons_append,List.nil_append,List.length_nil,Nat.reduceAdd]
     repeat' ((first
      | refine lvK ?_
      | refine lvE ?_
      | fail) <;> try (apply Cj.mk <;> first | exact trivial | intros))
     rw [hres]
   ·have hB2:B (i+1)=true:=by rw [hk2,hBi,sameB_all fun q q0 q1=>hq q q0 (by omega)];rfl
    by_cases hL:0 < L.length
    ·repeat' ((first
      | refine lvK ?_
      | refine lvE ?_
      | fail) <;> try (apply Cj.mk <;> first | exact trivial | intros))
     refine ⟨i+1,⟨[],hdA (lvL ?_) (lvL ?_)⟩,?_,by (try dsimp only);omega,rfl⟩ <;> (try (apply Cj.mk <;> first | exact trivial | intros))
     all_goals first | exact ⟨by omega,by omega,hB2⟩ | (rw [hs2];done)
    ·have hL0:nth L 0=0:=by have:L=[]:=List.eq_nil_of_length_eq_zero (by omega);rw [this];rfl
     rw [hL0,Int.add_zero] at hs2
     repeat' ((first
      | refine lvK ?_
      | refine lvE ?_
      | fail) <;> try (apply Cj.mk <;> first | exact trivial | intros))
     refine ⟨i+1,⟨[],hdA (lvL ?_) (lvL ?_)⟩,?_,by (try dsimp only);omega,rfl⟩ <;> (try (apply Cj.mk <;> first | exact trivial | intros))
     all_goals first | exact ⟨by omega,by omega,hB2⟩ | (rw [hs2];done)
  ·have hcx:=hc10 rfl
   have hs2:S (i+1)=⟨(S i).sum+nth (x.loseL (S i).last A) 0,(S i).now,(S i).last.set A.toNat 10⟩:=hs1
   have hk2:B (i+1)=(B i && sameB x.mod (x.loseL (S i).last A)):=hk1
   have hrg:∀ n,n∈(x.loseL (S i).last A)→-3000≤n∧n≤3000:=hrg
   have hcx:Fun Try.prog _ _ _ (Is (x.loseL (S i).last A)) _:=hcx
   clear hs1 hk1 hc6 hc7 hc8 hc9 hc10
   have hLl:(x.loseL (S i).last A).length≤1000:=(by unfold Iv.loseL;split <;> first | simp | (split <;> simp))
   generalize (x.loseL (S i).last A)=L at *
   have eL:(L.map I).length=L.length:=List.length_map _
   have h00:=nth0_rg (b:=3000) (by omega) hrg
   conv=>whnf
   repeat' ((first
    | refine lvK ?_
    | (refine .inl ?_;(conv=>whnf);refine ⟨[0,1],_,[.ptr 0 0,Aa ⟨10,A,A'⟩],_,_,⟨rfl,rfl,rfl⟩,hcx,lvN ?_⟩)
    | refine lvE ?_
    | fail) <;> try (apply Cj.mk <;> first | exact trivial | intros))
   refine .of (fun j=>[(45,I j)]) (fun j=>[]) 6 (fun j=>0≤j∧j≤L.length∧∀ q:Int,0≤q→q < j→(nth L q - nth L 0) % x.mod=0) (fun j=>(L.length - j).toNat) 0 ?_
   conv=>whnf
   refine ⟨⟨[],hdA (lvL ?_) (lvL ?_)⟩,?_,fun j ⟨j0,j1,hq⟩=>lvN ?_⟩ <;> (try (apply Cj.mk <;> first | exact trivial | intros))
   ·exact ⟨by omega,by omega,fun q q0 q1=>by omega⟩
   by_cases hj:j < L.length
   ·have hv:=hrg _ (nth_mem j0 hj)
    by_cases hz:(nth L j - nth L 0) % x.mod=0
    ·have hz':=tmod_zero.2 hz
     repeat' ((first
      | refine lvK ?_
      | refine And.intro (by omega) (Calc.mk _ rfl (lvN ?_))
      | refine lvE ?_
      | fail) <;> try (apply Cj.mk <;> first | exact trivial | intros))
     refine ⟨j+1,⟨[],hdA (lvL ?_) (lvL ?_)⟩,?_,by (try dsimp only);omega,rfl⟩ <;> (try (apply Cj.mk <;> first | exact trivial | intros))
     refine ⟨by omega,by omega,fun q q0 q1=>?_⟩
     by_cases hqj:q=j
     ·rw [hqj];exact hz
     ·exact hq q q0 (by omega)
    ·have hz':¬ (nth L j - nth L 0).tmod x.mod=0:=fun h=>hz (tmod_zero.1 h)
     have hres:res=false:=hSfi (by rw [hk2,sameB_not j0 hj hz,Bool.and_false])
     repeat' ((first
      | refine lvK ?_
      | refine And.intro (by omega) (Calc.mk _ rfl (lvN ?_))
      | refine lvE ?_
      | fail) <;> try (apply Cj.mk <;> first | exact trivial | intros))
     refine hR1 _ _ ?_
     conv=>whnf
     try dsimp only [St.after,St.afterAt,St.pin,St.unpin,initSt,initT,numO,cellsA,Option.map,ren,renL,renO,St.setObj,headSt,List.cons_append,List.nil_append,List.length_nil,Nat.reduceAdd]
     repeat' ((first
      | refine lvK ?_
      | refine lvE ?_
      | fail) <;> try (apply Cj.mk <;> first | exact trivial | intros))
     rw [hres]
   ·have hB2:B (i+1)=true:=by rw [hk2,hBi,sameB_all fun q q0 q1=>hq q q0 (by omega)];rfl
    by_cases hL:0 < L.length
    ·repeat' ((first
      | refine lvK ?_
      | refine lvE ?_
      | fail) <;> try (apply Cj.mk <;> first | exact trivial | intros))
     refine ⟨i+1,⟨[],hdA (lvL ?_) (lvL ?_)⟩,?_,by (try dsimp only);omega,rfl⟩ <;> (try (apply Cj.mk <;> first | exact trivial | intros))
     all_goals first | exact ⟨by omega,by omega,hB2⟩ | (rw [hs2];done)
    ·have hL0:nth L 0=0:=by have:L=[]:=List.eq_nil_of_length_eq_zero (by omega);rw [this];rfl
     rw [hL0,Int.add_zero] at hs2
     repeat' ((first
      | refine lvK ?_
      | refine lvE ?_
      | fail) <;> try (apply Cj.mk <;> first | exact trivial | intros))
     refine ⟨i+1,⟨[],hdA (lvL ?_) (lvL ?_)⟩,?_,by (try dsimp only);omega,rfl⟩ <;> (try (apply Cj.mk <;> first | exact trivial | intros))
     all_goals first | exact ⟨by omega,by omega,hB2⟩ | (rw [hs2];done)
 ·obtain rfl:i=p.acts.length:=by omega
  have hput:=put1_p g x (S p.acts.length).last side (S p.acts.length).now (S p.acts.length).now p.to (hx.mvR hg (by omega) r5 hp.t0 hp.t1)
  have hlf:=hx.lift_rg hg (n:=(S p.acts.length).now) (c:=p.to) (by omega) r5 hp.t0 hp.t1
  unfold mvC at hput
  rw [hBi,Bool.true_and] at hfin
  have hlt0:¬ ((p.acts.length:Int) < (p.acts.map Aa).length):=by omega
  have hres:res=decide (((S p.acts.length).sum+- x.lift (S p.acts.length).now p.to).tmod x.mod=0):=by
   rw [hfin,Int.sub_eq_add_neg]
   by_cases hz:((S p.acts.length).sum+- x.lift (S p.acts.length).now p.to) % x.mod=0
   ·rw [decide_eq_true (tmod_zero.2 hz),hz];rfl
   ·rw [decide_eq_false fun h=>hz (tmod_zero.1 h)]
    simpa using hz
  clear hfin hSf hSr hSs hSk hop hp
  generalize x.lift (S p.acts.length).now p.to=v at *
  generalize S p.acts.length=s at *
  obtain ⟨ssum,snow,slast⟩:=s
  dsimp only at *
  repeat' ((first
   | refine lvK ?_
   | refine lvE ?_
   | fail) <;> try (apply Cj.mk <;> first | exact trivial | intros))
  refine hR1 _ _ ?_
  conv=>whnf
  try dsimp only [St.after,St.afterAt,St.pin,St.unpin,initSt,initT,numO,cellsA,Option.map,ren,renL,renO,St.setObj,headSt,List.cons_append,List.nil_append,List.length_nil,Nat.reduceAdd]
  repeat' ((first
   | refine lvD ?_
   | refine ShowsJ.mk (by kernel_rfl) (by kernel_rfl) (by kernel_rfl) (lvL ?_) (lvL ?_) rfl
   | refine lvE ?_
   | fail) <;> try (apply Cj.mk <;> first | exact trivial | intros))
  refine drawJ [0,1,2,3,4,5,6,7,10,11,12,13,14] [⟨0,0,16,I snow⟩,⟨0,0,9,I x.mod⟩,⟨0,2,1,I p.to⟩] [(6,Bo (decide ((ssum+- v).tmod x.mod=0)))] [] 5 (by decide +kernel) ?_
  conv=>whnf
  refine And.intro ?_ ?_
  ·repeat' ((first
    | refine lvD ?_
    | (refine .inl ?_;(conv=>whnf);refine ⟨[0,1],_,[.ptr 0 0,I snow,I p.to],_,_,⟨rfl,rfl,rfl⟩,hput,lvN ?_⟩)
    | refine And.intro (by omega) (Calc.mk _ rfl (lvN ?_))
    | refine ShowsJ.mk (by kernel_rfl) (by kernel_rfl) (by kernel_rfl) (lvL ?_) (lvL ?_) rfl
    | refine lvE ?_
    | fail) <;> try (apply Cj.mk <;> first | exact trivial | intros))
  repeat' ((first
   | refine lvK ?_
   | refine lvE ?_
   | fail) <;> try (apply Cj.mk <;> first | exact trivial | intros))
  rw [hres]
end Go.Proofs.Ytejljpjdifblpaa
