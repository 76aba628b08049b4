/- Contracts of functions of the program, proved by the checker; and plain laws. -/
import Derived.Test.YtejljpjdifblpaaZ24
import Derived.Test.YtejljpjdifblpaaZ25
import Derived.Test.YtejljpjdifblpaaZ23
set_option linter.unusedVariables false
set_option linter.unusedSimpArgs false
namespace Go.Proofs.Ytejljpjdifblpaa
open Go Go.Sk
set_option maxHeartbeats 4000000 in
set_option maxRecDepth 10000 in
theorem liftP_p (g:Gm) (x:Iv) (side now n c:Int) (h:MvR g x n c):Pure Try.prog 51 [.pel (mvC g x side now (.sl [])),I n,I c] (I (x.lift n c)) none:=by
 have e1:(x.men.map Is).length=x.men.length:=List.length_map _
 have e2:((nth x.men 0).map I).length=(nth x.men 0).length:=List.length_map _
 have e3:((nth x.men n).map I).length=(nth x.men n).length:=List.length_map _
 obtain ⟨n0,n1,c0,c1,c2,a0,a1,b0,b1⟩:=h
 unfold Iv.lift Iv.mn
 unfold mvC
 refine fun_of tok D_ok Try.func51 rfl Try.ntmps51 Try.results51 (by kernel_rfl) (by simp) (by simp) ?_
 conv=>whnf
 repeat' ((first
  | refine lvK ?_
  | refine lvE ?_
  | fail) <;> try (apply Cj.mk <;> first | exact trivial | intros))
set_option maxHeartbeats 4000000 in
set_option maxRecDepth 10000 in
theorem putP_p (g:Gm) (x:Iv) (side now n c:Int) (h:MvR g x n c):Pure Try.prog 54 [.pel (mvC g x side now (.sl [])),I n,I c] (I (- x.lift n c)) none:=by
 have hl:=liftP_p g x side now n c h
 have hb:-1000 < x.lift n c∧x.lift n c < 1000:=by
  obtain ⟨n0,n1,c0,c1,c2,a0,a1,b0,b1⟩:=h
  unfold Iv.lift Iv.mn
  omega
 generalize x.lift n c=v at *
 unfold mvC at hl ⊢
 refine fun_of tok D_ok Try.func54 rfl Try.ntmps54 Try.results54 (by kernel_rfl) (by simp) (by simp) ?_
 conv=>whnf
 repeat' ((first
  | refine lvK ?_
  | refine ⟨_,_,hl,lvN ?_⟩
  | (refine .inl ?_;(conv=>whnf);refine ⟨_,_,hl,lvN ?_⟩)
  | refine lvE ?_
  | fail) <;> try (apply Cj.mk <;> first | exact trivial | intros))
 rw [Int.zero_sub]
set_option maxHeartbeats 4000000 in
set_option maxRecDepth 10000 in
theorem turnP_p (g:Gm) (x:Iv) (side now:Int) (hs:side=0∨side=1) (h0:0≤x.side) (h1:x.side < 1000):Pure Try.prog 52 [.pel (mvC g x side now (.sl []))] (I (x.turn side)) none:=by
 unfold Iv.turn
 unfold mvC
 rcases hs with rfl | rfl
 ·refine fun_of tok D_ok Try.func52 rfl Try.ntmps52 Try.results52 (by kernel_rfl) (by simp) (by simp) ?_
  conv=>whnf
  repeat' ((first
   | refine lvK ?_
   | refine lvE ?_
   | fail) <;> try (apply Cj.mk <;> first | exact trivial | intros))
 ·refine fun_of tok D_ok Try.func52 rfl Try.ntmps52 Try.results52 (by kernel_rfl) (by simp) (by simp) ?_
  conv=>whnf
  repeat' ((first
   | refine lvK ?_
   | refine lvE ?_
   | fail) <;> try (apply Cj.mk <;> first | exact trivial | intros))
set_option maxHeartbeats 8000000 in
set_option maxRecDepth 10000 in
theorem drops_p (g:Gm) (hg:g.ok) (x:Iv) (hx:x.ok g):Pure Try.prog 37 [g.av,x.av] (Bo (x.dropsB g)) none:=by
 have k6:=hg.k6
 have c9:=hg.c9
 have c1:=hg.b.c1
 have k1:=hg.k1
 have hnk:g.nk=g.kinds.length:=rfl
 have en:(g.kinds.map Kn).length=g.kinds.length:=List.length_map _
 have e2:(x.h0.map I).length=x.h0.length:=List.length_map _
 have e3:(x.h1.map I).length=x.h1.length:=List.length_map _
 have l0:=hx.l0
 have l1:=hx.l1
 have m2:=hx.m2
 have m3:=hx.m3
 have s0:=hx.s0
 have s1:=hx.s1
 have hyes:(∀ s k c:Int,s=0∨s=1→0≤k→k < g.nk→0≤c→c < g.b.cells→x.dropB g s k c=true)→x.dropsB g=true:=fun h=>by unfold Iv.dropsB;exact all3.2 h
 have hno:∀ s k c:Int,s=0∨s=1→0≤k→k < g.nk→0≤c→c < g.b.cells→x.dropB g s k c=false→x.dropsB g=false:=fun s k c hs k0 k1 c0 c1 h=>by
  cases hb:x.dropsB g with
  | false=>rfl
  | true=>unfold Iv.dropsB at hb;rw [all3.1 hb s k c hs k0 k1 c0 c1] at h;cases h
 have hput:=fun s n c h=>putP_p g x s 0 n c h
 have htn:=fun s hs=>turnP_p g x s 0 hs s0 (by omega)
 have htr:∀ s:Int,s=0∨s=1→-1000 < x.turn s∧x.turn s < 1000:=fun s hs=>by
  unfold Iv.turn
  rcases hs with rfl | rfl <;> omega
 unfold mvC at hput htn
 generalize x.dropsB g=res at *
 refine fun_of tok D_ok Try.func37 rfl Try.ntmps37 Try.results37 (by kernel_rfl) (by simp) (by simp) ?_
 conv=>whnf
 repeat' ((first
  | refine lvK ?_
  | refine lvE ?_
  | fail) <;> try (apply Cj.mk <;> first | exact trivial | intros))
 refine loopQ fun R1 hR1=>?_
 refine .of (fun s=>[(11,I s)]) (fun s=>[]) 2 (fun s=>(s=0∨s=1∨s=2)∧∀ s' k c:Int,0≤s'→s' < s→0≤k→k < g.nk→0≤c→c < g.b.cells→x.dropB g s' k c=true) (fun s=>(2 - s).toNat) 0 ?_
 conv=>whnf
 refine ⟨⟨[],hdA (lvL ?_) (lvL ?_)⟩,?_,fun s ⟨hs,hq⟩=>lvN ?_⟩ <;> (try (apply Cj.mk <;> first | exact trivial | intros))
 ·exact ⟨.inl rfl,fun s' k c h1 h2=>by omega⟩
 rcases hs with rfl | rfl | rfl
 ·repeat' ((first
   | refine lvK ?_
   | refine lvE ?_
   | fail) <;> try (apply Cj.mk <;> first | exact trivial | intros))
  refine loopQ fun R2 hR2=>?_
  refine .of (fun k=>[(21,I k),(6,.pel [I g.b.cells,Iss g.b.next,Is g.b.turn,.sl (g.kinds.map Kn),I g.rights,Bo g.must,.sl (g.cls.map Ca),I g.blocked,I g.endless,I x.mod,Iss x.men,Is x.h0,Is x.h1,Is x.rights,I x.side,I 0,I 0,.sl []])]) (fun k=>[]) 2 (fun k=>0≤k∧k≤g.nk∧∀ k' c:Int,0≤k'→k' < k→0≤c→c < g.b.cells→x.dropB g 0 k' c=true) (fun k=>(g.nk - k).toNat) 0 ?_
  conv=>whnf
  refine ⟨⟨[],hdA (lvL ?_) (lvL ?_)⟩,?_,fun k ⟨k0,k1',hq2⟩=>lvN ?_⟩ <;> (try (apply Cj.mk <;> first | exact trivial | intros))
  ·exact ⟨by omega,by omega,fun k' c h1 h2=>by omega⟩
  by_cases hk:k < g.nk
  ·repeat' ((first
    | refine lvK ?_
    | refine lvE ?_
    | fail) <;> try (apply Cj.mk <;> first | exact trivial | intros))
   refine loopQ fun R3 hR3=>?_
   refine .of (fun c=>[(29,I c)]) (fun c=>[]) 3 (fun c=>0≤c∧c≤g.b.cells∧∀ c':Int,0≤c'→c' < c→x.dropB g 0 k c'=true) (fun c=>(g.b.cells - c).toNat) 0 ?_
   conv=>whnf
   refine ⟨⟨[],hdA (lvL ?_) (lvL ?_)⟩,?_,fun c ⟨c0,c1',hq3⟩=>lvN ?_⟩ <;> (try (apply Cj.mk <;> first | exact trivial | intros))
   ·exact ⟨by omega,by omega,fun c' h1 h2=>by omega⟩
   by_cases hc:c < g.b.cells
   ·have hcd:1≤code k 0∧code k 0≤2 * g.nk:=by unfold code;omega
    have hlf:=hx.lift_rg hg (n:=code k 0) (c:=c) (by omega) hcd.2 c0 hc
    have hpp:=hput 0 (code k 0) c (hx.mvR hg (by omega) hcd.2 c0 hc)
    have htt:=htn 0 (by omega)
    have htv:=htr 0 (by omega)
    have hcc:=ICode_p k 0
    have hh:0≤nth x.h0 k∧nth x.h0 k < x.mod:=hx.hd 0 k k0 hk
    have hD:x.dropB g 0 k c=(!g.keep k || (- x.lift (code k 0) c - nth x.h0 k+x.turn 0) % x.mod == 0):=rfl
    have hno:=hno 0 k c (by omega) k0 hk c0 hc
    generalize x.lift (code k 0) c=v at *
    generalize code k 0=w at *
    generalize x.turn 0=t at *
    repeat' ((first
     | refine lvK ?_
     | refine ⟨_,_,hcc,lvN ?_⟩
     | (refine .inl ?_;(conv=>whnf);refine ⟨_,_,hcc,lvN ?_⟩)
     | refine ⟨_,_,hpp,lvN ?_⟩
     | (refine .inl ?_;(conv=>whnf);refine ⟨_,_,hpp,lvN ?_⟩)
     | refine ⟨_,_,htt,lvN ?_⟩
     | (refine .inl ?_;(conv=>whnf);refine ⟨_,_,htt,lvN ?_⟩)
     | refine And.intro (by omega) (Calc.mk _ rfl (lvN ?_))
     | refine lvE ?_
     | fail) <;> try (apply Cj.mk <;> first | exact trivial | intros))
    ·rename_i z1 z2
     have hres:res=false:=hno (by rw [hD,show g.keep k=true from z1];simpa [tmod_zero] using z2)
     refine hR3 _ _ ?_
     conv=>whnf
     try dsimp only [St.after,St.afterAt,St.pin,St.unpin,initSt,initT,numO,cellsA,Option.map,ren,renL,renO,St.setObj,headSt,List.cons_append,List.nil_append,List.length_nil,Nat.reduceAdd]
     refine hR2 _ _ ?_
     conv=>whnf
     try dsimp only [St.after,St.afterAt,St.pin,St.unpin,initSt,initT,numO,cellsA,Option.map,ren,renL,renO,St.setObj,headSt,List.cons_append,List.nil_append,List.length_nil,Nat.reduceAdd]
     refine hR1 _ _ ?_
     conv=>whnf
     try dsimp only [St.after,St.afterAt,St.pin,St.unpin,initSt,initT,numO,cellsA,Option.map,ren,renL,renO,St.setObj,headSt,List.cons_append,List.nil_append,List.length_nil,Nat.reduceAdd]
     repeat' ((first
      | refine lvK ?_
      | refine lvE ?_
      | fail) <;> try (apply Cj.mk <;> first | exact trivial | intros))
     rw [hres]
    ·rename_i z1 z2
     refine ⟨c+1,⟨[],hdA (lvL ?_) (lvL ?_)⟩,?_,by (try dsimp only);omega,rfl⟩ <;> (try (apply Cj.mk <;> first | exact trivial | intros))
     refine ⟨by omega,by omega,fun c' h1 h2=>?_⟩
     by_cases e:c'=c
     ·rw [e,hD,show g.keep k=true from z1];simpa [tmod_zero] using z2
     ·exact hq3 c' h1 (by omega)
    ·rename_i z1
     refine ⟨c+1,⟨[],hdA (lvL ?_) (lvL ?_)⟩,?_,by (try dsimp only);omega,rfl⟩ <;> (try (apply Cj.mk <;> first | exact trivial | intros))
     refine ⟨by omega,by omega,fun c' h1 h2=>?_⟩
     by_cases e:c'=c
     ·rw [e,hD,show g.keep k=false from z1];rfl
     ·exact hq3 c' h1 (by omega)
   ·obtain rfl:c=g.b.cells:=by omega
    repeat' ((first
     | refine lvK ?_
     | refine lvE ?_
     | fail) <;> try (apply Cj.mk <;> first | exact trivial | intros))
    refine hR3 _ _ ?_
    conv=>whnf
    try dsimp only [St.after,St.afterAt,St.pin,St.unpin,initSt,initT,numO,cellsA,Option.map,ren,renL,renO,St.setObj,headSt,List.cons_append,List.nil_append,List.length_nil,Nat.reduceAdd]
    repeat' ((first
     | refine lvK ?_
     | refine lvE ?_
     | fail) <;> try (apply Cj.mk <;> first | exact trivial | intros))
    refine ⟨k+1,⟨[],hdA (lvL ?_) (lvL ?_)⟩,?_,by (try dsimp only);omega,rfl⟩ <;> (try (apply Cj.mk <;> first | exact trivial | intros))
    refine ⟨by omega,by omega,fun k' c h1 h2 h3 h4=>?_⟩
    by_cases e:k'=k
    ·rw [e];exact hq3 c h3 h4
    ·exact hq2 k' c h1 (by omega) h3 h4
  ·obtain rfl:k=g.nk:=by omega
   repeat' ((first
    | refine lvK ?_
    | refine lvE ?_
    | fail) <;> try (apply Cj.mk <;> first | exact trivial | intros))
   refine hR2 _ _ ?_
   conv=>whnf
   try dsimp only [St.after,St.afterAt,St.pin,St.unpin,initSt,initT,numO,cellsA,Option.map,ren,renL,renO,St.setObj,headSt,List.cons_append,List.nil_append,List.length_nil,Nat.reduceAdd]
   repeat' ((first
    | refine lvK ?_
    | refine lvE ?_
    | fail) <;> try (apply Cj.mk <;> first | exact trivial | intros))
   refine ⟨0+1,⟨[],hdA (lvL ?_) (lvL ?_)⟩,?_,by (try dsimp only);omega,rfl⟩ <;> (try (apply Cj.mk <;> first | exact trivial | intros))
   refine ⟨by omega,fun s' k c h1 h2 h3 h4 h5 h6=>?_⟩
   by_cases e:s'=0
   ·rw [e];exact hq2 k c h3 h4 h5 h6
   ·exact hq s' k c h1 (by omega) h3 h4 h5 h6
 ·repeat' ((first
   | refine lvK ?_
   | refine lvE ?_
   | fail) <;> try (apply Cj.mk <;> first | exact trivial | intros))
  refine loopQ fun R2 hR2=>?_
  refine .of (fun k=>[(21,I k),(6,.pel [I g.b.cells,Iss g.b.next,Is g.b.turn,.sl (g.kinds.map Kn),I g.rights,Bo g.must,.sl (g.cls.map Ca),I g.blocked,I g.endless,I x.mod,Iss x.men,Is x.h0,Is x.h1,Is x.rights,I x.side,I 1,I 0,.sl []])]) (fun k=>[]) 2 (fun k=>0≤k∧k≤g.nk∧∀ k' c:Int,0≤k'→k' < k→0≤c→c < g.b.cells→x.dropB g 1 k' c=true) (fun k=>(g.nk - k).toNat) 0 ?_
  conv=>whnf
  refine ⟨⟨[],hdA (lvL ?_) (lvL ?_)⟩,?_,fun k ⟨k0,k1',hq2⟩=>lvN ?_⟩ <;> (try (apply Cj.mk <;> first | exact trivial | intros))
  ·exact ⟨by omega,by omega,fun k' c h1 h2=>by omega⟩
  by_cases hk:k < g.nk
  ·repeat' ((first
    | refine lvK ?_
    | refine lvE ?_
    | fail) <;> try (apply Cj.mk <;> first | exact trivial | intros))
   refine loopQ fun R3 hR3=>?_
   refine .of (fun c=>[(29,I c)]) (fun c=>[]) 3 (fun c=>0≤c∧c≤g.b.cells∧∀ c':Int,0≤c'→c' < c→x.dropB g 1 k c'=true) (fun c=>(g.b.cells - c).toNat) 0 ?_
   conv=>whnf
   refine ⟨⟨[],hdA (lvL ?_) (lvL ?_)⟩,?_,fun c ⟨c0,c1',hq3⟩=>lvN ?_⟩ <;> (try (apply Cj.mk <;> first | exact trivial | intros))
   ·exact ⟨by omega,by omega,fun c' h1 h2=>by omega⟩
   by_cases hc:c < g.b.cells
   ·have hcd:1≤code k 1∧code k 1≤2 * g.nk:=by unfold code;omega
    have hlf:=hx.lift_rg hg (n:=code k 1) (c:=c) (by omega) hcd.2 c0 hc
    have hpp:=hput 1 (code k 1) c (hx.mvR hg (by omega) hcd.2 c0 hc)
    have htt:=htn 1 (by omega)
    have htv:=htr 1 (by omega)
    have hcc:=ICode_p k 1
    have hh:0≤nth x.h1 k∧nth x.h1 k < x.mod:=hx.hd 1 k k0 hk
    have hD:x.dropB g 1 k c=(!g.keep k || (- x.lift (code k 1) c - nth x.h1 k+x.turn 1) % x.mod == 0):=rfl
    have hno:=hno 1 k c (by omega) k0 hk c0 hc
    generalize x.lift (code k 1) c=v at *
    generalize code k 1=w at *
    generalize x.turn 1=t at *
    repeat' ((first
     | refine lvK ?_
     | refine ⟨_,_,hcc,lvN ?_⟩
     | (refine .inl ?_;(conv=>whnf);refine ⟨_,_,hcc,lvN ?_⟩)
     | refine ⟨_,_,hpp,lvN ?_⟩
     | (refine .inl ?_;(conv=>whnf);refine ⟨_,_,hpp,lvN ?_⟩)
     | refine ⟨_,_,htt,lvN ?_⟩
     | (refine .inl ?_;(conv=>whnf);refine ⟨_,_,htt,lvN ?_⟩)
     | refine And.intro (by omega) (Calc.mk _ rfl (lvN ?_))
     | refine lvE ?_
     | fail) <;> try (apply Cj.mk <;> first | exact trivial | intros))
    ·rename_i z1 z2
     have hres:res=false:=hno (by rw [hD,show g.keep k=true from z1];simpa [tmod_zero] using z2)
     refine hR3 _ _ ?_
     conv=>whnf
     try dsimp only [St.after,St.afterAt,St.pin,St.unpin,initSt,initT,numO,cellsA,Option.map,ren,renL,renO,St.setObj,headSt,List.cons_append,List.nil_append,List.length_nil,Nat.reduceAdd]
     refine hR2 _ _ ?_
     conv=>whnf
     try dsimp only [St.after,St.afterAt,St.pin,St.unpin,initSt,initT,numO,cellsA,Option.map,ren,renL,renO,St.setObj,headSt,List.cons_append,List.nil_append,List.length_nil,Nat.reduceAdd]
     refine hR1 _ _ ?_
     conv=>whnf
     try dsimp only [St.after,St.afterAt,St.pin,St.unpin,initSt,initT,numO,cellsA,Option.map,ren,renL,renO,St.setObj,headSt,List.cons_append,List.nil_append,List.length_nil,Nat.reduceAdd]
     repeat' ((first
      | refine lvK ?_
      | refine lvE ?_
      | fail) <;> try (apply Cj.mk <;> first | exact trivial | intros))
     rw [hres]
    ·rename_i z1 z2
     refine ⟨c+1,⟨[],hdA (lvL ?_) (lvL ?_)⟩,?_,by (try dsimp only);omega,rfl⟩ <;> (try (apply Cj.mk <;> first | exact trivial | intros))
     refine ⟨by omega,by omega,fun c' h1 h2=>?_⟩
     by_cases e:c'=c
     ·rw [e,hD,show g.keep k=true from z1];simpa [tmod_zero] using z2
     ·exact hq3 c' h1 (by omega)
    ·rename_i z1
     refine ⟨c+1,⟨[],hdA (lvL ?_) (lvL ?_)⟩,?_,by (try dsimp only);omega,rfl⟩ <;> (try (apply Cj.mk <;> first | exact trivial | intros))
     refine ⟨by omega,by omega,fun c' h1 h2=>?_⟩
     by_cases e:c'=c
     ·rw [e,hD,show g.keep k=false from z1];rfl
     ·exact hq3 c' h1 (by omega)
   ·obtain rfl:c=g.b.cells:=by omega
    repeat' ((first
     | refine lvK ?_
     | refine lvE ?_
     | fail) <;> try (apply Cj.mk <;> first | exact trivial | intros))
    refine hR3 _ _ ?_
    conv=>whnf
    try dsimp only [St.after,St.afterAt,St.pin,St.unpin,initSt,initT,numO,cellsA,Option.map,ren,renL,renO,St.setObj,headSt,List.cons_append,List.nil_append,List.length_nil,Nat.reduceAdd]
    repeat' ((first
     | refine lvK ?_
     | refine lvE ?_
     | fail) <;> try (apply Cj.mk <;> first | exact trivial | intros))
    refine ⟨k+1,⟨[],hdA (lvL ?_) (lvL ?_)⟩,?_,by (try dsimp only);omega,rfl⟩ <;> (try (apply Cj.mk <;> first | exact trivial | intros))
    refine ⟨by omega,by omega,fun k' c h1 h2 h3 h4=>?_⟩
    by_cases e:k'=k
    ·rw [e];exact hq3 c h3 h4
    ·exact hq2 k' c h1 (by omega) h3 h4
  ·obtain rfl:k=g.nk:=by omega
   repeat' ((first
    | refine lvK ?_
    | refine lvE ?_
    | fail) <;> try (apply Cj.mk <;> first | exact trivial | intros))
   refine hR2 _ _ ?_
   conv=>whnf
   try dsimp only [St.after,St.afterAt,St.pin,St.unpin,initSt,initT,numO,cellsA,Option.map,ren,renL,renO,St.setObj,headSt,List.cons_append,List.nil_append,List.length_nil,Nat.reduceAdd]
   repeat' ((first
    | refine lvK ?_
    | refine lvE ?_
    | fail) <;> try (apply Cj.mk <;> first | exact trivial | intros))
   refine ⟨1+1,⟨[],hdA (lvL ?_) (lvL ?_)⟩,?_,by (try dsimp only);omega,rfl⟩ <;> (try (apply Cj.mk <;> first | exact trivial | intros))
   refine ⟨by omega,fun s' k c h1 h2 h3 h4 h5 h6=>?_⟩
   by_cases e:s'=1
   ·rw [e];exact hq2 k c h3 h4 h5 h6
   ·exact hq s' k c h1 (by omega) h3 h4 h5 h6
 ·repeat' ((first
   | refine lvK ?_
   | refine lvE ?_
   | fail) <;> try (apply Cj.mk <;> first | exact trivial | intros))
  refine hR1 _ _ ?_
  conv=>whnf
  try dsimp only [St.after,St.afterAt,St.pin,St.unpin,initSt,initT,numO,cellsA,Option.map,ren,renL,renO,St.setObj,headSt,List.cons_append,List.nil_append,List.length_nil,Nat.reduceAdd]
  repeat' ((first
   | refine lvK ?_
   | refine lvE ?_
   | fail) <;> try (apply Cj.mk <;> first | exact trivial | intros))
  rw [hyes fun s k c hs k0 k1 c0 c1=>hq s k c (by omega) (by omega) k0 k1 c0 c1]
theorem op_app {l:List Ac} {b:Ac} (hl:∀ a,a∈l→3≤a.op∧a.op≤10) (hb:3≤b.op∧b.op≤10):∀ a,a∈l++[b]→3≤a.op∧a.op≤10:=fun a ha=>by
 rcases List.mem_append.1 ha with ha | ha
 ·exact hl a ha
 ·rw [List.mem_singleton] at ha;subst ha;exact hb
theorem slide_op {p:Pth} (hp:∀ a,a∈p.acts→3≤a.op∧a.op≤10):∀ (l:List Int) (more:List Ac),(∀ a,a∈more→3≤a.op∧a.op≤10)→∀ q,q∈slideP p more l→∀ a,a∈q.acts→3≤a.op∧a.op≤10
 | [],more,_,q,hq=>by simp [slideP] at hq
 | c :: r,more,hm,q,hq=>by
  rcases List.mem_cons.1 hq with rfl | hq
  ·intro a ha
   rcases List.mem_append.1 ha with ha | ha
   ·exact hp a ha
   ·exact hm a ha
  ·exact slide_op hp r _ (op_app hm (by dsimp only;omega)) q hq
theorem extR_op {b:Bd} {side:Int} {p:Pth} {x:Stp} {ds ks rs:Int} (hx:StpOk ds ks rs x) (hp:∀ a,a∈p.acts→3≤a.op∧a.op≤10):∀ q,q∈extR b side p x→∀ a,a∈q.acts→3≤a.op∧a.op≤10:=fun q hq=>by
 unfold StpOk at hx
 unfold extR at hq
 split at hq
 ·split at hq
  ·simp at hq
  ·rw [List.mem_singleton] at hq;subst hq;exact hp
 ·split at hq
  ·split at hq
   ·simp at hq
   ·rw [List.mem_singleton] at hq;subst hq;exact op_app hp (by dsimp only;omega)
  ·split at hq
   ·exact slide_op hp _ [] (by simp) q hq
   ·split at hq
    ·rw [List.mem_singleton] at hq;subst hq;exact op_app hp (by dsimp only;omega)
    ·rw [List.mem_singleton] at hq;subst hq;exact op_app hp (by dsimp only;omega)
theorem pathsR_op {b:Bd} {side:Int} {ds ks rs:Int}:∀ (pg:List Stp) (now:List Pth),(∀ x,x∈pg→StpOk ds ks rs x)→(∀ q,q∈now→∀ a,a∈q.acts→3≤a.op∧a.op≤10)→∀ q,q∈pg.foldl (fun now x=>now.flatMap (extR b side · x)) now→∀ a,a∈q.acts→3≤a.op∧a.op≤10
 | [],now,_,hn,q,hq=>hn q hq
 | x :: r,now,hp,hn,q,hq=>by
  refine pathsR_op r _ (fun y hy=>hp y (by simp [hy])) (fun u hu=>?_) q hq
  obtain ⟨v,hv,huv⟩:=List.mem_flatMap.1 hu
  exact extR_op (hp x (by simp)) (hn v hv) u huv
theorem pathsK_op {g:Gm} (hg:g.ok) {side k c:Int} (k0:0≤k) (k1:k < g.nk):∀ q,q∈g.pathsK side k c→∀ a,a∈q.acts→3≤a.op∧a.op≤10:=fun q hq=>by
 obtain ⟨pg,hpg,hq⟩:=List.mem_flatMap.1 hq
 refine pathsR_op pg _ (hg.pg k k0 k1 pg hpg).st (fun u hu=>?_) q hq
 rw [List.mem_singleton] at hu
 subst hu
 simp
def Cs (l:List (List Pth)):AV:=.sl (l.map Pas)
def Gm.codeL (g:Gm) (side:Int):List (List (List Pth)):=(ints g.nk).map fun k=>(ints g.b.cells).map fun c=>g.pathsK side k c
theorem codeA_eq (g:Gm):g.codeA=.ag [.sl ((g.codeL 0).map Cs),.sl ((g.codeL 1).map Cs)]:=by
 have:∀ s:Int,g.kindsC s g.nk=(g.codeL s).map Cs:=fun s=>by
  unfold Gm.kindsC Gm.codeL
  rw [List.map_map]
  refine List.map_congr_left fun k _=>?_
  show g.cellsC s k=Cs _
  unfold Gm.cellsC Cs
  rw [List.map_map];rfl
 unfold Gm.codeA
 rw [this 0,this 1]
structure KeptM (g:Gm) (x:Iv) (C:Int→List (List (List Pth))) (b:Int→Int→Int→Int→Bool) (res dr:Bool):Prop where
 cd:g.codeA=.ag [.sl ((C 0).map Cs),.sl ((C 1).map Cs)]
 l0:∀ s:Int,((C s).length:Int)=g.nk
 l1:∀ s k:Int,0≤k→k < g.nk→((nth (C s) k).length:Int)=g.b.cells
 l2:∀ s k c:Int,0≤k→k < g.nk→0≤c→c < g.b.cells→(nth (nth (C s) k) c).length≤344373768
 call:∀ s k c i:Int,s=0∨s=1→0≤k→k < g.nk→0≤c→c < g.b.cells→0≤i→i < (nth (nth (C s) k) c).length→Fun Try.prog 36 [.box (mvC g x s (code k s) (.ref 1)),.arr 1 ((List.replicate g.rights.toNat 0).map I)] [.ptr 0 0,I c,Pa (nth (nth (nth (C s) k) c) i)] (Bo (b s k c i)) [.dead,.dead]
 no:∀ s k c i:Int,s=0∨s=1→0≤k→k < g.nk→0≤c→c < g.b.cells→0≤i→i < (nth (nth (C s) k) c).length→b s k c i=false→res=false
 yes:(∀ s k c i:Int,s=0∨s=1→0≤k→k < g.nk→0≤c→c < g.b.cells→0≤i→i < (nth (nth (C s) k) c).length→b s k c i=true)→res=dr
theorem keptM (g:Gm) (hg:g.ok) (x:Iv) (hx:x.ok g):∃ C b,KeptM g x C b (x.keptB g) (x.dropsB g):=by
 have hat:∀ s k c:Int,0≤k→k < g.nk→0≤c→c < g.b.cells→nth (nth (g.codeL s) k) c=g.pathsK s k c:=fun s k c k0 k1 c0 c1=>by
  unfold Gm.codeL
  rw [nth_map_ints k0 k1,nth_map_ints c0 c1]
 have k1:=hg.k1
 have c1:=hg.b.c1
 refine ⟨g.codeL,fun s k c i=>x.keepsB g s k c (nth (nth (nth (g.codeL s) k) c) i),codeA_eq g,fun s=>?_,fun s k k0 k1=>?_,fun s k c k0 k1 c0 c1=>?_,fun s k c i hs k0 k1 c0 c1 i0 i1=>?_,fun s k c i hs k0 k1 c0 c1 i0 i1 h=>?_,fun h=>?_⟩
 ·unfold Gm.codeL;rw [List.length_map,ints_len];omega
 ·unfold Gm.codeL;rw [nth_map_ints k0 k1,List.length_map,ints_len];omega
 ·rw [hat s k c k0 k1 c0 c1];exact (pathsK_len hg s k0 k1 c).1
 ·rw [hat s k c k0 k1 c0 c1] at i1 ⊢
  have hp:=nth_mem i0 i1
  exact keeps_p g hg x hx s k c hs k0 k1 c0 c1 _ (pathsK_ok hg k0 k1 c0 c1 _ hp) (pathsK_op hg k0 k1 _ hp) (by have:=(pathsK_len hg s k0 k1 c).2 _ hp;omega)
 ·cases hb:x.keptB g with
  | false=>rfl
  | true =>
   unfold Iv.keptB Iv.pathsB at hb
   rw [Bool.and_eq_true,all3] at hb
   rw [hat s k c k0 k1 c0 c1] at i1 h
   have:=hb.1 s k c hs k0 k1 c0 c1
   rw [List.all_eq_true] at this
   rw [this _ (nth_mem i0 i1)] at h
   cases h
 ·have:x.pathsB g=true:=by
   unfold Iv.pathsB
   rw [all3]
   intro s k c hs k0 k1 c0 c1
   rw [List.all_eq_true]
   intro p hp
   obtain ⟨i,i0,i1,rfl⟩:=mem_nth hp
   have:=h s k c i hs k0 k1 c0 c1 i0 (by rw [hat s k c k0 k1 c0 c1];exact i1)
   rwa [hat s k c k0 k1 c0 c1] at this
  unfold Iv.keptB
  rw [this,Bool.true_and]
set_option maxHeartbeats 8000000 in
set_option maxRecDepth 10000 in
theorem kept_p (g:Gm) (hg:g.ok) (x:Iv) (hx:x.ok g):Pure Try.prog 24 [g.av,g.codeA,x.av] (Bo (x.keptB g)) none:=by
 have k6:=hg.k6
 have c9:=hg.c9
 have c1:=hg.b.c1
 have k1:=hg.k1
 have r0:=hg.r0
 have r4:=hg.r4
 have hdr:=drops_p g hg x hx
 obtain ⟨C,b,hM⟩:=keptM g hg x hx
 rw [hM.cd]
 have hl0:=hM.l0
 have hl1:=hM.l1
 have hl2:=hM.l2
 have hcall:=hM.call
 have hno:=hM.no
 have hyes:=hM.yes
 clear hM
 generalize x.keptB g=res at *
 generalize x.dropsB g=dr at *
 have hrep:(List.replicate g.rights.toNat (0:Int)).map I=List.replicate g.rights.toNat (I 0):=by rw [List.map_replicate]
 unfold mvC at hcall
 rw [hrep] at hcall
 refine fun_of tok D_ok Try.func24 rfl Try.ntmps24 Try.results24 (by kernel_rfl) (by simp) (by simp) ?_
 conv=>whnf
 repeat' ((first
  | refine lvK ?_
  | refine lvE ?_
  | fail) <;> try (apply Cj.mk <;> first | exact trivial | intros))
 refine loopQ fun R1 hR1=>?_
 refine .of (fun s=>[(18,I s)]) (fun s=>[]) 3 (fun s=>(s=0∨s=1∨s=2)∧∀ s' k c i:Int,0≤s'→s' < s→0≤k→k < g.nk→0≤c→c < g.b.cells→0≤i→i < (nth (nth (C s') k) c).length→b s' k c i=true) (fun s=>(2 - s).toNat) 0 ?_
 conv=>whnf
 refine ⟨⟨[],hdA (lvL ?_) (lvL ?_)⟩,?_,fun s ⟨hs,hq⟩=>lvN ?_⟩ <;> (try (apply Cj.mk <;> first | exact trivial | intros))
 ·exact ⟨.inl rfl,fun s' k c i h1 h2=>by omega⟩
 rcases hs with rfl | rfl | rfl
 ·have l0:=hl0 0
  have e0:((C 0).map Cs).length=(C 0).length:=List.length_map _
  have hcall:=fun k c i=>hcall 0 k c i (by omega)
  have hno:=fun k c i=>hno 0 k c i (by omega)
  repeat' ((first
   | refine lvK ?_
   | refine lvE ?_
   | fail) <;> try (apply Cj.mk <;> first | exact trivial | intros))
  refine loopQ fun R2 hR2=>?_
  refine .of (fun k=>[(24,I k)]) (fun k=>[]) 3 (fun k=>0≤k∧k≤g.nk∧∀ k' c i:Int,0≤k'→k' < k→0≤c→c < g.b.cells→0≤i→i < (nth (nth (C 0) k') c).length→b 0 k' c i=true) (fun k=>(g.nk - k).toNat) 0 ?_
  conv=>whnf
  refine ⟨⟨[],hdA (lvL ?_) (lvL ?_)⟩,?_,fun k ⟨k0,k1',hq2⟩=>lvN ?_⟩ <;> (try (apply Cj.mk <;> first | exact trivial | intros))
  ·exact ⟨by omega,by omega,fun k' c i h1 h2=>by omega⟩
  by_cases hk:k < g.nk
  ·have l1:=hl1 0 k k0 hk
   have e1:((nth (C 0) k).map Pas).length=(nth (C 0) k).length:=List.length_map _
   have hcc:=ICode_p k 0
   have hcallk:=fun c i=>hcall k c i
   generalize code k 0=w at *
   repeat' ((first
    | refine lvK ?_
    | refine lvE ?_
    | fail) <;> try (apply Cj.mk <;> first | exact trivial | intros))
   refine loopQ fun R3 hR3=>?_
   refine .of (fun c=>[(31,I c)]) (fun c=>[]) 3 (fun c=>0≤c∧c≤g.b.cells∧∀ c' i:Int,0≤c'→c' < c→0≤i→i < (nth (nth (C 0) k) c').length→b 0 k c' i=true) (fun c=>(g.b.cells - c).toNat) 0 ?_
   conv=>whnf
   refine ⟨⟨[],hdA (lvL ?_) (lvL ?_)⟩,?_,fun c ⟨c0,c1',hq3⟩=>lvN ?_⟩ <;> (try (apply Cj.mk <;> first | exact trivial | intros))
   ·exact ⟨by omega,by omega,fun c' i h1 h2=>by omega⟩
   by_cases hc:c < g.b.cells
   ·have l2:=hl2 0 k c k0 hk c0 hc
    have e2:((nth (nth (C 0) k) c).map Pa).length=(nth (nth (C 0) k) c).length:=List.length_map _
    repeat' ((first
     | refine lvK ?_
     | refine lvE ?_
     | fail) <;> try (apply Cj.mk <;> first | exact trivial | intros))
    refine loopQ fun R4 hR4=>?_
    refine .of (fun i=>[(38,I i)]) (fun i=>[]) 3 (fun i=>0≤i∧i≤(nth (nth (C 0) k) c).length∧∀ i':Int,0≤i'→i' < i→b 0 k c i'=true) (fun i=>((nth (nth (C 0) k) c).length - i).toNat) 0 ?_
    conv=>whnf
    refine ⟨⟨[],hdA (lvL ?_) (lvL ?_)⟩,?_,fun i ⟨i0,i1',hq4⟩=>lvN ?_⟩ <;> (try (apply Cj.mk <;> first | exact trivial | intros))
    ·exact ⟨by omega,by omega,fun i' h1 h2=>by omega⟩
    by_cases hi:i < (nth (nth (C 0) k) c).length
    ·have hcl:=hcallk c i k0 hk c0 hc i0 hi
     have hno:=hno k c i k0 hk c0 hc i0 hi
     by_cases hb:b 0 k c i=true
     ·rw [hb] at hcl
      repeat' ((first
       | refine lvK ?_
       | refine ⟨_,_,hcc,lvN ?_⟩
       | (refine .inl ?_;(conv=>whnf);refine ⟨_,_,hcc,lvN ?_⟩)
       | (refine .inl ?_;(conv=>whnf);refine ⟨[14,12],_,[.ptr 0 0,I c,Pa (nth (nth (nth (C 0) k) c) i)],_,_,⟨rfl,rfl,rfl⟩,hcl,lvN ?_⟩)
       | refine lvE ?_
       | fail) <;> try (apply Cj.mk <;> first | exact trivial | intros))
      refine ⟨i+1,⟨[],hdA (lvL ?_) (lvL ?_)⟩,?_,by (try dsimp only);omega,rfl⟩ <;> (try (apply Cj.mk <;> first | exact trivial | intros))
      refine ⟨by omega,by omega,fun i' h1 h2=>?_⟩
      by_cases e:i'=i
      ·rw [e];exact hb
      ·exact hq4 i' h1 (by omega)
     ·have hb:b 0 k c i=false:=by simpa using hb
      have hres:res=false:=hno hb
      rw [hb] at hcl
      repeat' ((first
       | refine lvK ?_
       | refine ⟨_,_,hcc,lvN ?_⟩
       | (refine .inl ?_;(conv=>whnf);refine ⟨_,_,hcc,lvN ?_⟩)
       | (refine .inl ?_;(conv=>whnf);refine ⟨[14,12],_,[.ptr 0 0,I c,Pa (nth (nth (nth (C 0) k) c) i)],_,_,⟨rfl,rfl,rfl⟩,hcl,lvN ?_⟩)
       | refine lvE ?_
       | fail) <;> try (apply Cj.mk <;> first | exact trivial | intros))
      refine hR4 _ _ ?_
      conv=>whnf
      try dsimp only [St.after,St.afterAt,St.pin,St.unpin,initSt,initT,numO,cellsA,Option.map,ren,renL,renO,St.setObj,headSt,List.cons_append,List.nil_append,List.length_nil,Nat.reduceAdd]
      refine hR3 _ _ ?_
      conv=>whnf
      try dsimp only [St.after,St.afterAt,St.pin,St.unpin,initSt,initT,numO,cellsA,Option.map,ren,renL,renO,St.setObj,headSt,List.cons_append,List.nil_append,List.length_nil,Nat.reduceAdd]
      refine hR2 _ _ ?_
      conv=>whnf
      try dsimp only [St.after,St.afterAt,St.pin,St.unpin,initSt,initT,numO,cellsA,Option.map,ren,renL,renO,St.setObj,headSt,List.cons_append,List.nil_append,List.length_nil,Nat.reduceAdd]
      refine hR1 _ _ ?_
      conv=>whnf
      try dsimp only [St.after,St.afterAt,St.pin,St.unpin,initSt,initT,numO,cellsA,Option.map,ren,renL,renO,St.setObj,headSt,List.cons_append,List.nil_append,List.length_nil,Nat.reduceAdd]
      repeat' ((first
       | refine lvK ?_
       | refine lvE ?_
       | fail) <;> try (apply Cj.mk <;> first | exact trivial | intros))
      rw [hres]
    ·obtain rfl:i=(nth (nth (C 0) k) c).length:=by omega
     repeat' ((first
      | refine lvK ?_
      | refine lvE ?_
      | fail) <;> try (apply Cj.mk <;> first | exact trivial | intros))
     refine hR4 _ _ ?_
     conv=>whnf
     try dsimp only [St.after,St.afterAt,St.pin,St.unpin,initSt,initT,numO,cellsA,Option.map,ren,renL,renO,St.setObj,headSt,List.cons_append,List.nil_append,List.length_nil,Nat.reduceAdd]
     repeat' ((first
      | refine lvK ?_
      | refine lvE ?_
      | fail) <;> try (apply Cj.mk <;> first | exact trivial | intros))
     refine ⟨c+1,⟨[],hdA (lvL ?_) (lvL ?_)⟩,?_,by (try dsimp only);omega,rfl⟩ <;> (try (apply Cj.mk <;> first | exact trivial | intros))
     refine ⟨by omega,by omega,fun c' i h1 h2 h3 h4=>?_⟩
     by_cases e:c'=c
     ·rw [e] at h4 ⊢;exact hq4 i h3 h4
     ·exact hq3 c' i h1 (by omega) h3 h4
   ·obtain rfl:c=g.b.cells:=by omega
    repeat' ((first
     | refine lvK ?_
     | refine lvE ?_
     | fail) <;> try (apply Cj.mk <;> first | exact trivial | intros))
    refine hR3 _ _ ?_
    conv=>whnf
    try dsimp only [St.after,St.afterAt,St.pin,St.unpin,initSt,initT,numO,cellsA,Option.map,ren,renL,renO,St.setObj,headSt,List.cons_append,List.nil_append,List.length_nil,Nat.reduceAdd]
    repeat' ((first
     | refine lvK ?_
     | refine lvE ?_
     | fail) <;> try (apply Cj.mk <;> first | exact trivial | intros))
    refine ⟨k+1,⟨[],hdA (lvL ?_) (lvL ?_)⟩,?_,by (try dsimp only);omega,rfl⟩ <;> (try (apply Cj.mk <;> first | exact trivial | intros))
    refine ⟨by omega,by omega,fun k' c i h1 h2 h3 h4 h5 h6=>?_⟩
    by_cases e:k'=k
    ·rw [e] at h6 ⊢;exact hq3 c i h3 h4 h5 h6
    ·exact hq2 k' c i h1 (by omega) h3 h4 h5 h6
  ·obtain rfl:k=g.nk:=by omega
   repeat' ((first
    | refine lvK ?_
    | refine lvE ?_
    | fail) <;> try (apply Cj.mk <;> first | exact trivial | intros))
   refine hR2 _ _ ?_
   conv=>whnf
   try dsimp only [St.after,St.afterAt,St.pin,St.unpin,initSt,initT,numO,cellsA,Option.map,ren,renL,renO,St.setObj,headSt,List.cons_append,List.nil_append,List.length_nil,Nat.reduceAdd]
   repeat' ((first
    | refine lvK ?_
    | refine lvE ?_
    | fail) <;> try (apply Cj.mk <;> first | exact trivial | intros))
   refine ⟨0+1,⟨[],hdA (lvL ?_) (lvL ?_)⟩,?_,by (try dsimp only);omega,rfl⟩ <;> (try (apply Cj.mk <;> first | exact trivial | intros))
   refine ⟨by omega,fun s' k c i h1 h2 h3 h4 h5 h6 h7 h8=>?_⟩
   by_cases e:s'=0
   ·rw [e] at h8 ⊢;exact hq2 k c i h3 h4 h5 h6 h7 h8
   ·exact hq s' k c i h1 (by omega) h3 h4 h5 h6 h7 h8
 ·have l0:=hl0 1
  have e0:((C 1).map Cs).length=(C 1).length:=List.length_map _
  have hcall:=fun k c i=>hcall 1 k c i (by omega)
  have hno:=fun k c i=>hno 1 k c i (by omega)
  repeat' ((first
   | refine lvK ?_
   | refine lvE ?_
   | fail) <;> try (apply Cj.mk <;> first | exact trivial | intros))
  refine loopQ fun R2 hR2=>?_
  refine .of (fun k=>[(24,I k)]) (fun k=>[]) 3 (fun k=>0≤k∧k≤g.nk∧∀ k' c i:Int,0≤k'→k' < k→0≤c→c < g.b.cells→0≤i→i < (nth (nth (C 1) k') c).length→b 1 k' c i=true) (fun k=>(g.nk - k).toNat) 0 ?_
  conv=>whnf
  refine ⟨⟨[],hdA (lvL ?_) (lvL ?_)⟩,?_,fun k ⟨k0,k1',hq2⟩=>lvN ?_⟩ <;> (try (apply Cj.mk <;> first | exact trivial | intros))
  ·exact ⟨by omega,by omega,fun k' c i h1 h2=>by omega⟩
  by_cases hk:k < g.nk
  ·have l1:=hl1 1 k k0 hk
   have e1:((nth (C 1) k).map Pas).length=(nth (C 1) k).length:=List.length_map _
   have hcc:=ICode_p k 1
   have hcallk:=fun c i=>hcall k c i
   generalize code k 1=w at *
   repeat' ((first
    | refine lvK ?_
    | refine lvE ?_
    | fail) <;> try (apply Cj.mk <;> first | exact trivial | intros))
   refine loopQ fun R3 hR3=>?_
   refine .of (fun c=>[(31,I c)]) (fun c=>[]) 3 (fun c=>0≤c∧c≤g.b.cells∧∀ c' i:Int,0≤c'→c' < c→0≤i→i < (nth (nth (C 1) k) c').length→b 1 k c' i=true) (fun c=>(g.b.cells - c).toNat) 0 ?_
   conv=>whnf
   refine ⟨⟨[],hdA (lvL ?_) (lvL ?_)⟩,?_,fun c ⟨c0,c1',hq3⟩=>lvN ?_⟩ <;> (try (apply Cj.mk <;> first | exact trivial | intros))
   ·exact ⟨by omega,by omega,fun c' i h1 h2=>by omega⟩
   by_cases hc:c < g.b.cells
   ·have l2:=hl2 1 k c k0 hk c0 hc
    have e2:((nth (nth (C 1) k) c).map Pa).length=(nth (nth (C 1) k) c).length:=List.length_map _
    repeat' ((first
     | refine lvK ?_
     | refine lvE ?_
     | fail) <;> try (apply Cj.mk <;> first | exact trivial | intros))
    refine loopQ fun R4 hR4=>?_
    refine .of (fun i=>[(38,I i)]) (fun i=>[]) 3 (fun i=>0≤i∧i≤(nth (nth (C 1) k) c).length∧∀ i':Int,0≤i'→i' < i→b 1 k c i'=true) (fun i=>((nth (nth (C 1) k) c).length - i).toNat) 0 ?_
    conv=>whnf
    refine ⟨⟨[],hdA (lvL ?_) (lvL ?_)⟩,?_,fun i ⟨i0,i1',hq4⟩=>lvN ?_⟩ <;> (try (apply Cj.mk <;> first | exact trivial | intros))
    ·exact ⟨by omega,by omega,fun i' h1 h2=>by omega⟩
    by_cases hi:i < (nth (nth (C 1) k) c).length
    ·have hcl:=hcallk c i k0 hk c0 hc i0 hi
     have hno:=hno k c i k0 hk c0 hc i0 hi
     by_cases hb:b 1 k c i=true
     ·rw [hb] at hcl
      repeat' ((first
       | refine lvK ?_
       | refine ⟨_,_,hcc,lvN ?_⟩
       | (refine .inl ?_;(conv=>whnf);refine ⟨_,_,hcc,lvN ?_⟩)
       | (refine .inl ?_;(conv=>whnf);refine ⟨[14,12],_,[.ptr 0 0,I c,Pa (nth (nth (nth (C 1) k) c) i)],_,_,⟨rfl,rfl,rfl⟩,hcl,lvN ?_⟩)
       | refine lvE ?_
       | fail) <;> try (apply Cj.mk <;> first | exact trivial | intros))
      refine ⟨i+1,⟨[],hdA (lvL ?_) (lvL ?_)⟩,?_,by (try dsimp only);omega,rfl⟩ <;> (try (apply Cj.mk <;> first | exact trivial | intros))
      refine ⟨by omega,by omega,fun i' h1 h2=>?_⟩
      by_cases e:i'=i
      ·rw [e];exact hb
      ·exact hq4 i' h1 (by omega)
     ·have hb:b 1 k c i=false:=by simpa using hb
      have hres:res=false:=hno hb
      rw [hb] at hcl
      repeat' ((first
       | refine lvK ?_
       | refine ⟨_,_,hcc,lvN ?_⟩
       | (refine .inl ?_;(conv=>whnf);refine ⟨_,_,hcc,lvN ?_⟩)
       | (refine .inl ?_;(conv=>whnf);refine ⟨[14,12],_,[.ptr 0 0,I c,Pa (nth (nth (nth (C 1) k) c) i)],_,_,⟨rfl,rfl,rfl⟩,hcl,lvN ?_⟩)
       | refine lvE ?_
       | fail) <;> try (apply Cj.mk <;> first | exact trivial | intros))
      refine hR4 _ _ ?_
      conv=>whnf
      try dsimp only [St.after,St.afterAt,St.pin,St.unpin,initSt,initT,numO,cellsA,Option.map,ren,renL,renO,St.setObj,headSt,List.cons_append,List.nil_append,List.length_nil,Nat.reduceAdd]
      refine hR3 _ _ ?_
      conv=>whnf
      try dsimp only [St.after,St.afterAt,St.pin,St.unpin,initSt,initT,numO,cellsA,Option.map,ren,renL,renO,St.setObj,headSt,List.cons_append,List.nil_append,List.length_nil,Nat.reduceAdd]
      refine hR2 _ _ ?_
      conv=>whnf
      try dsimp only [St.after,St.afterAt,St.pin,St.unpin,initSt,initT,numO,cellsA,Option.map,ren,renL,renO,St.setObj,headSt,List.cons_append,List.nil_append,List.length_nil,Nat.reduceAdd]
      refine hR1 _ _ ?_
      conv=>whnf
      try dsimp only [St.after,St.afterAt,St.pin,St.unpin,initSt,initT,numO,cellsA,Option.map,ren,renL,renO,St.setObj,headSt,List.cons_append,List.nil_append,List.length_nil,Nat.reduceAdd]
      repeat' ((first
       | refine lvK ?_
       | refine lvE ?_
       | fail) <;> try (apply Cj.mk <;> first | exact trivial | intros))
      rw [hres]
    ·obtain rfl:i=(nth (nth (C 1) k) c).length:=by omega
     repeat' ((first
      | refine lvK ?_
      | refine lvE ?_
      | fail) <;> try (apply Cj.mk <;> first | exact trivial | intros))
     refine hR4 _ _ ?_
     conv=>whnf
     try dsimp only [St.after,St.afterAt,St.pin,St.unpin,initSt,initT,numO,cellsA,Option.map,ren,renL,renO,St.setObj,headSt,List.cons_append,List.nil_append,List.length_nil,Nat.reduceAdd]
     repeat' ((first
      | refine lvK ?_
      | refine lvE ?_
      | fail) <;> try (apply Cj.mk <;> first | exact trivial | intros))
     refine ⟨c+1,⟨[],hdA (lvL ?_) (lvL ?_)⟩,?_,by (try dsimp only);omega,rfl⟩ <;> (try (apply Cj.mk <;> first | exact trivial | intros))
     refine ⟨by omega,by omega,fun c' i h1 h2 h3 h4=>?_⟩
     by_cases e:c'=c
     ·rw [e] at h4 ⊢;exact hq4 i h3 h4
     ·exact hq3 c' i h1 (by omega) h3 h4
   ·obtain rfl:c=g.b.cells:=by omega
    repeat' ((first
     | refine lvK ?_
     | refine lvE ?_
     | fail) <;> try (apply Cj.mk <;> first | exact trivial | intros))
    refine hR3 _ _ ?_
    conv=>whnf
    try dsimp only [St.after,St.afterAt,St.pin,St.unpin,initSt,initT,numO,cellsA,Option.map,ren,renL,renO,St.setObj,headSt,List.cons_append,List.nil_append,List.length_nil,Nat.reduceAdd]
    repeat' ((first
     | refine lvK ?_
     | refine lvE ?_
     | fail) <;> try (apply Cj.mk <;> first | exact trivial | intros))
    refine ⟨k+1,⟨[],hdA (lvL ?_) (lvL ?_)⟩,?_,by (try dsimp only);omega,rfl⟩ <;> (try (apply Cj.mk <;> first | exact trivial | intros))
    refine ⟨by omega,by omega,fun k' c i h1 h2 h3 h4 h5 h6=>?_⟩
    by_cases e:k'=k
    ·rw [e] at h6 ⊢;exact hq3 c i h3 h4 h5 h6
    ·exact hq2 k' c i h1 (by omega) h3 h4 h5 h6
  ·obtain rfl:k=g.nk:=by omega
   repeat' ((first
    | refine lvK ?_
    | refine lvE ?_
    | fail) <;> try (apply Cj.mk <;> first | exact trivial | intros))
   refine hR2 _ _ ?_
   conv=>whnf
   try dsimp only [St.after,St.afterAt,St.pin,St.unpin,initSt,initT,numO,cellsA,Option.map,ren,renL,renO,St.setObj,headSt,List.cons_append,List.nil_append,List.length_nil,Nat.reduceAdd]
   repeat' ((first
    | refine lvK ?_
    | refine lvE ?_
    | fail) <;> try (apply Cj.mk <;> first | exact trivial | intros))
   refine ⟨1+1,⟨[],hdA (lvL ?_) (lvL ?_)⟩,?_,by (try dsimp only);omega,rfl⟩ <;> (try (apply Cj.mk <;> first | exact trivial | intros))
   refine ⟨by omega,fun s' k c i h1 h2 h3 h4 h5 h6 h7 h8=>?_⟩
   by_cases e:s'=1
   ·rw [e] at h8 ⊢;exact hq2 k c i h3 h4 h5 h6 h7 h8
   ·exact hq s' k c i h1 (by omega) h3 h4 h5 h6 h7 h8
 ·have hres:res=dr:=hyes fun s k c i hs k0 k1 c0 c1 i0 i1=>hq s k c i (by omega) (by omega) k0 k1 c0 c1 i0 i1
  repeat' ((first
   | refine lvK ?_
   | refine lvE ?_
   | fail) <;> try (apply Cj.mk <;> first | exact trivial | intros))
  refine hR1 _ _ ?_
  conv=>whnf
  try dsimp only [St.after,St.afterAt,St.pin,St.unpin,initSt,initT,numO,cellsA,Option.map,ren,renL,renO,St.setObj,headSt,List.cons_append,List.nil_append,List.length_nil,Nat.reduceAdd]
  repeat' ((first
   | refine lvK ?_
   | refine ⟨_,_,hdr,lvN ?_⟩
   | (refine .inl ?_;(conv=>whnf);refine ⟨_,_,hdr,lvN ?_⟩)
   | refine lvE ?_
   | fail) <;> try (apply Cj.mk <;> first | exact trivial | intros))
  rw [hres]
end Go.Proofs.Ytejljpjdifblpaa
