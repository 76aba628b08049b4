/- Contracts of functions of the program, proved by the checker; and plain laws. -/
import Derived.Test.YtejljpjdifblpaaZ20
import Derived.Test.YtejljpjdifblpaaZ00
set_option linter.unusedVariables false
set_option linter.unusedSimpArgs false
namespace Go.Proofs.Ytejljpjdifblpaa
open Go Go.Sk
structure ValF (g:Gm) (x:Iv) (p:Ps) (C H0 H1 R:Int→Int):Prop where
 c0:C 0=0
 c:∀ i:Int,0≤i→i < g.b.cells→C (i+1)=C i+nth (nth x.men (nth p.ct i)) i
 cr:∀ i:Int,0≤i→i≤g.b.cells→0≤C i∧C i≤1000 * i
 a0:H0 0=0
 a:∀ i:Int,0≤i→i < g.nk→H0 (i+1)=H0 i+nth x.h0 i * nth p.h0 i
 ar:∀ i:Int,0≤i→i≤g.nk→0≤H0 i∧H0 i≤8000 * i
 b0:H1 0=0
 b:∀ i:Int,0≤i→i < g.nk→H1 (i+1)=H1 i+nth x.h1 i * nth p.h1 i
 br:∀ i:Int,0≤i→i≤g.nk→0≤H1 i∧H1 i≤8000 * i
 r0:R 0=0
 r:∀ i:Int,0≤i→i < g.rights→R (i+1)=R i+nth x.rights i * bitR p.rights i
 rr:∀ i:Int,0≤i→i≤g.rights→0≤R i∧R i≤1000 * i
 e:x.val g p=(x.side * p.side+C g.b.cells+H0 g.nk+H1 g.nk+R g.rights) % x.mod
theorem mul_rg {a b c d:Int} (a0:0≤a) (a1:a≤c) (b0:0≤b) (b1:b≤d):0≤a * b∧a * b≤c * d :=
 ⟨Int.mul_nonneg a0 b0,Int.mul_le_mul a1 b1 b0 (by omega)⟩
theorem valF {g:Gm} (hg:g.ok) {x:Iv} (hx:x.ok g) {p:Ps} (hp:p.ok g):∃ C H0 H1 R,ValF g x p C H0 H1 R:=by
 have m3:=hx.m3
 have k1:=hg.k1
 have rg:∀ (f:Int→Int) (c n:Int),0≤c→(∀ k:Int,0≤k→k < n→0≤f k∧f k≤c)→∀ i:Int,0≤i→i≤n→0≤smT f i.toNat∧smT f i.toNat≤c * i:=fun f c n hc h i i0 i1=>by
  have:=smT_rg f c hc i.toNat fun k k0 k1=>h k k0 (by omega)
  rwa [Int.toNat_of_nonneg i0] at this
 refine ⟨fun i=>smT (x.vC p) i.toNat,fun i=>smT (x.vH p 0) i.toNat,fun i=>smT (x.vH p 1) i.toNat,fun i=>smT (x.vR p) i.toNat,rfl,fun i i0 i1=>smT_succ _ i0,rg _ _ _ (by omega) fun k k0 k1=>?_,rfl,fun i i0 i1=>smT_succ _ i0,rg _ _ _ (by omega) fun k k0 k1=>?_,rfl,fun i i0 i1=>smT_succ _ i0,rg _ _ _ (by omega) fun k k0 k1=>?_,rfl,fun i i0 i1=>smT_succ _ i0,rg _ _ _ (by omega) fun k k0 k1=>?_,rfl⟩
 ·have hc:=hp.c k k0 k1
  have:=hx.men (nth p.ct k) k hc.1 hc.2 k0 k1
  exact ⟨this.1,by show x.mn (nth p.ct k) k≤1000;omega⟩
 ·have h1:=hx.hd 0 k k0 k1
  have h2:=hp.h0.v k k0 k1
  exact mul_rg (c:=1000) (d:=8) h1.1 (by omega) h2.1 h2.2.1
 ·have h1:=hx.hd 1 k k0 k1
  have h2:=hp.h1.v k k0 k1
  exact mul_rg (c:=1000) (d:=8) h1.1 (by omega) h2.1 h2.2.1
 ·have h1:=hx.rt k k0 k1
  have h2:0≤bitR p.rights k∧bitR p.rights k≤1:=by unfold bitR;omega
  have:=mul_rg (c:=1000) (d:=1) h1.1 (by omega) h2.1 h2.2
  exact ⟨this.1,by show nth x.rights k * bitR p.rights k≤1000;omega⟩
set_option maxHeartbeats 4000000 in
set_option maxRecDepth 10000 in
theorem Value_p (g:Gm) (hg:g.ok) (x:Iv) (hx:x.ok g) (p:Ps) (hp:p.ok g):Pure Try.prog 10 [x.av,p.av] (I (x.val g p)) none:=by
 have k6:=hg.k6
 have c9:=hg.c9
 have r4:=hg.r4
 have k1:=hg.k1
 have m2:=hx.m2
 have m3:=hx.m3
 have s0:=hx.s0
 have s1:=hx.s1
 have l1:=hx.len
 have l2:=hx.l0
 have l3:=hx.l1
 have l4:=hx.lr
 have l5:=hp.len
 have l6:=hp.h0.len
 have l7:=hp.h1.len
 have e1:(x.men.map Is).length=x.men.length:=List.length_map _
 have e2:(x.h0.map I).length=x.h0.length:=List.length_map _
 have e3:(x.h1.map I).length=x.h1.length:=List.length_map _
 have e4:(x.rights.map I).length=x.rights.length:=List.length_map _
 have e5:(p.ct.map I).length=p.ct.length:=List.length_map _
 have e6:(p.h0.map I).length=p.h0.length:=List.length_map _
 have e7:(p.h1.map I).length=p.h1.length:=List.length_map _
 obtain ⟨C,H0,H1,R,hV⟩:=valF hg hx hp
 have hsd:0≤x.side * p.side∧x.side * p.side≤1000:=by rcases hp.s with h | h <;> rw [h] <;> omega
 rw [hV.e]
 generalize hw:x.side * p.side=w at *
 refine fun_of tok D_ok Try.func10 rfl Try.ntmps10 Try.results10 (by kernel_rfl) (by simp) (by simp) ?_
 conv=>whnf
 obtain ⟨T,hT0,hT1,hT2⟩:∃ T:Int→Int,T 0=0∧T 1=H0 g.nk∧T 2=H0 g.nk+H1 g.nk:=⟨fun s=>if s=0 then 0 else if s=1 then H0 g.nk else H0 g.nk+H1 g.nk,rfl,rfl,rfl⟩
 have gC:=hV.cr g.b.cells (by omega) (by omega)
 have gA:=hV.ar g.nk (by omega) (by omega)
 have gB:=hV.br g.nk (by omega) (by omega)
 repeat' ((first
  | refine lvK ?_
  | refine lvE ?_
  | fail) <;> try (apply Cj.mk <;> first | exact trivial | intros))
 refine loopQ fun R1 hR1=>?_
 refine .of (fun c=>[(22,I c),(5,I (w+C c))]) (fun c=>[]) 2 (fun c=>0≤c∧c≤g.b.cells) (fun c=>(g.b.cells - c).toNat) 0 ?_
 conv=>whnf
 refine ⟨⟨[],hdA (lvL ?_) (lvL ?_)⟩,?_,fun c ⟨c0,c1⟩=>lvN ?_⟩ <;> (try (apply Cj.mk <;> first | exact trivial | intros))
 ·rw [hV.c0,Int.add_zero,hw]
 ·exact ⟨by omega,by omega⟩
 by_cases hc:c < g.b.cells
 ·have hn:=hp.c c c0 hc
  have hrow:=hx.row (nth p.ct c) hn.1 hn.2
  have er:((nth x.men (nth p.ct c)).map I).length=(nth x.men (nth p.ct c)).length:=List.length_map _
  have hv:=hx.men (nth p.ct c) c hn.1 hn.2 c0 hc
  unfold Iv.mn at hv
  have hcr:=hV.cr c c0 c1
  have hcs:=hV.c c c0 hc
  repeat' ((first
   | refine lvK ?_
   | refine lvE ?_
   | fail) <;> try (apply Cj.mk <;> first | exact trivial | intros))
  refine ⟨c+1,⟨[],hdA (lvL ?_) (lvL ?_)⟩,?_,by (try dsimp only);omega,rfl⟩ <;> (try (apply Cj.mk <;> first | exact trivial | intros))
  ·rw [hcs,Int.add_assoc]
  ·exact ⟨by omega,by omega⟩
 obtain rfl:c=g.b.cells:=by omega
 repeat' ((first
  | refine lvK ?_
  | refine lvE ?_
  | fail) <;> try (apply Cj.mk <;> first | exact trivial | intros))
 refine hR1 _ _ ?_
 conv=>whnf
 try dsimp only [St.after,St.afterAt,St.pin,St.unpin,initSt,initT,numO,cellsA,Option.map,ren,renL,renO,St.setObj,headSt,List.cons_append,List.nil_append,List.length_nil,Nat.reduceAdd]
 repeat' ((first
  | refine lvK ?_
  | refine lvE ?_
  | fail) <;> try (apply Cj.mk <;> first | exact trivial | intros))
 refine loopQ fun R2 hR2=>?_
 refine .of (fun s=>[(40,I s),(5,I (w+C g.b.cells+T s))]) (fun s=>[]) 2 (fun s=>s=0∨s=1∨s=2) (fun s=>(2 - s).toNat) 0 ?_
 conv=>whnf
 refine ⟨⟨[],hdA (lvL ?_) (lvL ?_)⟩,?_,fun s h=>lvN ?_⟩ <;> (try (apply Cj.mk <;> first | exact trivial | intros))
 ·rw [hT0,Int.add_zero]
 ·exact .inl rfl
 rcases h with rfl | rfl | rfl
 ·repeat' ((first
   | refine lvK ?_
   | refine lvE ?_
   | fail) <;> try (apply Cj.mk <;> first | exact trivial | intros))
  refine .of (fun k=>[(46,I k),(5,I (w+C g.b.cells+T 0+H0 k))]) (fun k=>[]) 2 (fun k=>0≤k∧k≤g.nk) (fun k=>(g.nk - k).toNat) 0 ?_
  conv=>whnf
  refine ⟨⟨[],hdA (lvL ?_) (lvL ?_)⟩,?_,fun k ⟨k0,k1⟩=>lvN ?_⟩ <;> (try (apply Cj.mk <;> first | exact trivial | intros))
  ·first | rw [hV.a0,Int.add_zero] | rw [hV.b0,Int.add_zero]
  ·exact ⟨by omega,by omega⟩
  by_cases hk:k < g.nk
  ·have hh:=hx.hd 0 k k0 hk
   have hh:0≤nth x.h0 k∧nth x.h0 k < x.mod:=hh
   have hpv:=hp.h0.v k k0 hk
   have hmul:=mul_rg (c:=1000) (d:=8) hh.1 (by omega) hpv.1 hpv.2.1
   have hra:=hV.ar k k0 k1
   have hrb:=hV.br k k0 k1
   have hsa:=hV.a k k0 hk
   have hsb:=hV.b k k0 hk
   generalize hmm:nth x.h0 k * nth p.h0 k=m at *
   repeat' ((first
    | refine lvK ?_
    | (rw [hmm];refine calI (by omega) (lvN ?_))
    | refine lvE ?_
    | fail) <;> try (apply Cj.mk <;> first | exact trivial | intros))
   refine ⟨k+1,⟨[],hdA (lvL ?_) (lvL ?_)⟩,?_,by (try dsimp only);omega,rfl⟩ <;> (try (apply Cj.mk <;> first | exact trivial | intros))
   ·first | (rw [hsa,← Int.add_assoc,hmm];done) | (rw [hsb,← Int.add_assoc,hmm];done)
   ·exact ⟨by omega,by omega⟩
  ·obtain rfl:k=g.nk:=by omega
   repeat' ((first
    | refine lvK ?_
    | refine lvE ?_
    | fail) <;> try (apply Cj.mk <;> first | exact trivial | intros))
   refine ⟨0+1,⟨[],hdA (lvL ?_) (lvL ?_)⟩,?_,by (try dsimp only);omega,rfl⟩ <;> (try (apply Cj.mk <;> first | exact trivial | intros))
   ·first | (rw [show ((0:Int)+1)=1 from rfl,hT0,hT1];congr 1;omega) | (rw [show ((1:Int)+1)=2 from rfl,hT1,hT2];congr 1;omega)
   ·first | exact .inr (.inl rfl) | exact .inr (.inr rfl)
 ·repeat' ((first
   | refine lvK ?_
   | refine lvE ?_
   | fail) <;> try (apply Cj.mk <;> first | exact trivial | intros))
  refine .of (fun k=>[(46,I k),(5,I (w+C g.b.cells+T 1+H1 k))]) (fun k=>[]) 2 (fun k=>0≤k∧k≤g.nk) (fun k=>(g.nk - k).toNat) 0 ?_
  conv=>whnf
  refine ⟨⟨[],hdA (lvL ?_) (lvL ?_)⟩,?_,fun k ⟨k0,k1⟩=>lvN ?_⟩ <;> (try (apply Cj.mk <;> first | exact trivial | intros))
  ·first | rw [hV.a0,Int.add_zero] | rw [hV.b0,Int.add_zero]
  ·exact ⟨by omega,by omega⟩
  by_cases hk:k < g.nk
  ·have hh:=hx.hd 1 k k0 hk
   have hh:0≤nth x.h1 k∧nth x.h1 k < x.mod:=hh
   have hpv:=hp.h1.v k k0 hk
   have hmul:=mul_rg (c:=1000) (d:=8) hh.1 (by omega) hpv.1 hpv.2.1
   have hra:=hV.ar k k0 k1
   have hrb:=hV.br k k0 k1
   have hsa:=hV.a k k0 hk
   have hsb:=hV.b k k0 hk
   generalize hmm:nth x.h1 k * nth p.h1 k=m at *
   repeat' ((first
    | refine lvK ?_
    | (rw [hmm];refine calI (by omega) (lvN ?_))
    | refine lvE ?_
    | fail) <;> try (apply Cj.mk <;> first | exact trivial | intros))
   refine ⟨k+1,⟨[],hdA (lvL ?_) (lvL ?_)⟩,?_,by (try dsimp only);omega,rfl⟩ <;> (try (apply Cj.mk <;> first | exact trivial | intros))
   ·first | (rw [hsa,← Int.add_assoc,hmm];done) | (rw [hsb,← Int.add_assoc,hmm];done)
   ·exact ⟨by omega,by omega⟩
  ·obtain rfl:k=g.nk:=by omega
   repeat' ((first
    | refine lvK ?_
    | refine lvE ?_
    | fail) <;> try (apply Cj.mk <;> first | exact trivial | intros))
   refine ⟨1+1,⟨[],hdA (lvL ?_) (lvL ?_)⟩,?_,by (try dsimp only);omega,rfl⟩ <;> (try (apply Cj.mk <;> first | exact trivial | intros))
   ·first | (rw [show ((0:Int)+1)=1 from rfl,hT0,hT1];congr 1;omega) | (rw [show ((1:Int)+1)=2 from rfl,hT1,hT2];congr 1;omega)
   ·first | exact .inr (.inl rfl) | exact .inr (.inr rfl)
 ·repeat' ((first
   | refine lvK ?_
   | refine lvE ?_
   | fail) <;> try (apply Cj.mk <;> first | exact trivial | intros))
  refine hR2 _ _ ?_
  conv=>whnf
  try dsimp only [St.after,St.afterAt,St.pin,St.unpin,initSt,initT,numO,cellsA,Option.map,ren,renL,renO,St.setObj,headSt,List.cons_append,List.nil_append,List.length_nil,Nat.reduceAdd]
  repeat' ((first
   | refine lvK ?_
   | refine lvE ?_
   | fail) <;> try (apply Cj.mk <;> first | exact trivial | intros))
  refine loopQ fun R3 hR3=>?_
  refine .of (fun r=>[(67,I r),(5,I (w+C g.b.cells+T 2+R r))]) (fun r=>[]) 2 (fun r=>0≤r∧r≤g.rights) (fun r=>(g.rights - r).toNat) 0 ?_
  conv=>whnf
  refine ⟨⟨[],hdA (lvL ?_) (lvL ?_)⟩,?_,fun r ⟨r0,r1⟩=>lvN ?_⟩ <;> (try (apply Cj.mk <;> first | exact trivial | intros))
  ·rw [hV.r0,Int.add_zero]
  ·have:=hg.r0
   exact ⟨by omega,by omega⟩
  have hrr:=hV.rr r r0 r1
  by_cases hr:r < g.rights
  ·have hrt:=hx.rt r r0 hr
   have hrs:=hV.r r r0 hr
   have hbit:0≤bitR p.rights r∧bitR p.rights r≤1:=by unfold bitR;omega
   have hmul:=mul_rg (c:=1000) (d:=1) hrt.1 (by omega) hbit.1 hbit.2
   have p0:=hp.r0
   have p1:=hp.r1
   have p2:p.rights < 16:=by
    have h5:g.rights=0∨g.rights=1∨g.rights=2∨g.rights=3∨g.rights=4:=by omega
    rcases h5 with h | h | h | h | h <;> rw [h] at p1 <;> exact Int.lt_of_lt_of_le p1 (by decide)
   unfold bitR at hbit hrs hmul
   generalize hmm:nth x.rights r * (p.rights / 2 ^ r.toNat % 2)=m at *
   repeat' ((first
    | refine lvK ?_
    | refine And.intro (by omega) (lvN ?_)
    | refine cshr64 (by omega) (lvN ?_)
    | (rw [hmm];refine calI (by omega) (lvN ?_))
    | refine lvE ?_
    | fail) <;> try (apply Cj.mk <;> first | exact trivial | intros))
   refine ⟨r+1,⟨[],hdA (lvL ?_) (lvL ?_)⟩,?_,by (try dsimp only);omega,rfl⟩ <;> (try (apply Cj.mk <;> first | exact trivial | intros))
   ·rw [hrs,← Int.add_assoc,hmm]
   ·exact ⟨by omega,by omega⟩
  ·obtain rfl:r=g.rights:=by omega
   repeat' ((first
    | refine lvK ?_
    | refine lvE ?_
    | fail) <;> try (apply Cj.mk <;> first | exact trivial | intros))
   refine hR3 _ _ ?_
   conv=>whnf
   try dsimp only [St.after,St.afterAt,St.pin,St.unpin,initSt,initT,numO,cellsA,Option.map,ren,renL,renO,St.setObj,headSt,List.cons_append,List.nil_append,List.length_nil,Nat.reduceAdd]
   repeat' ((first
    | refine lvK ?_
    | refine lvE ?_
    | fail) <;> try (apply Cj.mk <;> first | exact trivial | intros))
   rw [hT2,show w+C g.b.cells+(H0 g.nk+H1 g.nk)+R g.rights=w+C g.b.cells+H0 g.nk+H1 g.nk+R g.rights by omega]
end Go.Proofs.Ytejljpjdifblpaa
