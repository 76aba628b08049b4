/- Contracts of functions of the program, proved by the checker; and plain laws. -/
import Derived.Test.YtejljpjdifblpaaZ20
import Derived.Test.YtejljpjdifblpaaZ02
import Derived.Test.YtejljpjdifblpaaZ00
import Derived.Test.YtejljpjdifblpaaZ18
set_option linter.unusedVariables false
set_option linter.unusedSimpArgs false
namespace Go.Proofs.Ytejljpjdifblpaa
open Go Go.Sk
set_option maxRecDepth 10000 in
theorem ICode_p (k s:Int):Pure Try.prog 35 [I k,I s] (I (code k s)) none:=by
 refine fun_of tok D_ok Try.func35 rfl Try.ntmps35 Try.results35 (by kernel_rfl) (by simp) (by simp) ?_
 conv=>whnf
 repeat' ((first
  | refine lvA ?_
  | refine lvE ?_
  | fail) <;> try (apply Cj.mk <;> first | exact trivial | intros))
 all_goals (congr 1;unfold code)
 all_goals first | rw [if_pos (by omega)] | rw [if_neg (by omega)]
def mvC (g:Gm) (x:Iv) (side now:Int) (la:AV):List AV:=[I g.b.cells,Iss g.b.next,Is g.b.turn,.sl (g.kinds.map Kn),I g.rights,Bo g.must,.sl (g.cls.map Ca),I g.blocked,I g.endless,I x.mod,Iss x.men,Is x.h0,Is x.h1,Is x.rights,I x.side,I side,I now,la]
structure MvR (g:Gm) (x:Iv) (n c:Int):Prop where
 n0:0≤n
 n1:n < x.men.length
 c0:0≤c
 c1:c < (nth x.men 0).length
 c2:c < (nth x.men n).length
 a0:0≤nth (nth x.men 0) c
 a1:nth (nth x.men 0) c < 1000
 b0:0≤nth (nth x.men n) c
 b1:nth (nth x.men n) c < 1000
theorem Iv.ok.mvR {g:Gm} (hg:g.ok) {x:Iv} (hx:x.ok g) {n c:Int} (n0:0≤n) (n1:n≤2 * g.nk) (c0:0≤c) (c1:c < g.b.cells):MvR g x n c:=by
 have k1:=hg.k1
 have h1:=hx.len
 have h2:=hx.row 0 (by omega) (by omega)
 have h3:=hx.row n n0 n1
 have h4:=hx.men 0 c (by omega) (by omega) c0 c1
 have h5:=hx.men n c n0 n1 c0 c1
 have h6:=hx.m3
 unfold Iv.mn at h4 h5
 exact ⟨n0,by omega,c0,by omega,by omega,h4.1,by omega,h5.1,by omega⟩
set_option maxHeartbeats 4000000 in
set_option maxRecDepth 10000 in
theorem lift1_p (g:Gm) (x:Iv) (last:List Int) (side now n c:Int) (h:MvR g x n c):Fun Try.prog 51 [.box (mvC g x side now (.ref 1)),.arr 1 (last.map I)] [.ptr 0 0,I n,I c] (I (x.lift n c)) [.box (mvC g x side now (.ref 1)),.arr 1 (last.map I)]:=by
 have e1:(x.men.map Is).length=x.men.length:=List.length_map _
 have e2:((nth x.men 0).map I).length=(nth x.men 0).length:=List.length_map _
 have e3:((nth x.men n).map I).length=(nth x.men n).length:=List.length_map _
 obtain ⟨n0,n1,c0,c1,c2,a0,a1,b0,b1⟩:=h
 unfold Iv.lift Iv.mn
 unfold mvC
 refine fun_of tok D_ok Try.func51 rfl Try.ntmps51 Try.results51 (by kernel_rfl) (by simp) (by simp) ?_
 conv=>whnf
 repeat' ((first
  | refine lvK ?_
  | refine lvE ?_
  | fail) <;> try (apply Cj.mk <;> first | exact trivial | intros))
set_option maxHeartbeats 4000000 in
set_option maxRecDepth 10000 in
theorem put1_p (g:Gm) (x:Iv) (last:List Int) (side now n c:Int) (h:MvR g x n c):Fun Try.prog 54 [.box (mvC g x side now (.ref 1)),.arr 1 (last.map I)] [.ptr 0 0,I n,I c] (I (- x.lift n c)) [.box (mvC g x side now (.ref 1)),.arr 1 (last.map I)]:=by
 have hl:=lift1_p g x last side now n c h
 have hb:-1000 < x.lift n c∧x.lift n c < 1000:=by
  obtain ⟨n0,n1,c0,c1,c2,a0,a1,b0,b1⟩:=h
  unfold Iv.lift Iv.mn
  omega
 generalize x.lift n c=v at *
 unfold mvC at hl ⊢
 refine fun_of tok D_ok Try.func54 rfl Try.ntmps54 Try.results54 (by kernel_rfl) (by simp) (by simp) ?_
 conv=>whnf
 repeat' ((first
  | refine lvK ?_
  | (refine .inl ?_;(conv=>whnf);refine ⟨[0,1],_,[.ptr 0 0,I n,I c],_,_,⟨rfl,rfl,rfl⟩,hl,lvN ?_⟩)
  | refine lvE ?_
  | fail) <;> try (apply Cj.mk <;> first | exact trivial | intros))
 rw [Int.zero_sub]
set_option maxHeartbeats 4000000 in
set_option maxRecDepth 10000 in
theorem turn1_p (g:Gm) (x:Iv) (last:List Int) (side now:Int) (hs:side=0∨side=1) (h0:0≤x.side) (h1:x.side < 1000):Fun Try.prog 52 [.box (mvC g x side now (.ref 1)),.arr 1 (last.map I)] [.ptr 0 0] (I (x.turn side)) [.box (mvC g x side now (.ref 1)),.arr 1 (last.map I)]:=by
 unfold Iv.turn
 unfold mvC
 rcases hs with rfl | rfl
 ·refine fun_of tok D_ok Try.func52 rfl Try.ntmps52 Try.results52 (by kernel_rfl) (by simp) (by simp) ?_
  conv=>whnf
  repeat' ((first
   | refine lvK ?_
   | refine lvE ?_
   | fail) <;> try (apply Cj.mk <;> first | exact trivial | intros))
 ·refine fun_of tok D_ok Try.func52 rfl Try.ntmps52 Try.results52 (by kernel_rfl) (by simp) (by simp) ?_
  conv=>whnf
  repeat' ((first
   | refine lvK ?_
   | refine lvE ?_
   | fail) <;> try (apply Cj.mk <;> first | exact trivial | intros))
def Aa (a:Ac):AV:=.ag [I a.op,I a.a,I a.b]
def Acs (l:List Ac):AV:=.sl (l.map Aa)
def Pa (p:Pth):AV:=.ag [Acs p.acts,I p.to]
def Pas (l:List Pth):AV:=.sl (l.map Pa)
set_option maxRecDepth 10000 in
theorem GrowA_p (n:Int) (h0:0≤n) (h1:n≤1000000):Fun Try.prog 80 [] [.nils,I n] (.ref 0) [.arr 3 []]:=by
 have hint:OwnHint:=⟨⟩
 refine fun_of tok D_ok Try.func80 rfl Try.ntmps80 Try.results80 (by kernel_rfl) (by simp) (by simp) ?_
 conv=>whnf
 repeat' ((first
  | refine lvK ?_
  | (refine And.intro (by omega) (And.intro (by show (24:Int) * _≤_;omega) (lvN ?_)))
  | refine And.intro (Int.natCast_nonneg _) (lvN ?_)
  | refine lvE ?_
  | fail) <;> try (apply Cj.mk <;> first | exact trivial | intros))
theorem flat_snocA {α:Type} {ls:List (List α)} {i:Int} (i0:0≤i) (h:i < ls.length):(ls.take (i+1).toNat).flatten=(ls.take i.toNat).flatten++nth ls i:=by
 rw [take_snoc i0 h,List.flatten_append]
 simp
theorem flat_lenA {α:Type} {ls:List (List α)} (h:∀ l,l∈ls→l.length≤1000):ls.flatten.length≤1000 * ls.length:=by
 induction ls with
 | nil=>simp
 | cons a r ih =>
  have h1:=h a (by simp)
  have h2:=ih fun l hl=>h l (by simp [hl])
  simp only [List.flatten_cons,List.length_append,List.length_cons]
  omega
set_option maxHeartbeats 4000000 in
set_option maxRecDepth 10000 in
theorem ConcatA_p (ls:List (List Ac)) (h:ls.length≤100) (hl:∀ l,l∈ls→l.length≤1000):Pure Try.prog 66 [.sl (ls.map Acs)] (.ref 0) (some (.arr 3 (ls.flatten.map Aa))):=by
 have el:(ls.map Acs).length=ls.length:=List.length_map _
 have hb:∀ i:Int,0≤i→i≤ls.length→((ls.take i.toNat).flatten.length:Int)≤100000:=fun i i0 i1=>by
  have h1:=flat_lenA (ls:=ls.take i.toNat) fun l hm=>hl l (List.mem_of_mem_take hm)
  rw [List.length_take] at h1
  omega
 refine fun_of tok D_ok Try.func66 rfl Try.ntmps66 Try.results66 (by kernel_rfl) (by simp) (by simp) ?_
 conv=>whnf
 repeat' ((first
  | refine lvK ?_
  | refine lvE ?_
  | fail) <;> try (apply Cj.mk <;> first | exact trivial | intros))
 refine .of (fun i=>[(11,I i),(3,I (ls.take i.toNat).flatten.length)]) (fun i=>[]) 0 (fun i=>0≤i∧i≤ls.length) (fun i=>(ls.length - i).toNat) 0 ?_
 conv=>whnf
 refine ⟨⟨[],hdA (lvL ?_) (lvL ?_)⟩,?_,fun i ⟨i0,i1⟩=>lvN ?_⟩ <;> (try (apply Cj.mk <;> first | exact trivial | intros))
 ·exact ⟨by omega,by omega⟩
 have hbi:=hb i i0 i1
 by_cases hi:i < ls.length
 ·have hs:=flat_snocA i0 hi
  have hli:=hl _ (nth_mem i0 hi)
  have em:((nth ls i).map Aa).length=(nth ls i).length:=List.length_map _
  have e1:((ls.take (i+1).toNat).flatten.length:Int)=(ls.take i.toNat).flatten.length+(nth ls i).length:=by rw [hs,List.length_append];simp
  repeat' ((first
   | refine lvK ?_
   | refine lvE ?_
   | fail) <;> try (apply Cj.mk <;> first | exact trivial | intros))
  refine ⟨i+1,⟨[],hdA (lvL ?_) (lvL ?_)⟩,?_,by (try dsimp only);omega,rfl⟩ <;> (try (apply Cj.mk <;> first | exact trivial | intros))
  ·rw [e1,em]
  ·exact ⟨by omega,by omega⟩
 ·obtain rfl:i=ls.length:=by omega
  have hg:=GrowA_p (ls.take (ls.length:Int).toNat).flatten.length (by omega) (by omega)
  repeat' ((first
   | refine lvK ?_
   | (refine .inr (.inl ?_);(conv=>whnf);refine ⟨[],[],[.nils,I (ls.take (ls.length:Int).toNat).flatten.length],_,_,⟨rfl,rfl,rfl⟩,hg,lvN ?_⟩)
   | refine lvE ?_
   | fail) <;> try (apply Cj.mk <;> first | exact trivial | intros))
  refine .of (fun i=>[(27,I i),(6,.ref 0)]) (fun i=>[(0,.arr 3 (((ls.take i.toNat).flatten).map Aa))]) 1 (fun i=>0≤i∧i≤ls.length) (fun i=>(ls.length - i).toNat) 0 ?_
  conv=>whnf
  refine ⟨⟨[],hdA (lvL ?_) (lvL ?_)⟩,?_,fun i ⟨i0,i1⟩=>lvN ?_⟩ <;> (try (apply Cj.mk <;> first | exact trivial | intros))
  ·exact ⟨by omega,by omega⟩
  have hbi2:=hb i i0 i1
  by_cases hi:i < ls.length
  ·have hs:=flat_snocA i0 hi
   have hli:=hl _ (nth_mem i0 hi)
   repeat' ((first
    | refine lvK ?_
    | refine lvE ?_
    | fail) <;> try (apply Cj.mk <;> first | exact trivial | intros))
   refine ⟨i+1,⟨[],hdA (lvL ?_) (lvL ?_)⟩,?_,by (try dsimp only);omega,rfl⟩ <;> (try (apply Cj.mk <;> first | exact trivial | intros))
   ·rw [hs]
   ·exact ⟨by omega,by omega⟩
  ·obtain rfl:i=ls.length:=by omega
   rw [take_all (Int.le_refl _)]
   repeat' ((first
    | refine lvK ?_
    | refine lvE ?_
    | fail) <;> try (apply Cj.mk <;> first | exact trivial | intros))
def two (a b:List Ac) (i:Int):List Ac:=if i=0 then [] else if i=1 then a else a++b
set_option maxHeartbeats 4000000 in
set_option maxRecDepth 10000 in
theorem ConcatR_p (a b:List Ac) (ha:a.length≤1000) (hb:b.length≤1000):Fun Try.prog 66 [.tre 1 [Acs a,.ref 1],.arr 3 (b.map Aa)] [.ref 0] (.ref 2) [.tre 1 [Acs a,.ref 1],.arr 3 (b.map Aa),.arr 3 ((a++b).map Aa)]:=by
 have ea:(a.map Aa).length=a.length:=List.length_map _
 have eb:(b.map Aa).length=b.length:=List.length_map _
 have hR:RefHint:=⟨⟩
 have e2:([Acs a,AV.ref 1]:List AV).length=2:=rfl
 refine fun_of tok D_ok Try.func66 rfl Try.ntmps66 Try.results66 (by kernel_rfl) (by simp) (by simp) ?_
 conv=>whnf
 repeat' ((first
  | refine lvK ?_
  | refine lvE ?_
  | fail) <;> try (apply Cj.mk <;> first | exact trivial | intros))
 refine .of (fun i=>[(11,I i),(3,I (two a b i).length)]) (fun i=>[(0,.tre 1 [Acs a,.ref 1]),(1,.arr 3 (b.map Aa))]) 2 (fun i=>i=0∨i=1∨i=2) (fun i=>(2 - i).toNat) 0 ?_
 conv=>whnf
 refine ⟨⟨[],hdA (lvL ?_) (lvL ?_)⟩,?_,fun i h=>lvN ?_⟩ <;> (try (apply Cj.mk <;> first | exact trivial | intros))
 ·exact .inl rfl
 have hl0:((two a b 0).length:Int)=0:=rfl
 have hl1:((two a b 1).length:Int)=a.length:=rfl
 have hl2:((two a b 2).length:Int)=a.length+b.length:=by show ((a++b).length:Int)=_;rw [List.length_append];omega
 rcases h with rfl | rfl | rfl
 ·repeat' ((first
   | refine lvK ?_
   | refine ⟨_,rfl,lvN ?_⟩
   | refine lvE ?_
   | fail) <;> try (apply Cj.mk <;> first | exact trivial | intros))
  refine ⟨1,⟨[],hdA (lvL ?_) (lvL ?_)⟩,?_,by (try dsimp only);omega,rfl⟩ <;> (try (apply Cj.mk <;> first | exact trivial | intros))
  ·rw [hl0,hl1,ea,Int.zero_add]
  ·exact .inr (.inl rfl)
 ·repeat' ((first
   | refine lvK ?_
   | refine ⟨_,rfl,lvN ?_⟩
   | refine lvE ?_
   | fail) <;> try (apply Cj.mk <;> first | exact trivial | intros))
  refine ⟨2,⟨[],hdA (lvL ?_) (lvL ?_)⟩,?_,by (try dsimp only);omega,rfl⟩ <;> (try (apply Cj.mk <;> first | exact trivial | intros))
  ·rw [hl1,hl2,eb]
  ·exact .inr (.inr rfl)
 ·have hg:=GrowA_p (two a b 2).length (by omega) (by omega)
  repeat' ((first
   | refine lvK ?_
   | (refine .inr (.inl ?_);(conv=>whnf);refine ⟨[],[],[.nils,I (two a b 2).length],_,_,⟨rfl,rfl,rfl⟩,hg,lvN ?_⟩)
   | refine lvE ?_
   | fail) <;> try (apply Cj.mk <;> first | exact trivial | intros))
  refine .of (fun i=>[(27,I i),(6,.ref 2)]) (fun i=>[(0,.tre 1 [Acs a,.ref 1]),(1,.arr 3 (b.map Aa)),(2,.arr 3 ((two a b i).map Aa))]) 3 (fun i=>i=0∨i=1∨i=2) (fun i=>(2 - i).toNat) 0 ?_
  conv=>whnf
  refine ⟨⟨[],hdA (lvL ?_) (lvL ?_)⟩,?_,fun i h=>lvN ?_⟩ <;> (try (apply Cj.mk <;> first | exact trivial | intros))
  ·exact .inl rfl
  rcases h with rfl | rfl | rfl
  ·repeat' ((first
    | refine lvK ?_
    | refine ⟨_,rfl,lvN ?_⟩
    | refine lvE ?_
    | fail) <;> try (apply Cj.mk <;> first | exact trivial | intros))
   refine ⟨1,⟨[],hdA (lvL ?_) (lvL ?_)⟩,?_,by (try dsimp only);omega,rfl⟩ <;> (try (apply Cj.mk <;> first | exact trivial | intros))
   exact .inr (.inl rfl)
  ·repeat' ((first
    | refine lvK ?_
    | refine ⟨_,rfl,lvN ?_⟩
    | refine lvE ?_
    | fail) <;> try (apply Cj.mk <;> first | exact trivial | intros))
   refine ⟨2,⟨[],hdA (lvL ?_) (lvL ?_)⟩,?_,by (try dsimp only);omega,rfl⟩ <;> (try (apply Cj.mk <;> first | exact trivial | intros))
   exact .inr (.inr rfl)
  ·repeat' ((first
    | refine lvK ?_
    | refine ⟨_,rfl,lvN ?_⟩
    | refine lvE ?_
    | fail) <;> try (apply Cj.mk <;> first | exact trivial | intros))
set_option maxHeartbeats 4000000 in
set_option maxRecDepth 10000 in
theorem onN_p (p:Pth) (hp:p.acts.length≤1000) (to:Int):Fun Try.prog 65 [.box [Acs p.acts,I p.to]] [I to,.nils,.ptr 0 0] (Pa ⟨p.acts,to⟩) [.box [Acs p.acts,I p.to]]:=by
 have hc:=ConcatA_p [p.acts,[]] (by simp) (by simp;omega)
 rw [show [p.acts,[]].flatten=p.acts by simp] at hc
 refine fun_of tok D_ok Try.func65 rfl Try.ntmps65 Try.results65 (by kernel_rfl) (by simp) (by simp) ?_
 conv=>whnf
 repeat' ((first
  | refine lvK ?_
  | (refine .inr (.inl ?_);(conv=>whnf);refine ⟨_,_,hc,lvN ?_⟩)
  | refine lvE ?_
  | fail) <;> try (apply Cj.mk <;> first | exact trivial | intros))
set_option maxHeartbeats 4000000 in
set_option maxRecDepth 10000 in
theorem onR_p (p:Pth) (hp:p.acts.length≤1000) (to:Int) (more:List Ac) (hm:more.length≤1000):Fun Try.prog 65 [.box [Acs p.acts,I p.to],.arr 3 (more.map Aa)] [I to,.ref 1,.ptr 0 0] (Pa ⟨p.acts++more,to⟩) [.box [Acs p.acts,I p.to],.arr 3 (more.map Aa)]:=by
 have hR:RefHint:=⟨⟩
 have hc:=ConcatR_p p.acts more hp hm
 refine fun_of tok D_ok Try.func65 rfl Try.ntmps65 Try.results65 (by kernel_rfl) (by simp) (by simp) ?_
 conv=>whnf
 repeat' ((first
  | refine lvK ?_
  | (refine .inl ?_;(conv=>whnf);refine ⟨[3,1],_,[.ref 0],_,_,⟨rfl,rfl,rfl⟩,hc,lvN ?_⟩)
  | refine lvE ?_
  | fail) <;> try (apply Cj.mk <;> first | exact trivial | intros))
set_option maxHeartbeats 4000000 in
set_option maxRecDepth 10000 in
theorem extend_p (b:Bd) (hb:b.ok) (h9:b.cells≤9) (side:Int) (p:Pth) (hp:p.acts.length≤100) (x:Stp):Pure Try.prog 50 [b.av,I side,Pa p,St1 x] (Pas (extR b side p x)) none:=by
 have ht:=To15_p b hb side x.n p.to
 have hN:=onN_p p (by omega) (b.to side x.n p.to)
 have hP:=onR_p p (by omega) p.to [⟨7,p.to,b.to side x.n p.to⟩] (by simp)
 have hA:=onR_p p (by omega) p.to [⟨x.op,x.n,0⟩] (by simp)
 have hB:=onR_p p (by omega) p.to [⟨x.op,p.to,0⟩] (by simp)
 have hl:=Line16_p b hb side x.n p.to
 have hll:=line_nd hb side x.n p.to
 unfold extR
 generalize b.line side x.n p.to=l at *
 generalize b.to side x.n p.to=to at *
 have el:(l.map I).length=l.length:=List.length_map _
 obtain ⟨op,n⟩:=x
 dsimp only at *
 by_cases h1:op=1
 ·rw [if_pos h1]
  by_cases h0:to < 0
  ·rw [if_pos h0]
   refine fun_of tok D_ok Try.func50 rfl Try.ntmps50 Try.results50 (by kernel_rfl) (by simp) (by simp) ?_
   conv=>whnf
   repeat' ((first
    | refine lvK ?_
    | refine ⟨_,_,ht,lvN ?_⟩
    | (refine .inl ?_;(conv=>whnf);refine ⟨_,_,ht,lvN ?_⟩)
    | refine lvE ?_
    | fail) <;> try (apply Cj.mk <;> first | exact trivial | intros))
  ·rw [if_neg h0]
   refine fun_of tok D_ok Try.func50 rfl Try.ntmps50 Try.results50 (by kernel_rfl) (by simp) (by simp) ?_
   conv=>whnf
   repeat' ((first
    | refine lvK ?_
    | refine ⟨_,_,ht,lvN ?_⟩
    | (refine .inl ?_;(conv=>whnf);refine ⟨_,_,ht,lvN ?_⟩)
    | (refine .inl ?_;(conv=>whnf);refine ⟨[1],_,[I to,.nils,.ptr 0 0],_,_,⟨rfl,rfl,rfl⟩,hN,lvN ?_⟩)
    | refine lvE ?_
    | fail) <;> try (apply Cj.mk <;> first | exact trivial | intros))
 rw [if_neg h1]
 by_cases h7:op=7
 ·rw [if_pos h7]
  by_cases h0:to < 0
  ·rw [if_pos h0]
   refine fun_of tok D_ok Try.func50 rfl Try.ntmps50 Try.results50 (by kernel_rfl) (by simp) (by simp) ?_
   conv=>whnf
   repeat' ((first
    | refine lvK ?_
    | refine ⟨_,_,ht,lvN ?_⟩
    | (refine .inl ?_;(conv=>whnf);refine ⟨_,_,ht,lvN ?_⟩)
    | refine lvE ?_
    | fail) <;> try (apply Cj.mk <;> first | exact trivial | intros))
  ·rw [if_neg h0]
   refine fun_of tok D_ok Try.func50 rfl Try.ntmps50 Try.results50 (by kernel_rfl) (by simp) (by simp) ?_
   conv=>whnf
   repeat' ((first
    | refine lvK ?_
    | refine ⟨_,_,ht,lvN ?_⟩
    | (refine .inl ?_;(conv=>whnf);refine ⟨_,_,ht,lvN ?_⟩)
    | (refine .inl ?_;(conv=>whnf);refine ⟨[1,3],_,[I p.to,.ref 1,.ptr 0 0],_,_,⟨rfl,rfl,rfl⟩,hP,lvN ?_⟩)
    | refine lvE ?_
    | fail) <;> try (apply Cj.mk <;> first | exact trivial | intros))
 rw [if_neg h7]
 by_cases h2:op=2
 ·rw [if_pos h2]
  refine fun_of tok D_ok Try.func50 rfl Try.ntmps50 Try.results50 (by kernel_rfl) (by simp) (by simp) ?_
  conv=>whnf
  repeat' ((first
   | refine lvK ?_
   | refine ⟨_,_,hl,lvN ?_⟩
   | (refine .inl ?_;(conv=>whnf);refine ⟨_,_,hl,lvN ?_⟩)
   | refine lvE ?_
   | fail) <;> try (apply Cj.mk <;> first | exact trivial | intros))
  refine .of (fun i=>[(57,I i),(11,.ref 4),(12,.ref 5)]) (fun i=>[(4,.arr 2 ((slideP p [] (l.take i.toNat)).map Pa)),(5,.arr 3 (((l.take i.toNat).map fun d=>(⟨3,d,0⟩:Ac)).map Aa))]) 6 (fun i=>0≤i∧i≤l.length) (fun i=>(l.length - i).toNat) 0 ?_
  conv=>whnf
  refine ⟨⟨[],hdA (lvL ?_) (lvL ?_)⟩,?_,fun i ⟨i0,i1⟩=>lvN ?_⟩ <;> (try (apply Cj.mk <;> first | exact trivial | intros))
  ·exact ⟨by omega,by omega⟩
  have hlt:=take_len i0 i1
  by_cases hi:i < l.length
  ·have hs:=take_snoc i0 hi
   have hsl:=slideP_len p (l.take i.toNat) []
   have hsn:=slideP_snoc p (nth l i) (l.take i.toNat) []
   have hml:((l.take i.toNat).map fun d=>(⟨3,d,0⟩:Ac)).length=(l.take i.toNat).length:=List.length_map _
   have hR:=onR_p p (by omega) (nth l i) ((l.take i.toNat).map fun d=>(⟨3,d,0⟩:Ac)) (by omega)
   repeat' ((first
    | refine lvK ?_
    | (refine .inl ?_;(conv=>whnf);refine ⟨[1,5],_,[I (nth l i),.ref 1,.ptr 0 0],_,_,⟨rfl,rfl,rfl⟩,hR,lvN ?_⟩)
    | refine ap1 (f:=Pa) (a:=⟨p.acts++(l.take i.toNat).map (fun d=>(⟨3,d,0⟩:Ac)),nth l i⟩) (by decide) (by omega) rfl rfl (lvN ?_)
    | refine ap1 (f:=Aa) (a:=⟨3,nth l i,0⟩) (by decide) (by omega) rfl rfl (lvN ?_)
    | refine lvE ?_
    | fail) <;> try (apply Cj.mk <;> first | exact trivial | intros))
   refine ⟨i+1,⟨[],hdA (lvL ?_) (lvL ?_)⟩,?_,by (try dsimp only);omega,rfl⟩ <;> (try (apply Cj.mk <;> first | exact trivial | intros))
   ·rw [hs,hsn];rfl
   ·rw [hs,List.map_append,List.map_append,List.map_append];rfl
   ·exact ⟨by omega,by omega⟩
  ·obtain rfl:i=l.length:=by omega
   rw [take_all (Int.le_refl _)]
   repeat' ((first
    | refine lvK ?_
    | refine lvE ?_
    | fail) <;> try (apply Cj.mk <;> first | exact trivial | intros))
 rw [if_neg h2]
 by_cases h8:op=8∨op=9∨op=10
 ·rw [if_pos h8]
  refine fun_of tok D_ok Try.func50 rfl Try.ntmps50 Try.results50 (by kernel_rfl) (by simp) (by simp) ?_
  conv=>whnf
  repeat' ((first
   | refine lvK ?_
   | (refine .inl ?_;(conv=>whnf);refine ⟨[1,3],_,[I p.to,.ref 1,.ptr 0 0],_,_,⟨rfl,rfl,rfl⟩,hA,lvN ?_⟩)
   | refine lvE ?_
   | fail) <;> try (apply Cj.mk <;> first | exact trivial | intros))
 ·rw [if_neg h8]
  refine fun_of tok D_ok Try.func50 rfl Try.ntmps50 Try.results50 (by kernel_rfl) (by simp) (by simp) ?_
  conv=>whnf
  repeat' ((first
   | refine lvK ?_
   | (refine .inl ?_;(conv=>whnf);refine ⟨[1,3],_,[I p.to,.ref 1,.ptr 0 0],_,_,⟨rfl,rfl,rfl⟩,hB,lvN ?_⟩)
   | refine lvE ?_
   | fail) <;> try (apply Cj.mk <;> first | exact trivial | intros))
structure Iv.sz (x:Iv):Prop where
 m:x.men.length≤1000000
 r:∀ l,l∈x.men→l.length≤1000000
 h0:x.h0.length≤1000000
 h1:x.h1.length≤1000000
 rt:x.rights.length≤1000000
theorem Iv.ok.sz {g:Gm} (hg:g.ok) {x:Iv} (hx:x.ok g):x.sz:=by
 have k6:=hg.k6
 have c9:=hg.c9
 have r4:=hg.r4
 have h1:=hx.len
 have h2:=hx.l0
 have h3:=hx.l1
 have h4:=hx.lr
 refine ⟨by omega,fun l hl=>?_,by omega,by omega,by omega⟩
 obtain ⟨n,n0,n1,rfl⟩:=mem_nth hl
 have:=hx.row n n0 (by omega)
 omega
set_option maxHeartbeats 4000000 in
set_option maxRecDepth 10000 in
theorem Valid_p (g:Gm) (hg:g.ok) (x:Iv) (hz:x.sz):Pure Try.prog 8 [g.av,x.av] (Bo (x.validB g)) none:=by
 have k6:=hg.k6
 have hnk:g.nk=g.kinds.length:=rfl
 have en:(g.kinds.map Kn).length=g.kinds.length:=List.length_map _
 have em:(x.men.map Is).length=x.men.length:=List.length_map _
 have hm:=hz.m
 have ho:=VOdd_p x x.side
 have hr:=fun l hl n=>VRight_p x l hl n
 have hb1:¬ (2≤x.mod∧x.mod≤1000∧(x.men.length:Int)=2 * g.nk+1∧0≤x.side∧x.side < x.mod)→x.validB g=false:=fun h=>by unfold Iv.validB;rw [decide_eq_false h];rfl
 have hb2:(2≤x.mod∧x.mod≤1000∧(x.men.length:Int)=2 * g.nk+1∧0≤x.side∧x.side < x.mod)→x.validB g=(x.men.all (fun l=>rightB x.mod l g.b.cells) && (rightB x.mod x.h0 g.nk && (rightB x.mod x.h1 g.nk && rightB x.mod x.rights g.rights))):=fun h=>by unfold Iv.validB;rw [decide_eq_true h];rfl
 unfold Iv.bx at ho hr
 unfold FnOdd at hr
 by_cases h1:x.mod < 2
 ·rw [hb1 (by omega)]
  refine fun_of tok D_ok Try.func8 rfl Try.ntmps8 Try.results8 (by kernel_rfl) (by simp) (by simp) ?_
  conv=>whnf
  repeat' ((first
   | refine lvK ?_
   | refine lvE ?_
   | fail) <;> try (apply Cj.mk <;> first | exact trivial | intros))
 by_cases h2:x.mod > 1000
 ·rw [hb1 (by omega)]
  refine fun_of tok D_ok Try.func8 rfl Try.ntmps8 Try.results8 (by kernel_rfl) (by simp) (by simp) ?_
  conv=>whnf
  repeat' ((first
   | refine lvK ?_
   | refine lvE ?_
   | fail) <;> try (apply Cj.mk <;> first | exact trivial | intros))
 by_cases h3:(x.men.length:Int)=2 * g.nk+1
 rotate_left
 ·rw [hb1 (by omega)]
  refine fun_of tok D_ok Try.func8 rfl Try.ntmps8 Try.results8 (by kernel_rfl) (by simp) (by simp) ?_
  conv=>whnf
  repeat' ((first
   | refine lvK ?_
   | refine lvE ?_
   | fail) <;> try (apply Cj.mk <;> first | exact trivial | intros))
 by_cases h4:0≤x.side∧x.side < x.mod
 rotate_left
 ·rw [hb1 (by omega)]
  rw [show oddI x.mod x.side=true by unfold oddI;rw [decide_eq_false h4];rfl] at ho
  refine fun_of tok D_ok Try.func8 rfl Try.ntmps8 Try.results8 (by kernel_rfl) (by simp) (by simp) ?_
  conv=>whnf
  repeat' ((first
   | refine lvK ?_
   | (refine .inl ?_;(conv=>whnf);refine ⟨[1],_,[I x.side,.ptr 0 0],_,_,⟨rfl,rfl,rfl⟩,ho,lvN ?_⟩)
   | refine lvE ?_
   | fail) <;> try (apply Cj.mk <;> first | exact trivial | intros))
 rw [hb2 (by omega)]
 rw [show oddI x.mod x.side=false by unfold oddI;rw [decide_eq_true h4];rfl] at ho
 refine fun_of tok D_ok Try.func8 rfl Try.ntmps8 Try.results8 (by kernel_rfl) (by simp) (by simp) ?_
 conv=>whnf
 repeat' ((first
  | refine lvK ?_
  | (refine .inl ?_;(conv=>whnf);refine ⟨[1],_,[I x.side,.ptr 0 0],_,_,⟨rfl,rfl,rfl⟩,ho,lvN ?_⟩)
  | refine lvE ?_
  | fail) <;> try (apply Cj.mk <;> first | exact trivial | intros))
 refine loopQ fun R1 hR1=>?_
 refine .of (fun i=>[(41,I i)]) (fun i=>[]) 3 (fun i=>0≤i∧i≤x.men.length∧∀ q:Int,0≤q→q < i→rightB x.mod (nth x.men q) g.b.cells=true) (fun i=>(x.men.length - i).toNat) 0 ?_
 conv=>whnf
 refine ⟨⟨[],hdA (lvL ?_) (lvL ?_)⟩,?_,fun i ⟨i0,i1,hq⟩=>lvN ?_⟩ <;> (try (apply Cj.mk <;> first | exact trivial | intros))
 ·exact ⟨by omega,by omega,fun q q0 q1=>by omega⟩
 by_cases hi:i < x.men.length
 ·have hri:=hr (nth x.men i) (by have:=hz.r _ (nth_mem i0 hi);omega) g.b.cells
  cases hb:rightB x.mod (nth x.men i) g.b.cells
  ·rw [hb] at hri
   have hall:x.men.all (fun l=>rightB x.mod l g.b.cells)=false:=by
    rw [List.all_eq_false]
    exact ⟨_,nth_mem i0 hi,by rw [hb];simp⟩
   rw [hall] at hR1
   repeat' ((first
    | refine lvK ?_
    | (refine .inl ?_;(conv=>whnf);refine ⟨[1,2],_,[Is (nth x.men i),I g.b.cells,.ptr 1 0],_,_,⟨rfl,rfl,rfl⟩,hri,lvN ?_⟩)
    | refine lvE ?_
    | fail) <;> try (apply Cj.mk <;> first | exact trivial | intros))
   refine hR1 _ _ ?_
   conv=>whnf
   try dsimp only [St.after,St.afterAt,St.pin,St.unpin,initSt,initT,numO,cellsA,Option.map,ren,renL,renO,St.setObj,headSt,List.cons_append,List.nil_append,List.length_nil,Nat.reduceAdd]
   repeat' ((first
    | refine lvK ?_
    | refine lvE ?_
    | fail) <;> try (apply Cj.mk <;> first | exact trivial | intros))
  ·rw [hb] at hri
   repeat' ((first
    | refine lvK ?_
    | (refine .inl ?_;(conv=>whnf);refine ⟨[1,2],_,[Is (nth x.men i),I g.b.cells,.ptr 1 0],_,_,⟨rfl,rfl,rfl⟩,hri,lvN ?_⟩)
    | refine lvE ?_
    | fail) <;> try (apply Cj.mk <;> first | exact trivial | intros))
   refine ⟨i+1,⟨[],hdA (lvL ?_) (lvL ?_)⟩,?_,by (try dsimp only);omega,rfl⟩ <;> (try (apply Cj.mk <;> first | exact trivial | intros))
   refine ⟨by omega,by omega,fun q q0 q1=>?_⟩
   by_cases hqi:q=i
   ·rw [hqi];exact hb
   ·exact hq q q0 (by omega)
 ·have hall:x.men.all (fun l=>rightB x.mod l g.b.cells)=true:=by
   rw [List.all_eq_true]
   intro l hl
   obtain ⟨n,n0,n1,rfl⟩:=mem_nth hl
   exact hq n n0 (by omega)
  rw [hall] at hR1
  have hr0:=hr x.h0 (by have:=hz.h0;omega) g.nk
  have hr1:=hr x.h1 (by have:=hz.h1;omega) g.nk
  have hr2:=hr x.rights (by have:=hz.rt;omega) g.rights
  rw [hnk,← en] at hr0 hr1
  rw [hnk,← en] at hR1
  clear hb1 hb2 hr hq
  generalize rightB x.mod x.h0 (g.kinds.map Kn).length=b0 at *
  generalize rightB x.mod x.h1 (g.kinds.map Kn).length=b1 at *
  generalize rightB x.mod x.rights g.rights=b2 at *
  cases b0 <;> cases b1 <;> cases b2
  all_goals
   repeat' ((first
    | refine lvK ?_
    | refine lvE ?_
    | fail) <;> try (apply Cj.mk <;> first | exact trivial | intros))
   refine hR1 _ _ ?_
   conv=>whnf
   try dsimp only [St.after,St.afterAt,St.pin,St.unpin,initSt,initT,numO,cellsA,Option.map,ren,renL,renO,St.setObj,headSt,List.cons_append,List.nil_append,List.length_nil,Nat.reduceAdd]
   repeat' ((first
    | refine lvK ?_
    | (refine .inl ?_;(conv=>whnf);refine ⟨[1,2],_,[Is x.h0,I (g.kinds.map Kn).length,.ptr 1 0],_,_,⟨rfl,rfl,rfl⟩,hr0,lvN ?_⟩)
    | (refine .inl ?_;(conv=>whnf);refine ⟨[1,2],_,[Is x.h1,I (g.kinds.map Kn).length,.ptr 1 0],_,_,⟨rfl,rfl,rfl⟩,hr1,lvN ?_⟩)
    | (refine .inl ?_;(conv=>whnf);refine ⟨[1,2],_,[Is x.rights,I g.rights,.ptr 1 0],_,_,⟨rfl,rfl,rfl⟩,hr2,lvN ?_⟩)
    | refine lvE ?_
    | fail) <;> try (apply Cj.mk <;> first | exact trivial | intros))
theorem map_set_ints {α:Type} {n i:Int} {f:Int→α} {v:α} (i0:0≤i):((ints n).map f).set i.toNat v=(ints n).map fun j=>if j=i then v else f j:=by
 refine List.ext_getElem (by simp) fun q h1 h2=>?_
 have hq:q < (ints n).length:=by simpa using h2
 have hv:(ints n)[q]=(q:Int):=by
  have:=nth_ints (n:=n) (i:=(q:Int)) (by omega) (by rw [ints_len] at hq;omega)
  unfold nth at this
  rw [Int.toNat_natCast,List.getD_eq_getElem?_getD,List.getElem?_eq_getElem hq] at this
  exact this
 rw [List.getElem_set,List.getElem_map,List.getElem_map,hv]
 by_cases e:(q:Int)=i
 ·rw [if_pos (by omega),if_pos e]
 ·rw [if_neg (by omega),if_neg e]
def tabL (h w:Int) (f:Int→Int→Int):List (List Int):=(ints h).map fun n=>(ints w).map (f n)
theorem tabL_len {h w:Int} {f:Int→Int→Int} (h0:0≤h):((tabL h w f).length:Int)=h:=by unfold tabL;rw [List.length_map,ints_len];omega
theorem tabL_row {h w:Int} {f:Int→Int→Int} {n:Int} (n0:0≤n) (n1:n < h):nth (tabL h w f) n=(ints w).map (f n):=nth_map_ints n0 n1
theorem tabL_rlen {h w:Int} {f:Int→Int→Int} {n:Int} (n0:0≤n) (n1:n < h) (w0:0≤w):((nth (tabL h w f) n).length:Int)=w:=by rw [tabL_row n0 n1,List.length_map,ints_len];omega
theorem tabL_congr {h w:Int} {f f':Int→Int→Int} (e:∀ n c:Int,0≤n→n < h→0≤c→c < w→f n c=f' n c):tabL h w f=tabL h w f' :=
 List.map_congr_left fun n hn=>List.map_congr_left fun c hc=>e n c (mem_ints.1 hn).1 (mem_ints.1 hn).2 (mem_ints.1 hc).1 (mem_ints.1 hc).2
theorem tabL_set {h w n c v:Int} {f:Int→Int→Int} (n0:0≤n) (n1:n < h) (c0:0≤c):(tabL h w f).set n.toNat ((nth (tabL h w f) n).set c.toNat v)=tabL h w fun m d=>if m=n∧d=c then v else f m d:=by
 rw [tabL_row n0 n1,map_set_ints c0]
 unfold tabL
 rw [map_set_ints n0]
 refine List.map_congr_left fun m _=>?_
 by_cases e:m=n
 ·rw [if_pos e,e]
  refine List.map_congr_left fun d _=>?_
  by_cases q:d=c
  ·dsimp only;rw [if_pos q,if_pos ⟨rfl,q⟩]
  ·dsimp only;rw [if_neg q,if_neg fun h=>q h.2]
 ·rw [if_neg e]
  refine List.map_congr_left fun d _=>?_
  dsimp only;rw [if_neg fun h=>e h.1]
theorem zeroL_rep (n:Int):(zeroL n).map I=List.replicate n.toNat (I 0):=by
 unfold zeroL
 rw [List.map_map]
 refine List.ext_getElem (by rw [List.length_map,ints_len,List.length_replicate]) fun i h1 h2=>?_
 rw [List.getElem_map,List.getElem_replicate];rfl
theorem zeroI_men (g:Gm) (mod:Int):(zeroI g mod).men=tabL (2 * g.nk+1) g.b.cells fun _ _=>0:=rfl
def Iv.ow (x:Iv):List AO:=[.tre 1 (x.men.map Ow),.arr 1 (x.h0.map I),.arr 1 (x.h1.map I),.arr 1 (x.rights.map I)]
def Iv.rf (x:Iv):AV:=.ag [I x.mod,.ref 0,.ref 1,.ref 2,.ref 3,I x.side]
theorem tAppZ {l:List (List Int)} {c:Int} {n:Nat} {K:List AV→Prop} (hn:n=24) (hl:l.length≤1000000) (k:K ((l++[zeroL c]).map Ow)) :
  ((l.map Ow).length+[AV.own 1 (List.replicate c.toNat (I 0))].length) * n≤140737488355328∧(l.map Ow).length+[AV.own 1 (List.replicate c.toNat (I 0))].length≤4611686018427387904∧CalcL (l.map Ow++[AV.own 1 (List.replicate c.toNat (I 0))]) K:=by
 rw [← zeroL_rep c]
 exact tApp hn hl k
def hS (k s q:Int):List AV:=if q < s then List.replicate k.toNat (I 0) else []
set_option maxHeartbeats 4000000 in
set_option maxRecDepth 10000 in
theorem Zero_p (g:Gm) (hg:g.ok) (mod:Int):Fun Try.prog 9 [] [g.av,I mod] (zeroI g mod).rf (zeroI g mod).ow:=by
 have tre:TreHint:=⟨⟩
 have k1:=hg.k1
 have k6:=hg.k6
 have c9:=hg.c9
 have c1:=hg.b.c1
 have r0:=hg.r0
 have r4:=hg.r4
 have hnk:g.nk=g.kinds.length:=rfl
 have en:(g.kinds.map Kn).length=g.kinds.length:=List.length_map _
 refine fun_of tok D_ok Try.func9 rfl Try.ntmps9 Try.results9 (by kernel_rfl) (by simp) (by simp) ?_
 conv=>whnf
 repeat' ((first
  | refine lvK ?_
  | fail) <;> try (apply Cj.mk <;> first | exact trivial | intros))
 refine .of (fun n=>[(6,I n)]) (fun n=>[(3,.box [I mod,.ref 4,.nils,.nils,.ref 2,I 0]),(4,.tre 1 (((ints n).map fun _=>zeroL g.b.cells).map Ow))]) 5 (fun n=>0≤n∧n≤2 * g.nk+1) (fun n=>(2 * g.nk+1 - n).toNat) 0 ?_
 conv=>whnf
 refine ⟨⟨[],hdA (lvL ?_) (lvL ?_)⟩,?_,fun n ⟨n0,n1⟩=>lvN ?_⟩ <;> (try (apply Cj.mk <;> first | exact trivial | intros))
 ·exact ⟨by omega,by omega⟩
 have hl1:((ints n).map fun _=>zeroL g.b.cells).length=n.toNat:=by rw [List.length_map,ints_len]
 by_cases hn:n < 2 * g.nk+1
 ·repeat' ((first
   | refine lvD ?_
   | refine ShowsJ.mk (by kernel_rfl) (by kernel_rfl) (by kernel_rfl) (lvL ?_) (lvL ?_) rfl
   | refine lvE ?_
   | fail) <;> try (apply Cj.mk <;> first | exact trivial | intros))
  refine drawJ [0,2,3,4] [⟨0,0,0,I g.b.cells⟩] [] [(3,.box [I mod,.ref 4,.nils,.nils,.ref 2,I 0]),(4,.tre 1 (((ints (n+1)).map fun _=>zeroL g.b.cells).map Ow))] 5 (by decide +kernel) ?_
  conv=>whnf
  refine And.intro ?_ ?_
  ·repeat' ((first
    | refine lvD ?_
    | refine AltT.own (by assumption) (lvN ?_)
    | refine tAppZ (by decide) (by omega) (lvN ?_)
    | refine ShowsJ.mk (by kernel_rfl) (by kernel_rfl) (by kernel_rfl) (lvL ?_) (lvL ?_) rfl
    | refine lvE ?_
    | fail) <;> try (apply Cj.mk <;> first | exact trivial | intros))
   all_goals first | exact bdOw _ _ ‹_› | rw [map_ints_succ n0]
  repeat' ((first
   | refine lvK ?_
   | fail) <;> try (apply Cj.mk <;> first | exact trivial | intros))
  refine ⟨n+1,⟨[],hdA (lvL ?_) (lvL ?_)⟩,?_,by (try dsimp only);omega,rfl⟩ <;> (try (apply Cj.mk <;> first | exact trivial | intros))
  ·exact bdOw _ _ ‹_›
  ·exact ⟨by omega,by omega⟩
 ·obtain rfl:n=2 * g.nk+1:=by omega
  repeat' ((first
   | refine lvK ?_
   | fail) <;> try (apply Cj.mk <;> first | exact trivial | intros))
  refine .of (fun s=>[(7,I s)]) (fun s=>[(3,.box [I mod,.ref 4,.ref 5,.ref 6,.ref 2,I 0]),(4,.tre 1 (((ints (2 * g.nk+1)).map fun _=>zeroL g.b.cells).map Ow)),(5,.arr 1 (hS g.nk s 0)),(6,.arr 1 (hS g.nk s 1))]) 7 (fun s=>s=0∨s=1∨s=2) (fun s=>(2 - s).toNat) 0 ?_
  conv=>whnf
  refine ⟨⟨[],hdA (lvL ?_) (lvL ?_)⟩,?_,fun s hs=>lvN ?_⟩ <;> (try (apply Cj.mk <;> first | exact trivial | intros))
  ·exact bdOw _ _ ‹_›
  ·exact .inl rfl
  rcases hs with rfl | rfl | rfl
  ·rw [show hS g.nk 0 0=[] from rfl,show hS g.nk 0 1=[] from rfl]
   repeat' ((first
    | refine lvK ?_
    | fail) <;> try (apply Cj.mk <;> first | exact trivial | intros))
   refine ⟨1,⟨[],hdA (lvL ?_) (lvL ?_)⟩,?_,by (try dsimp only);omega,rfl⟩ <;> (try (apply Cj.mk <;> first | exact trivial | intros))
   ·exact bdOw _ _ ‹_›
   ·rw [show ((g.kinds.map Kn).length:Int)=g.nk by omega];rfl
   ·exact .inr (.inl rfl)
  ·rw [show hS g.nk 1 0=List.replicate g.nk.toNat (I 0) from rfl,show hS g.nk 1 1=[] from rfl]
   repeat' ((first
    | refine lvK ?_
    | fail) <;> try (apply Cj.mk <;> first | exact trivial | intros))
   refine ⟨2,⟨[],hdA (lvL ?_) (lvL ?_)⟩,?_,by (try dsimp only);omega,rfl⟩ <;> (try (apply Cj.mk <;> first | exact trivial | intros))
   ·exact bdOw _ _ ‹_›
   ·rw [show ((g.kinds.map Kn).length:Int)=g.nk by omega];rfl
   ·exact .inr (.inr rfl)
  ·rw [show hS g.nk 2 0=List.replicate g.nk.toNat (I 0) from rfl,show hS g.nk 2 1=List.replicate g.nk.toNat (I 0) from rfl]
   repeat' ((first
    | refine lvK ?_
    | fail) <;> try (apply Cj.mk <;> first | exact trivial | intros))
   refine exitS [.obj 4,.obj 5,.obj 6,.obj 2] (by kernel_rfl) (by kernel_rfl) (by kernel_rfl) (lvL ?_) (lvL ?_) <;> (try (apply Cj.mk <;> first | exact trivial | intros))
   ·exact bdOw _ _ ‹_›
   ·exact (zeroL_rep _).symm
   ·exact (zeroL_rep _).symm
   ·exact (zeroL_rep _).symm
set_option maxHeartbeats 4000000 in
set_option maxRecDepth 10000 in
theorem RCount_p (g:Gm) (hg:g.ok) (p:Ps) (hp:p.ok g) (m:Int):Pure Try.prog 11 [p.av,I m] (I (cntC p m)) none:=by
 have c9:=hg.c9
 have hl:=hp.len
 have el:(p.ct.map I).length=p.ct.length:=List.length_map _
 obtain ⟨S,hS⟩:∃ S:Int→Int,S=fun i=>smT (is1 p m) i.toNat:=⟨_,rfl⟩
 have hS0:S 0=0:=by rw [hS];rfl
 have hSs:∀ i:Int,0≤i→S (i+1)=S i+if nth p.ct i=m then 1 else 0:=fun i i0=>by rw [hS];exact smT_succ _ i0
 have hSr:∀ i:Int,0≤i→i≤p.ct.length→0≤S i∧S i≤i:=fun i i0 i1=>by
  have:=smT_rg (is1 p m) 1 (by decide) i.toNat fun k _ _=>by unfold is1;split <;> omega
  rw [hS];dsimp only;omega
 have hSe:cntC p m=S p.ct.length:=by rw [hS];rfl
 rw [hSe]
 clear hS hSe
 refine fun_of tok D_ok Try.func11 rfl Try.ntmps11 Try.results11 (by kernel_rfl) (by simp) (by simp) ?_
 conv=>whnf
 repeat' ((first
  | refine lvK ?_
  | refine lvE ?_
  | fail) <;> try (apply Cj.mk <;> first | exact trivial | intros))
 refine .of (fun i=>[(6,I i),(5,I (S i))]) (fun i=>[]) 1 (fun i=>0≤i∧i≤p.ct.length) (fun i=>(p.ct.length - i).toNat) 0 ?_
 conv=>whnf
 refine ⟨⟨[],hdA (lvL ?_) (lvL ?_)⟩,?_,fun i ⟨i0,i1⟩=>lvN ?_⟩ <;> (try (apply Cj.mk <;> first | exact trivial | intros))
 ·rw [hS0]
 ·exact ⟨by omega,by omega⟩
 have hr:=hSr i i0 i1
 by_cases hi:i < p.ct.length
 ·have hs:=hSs i i0
  repeat' ((first
   | refine lvK ?_
   | refine lvE ?_
   | fail) <;> try (apply Cj.mk <;> first | exact trivial | intros))
  ·rename_i q
   rw [if_pos q] at hs
   refine ⟨i+1,⟨[],hdA (lvL ?_) (lvL ?_)⟩,?_,by (try dsimp only);omega,rfl⟩ <;> (try (apply Cj.mk <;> first | exact trivial | intros))
   ·rw [hs]
   ·exact ⟨by omega,by omega⟩
  ·rename_i q
   rw [if_neg q,Int.add_zero] at hs
   refine ⟨i+1,⟨[],hdA (lvL ?_) (lvL ?_)⟩,?_,by (try dsimp only);omega,rfl⟩ <;> (try (apply Cj.mk <;> first | exact trivial | intros))
   ·rw [hs]
   ·exact ⟨by omega,by omega⟩
 ·obtain rfl:i=p.ct.length:=by omega
  repeat' ((first
   | refine lvK ?_
   | refine lvE ?_
   | fail) <;> try (apply Cj.mk <;> first | exact trivial | intros))
def LOwn (l:List Int):AO:=.arr 1 (l.map I)
end Go.Proofs.Ytejljpjdifblpaa
