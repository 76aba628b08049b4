/- Contracts of functions of the program, proved by the checker; and plain laws. -/
import Derived.Test.YtejljpjdifblpaaZ03
set_option linter.unusedVariables false
set_option linter.unusedSimpArgs false
namespace Go.Proofs.Ytejljpjdifblpaa
open Go Go.Sk
def hdI (g:Gm) (l:List Int) (k:Int):Prop:=0≤nth l k∧nth l k≤8∧(0 < nth l k→g.keep k=true)
instance (g:Gm) (l:List Int) (k:Int):Decidable (hdI g l k):=by unfold hdI;exact inferInstance
set_option maxHeartbeats 4000000 in
set_option maxRecDepth 10000 in
theorem hands_p (g:Gm) (hg:g.ok) (l:List Int):Pure Try.prog 92 [g.av,Is l] (Bo (decide (HdOk g l))) none:=by
 have hnk:g.nk=g.kinds.length:=rfl
 have en:(g.kinds.map Kn).length=g.kinds.length:=List.length_map _
 have el:(l.map I).length=l.length:=List.length_map _
 have k6:=hg.k6
 have c9:=hg.c9
 refine fun_of tok D_ok Try.func92 rfl Try.ntmps92 Try.results92 (by kernel_rfl) (by simp) (by simp) ?_
 conv=>whnf
 by_cases hl:(l.length:Int)=g.nk
 ·repeat' ((first
   | refine lvK ?_
   | refine lvE ?_
   | fail) <;> try (apply Cj.mk <;> first | exact trivial | intros))
  refine .of (fun i=>[(5,I i)]) (fun i=>[]) 1 (fun i=>0≤i∧i≤l.length∧∀ k:Int,0≤k→k < i→hdI g l k) (fun i=>(l.length - i).toNat) 0 ?_
  conv=>whnf
  refine ⟨⟨[],hdA (lvL ?_) (lvL ?_)⟩,?_,fun i ⟨i0,i1,hi⟩=>lvN ?_⟩ <;> (try (apply Cj.mk <;> first | exact trivial | intros))
  ·exact ⟨by omega,by omega,fun k _ _=>by omega⟩
  by_cases h:i < l.length
  ·have hkp:g.keep i=(nth g.kinds i).keep:=rfl
   by_cases hv:hdI g l i
   ·have hnext:∀ k:Int,0≤k→k < i+1→hdI g l k:=fun k k0 k1=>by
     by_cases e:k=i
     ·rw [e];exact hv
     ·exact hi k k0 (by omega)
    unfold hdI at hv
    repeat' ((first
     | refine lvK ?_
     | refine lvE ?_
     | fail) <;> try (apply Cj.mk <;> first | exact trivial | intros))
    ·refine ⟨i+1,⟨[],hdA (lvL ?_) (lvL ?_)⟩,?_,by (try dsimp only);omega,rfl⟩ <;> (try (apply Cj.mk <;> first | exact trivial | intros))
     ·exact ⟨by omega,by omega,hnext⟩
    ·exfalso
     have q:=hv.2.2 (by omega)
     simp_all
    ·refine ⟨i+1,⟨[],hdA (lvL ?_) (lvL ?_)⟩,?_,by (try dsimp only);omega,rfl⟩ <;> (try (apply Cj.mk <;> first | exact trivial | intros))
     ·exact ⟨by omega,by omega,hnext⟩
   ·have hno:decide (HdOk g l)=false:=decide_eq_false fun q=>hv (q.v i i0 (by omega))
    rw [hno]
    unfold hdI at hv
    repeat' ((first
     | refine lvK ?_
     | refine lvE ?_
     | fail) <;> try (apply Cj.mk <;> first | exact trivial | intros))
    all_goals
     exfalso
     first | omega | (refine hv ⟨by omega,by omega,fun _=>?_⟩;simp_all;done)
  ·have hyes:decide (HdOk g l)=true:=decide_eq_true ⟨hl,fun k k0 k1=>hi k k0 (by omega)⟩
   rw [hyes]
   repeat' ((first
    | refine lvK ?_
    | refine lvE ?_
    | fail) <;> try (apply Cj.mk <;> first | exact trivial | intros))
 ·have hno:decide (HdOk g l)=false:=decide_eq_false fun q=>hl q.len
  rw [hno]
  repeat' ((first
   | refine lvK ?_
   | refine lvE ?_
   | fail) <;> try (apply Cj.mk <;> first | exact trivial | intros))
set_option maxHeartbeats 4000000 in
set_option maxRecDepth 10000 in
theorem R4Valid_p (g:Gm) (hg:g.ok) (p:Ps):Pure Try.prog 83 [g.av,p.av] (Bo (decide (p.ok g))) none:=by
 have hnk:g.nk=g.kinds.length:=rfl
 have en:(g.kinds.map Kn).length=g.kinds.length:=List.length_map _
 have el:(p.ct.map I).length=p.ct.length:=List.length_map _
 have k6:=hg.k6
 have c9:=hg.c9
 have r0:=hg.r0
 have r4:=hg.r4
 have q0:=hands_p g hg p.h0
 have q1:=hands_p g hg p.h1
 refine fun_of tok D_ok Try.func83 rfl Try.ntmps83 Try.results83 (by kernel_rfl) (by simp) (by simp) ?_
 conv=>whnf
 by_cases h1:(p.ct.length:Int)=g.b.cells
 ·by_cases h2:HdOk g p.h0
  ·rw [decide_eq_true h2] at q0
   by_cases h3:HdOk g p.h1
   ·rw [decide_eq_true h3] at q1
    by_cases h4:0≤p.rights∧p.rights < 2 ^ g.rights.toNat∧0≤p.side∧p.side≤1
    ·repeat' ((first
      | refine lvK ?_
      | refine ⟨_,_,q0,lvN ?_⟩
      | (refine .inl ?_;(conv=>whnf);refine ⟨_,_,q0,lvN ?_⟩)
      | refine ⟨_,_,q1,lvN ?_⟩
      | (refine .inl ?_;(conv=>whnf);refine ⟨_,_,q1,lvN ?_⟩)
      | refine lvE ?_
      | fail) <;> try (apply Cj.mk <;> first | exact trivial | intros))
     refine .of (fun i=>[(5,I i)]) (fun i=>[]) 2 (fun i=>0≤i∧i≤p.ct.length∧∀ k:Int,0≤k→k < i→0≤nth p.ct k∧nth p.ct k≤2 * g.nk) (fun i=>(p.ct.length - i).toNat) 0 ?_
     conv=>whnf
     refine ⟨⟨[],hdA (lvL ?_) (lvL ?_)⟩,?_,fun i ⟨i0,i1,hi⟩=>lvN ?_⟩ <;> (try (apply Cj.mk <;> first | exact trivial | intros))
     ·exact ⟨by omega,by omega,fun k _ _=>by omega⟩
     by_cases h:i < p.ct.length
     ·by_cases hv:0≤nth p.ct i∧nth p.ct i≤2 * g.nk
      ·repeat' ((first
        | refine lvK ?_
        | refine lvE ?_
        | fail) <;> try (apply Cj.mk <;> first | exact trivial | intros))
       all_goals (try (exfalso;omega))
       refine ⟨i+1,⟨[],hdA (lvL ?_) (lvL ?_)⟩,?_,by (try dsimp only);omega,rfl⟩ <;> (try (apply Cj.mk <;> first | exact trivial | intros))
       ·refine ⟨by omega,by omega,fun k k0 k1=>?_⟩
        by_cases e:k=i
        ·rw [e];exact hv
        ·exact hi k k0 (by omega)
      ·have hno:decide (p.ok g)=false:=decide_eq_false fun q=>hv (q.c i i0 (by omega))
       rw [hno]
       repeat' ((first
        | refine lvK ?_
        | refine lvE ?_
        | fail) <;> try (apply Cj.mk <;> first | exact trivial | intros))
       all_goals (try (exfalso;omega))
     ·have hyes:decide (p.ok g)=true:=decide_eq_true ⟨h1,fun k k0 k1=>hi k k0 (by omega),h2,h3,h4.1,h4.2.1,by omega⟩
      rw [hyes]
      repeat' ((first
       | refine lvK ?_
       | refine lvE ?_
       | fail) <;> try (apply Cj.mk <;> first | exact trivial | intros))
    ·have hno:decide (p.ok g)=false:=decide_eq_false fun q=>h4 ⟨q.r0,q.r1,by have:=q.s;omega,by have:=q.s;omega⟩
     rw [hno]
     repeat' ((first
      | refine lvA ?_
      | refine ⟨_,_,q0,lvN ?_⟩
      | (refine .inl ?_;(conv=>whnf);refine ⟨_,_,q0,lvN ?_⟩)
      | refine ⟨_,_,q1,lvN ?_⟩
      | (refine .inl ?_;(conv=>whnf);refine ⟨_,_,q1,lvN ?_⟩)
      | refine lvE ?_
      | fail) <;> try (apply Cj.mk <;> first | exact trivial | intros))
     all_goals (exfalso;omega)
   ·have hno:decide (p.ok g)=false:=decide_eq_false fun q=>h3 q.h1
    rw [hno]
    rw [decide_eq_false h3] at q1
    repeat' ((first
     | refine lvK ?_
     | refine ⟨_,_,q0,lvN ?_⟩
     | (refine .inl ?_;(conv=>whnf);refine ⟨_,_,q0,lvN ?_⟩)
     | refine ⟨_,_,q1,lvN ?_⟩
     | (refine .inl ?_;(conv=>whnf);refine ⟨_,_,q1,lvN ?_⟩)
     | refine lvE ?_
     | fail) <;> try (apply Cj.mk <;> first | exact trivial | intros))
  ·have hno:decide (p.ok g)=false:=decide_eq_false fun q=>h2 q.h0
   rw [hno]
   rw [decide_eq_false h2] at q0
   repeat' ((first
    | refine lvK ?_
    | refine ⟨_,_,q0,lvN ?_⟩
    | (refine .inl ?_;(conv=>whnf);refine ⟨_,_,q0,lvN ?_⟩)
    | refine lvE ?_
    | fail) <;> try (apply Cj.mk <;> first | exact trivial | intros))
 ·have hno:decide (p.ok g)=false:=decide_eq_false fun q=>h1 q.len
  rw [hno]
  repeat' ((first
   | refine lvK ?_
   | refine lvE ?_
   | fail) <;> try (apply Cj.mk <;> first | exact trivial | intros))
end Go.Proofs.Ytejljpjdifblpaa
