/- Contracts of functions of the program, proved by the checker; and plain laws. -/
import Derived.Test.YthgobfncgnjimaaGreatDoorZ04
set_option linter.unusedVariables false
set_option linter.unusedSimpArgs false
namespace Go.Proofs.YthgobfncgnjimaaGreatDoor
open Go Go.Sk
def inC (g:Gm) (n:Int):Bool:=decide (0≤n) && decide (n≤2 * g.nk)
set_option maxRecDepth 10000 in
theorem content_p (g:Gm) (hg:g.ok) (n:Int):Pure Tryz.prog 93 [g.av,I n] (Bo (inC g n)) none:=by
 have hnk:g.nk=g.kinds.length:=rfl
 have en:(g.kinds.map Kn).length=g.kinds.length:=List.length_map _
 have k6:=hg.k6
 unfold inC
 refine fun_of tok D_ok Tryz.func93 rfl Tryz.ntmps93 Tryz.results93 (by kernel_rfl) (by simp) (by simp) ?_
 conv=>whnf
 by_cases h:0≤n
 ·rw [decide_eq_true h]
  by_cases h2:n≤2 * g.nk
  ·rw [decide_eq_true h2]
   repeat' (first | (refine lvK ?_;apply Cj.mk <;> first | exact trivial | intros) | (refine lvE ?_;apply Cj.mk <;> first | exact trivial | intros) | fail)
   rw [decide_eq_true (by omega)];rfl
  ·rw [decide_eq_false h2]
   repeat' (first | (refine lvK ?_;apply Cj.mk <;> first | exact trivial | intros) | (refine lvE ?_;apply Cj.mk <;> first | exact trivial | intros) | fail)
   rw [decide_eq_false (by omega)];rfl
 ·rw [decide_eq_false h]
  repeat' (first | (refine lvK ?_;apply Cj.mk <;> first | exact trivial | intros) | (refine lvE ?_;apply Cj.mk <;> first | exact trivial | intros) | fail)
set_option maxHeartbeats 4000000 in
set_option maxRecDepth 10000 in
theorem phand_p (g:Gm) (hg:g.ok) (l:List Int):Pure Tryz.prog 96 [g.av,Is l] (Bo (decide (HdOk g l))) none:=by
 have hnk:g.nk=g.kinds.length:=rfl
 have en:(g.kinds.map Kn).length=g.kinds.length:=List.length_map _
 have el:(l.map I).length=l.length:=List.length_map _
 have k6:=hg.k6
 have c9:=hg.c9
 refine fun_of tok D_ok Tryz.func96 rfl Tryz.ntmps96 Tryz.results96 (by kernel_rfl) (by simp) (by simp) ?_
 conv=>whnf
 by_cases hl:(l.length:Int)=g.nk
 ·repeat' (first
   | (refine lvK ?_;apply Cj.mk <;> first | exact trivial | intros)
   | (refine lvE ?_;apply Cj.mk <;> first | exact trivial | intros)
   | fail)
  refine .of (fun i=>[(16,I i)]) (fun i=>[]) 1 (fun i=>0≤i∧i≤l.length∧∀ k:Int,0≤k→k < i→hdI g l k) (fun i=>(l.length - i).toNat) 0 ?_
  conv=>whnf
  refine ⟨⟨[],hdA (lvL ?_) (lvL ?_)⟩,?_,fun i ⟨i0,i1,hi⟩=>lvN ?_⟩ <;> (try (apply Cj.mk <;> first | exact trivial | intros))
  ·exact ⟨by omega,by omega,fun k _ _=>by omega⟩
  by_cases h:i < l.length
  ·have hkp:g.keep i=(nth g.kinds i).keep:=rfl
   by_cases hv:hdI g l i
   ·have hnext:∀ k:Int,0≤k→k < i+1→hdI g l k:=fun k k0 k1=>by
     by_cases e:k=i
     ·rw [e];exact hv
     ·exact hi k k0 (by omega)
    unfold hdI at hv
    repeat' (first | (refine lvK ?_;apply Cj.mk <;> first | exact trivial | intros) | (refine lvE ?_;apply Cj.mk <;> first | exact trivial | intros) | fail)
    ·refine ⟨i+1,⟨[],hdA (lvL ?_) (lvL ?_)⟩,?_,by (try dsimp only);omega,rfl⟩ <;> (try (apply Cj.mk <;> first | exact trivial | intros))
     ·exact ⟨by omega,by omega,hnext⟩
    ·exfalso
     have q:=hv.2.2 (by omega)
     simp_all
    ·refine ⟨i+1,⟨[],hdA (lvL ?_) (lvL ?_)⟩,?_,by (try dsimp only);omega,rfl⟩ <;> (try (apply Cj.mk <;> first | exact trivial | intros))
     ·exact ⟨by omega,by omega,hnext⟩
   ·have hno:decide (HdOk g l)=false:=decide_eq_false fun q=>hv (q.v i i0 (by omega))
    rw [hno]
    unfold hdI at hv
    repeat' (first | (refine lvK ?_;apply Cj.mk <;> first | exact trivial | intros) | (refine lvE ?_;apply Cj.mk <;> first | exact trivial | intros) | fail)
    all_goals
     exfalso
     first | omega | (refine hv ⟨by omega,by omega,fun _=>?_⟩;simp_all;done)
  ·have hyes:decide (HdOk g l)=true:=decide_eq_true ⟨hl,fun k k0 k1=>hi k k0 (by omega)⟩
   rw [hyes]
   repeat' (first | (refine lvK ?_;apply Cj.mk <;> first | exact trivial | intros) | (refine lvE ?_;apply Cj.mk <;> first | exact trivial | intros) | fail)
 ·have hno:decide (HdOk g l)=false:=decide_eq_false fun q=>hl q.len
  rw [hno]
  repeat' (first | (refine lvK ?_;apply Cj.mk <;> first | exact trivial | intros) | (refine lvE ?_;apply Cj.mk <;> first | exact trivial | intros) | fail)
def inF (g:Gm):AV:=.fn (.func 93) [g.av] []
set_option maxRecDepth 10000 in
theorem podd_p (g:Gm) (hg:g.ok) (n:Int):Fun Tryz.prog 94 [.box [inF g]] [I n,.ptr 0 0] (Bo (!inC g n)) [.box [inF g]]:=by
 have h:=content_p g hg n
 refine fun_of tok D_ok Tryz.func94 rfl Tryz.ntmps94 Tryz.results94 (by kernel_rfl) (by simp) (by simp) ?_
 conv=>whnf
 repeat' (first | ((first | refine lvA ?_ | (refine .inl ?_;(conv=>whnf);refine ⟨[],[],[g.av,I n],_,_,⟨rfl,rfl,rfl⟩,h,lvN ?_⟩));apply Cj.mk <;> first | exact trivial | intros) | (refine lvE ?_;apply Cj.mk <;> first | exact trivial | intros) | fail)
def FOdd:AV:=.fn (.func 94) [] [.ptr 0 0]
set_option maxRecDepth 10000 in
theorem pIndexOdd_p (g:Gm) (hg:g.ok) (l:List Int) (hl:l.length≤4611686018427387904) :
  Fun Tryz.prog 139 [.box [inF g]] [Is l,FOdd] (I (match l.findIdx? (fun n=>!inC g n) with | some i=>(i:Int) | none=>-1)) [.box [inF g]]:=by
 have e:(l.map I).length=l.length:=List.length_map _
 refine fun_of tok D_ok Tryz.func139 rfl Tryz.ntmps139 Tryz.results139 (by kernel_rfl) (by simp) (by simp) ?_
 conv=>whnf
 repeat' (first | (refine lvK ?_;apply Cj.mk <;> first | exact trivial | intros) | (refine lvE ?_;apply Cj.mk <;> first | exact trivial | intros) | fail)
 refine .of (fun i=>[(8,I i)]) (fun i=>[]) 1 (fun i=>0≤i∧i≤l.length∧∀ c,c∈l.take i.toNat→(!inC g c)=false) (fun i=>(l.length - i).toNat) 0 ?_
 conv=>whnf
 refine ⟨⟨[],hdA (lvL ?_) (lvL ?_)⟩,?_,fun i ⟨h0,h1,ht⟩=>lvN ?_⟩ <;> (try (apply Cj.mk <;> first | exact trivial | intros))
 ·exact ⟨by omega,by omega,by simp⟩
 by_cases hi:i < l.length
 ·have hs:=take_snoc h0 hi
  have ho:=podd_p g hg (nth l i)
  cases hb:(!inC g (nth l i))
  ·rw [hb] at ho
   repeat' (first | ((first | refine lvK ?_ | (refine .inl ?_;(conv=>whnf);refine ⟨[0],[.box [inF g]],[I (nth l i),.ptr 0 0],_,_,⟨rfl,rfl,rfl⟩,ho,lvN ?_⟩));apply Cj.mk <;> first | exact trivial | intros) | (refine lvE ?_;apply Cj.mk <;> first | exact trivial | intros) | fail)
   refine ⟨i+1,⟨[],hdA (lvL ?_) (lvL ?_)⟩,?_,by (try dsimp only);omega,rfl⟩ <;> (try (apply Cj.mk <;> first | exact trivial | intros))
   refine ⟨by omega,by omega,fun c hc=>?_⟩
   rw [hs] at hc
   rcases List.mem_append.1 hc with hc | hc
   ·exact ht c hc
   ·simp at hc;subst hc;exact hb
  ·rw [hb] at ho
   have hf:l.findIdx? (fun n=>!inC g n)=some i.toNat:=by
    rw [List.findIdx?_eq_some_iff_getElem]
    refine ⟨by omega,?_,fun j hj=>?_⟩
    ·have:=nth_some h0 hi
     rw [List.getElem?_eq_getElem (by omega)] at this
     injection this with this
     rw [this];exact hb
    ·have:=ht l[j] (List.mem_take_iff_getElem.2 ⟨j,by omega,rfl⟩)
     simp [this]
   rw [hf]
   repeat' (first | ((first | refine lvK ?_ | (refine .inl ?_;(conv=>whnf);refine ⟨[0],[.box [inF g]],[I (nth l i),.ptr 0 0],_,_,⟨rfl,rfl,rfl⟩,ho,lvN ?_⟩));apply Cj.mk <;> first | exact trivial | intros) | (refine lvE ?_;apply Cj.mk <;> first | exact trivial | intros) | fail)
   show Value.int .i64 i=Value.int .i64 ((i.toNat:Int))
   rw [Int.toNat_of_nonneg h0]
 ·have hf:l.findIdx? (fun n=>!inC g n)=none:=by
   rw [List.findIdx?_eq_none_iff]
   intro c hc
   exact ht c (by rw [take_all (by omega)];exact hc)
  rw [hf]
  repeat' (first | (refine lvK ?_;apply Cj.mk <;> first | exact trivial | intros) | (refine lvE ?_;apply Cj.mk <;> first | exact trivial | intros) | fail)
set_option maxRecDepth 10000 in
theorem pContainsOdd_p (g:Gm) (hg:g.ok) (l:List Int) (hl:l.length≤4611686018427387904) :
  Fun Tryz.prog 95 [.box [inF g]] [Is l,FOdd] (Bo (l.any fun n=>!inC g n)) [.box [inF g]]:=by
 have hx:=pIndexOdd_p g hg l hl
 have:(decide ((match l.findIdx? (fun n=>!inC g n) with | some i=>(i:Int) | none=>-1)≥0))=l.any (fun n=>!inC g n):=by
  cases hf:l.findIdx? (fun n=>!inC g n) with
  | none =>
   rw [List.findIdx?_eq_none_iff] at hf
   have h2:l.any (fun n=>!inC g n)=false:=List.any_eq_false.2 fun x hx=>by rw [hf x hx];simp
   rw [h2];rfl
  | some i =>
   obtain ⟨h1,h2,_⟩:=List.findIdx?_eq_some_iff_getElem.1 hf
   have h3:l.any (fun n=>!inC g n)=true:=List.any_eq_true.2 ⟨l[i],List.getElem_mem _,h2⟩
   rw [h3]
   exact decide_eq_true (show (i:Int)≥0 by omega)
 rw [← this]
 generalize (match l.findIdx? (fun n=>!inC g n) with | some i=>(i:Int) | none=>-1)=z at *
 refine fun_of tok D_ok Tryz.func95 rfl Tryz.ntmps95 Tryz.results95 (by kernel_rfl) (by simp) (by simp) ?_
 conv=>whnf
 repeat' (first | ((first | refine lvA ?_ | (refine .inl ?_;(conv=>whnf);refine ⟨[0],[.box [inF g]],[Is l,FOdd],_,_,⟨rfl,rfl,rfl⟩,hx,lvN ?_⟩));apply Cj.mk <;> first | exact trivial | intros) | (refine lvE ?_;apply Cj.mk <;> first | exact trivial | intros) | fail)
theorem PV_c {g:Gm} {p:Ps} (h1:(p.ct.length:Int)=g.b.cells) (h2:p.ct.any (fun n=>!inC g n)=false):∀ i:Int,0≤i→i < g.b.cells→0≤nth p.ct i∧nth p.ct i≤2 * g.nk:=fun i i0 i1=>by
 have:=List.any_eq_false.1 h2 _ (nth_mem i0 (by omega))
 unfold inC at this
 simp only [Bool.not_eq_true',Bool.not_eq_false,Bool.and_eq_true,decide_eq_true_eq] at this
 exact this
set_option maxHeartbeats 8000000 in
set_option maxRecDepth 10000 in
theorem PValid_p (g:Gm) (hg:g.ok) (p:Ps) (hl:p.ct.length≤4611686018427387904):Pure Tryz.prog 68 [g.av,p.av] (Bo (decide (p.ok g))) none:=by
 have hnk:g.nk=g.kinds.length:=rfl
 have en:(g.kinds.map Kn).length=g.kinds.length:=List.length_map _
 have el:(p.ct.map I).length=p.ct.length:=List.length_map _
 have k6:=hg.k6
 have c9:=hg.c9
 have r0:=hg.r0
 have r4:=hg.r4
 have q0:=phand_p g hg p.h0
 have q1:=phand_p g hg p.h1
 have qc:=pContainsOdd_p g hg p.ct hl
 refine fun_of tok D_ok Tryz.func68 rfl Tryz.ntmps68 Tryz.results68 (by kernel_rfl) (by simp) (by simp) ?_
 conv=>whnf
 repeat' (first | (refine lvD ?_;apply Cj.mk <;> first | exact trivial | intros) | (refine ShowsJ.mk (by kernel_rfl) (by kernel_rfl) (by kernel_rfl) (lvL ?_) (lvL ?_) rfl <;> (try (apply Cj.mk <;> first | exact trivial | intros))) | (refine lvE ?_;apply Cj.mk <;> first | exact trivial | intros) | fail)
 by_cases h1:(p.ct.length:Int)=g.b.cells
 ·by_cases h2:p.ct.any (fun n=>!inC g n)=true
  ·rw [h2] at qc
   have hno:decide (p.ok g)=false:=decide_eq_false fun q=>by
    obtain ⟨x,hx,h3⟩:=List.any_eq_true.1 h2
    obtain ⟨k,q0,q1,rfl⟩:=mem_nth hx
    have:=q.c k q0 (by omega)
    unfold inC at h3
    rw [decide_eq_true this.1,decide_eq_true this.2] at h3
    cases h3
   rw [hno]
   refine drawJE [0,3,4,5] [(8,[7]),(10,[7]),(16,[14]),(17,[14,16]),(23,[21]),(24,[21,23]),(29,[28]),(30,[28,29]),(31,[28,30]),(34,[33]),(35,[33,34]),(36,[33]),(37,[33,36]),(38,[33,37]),(39,[33,35,38]),(42,[41]),(43,[41,42]),(44,[41,43]),(45,[41,44]),(46,[45]),(47,[45,46]),(48,[45,47])] [⟨0,0,0,I g.b.cells⟩,⟨0,0,4,I g.rights⟩,⟨0,1,3,I p.rights⟩,⟨0,1,4,I p.side⟩] [(4,Bo false)] [] 4 (by decide +kernel) ?_
   conv=>whnf
   refine And.intro ?_ ?_
   ·repeat' (first
     | (refine lvD ?_;apply Cj.mk <;> first | exact trivial | intros)
     | (refine .inl ?_;(conv=>whnf);refine ⟨[3],[.box [inF g]],[Is p.ct,FOdd],_,_,⟨rfl,rfl,rfl⟩,qc,lvN ?_⟩;apply Cj.mk <;> first | exact trivial | intros)
     | (refine ⟨_,_,q0,lvN ?_⟩;apply Cj.mk <;> first | exact trivial | intros)
     | (refine .inl ?_;(conv=>whnf);refine ⟨_,_,q0,lvN ?_⟩;apply Cj.mk <;> first | exact trivial | intros)
     | (refine ⟨_,_,q1,lvN ?_⟩;apply Cj.mk <;> first | exact trivial | intros)
     | (refine .inl ?_;(conv=>whnf);refine ⟨_,_,q1,lvN ?_⟩;apply Cj.mk <;> first | exact trivial | intros)
     | (refine ShowsJ.mk (by kernel_rfl) (by kernel_rfl) (by kernel_rfl) (lvL ?_) (lvL ?_) rfl <;> (try (apply Cj.mk <;> first | exact trivial | intros)))
     | (refine lvE ?_;apply Cj.mk <;> first | exact trivial | intros)
     | fail)
   ·repeat' (first
     | (refine lvK ?_;apply Cj.mk <;> first | exact trivial | intros)
     | (refine lvE ?_;apply Cj.mk <;> first | exact trivial | intros)
     | fail)
  ·have h2':p.ct.any (fun n=>!inC g n)=false:=by simpa using h2
   rw [h2'] at qc
   by_cases h3:HdOk g p.h0
   ·rw [decide_eq_true h3] at q0
    by_cases h4:HdOk g p.h1
    ·rw [decide_eq_true h4] at q1
     by_cases h5:0≤p.rights
     ·by_cases h6:p.rights < 2 ^ g.rights.toNat
      ·by_cases h7:p.side=0
       ·have hyes:decide (p.ok g)=true:=decide_eq_true ⟨h1,PV_c h1 h2',h3,h4,h5,h6,.inl h7⟩
        rw [hyes]
        refine drawJE [0,3,4,5] [(8,[7]),(10,[7]),(16,[14]),(17,[14,16]),(23,[21]),(24,[21,23]),(29,[28]),(30,[28,29]),(31,[28,30]),(34,[33]),(35,[33,34]),(36,[33]),(37,[33,36]),(38,[33,37]),(39,[33,35,38]),(42,[41]),(43,[41,42]),(44,[41,43]),(45,[41,44]),(46,[45]),(47,[45,46]),(48,[45,47])] [⟨0,0,0,I g.b.cells⟩,⟨0,0,4,I g.rights⟩,⟨0,1,3,I p.rights⟩,⟨0,1,4,I p.side⟩] [(4,Bo true)] [] 4 (by decide +kernel) ?_
        conv=>whnf
        refine And.intro ?_ ?_
        ·repeat' (first
          | (refine lvD ?_;apply Cj.mk <;> first | exact trivial | intros)
          | (refine .inl ?_;(conv=>whnf);refine ⟨[3],[.box [inF g]],[Is p.ct,FOdd],_,_,⟨rfl,rfl,rfl⟩,qc,lvN ?_⟩;apply Cj.mk <;> first | exact trivial | intros)
          | (refine ⟨_,_,q0,lvN ?_⟩;apply Cj.mk <;> first | exact trivial | intros)
          | (refine .inl ?_;(conv=>whnf);refine ⟨_,_,q0,lvN ?_⟩;apply Cj.mk <;> first | exact trivial | intros)
          | (refine ⟨_,_,q1,lvN ?_⟩;apply Cj.mk <;> first | exact trivial | intros)
          | (refine .inl ?_;(conv=>whnf);refine ⟨_,_,q1,lvN ?_⟩;apply Cj.mk <;> first | exact trivial | intros)
          | (refine ShowsJ.mk (by kernel_rfl) (by kernel_rfl) (by kernel_rfl) (lvL ?_) (lvL ?_) rfl <;> (try (apply Cj.mk <;> first | exact trivial | intros)))
          | (refine lvE ?_;apply Cj.mk <;> first | exact trivial | intros)
          | fail)
        ·repeat' (first
          | (refine lvK ?_;apply Cj.mk <;> first | exact trivial | intros)
          | (refine lvE ?_;apply Cj.mk <;> first | exact trivial | intros)
          | fail)
       ·by_cases h8:p.side=1
        ·have hyes:decide (p.ok g)=true:=decide_eq_true ⟨h1,PV_c h1 h2',h3,h4,h5,h6,.inr h8⟩
         rw [hyes]
         refine drawJE [0,3,4,5] [(8,[7]),(10,[7]),(16,[14]),(17,[14,16]),(23,[21]),(24,[21,23]),(29,[28]),(30,[28,29]),(31,[28,30]),(34,[33]),(35,[33,34]),(36,[33]),(37,[33,36]),(38,[33,37]),(39,[33,35,38]),(42,[41]),(43,[41,42]),(44,[41,43]),(45,[41,44]),(46,[45]),(47,[45,46]),(48,[45,47])] [⟨0,0,0,I g.b.cells⟩,⟨0,0,4,I g.rights⟩,⟨0,1,3,I p.rights⟩,⟨0,1,4,I p.side⟩] [(4,Bo true)] [] 4 (by decide +kernel) ?_
         conv=>whnf
         refine And.intro ?_ ?_
         ·repeat' (first
           | (refine lvD ?_;apply Cj.mk <;> first | exact trivial | intros)
           | (refine .inl ?_;(conv=>whnf);refine ⟨[3],[.box [inF g]],[Is p.ct,FOdd],_,_,⟨rfl,rfl,rfl⟩,qc,lvN ?_⟩;apply Cj.mk <;> first | exact trivial | intros)
           | (refine ⟨_,_,q0,lvN ?_⟩;apply Cj.mk <;> first | exact trivial | intros)
           | (refine .inl ?_;(conv=>whnf);refine ⟨_,_,q0,lvN ?_⟩;apply Cj.mk <;> first | exact trivial | intros)
           | (refine ⟨_,_,q1,lvN ?_⟩;apply Cj.mk <;> first | exact trivial | intros)
           | (refine .inl ?_;(conv=>whnf);refine ⟨_,_,q1,lvN ?_⟩;apply Cj.mk <;> first | exact trivial | intros)
           | (refine ShowsJ.mk (by kernel_rfl) (by kernel_rfl) (by kernel_rfl) (lvL ?_) (lvL ?_) rfl <;> (try (apply Cj.mk <;> first | exact trivial | intros)))
           | (refine lvE ?_;apply Cj.mk <;> first | exact trivial | intros)
           | fail)
          all_goals (rw [h8];rfl)
         ·repeat' (first
           | (refine lvK ?_;apply Cj.mk <;> first | exact trivial | intros)
           | (refine lvE ?_;apply Cj.mk <;> first | exact trivial | intros)
           | fail)
        ·have hno:decide (p.ok g)=false:=decide_eq_false fun q=>h7 (q.s.resolve_right h8)
         rw [hno]
         refine drawJE [0,3,4,5] [(8,[7]),(10,[7]),(16,[14]),(17,[14,16]),(23,[21]),(24,[21,23]),(29,[28]),(30,[28,29]),(31,[28,30]),(34,[33]),(35,[33,34]),(36,[33]),(37,[33,36]),(38,[33,37]),(39,[33,35,38]),(42,[41]),(43,[41,42]),(44,[41,43]),(45,[41,44]),(46,[45]),(47,[45,46]),(48,[45,47])] [⟨0,0,0,I g.b.cells⟩,⟨0,0,4,I g.rights⟩,⟨0,1,3,I p.rights⟩,⟨0,1,4,I p.side⟩] [(4,Bo false)] [] 4 (by decide +kernel) ?_
         conv=>whnf
         refine And.intro ?_ ?_
         ·repeat' (first
           | (refine lvD ?_;apply Cj.mk <;> first | exact trivial | intros)
           | (refine .inl ?_;(conv=>whnf);refine ⟨[3],[.box [inF g]],[Is p.ct,FOdd],_,_,⟨rfl,rfl,rfl⟩,qc,lvN ?_⟩;apply Cj.mk <;> first | exact trivial | intros)
           | (refine ⟨_,_,q0,lvN ?_⟩;apply Cj.mk <;> first | exact trivial | intros)
           | (refine .inl ?_;(conv=>whnf);refine ⟨_,_,q0,lvN ?_⟩;apply Cj.mk <;> first | exact trivial | intros)
           | (refine ⟨_,_,q1,lvN ?_⟩;apply Cj.mk <;> first | exact trivial | intros)
           | (refine .inl ?_;(conv=>whnf);refine ⟨_,_,q1,lvN ?_⟩;apply Cj.mk <;> first | exact trivial | intros)
           | (refine ShowsJ.mk (by kernel_rfl) (by kernel_rfl) (by kernel_rfl) (lvL ?_) (lvL ?_) rfl <;> (try (apply Cj.mk <;> first | exact trivial | intros)))
           | (refine lvE ?_;apply Cj.mk <;> first | exact trivial | intros)
           | fail)
          all_goals (rw [show (p.side == 1)=false by simpa using h8])
         ·repeat' (first
           | (refine lvK ?_;apply Cj.mk <;> first | exact trivial | intros)
           | (refine lvE ?_;apply Cj.mk <;> first | exact trivial | intros)
           | fail)
      ·have hno:decide (p.ok g)=false:=decide_eq_false fun q=>h6 q.r1
       rw [hno]
       refine drawJE [0,3,4,5] [(8,[7]),(10,[7]),(16,[14]),(17,[14,16]),(23,[21]),(24,[21,23]),(29,[28]),(30,[28,29]),(31,[28,30]),(34,[33]),(35,[33,34]),(36,[33]),(37,[33,36]),(38,[33,37]),(39,[33,35,38]),(42,[41]),(43,[41,42]),(44,[41,43]),(45,[41,44]),(46,[45]),(47,[45,46]),(48,[45,47])] [⟨0,0,0,I g.b.cells⟩,⟨0,0,4,I g.rights⟩,⟨0,1,3,I p.rights⟩,⟨0,1,4,I p.side⟩] [(4,Bo false)] [] 4 (by decide +kernel) ?_
       conv=>whnf
       refine And.intro ?_ ?_
       ·repeat' (first
         | (refine lvD ?_;apply Cj.mk <;> first | exact trivial | intros)
         | (refine .inl ?_;(conv=>whnf);refine ⟨[3],[.box [inF g]],[Is p.ct,FOdd],_,_,⟨rfl,rfl,rfl⟩,qc,lvN ?_⟩;apply Cj.mk <;> first | exact trivial | intros)
         | (refine ⟨_,_,q0,lvN ?_⟩;apply Cj.mk <;> first | exact trivial | intros)
         | (refine .inl ?_;(conv=>whnf);refine ⟨_,_,q0,lvN ?_⟩;apply Cj.mk <;> first | exact trivial | intros)
         | (refine ⟨_,_,q1,lvN ?_⟩;apply Cj.mk <;> first | exact trivial | intros)
         | (refine .inl ?_;(conv=>whnf);refine ⟨_,_,q1,lvN ?_⟩;apply Cj.mk <;> first | exact trivial | intros)
         | (refine ShowsJ.mk (by kernel_rfl) (by kernel_rfl) (by kernel_rfl) (lvL ?_) (lvL ?_) rfl <;> (try (apply Cj.mk <;> first | exact trivial | intros)))
         | (refine lvE ?_;apply Cj.mk <;> first | exact trivial | intros)
         | fail)
       ·repeat' (first
         | (refine lvK ?_;apply Cj.mk <;> first | exact trivial | intros)
         | (refine lvE ?_;apply Cj.mk <;> first | exact trivial | intros)
         | fail)
     ·have hno:decide (p.ok g)=false:=decide_eq_false fun q=>h5 q.r0
      rw [hno]
      refine drawJE [0,3,4,5] [(8,[7]),(10,[7]),(16,[14]),(17,[14,16]),(23,[21]),(24,[21,23]),(29,[28]),(30,[28,29]),(31,[28,30]),(34,[33]),(35,[33,34]),(36,[33]),(37,[33,36]),(38,[33,37]),(39,[33,35,38]),(42,[41]),(43,[41,42]),(44,[41,43]),(45,[41,44]),(46,[45]),(47,[45,46]),(48,[45,47])] [⟨0,0,0,I g.b.cells⟩,⟨0,0,4,I g.rights⟩,⟨0,1,3,I p.rights⟩,⟨0,1,4,I p.side⟩] [(4,Bo false)] [] 4 (by decide +kernel) ?_
      conv=>whnf
      refine And.intro ?_ ?_
      ·repeat' (first
        | (refine lvD ?_;apply Cj.mk <;> first | exact trivial | intros)
        | (refine .inl ?_;(conv=>whnf);refine ⟨[3],[.box [inF g]],[Is p.ct,FOdd],_,_,⟨rfl,rfl,rfl⟩,qc,lvN ?_⟩;apply Cj.mk <;> first | exact trivial | intros)
        | (refine ⟨_,_,q0,lvN ?_⟩;apply Cj.mk <;> first | exact trivial | intros)
        | (refine .inl ?_;(conv=>whnf);refine ⟨_,_,q0,lvN ?_⟩;apply Cj.mk <;> first | exact trivial | intros)
        | (refine ⟨_,_,q1,lvN ?_⟩;apply Cj.mk <;> first | exact trivial | intros)
        | (refine .inl ?_;(conv=>whnf);refine ⟨_,_,q1,lvN ?_⟩;apply Cj.mk <;> first | exact trivial | intros)
        | (refine ShowsJ.mk (by kernel_rfl) (by kernel_rfl) (by kernel_rfl) (lvL ?_) (lvL ?_) rfl <;> (try (apply Cj.mk <;> first | exact trivial | intros)))
        | (refine lvE ?_;apply Cj.mk <;> first | exact trivial | intros)
        | fail)
      ·repeat' (first
        | (refine lvK ?_;apply Cj.mk <;> first | exact trivial | intros)
        | (refine lvE ?_;apply Cj.mk <;> first | exact trivial | intros)
        | fail)
    ·rw [decide_eq_false h4] at q1
     have hno:decide (p.ok g)=false:=decide_eq_false fun q=>h4 q.h1
     rw [hno]
     refine drawJE [0,3,4,5] [(8,[7]),(10,[7]),(16,[14]),(17,[14,16]),(23,[21]),(24,[21,23]),(29,[28]),(30,[28,29]),(31,[28,30]),(34,[33]),(35,[33,34]),(36,[33]),(37,[33,36]),(38,[33,37]),(39,[33,35,38]),(42,[41]),(43,[41,42]),(44,[41,43]),(45,[41,44]),(46,[45]),(47,[45,46]),(48,[45,47])] [⟨0,0,0,I g.b.cells⟩,⟨0,0,4,I g.rights⟩,⟨0,1,3,I p.rights⟩,⟨0,1,4,I p.side⟩] [(4,Bo false)] [] 4 (by decide +kernel) ?_
     conv=>whnf
     refine And.intro ?_ ?_
     ·repeat' (first
       | (refine lvD ?_;apply Cj.mk <;> first | exact trivial | intros)
       | (refine .inl ?_;(conv=>whnf);refine ⟨[3],[.box [inF g]],[Is p.ct,FOdd],_,_,⟨rfl,rfl,rfl⟩,qc,lvN ?_⟩;apply Cj.mk <;> first | exact trivial | intros)
       | (refine ⟨_,_,q0,lvN ?_⟩;apply Cj.mk <;> first | exact trivial | intros)
       | (refine .inl ?_;(conv=>whnf);refine ⟨_,_,q0,lvN ?_⟩;apply Cj.mk <;> first | exact trivial | intros)
       | (refine ⟨_,_,q1,lvN ?_⟩;apply Cj.mk <;> first | exact trivial | intros)
       | (refine .inl ?_;(conv=>whnf);refine ⟨_,_,q1,lvN ?_⟩;apply Cj.mk <;> first | exact trivial | intros)
       | (refine ShowsJ.mk (by kernel_rfl) (by kernel_rfl) (by kernel_rfl) (lvL ?_) (lvL ?_) rfl <;> (try (apply Cj.mk <;> first | exact trivial | intros)))
       | (refine lvE ?_;apply Cj.mk <;> first | exact trivial | intros)
       | fail)
     ·repeat' (first
       | (refine lvK ?_;apply Cj.mk <;> first | exact trivial | intros)
       | (refine lvE ?_;apply Cj.mk <;> first | exact trivial | intros)
       | fail)
   ·rw [decide_eq_false h3] at q0
    have hno:decide (p.ok g)=false:=decide_eq_false fun q=>h3 q.h0
    rw [hno]
    refine drawJE [0,3,4,5] [(8,[7]),(10,[7]),(16,[14]),(17,[14,16]),(23,[21]),(24,[21,23]),(29,[28]),(30,[28,29]),(31,[28,30]),(34,[33]),(35,[33,34]),(36,[33]),(37,[33,36]),(38,[33,37]),(39,[33,35,38]),(42,[41]),(43,[41,42]),(44,[41,43]),(45,[41,44]),(46,[45]),(47,[45,46]),(48,[45,47])] [⟨0,0,0,I g.b.cells⟩,⟨0,0,4,I g.rights⟩,⟨0,1,3,I p.rights⟩,⟨0,1,4,I p.side⟩] [(4,Bo false)] [] 4 (by decide +kernel) ?_
    conv=>whnf
    refine And.intro ?_ ?_
    ·repeat' (first
      | (refine lvD ?_;apply Cj.mk <;> first | exact trivial | intros)
      | (refine .inl ?_;(conv=>whnf);refine ⟨[3],[.box [inF g]],[Is p.ct,FOdd],_,_,⟨rfl,rfl,rfl⟩,qc,lvN ?_⟩;apply Cj.mk <;> first | exact trivial | intros)
      | (refine ⟨_,_,q0,lvN ?_⟩;apply Cj.mk <;> first | exact trivial | intros)
      | (refine .inl ?_;(conv=>whnf);refine ⟨_,_,q0,lvN ?_⟩;apply Cj.mk <;> first | exact trivial | intros)
      | (refine ⟨_,_,q1,lvN ?_⟩;apply Cj.mk <;> first | exact trivial | intros)
      | (refine .inl ?_;(conv=>whnf);refine ⟨_,_,q1,lvN ?_⟩;apply Cj.mk <;> first | exact trivial | intros)
      | (refine ShowsJ.mk (by kernel_rfl) (by kernel_rfl) (by kernel_rfl) (lvL ?_) (lvL ?_) rfl <;> (try (apply Cj.mk <;> first | exact trivial | intros)))
      | (refine lvE ?_;apply Cj.mk <;> first | exact trivial | intros)
      | fail)
    ·repeat' (first
      | (refine lvK ?_;apply Cj.mk <;> first | exact trivial | intros)
      | (refine lvE ?_;apply Cj.mk <;> first | exact trivial | intros)
      | fail)
 ·have hno:decide (p.ok g)=false:=decide_eq_false fun q=>h1 q.len
  rw [hno]
  refine drawJE [0,3,4,5] [(8,[7]),(10,[7]),(16,[14]),(17,[14,16]),(23,[21]),(24,[21,23]),(29,[28]),(30,[28,29]),(31,[28,30]),(34,[33]),(35,[33,34]),(36,[33]),(37,[33,36]),(38,[33,37]),(39,[33,35,38]),(42,[41]),(43,[41,42]),(44,[41,43]),(45,[41,44]),(46,[45]),(47,[45,46]),(48,[45,47])] [⟨0,0,0,I g.b.cells⟩,⟨0,0,4,I g.rights⟩,⟨0,1,3,I p.rights⟩,⟨0,1,4,I p.side⟩] [(4,Bo false)] [] 4 (by decide +kernel) ?_
  conv=>whnf
  refine And.intro ?_ ?_
  ·repeat' (first
    | (refine lvD ?_;apply Cj.mk <;> first | exact trivial | intros)
    | (refine .inl ?_;(conv=>whnf);refine ⟨[3],[.box [inF g]],[Is p.ct,FOdd],_,_,⟨rfl,rfl,rfl⟩,qc,lvN ?_⟩;apply Cj.mk <;> first | exact trivial | intros)
    | (refine ⟨_,_,q0,lvN ?_⟩;apply Cj.mk <;> first | exact trivial | intros)
    | (refine .inl ?_;(conv=>whnf);refine ⟨_,_,q0,lvN ?_⟩;apply Cj.mk <;> first | exact trivial | intros)
    | (refine ⟨_,_,q1,lvN ?_⟩;apply Cj.mk <;> first | exact trivial | intros)
    | (refine .inl ?_;(conv=>whnf);refine ⟨_,_,q1,lvN ?_⟩;apply Cj.mk <;> first | exact trivial | intros)
    | (refine ShowsJ.mk (by kernel_rfl) (by kernel_rfl) (by kernel_rfl) (lvL ?_) (lvL ?_) rfl <;> (try (apply Cj.mk <;> first | exact trivial | intros)))
    | (refine lvE ?_;apply Cj.mk <;> first | exact trivial | intros)
    | fail)
  ·repeat' (first
    | (refine lvK ?_;apply Cj.mk <;> first | exact trivial | intros)
    | (refine lvE ?_;apply Cj.mk <;> first | exact trivial | intros)
    | fail)
end Go.Proofs.YthgobfncgnjimaaGreatDoor
