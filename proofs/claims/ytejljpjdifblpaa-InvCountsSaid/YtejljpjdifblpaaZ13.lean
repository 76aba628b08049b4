/- Contracts of functions of the program, proved by the checker; and plain laws. -/
import Derived.Test.YtejljpjdifblpaaZ12
import Derived.Test.YtejljpjdifblpaaZ03
import Derived.Test.YtejljpjdifblpaaZ04
set_option linter.unusedVariables false
set_option linter.unusedSimpArgs false
namespace Go.Proofs.Ytejljpjdifblpaa
open Go Go.Sk
def dropQ (p:Ps) (k c:Int):Ps:={ p.setH (p.hand.set k.toNat (nth p.hand k - 1)) with ct:=p.ct.set c.toNat (code k p.side),side:=1 - p.side }
def canDrop (p:Ps) (k c:Int):Bool:=!(nth p.hand k == 0 || nth p.ct c != 0)
def dropC (p:Ps) (k n:Int):List Ps:=((ints n).filter (canDrop p k)).map (dropQ p k)
def dropK (p:Ps) (cells k:Int):List Ps:=(ints k).flatMap fun k=>dropC p k cells
def Gm.dropsL (g:Gm) (p:Ps):List Ps:=dropK p g.b.cells g.nk
theorem dropC_succ (p:Ps) (k:Int) {n:Int} (h:0≤n):dropC p k (n+1)=dropC p k n++(if canDrop p k n then [dropQ p k n] else []):=by
 unfold dropC
 rw [ints_succ h,List.filter_append,List.map_append]
 congr 1
 cases hc:canDrop p k n <;> simp [List.filter,hc]
theorem dropC_len (p:Ps) (k n:Int):(dropC p k n).length≤n.toNat:=by
 unfold dropC
 rw [List.length_map]
 have:=List.length_filter_le (canDrop p k) (ints n)
 rw [ints_len] at this
 exact this
theorem dropK_succ (p:Ps) (cells:Int) {k:Int} (h:0≤k):dropK p cells (k+1)=dropK p cells k++dropC p k cells:=by
 unfold dropK
 rw [ints_succ h,List.flatMap_append]
 simp
theorem dropK_len (p:Ps) (cells:Int):∀ n:Nat,(dropK p cells n).length≤n * cells.toNat
 | 0=>by simp [dropK,ints]
 | n+1=>by
  have h1:=dropK_len p cells n
  have h2:=dropC_len p n cells
  rw [show ((n+1:Nat):Int)=(n:Int)+1 by omega,dropK_succ p cells (by omega),List.length_append,Nat.add_mul]
  omega
theorem dropQ_ok {g:Gm} (hg:g.ok) {p:Ps} (h:p.ok g) {k c:Int} (k0:0≤k) (k1:k < g.nk) (c0:0≤c) (hd:canDrop p k c=true):(dropQ p k c).ok g:=by
 have hc:=code_rg k0 k1 hg.k6 h.s
 have hs:=h.s
 have hp:=h.setC (v:=code k p.side) c0 (by omega) (by omega)
 have hh:HdOk g p.hand→0 < nth p.hand k→HdOk g (p.hand.set k.toNat (nth p.hand k - 1)):=fun hh h0=>by
  have:=hh.v k k0 k1
  exact hh.set k0 k1 (by omega) (by omega) (this.2.2 h0)
 unfold canDrop at hd
 simp only [Bool.not_eq_true',Bool.or_eq_false_iff,beq_eq_false_iff_ne,bne_eq_false_iff_eq] at hd
 unfold dropQ Ps.setH
 unfold Ps.hand at hh hd ⊢
 rcases hs with e | e
 ·simp only [e,if_true] at hh hd hp hc ⊢
  have:=h.h0.v k k0 k1
  exact ⟨hp.len,hp.c,hh h.h0 (by omega),h.h1,h.r0,h.r1,.inr rfl⟩
 ·have e':¬ (1:Int)=0:=by decide
  simp only [e,e',if_false] at hh hd hp hc ⊢
  have:=h.h1.v k k0 k1
  exact ⟨hp.len,hp.c,h.h0,hh h.h1 (by omega),h.r0,h.r1,.inl rfl⟩
theorem dropsL_ok {g:Gm} (hg:g.ok) {p:Ps} (h:p.ok g) {q:Ps} (hq:q∈g.dropsL p):q.ok g:=by
 unfold Gm.dropsL dropK dropC at hq
 obtain ⟨k,hk,hq⟩:=List.mem_flatMap.1 hq
 obtain ⟨c,hc,rfl⟩:=List.mem_map.1 hq
 have h1:=mem_ints.1 hk
 have h2:=List.mem_filter.1 hc
 exact dropQ_ok hg h h1.1 h1.2 (mem_ints.1 h2.1).1 h2.2
set_option maxHeartbeats 4000000 in
set_option maxRecDepth 10000 in
theorem Drops_p (g:Gm) (hg:g.ok) (p:Ps) (h:p.ok g):Pure Try.prog 44 [g.av,p.av] (Pss (canon cmpP (g.dropsL p))) none:=by
 have hnk:g.nk=g.kinds.length:=rfl
 have en:(g.kinds.map Kn).length=g.kinds.length:=List.length_map _
 have el:(p.ct.map I).length=p.ct.length:=List.length_map _
 have hlen:=h.len
 have k6:=hg.k6
 have c9:=hg.c9
 have hdl:(g.dropsL p).length≤54:=by
  have h1:=dropK_len p g.b.cells g.kinds.length
  have h2:g.kinds.length * g.b.cells.toNat≤6 * 9:=Nat.mul_le_mul (by omega) (by omega)
  unfold Gm.dropsL
  rw [hnk];omega
 have hsort:=R4Sort_p (g.dropsL p) (by omega) (fun q hq=>(dropsL_ok hg h hq).small hg)
 have cp:=copied_p p (h.small hg)
 have e0:(p.h0.map I).length=p.h0.length:=List.length_map _
 have e1:(p.h1.map I).length=p.h1.length:=List.length_map _
 have l0:=h.h0.len
 have l1:=h.h1.len
 have hsd:=h.s
 have hdl2:∀ k:Int,0≤k→k≤g.nk→(dropK p g.b.cells k).length≤54:=fun k k0 k1=>by
  obtain ⟨n,rfl⟩:=Int.eq_ofNat_of_zero_le k0
  have h1:=dropK_len p g.b.cells n
  have h2:n * g.b.cells.toNat≤6 * 9:=Nat.mul_le_mul (by omega) (by omega)
  omega
 have hok:∀ k c,canDrop p k c=true∨canDrop p k c=false:=fun k c=>by cases canDrop p k c <;> simp
 have hv0:=h.h0.v
 have hv1:=h.h1.v
 unfold Gm.dropsL at hsort ⊢
 clear hdl
 obtain ⟨ct,h0,h1,rr,side⟩:=p
 dsimp only at *
 rcases hsd with rfl | rfl
 ·refine fun_of tok D_ok Try.func44 rfl Try.ntmps44 Try.results44 (by kernel_rfl) (by simp) (by simp) ?_
  conv=>whnf
  repeat' ((first
   | refine lvK ?_
   | refine lvE ?_
   | fail) <;> try (apply Cj.mk <;> first | exact trivial | intros))
  refine .of (fun k=>[(6,I k),(5,.ref 2)]) (fun k=>[(2,.arr 5 ((dropK ⟨ct,h0,h1,rr,0⟩ g.b.cells k).map Ps.av))]) 3 (fun k=>0≤k∧k≤g.nk) (fun k=>(g.nk - k).toNat) 0 ?_
  conv=>whnf
  refine ⟨⟨[],hdA (lvL ?_) (lvL ?_)⟩,?_,fun k ⟨k0,k1⟩=>lvN ?_⟩ <;> (try (apply Cj.mk <;> first | exact trivial | intros))
  ·exact ⟨by omega,by omega⟩
  have hdk:=hdl2 k k0 k1
  by_cases hk:k < g.nk
  ·have hsu:=dropK_succ ⟨ct,h0,h1,rr,0⟩ g.b.cells k0
   repeat' ((first
    | refine lvK ?_
    | refine lvE ?_
    | fail) <;> try (apply Cj.mk <;> first | exact trivial | intros))
   refine .of (fun c=>[(7,I c),(5,.ref 2)]) (fun c=>[(2,.arr 5 ((dropK ⟨ct,h0,h1,rr,0⟩ g.b.cells k++dropC ⟨ct,h0,h1,rr,0⟩ k c).map Ps.av))]) 3 (fun c=>0≤c∧c≤g.b.cells) (fun c=>(g.b.cells - c).toNat) 0 ?_
   conv=>whnf
   refine ⟨⟨[],hdA (lvL ?_) (lvL ?_)⟩,?_,fun c ⟨c0,c1⟩=>lvN ?_⟩ <;> (try (apply Cj.mk <;> first | exact trivial | intros))
   ·rw [show dropC _ k 0=[] from rfl,List.append_nil]
   ·exact ⟨by omega,by omega⟩
   by_cases hc:c < g.b.cells
   ·have hsc:=dropC_succ ⟨ct,h0,h1,rr,0⟩ k c0
    have hcl:=dropC_len ⟨ct,h0,h1,rr,0⟩ k c
    have hal:(dropK ⟨ct,h0,h1,rr,0⟩ g.b.cells k++dropC ⟨ct,h0,h1,rr,0⟩ k c).length=(dropK ⟨ct,h0,h1,rr,0⟩ g.b.cells k).length+(dropC ⟨ct,h0,h1,rr,0⟩ k c).length:=List.length_append
    have hcode:=Code_p k 0
    by_cases hcan:nth h0 k≠0∧nth ct c=0
    ·have hcd:canDrop ⟨ct,h0,h1,rr,0⟩ k c=true:=by
      show (!(nth h0 k == 0 || nth ct c != 0))=true
      simp [hcan.1,hcan.2]
     rw [hcd,if_pos rfl] at hsc
     have hh:=hv0 k k0 hk
     repeat' ((first
      | refine lvK ?_
      | (refine .inr (.inl ?_);(conv=>whnf);refine ⟨[],[],[(⟨ct,h0,h1,rr,0⟩:Ps).av],_,_,⟨rfl,rfl,rfl⟩,cp,lvN ?_⟩)
      | refine ⟨_,_,hcode,lvN ?_⟩
      | (refine .inl ?_;(conv=>whnf);refine ⟨_,_,hcode,lvN ?_⟩)
      | refine ap1 (f:=Ps.av) (a:=(dropQ ⟨ct,h0,h1,rr,0⟩ k c)) (by decide) (by omega) rfl rfl (lvN ?_)
      | refine lvE ?_
      | fail) <;> try (apply Cj.mk <;> first | exact trivial | intros))
     refine ⟨c+1,⟨[],hdA (lvL ?_) (lvL ?_)⟩,?_,by (try dsimp only);omega,rfl⟩ <;> (try (apply Cj.mk <;> first | exact trivial | intros))
     ·rw [hsc,← List.append_assoc]
     ·exact ⟨by omega,by omega⟩
    ·have hcd:canDrop ⟨ct,h0,h1,rr,0⟩ k c=false:=by
      show (!(nth h0 k == 0 || nth ct c != 0))=false
      simp only [Bool.not_eq_false',Bool.or_eq_true,beq_iff_eq,bne_iff_ne]
      omega
     rw [hcd,if_neg (by decide),List.append_nil] at hsc
     repeat' ((first
      | refine lvA ?_
      | refine lvE ?_
      | fail) <;> try (apply Cj.mk <;> first | exact trivial | intros))
     all_goals first
      | (exfalso;omega)
      | skip
     all_goals
      refine ⟨c+1,⟨[],hdA (lvL ?_) (lvL ?_)⟩,?_,by (try dsimp only);omega,rfl⟩ <;> (try (apply Cj.mk <;> first | exact trivial | intros))
      ·rw [hsc]
      ·exact ⟨by omega,by omega⟩
   ·obtain rfl:c=g.b.cells:=by omega
    rw [← hsu]
    repeat' ((first
     | refine lvK ?_
     | refine lvE ?_
     | fail) <;> try (apply Cj.mk <;> first | exact trivial | intros))
    refine ⟨k+1,⟨[],hdA (lvL ?_) (lvL ?_)⟩,?_,by (try dsimp only);omega,rfl⟩ <;> (try (apply Cj.mk <;> first | exact trivial | intros))
    ·exact ⟨by omega,by omega⟩
  ·obtain rfl:k=g.nk:=by omega
   repeat' ((first
    | refine lvK ?_
    | (refine .inr (.inl ?_);(conv=>whnf);refine ⟨_,_,hsort,lvN ?_⟩)
    | refine lvE ?_
    | fail) <;> try (apply Cj.mk <;> first | exact trivial | intros))
 ·refine fun_of tok D_ok Try.func44 rfl Try.ntmps44 Try.results44 (by kernel_rfl) (by simp) (by simp) ?_
  conv=>whnf
  repeat' ((first
   | refine lvK ?_
   | refine lvE ?_
   | fail) <;> try (apply Cj.mk <;> first | exact trivial | intros))
  refine .of (fun k=>[(6,I k),(5,.ref 2)]) (fun k=>[(2,.arr 5 ((dropK ⟨ct,h0,h1,rr,1⟩ g.b.cells k).map Ps.av))]) 3 (fun k=>0≤k∧k≤g.nk) (fun k=>(g.nk - k).toNat) 0 ?_
  conv=>whnf
  refine ⟨⟨[],hdA (lvL ?_) (lvL ?_)⟩,?_,fun k ⟨k0,k1⟩=>lvN ?_⟩ <;> (try (apply Cj.mk <;> first | exact trivial | intros))
  ·exact ⟨by omega,by omega⟩
  have hdk:=hdl2 k k0 k1
  by_cases hk:k < g.nk
  ·have hsu:=dropK_succ ⟨ct,h0,h1,rr,1⟩ g.b.cells k0
   repeat' ((first
    | refine lvK ?_
    | refine lvE ?_
    | fail) <;> try (apply Cj.mk <;> first | exact trivial | intros))
   refine .of (fun c=>[(7,I c),(5,.ref 2)]) (fun c=>[(2,.arr 5 ((dropK ⟨ct,h0,h1,rr,1⟩ g.b.cells k++dropC ⟨ct,h0,h1,rr,1⟩ k c).map Ps.av))]) 3 (fun c=>0≤c∧c≤g.b.cells) (fun c=>(g.b.cells - c).toNat) 0 ?_
   conv=>whnf
   refine ⟨⟨[],hdA (lvL ?_) (lvL ?_)⟩,?_,fun c ⟨c0,c1⟩=>lvN ?_⟩ <;> (try (apply Cj.mk <;> first | exact trivial | intros))
   ·rw [show dropC _ k 0=[] from rfl,List.append_nil]
   ·exact ⟨by omega,by omega⟩
   by_cases hc:c < g.b.cells
   ·have hsc:=dropC_succ ⟨ct,h0,h1,rr,1⟩ k c0
    have hcl:=dropC_len ⟨ct,h0,h1,rr,1⟩ k c
    have hal:(dropK ⟨ct,h0,h1,rr,1⟩ g.b.cells k++dropC ⟨ct,h0,h1,rr,1⟩ k c).length=(dropK ⟨ct,h0,h1,rr,1⟩ g.b.cells k).length+(dropC ⟨ct,h0,h1,rr,1⟩ k c).length:=List.length_append
    have hcode:=Code_p k 1
    by_cases hcan:nth h1 k≠0∧nth ct c=0
    ·have hcd:canDrop ⟨ct,h0,h1,rr,1⟩ k c=true:=by
      show (!(nth h1 k == 0 || nth ct c != 0))=true
      simp [hcan.1,hcan.2]
     rw [hcd,if_pos rfl] at hsc
     have hh:=hv1 k k0 hk
     repeat' ((first
      | refine lvK ?_
      | (refine .inr (.inl ?_);(conv=>whnf);refine ⟨[],[],[(⟨ct,h0,h1,rr,1⟩:Ps).av],_,_,⟨rfl,rfl,rfl⟩,cp,lvN ?_⟩)
      | refine ⟨_,_,hcode,lvN ?_⟩
      | (refine .inl ?_;(conv=>whnf);refine ⟨_,_,hcode,lvN ?_⟩)
      | refine ap1 (f:=Ps.av) (a:=(dropQ ⟨ct,h0,h1,rr,1⟩ k c)) (by decide) (by omega) rfl rfl (lvN ?_)
      | refine lvE ?_
      | fail) <;> try (apply Cj.mk <;> first | exact trivial | intros))
     refine ⟨c+1,⟨[],hdA (lvL ?_) (lvL ?_)⟩,?_,by (try dsimp only);omega,rfl⟩ <;> (try (apply Cj.mk <;> first | exact trivial | intros))
     ·rw [hsc,← List.append_assoc]
     ·exact ⟨by omega,by omega⟩
    ·have hcd:canDrop ⟨ct,h0,h1,rr,1⟩ k c=false:=by
      show (!(nth h1 k == 0 || nth ct c != 0))=false
      simp only [Bool.not_eq_false',Bool.or_eq_true,beq_iff_eq,bne_iff_ne]
      omega
     rw [hcd,if_neg (by decide),List.append_nil] at hsc
     repeat' ((first
      | refine lvA ?_
      | refine lvE ?_
      | fail) <;> try (apply Cj.mk <;> first | exact trivial | intros))
     all_goals first
      | (exfalso;omega)
      | skip
     all_goals
      refine ⟨c+1,⟨[],hdA (lvL ?_) (lvL ?_)⟩,?_,by (try dsimp only);omega,rfl⟩ <;> (try (apply Cj.mk <;> first | exact trivial | intros))
      ·rw [hsc]
      ·exact ⟨by omega,by omega⟩
   ·obtain rfl:c=g.b.cells:=by omega
    rw [← hsu]
    repeat' ((first
     | refine lvK ?_
     | refine lvE ?_
     | fail) <;> try (apply Cj.mk <;> first | exact trivial | intros))
    refine ⟨k+1,⟨[],hdA (lvL ?_) (lvL ?_)⟩,?_,by (try dsimp only);omega,rfl⟩ <;> (try (apply Cj.mk <;> first | exact trivial | intros))
    ·exact ⟨by omega,by omega⟩
  ·obtain rfl:k=g.nk:=by omega
   repeat' ((first
    | refine lvK ?_
    | (refine .inr (.inl ?_);(conv=>whnf);refine ⟨_,_,hsort,lvN ?_⟩)
    | refine lvE ?_
    | fail) <;> try (apply Cj.mk <;> first | exact trivial | intros))
def Gm.outsC (g:Gm) (p:Ps) (c n:Int):List Oc:=(ints n).flatMap fun i=>g.runsR p c i
def Gm.outsOf (g:Gm) (p:Ps) (c:Int):List Oc:=if ofK (nth p.ct c) < 0∨ofS (nth p.ct c)≠p.side then [] else g.outsC p c (nth g.kinds (ofK (nth p.ct c))).progs.length
def Gm.outsN (g:Gm) (p:Ps) (n:Int):List Oc:=(ints n).flatMap fun c=>g.outsOf p c
def Gm.outsR (g:Gm) (p:Ps):List Oc:=g.outsN p g.b.cells
theorem flat_succ {α:Type} (f:Int→List α) {n:Int} (h:0≤n):(ints (n+1)).flatMap f=(ints n).flatMap f++f n:=by rw [ints_succ h,List.flatMap_append];simp
theorem outsC_len {g:Gm} (hg:g.ok) {p:Ps} {c:Int} (hc:∀ i:Int,0≤i→i < (nth g.kinds (ofK (nth p.ct c))).progs.length→CanRun g p c i):∀ n:Nat,n≤(nth g.kinds (ofK (nth p.ct c))).progs.length→(g.outsC p c n).length≤n * 43046721
 | 0,_=>by simp [Gm.outsC,ints]
 | n+1,hn=>by
  have h1:=outsC_len hg hc n (by omega)
  have h2:=runsR_len hg (hc n (by omega) (by omega))
  unfold Gm.outsC at h1 ⊢
  rw [show ((n+1:Nat):Int)=(n:Int)+1 by omega,flat_succ _ (by omega),List.length_append]
  omega
theorem canRun_of {g:Gm} (hg:g.ok) {p:Ps} (h:p.ok g) {c:Int} (c0:0≤c) (c1:c < g.b.cells) (hm:¬ (ofK (nth p.ct c) < 0∨ofS (nth p.ct c)≠p.side)) (i:Int) (i0:0≤i) (i1:i < (nth g.kinds (ofK (nth p.ct c))).progs.length):CanRun g p c i :=
 ⟨h,c0,c1,by omega,by omega,i0,i1⟩
theorem kind_rg {g:Gm} (hg:g.ok) {p:Ps} (h:p.ok g) {c:Int} (c0:0≤c) (c1:c < g.b.cells) (hm:¬ (ofK (nth p.ct c) < 0∨ofS (nth p.ct c)≠p.side)):0≤ofK (nth p.ct c)∧ofK (nth p.ct c) < g.nk:=by
 have h1:=h.c c c0 c1
 have:=ofK_rg hg h1.1 h1.2
 omega
theorem outsOf_len {g:Gm} (hg:g.ok) {p:Ps} (h:p.ok g) {c:Int} (c0:0≤c) (c1:c < g.b.cells):(g.outsOf p c).length≤344373768:=by
 unfold Gm.outsOf
 split
 ·simp
 ·rename_i hm
  have hk:=kind_rg hg h c0 c1 hm
  have h8:=hg.pl _ hk.1 hk.2
  have:=outsC_len hg (canRun_of hg h c0 c1 hm) _ (Nat.le_refl _)
  omega
theorem outsN_len {g:Gm} (hg:g.ok) {p:Ps} (h:p.ok g):∀ n:Nat,(n:Int)≤g.b.cells→(g.outsN p n).length≤n * 344373768
 | 0,_=>by simp [Gm.outsN,ints]
 | n+1,hn=>by
  have h1:=outsN_len hg h n (by omega)
  have h2:=outsOf_len hg h (c:=n) (by omega) (by omega)
  unfold Gm.outsN at h1 ⊢
  rw [show ((n+1:Nat):Int)=(n:Int)+1 by omega,flat_succ _ (by omega),List.length_append]
  omega
theorem outsR_ok {g:Gm} (hg:g.ok) {p:Ps} (h:p.ok g) {o:Oc} (ho:o∈g.outsR p):o.p.ok g:=by
 unfold Gm.outsR Gm.outsN at ho
 obtain ⟨c,hc,ho⟩:=List.mem_flatMap.1 ho
 have hc:=mem_ints.1 hc
 unfold Gm.outsOf at ho
 split at ho
 ·simp at ho
 ·rename_i hm
  unfold Gm.outsC at ho
  obtain ⟨i,hi,ho⟩:=List.mem_flatMap.1 ho
  have hi:=mem_ints.1 hi
  exact runsR_ok hg (canRun_of hg h hc.1 hc.2 hm i hi.1 hi.2) ho
set_option maxHeartbeats 4000000 in
set_option maxRecDepth 10000 in
theorem Outcomes_p (g:Gm) (hg:g.ok) (p:Ps) (h:p.ok g):Pure Try.prog 43 [g.av,p.av] (Ous (g.outsR p)) none:=by
 have hnk:g.nk=g.kinds.length:=rfl
 have en:(g.kinds.map Kn).length=g.kinds.length:=List.length_map _
 have el:(p.ct.map I).length=p.ct.length:=List.length_map _
 have hlen:=h.len
 have c9:=hg.c9
 have k6:=hg.k6
 have hno:∀ c:Int,0≤c→c≤g.b.cells→(g.outsN p c).length≤3099363912:=fun c c0 c1=>by
  obtain ⟨n,rfl⟩:=Int.eq_ofNat_of_zero_le c0
  have:=outsN_len hg h n c1
  omega
 unfold Gm.outsR
 refine fun_of tok D_ok Try.func43 rfl Try.ntmps43 Try.results43 (by kernel_rfl) (by simp) (by simp) ?_
 conv=>whnf
 repeat' ((first
  | refine lvK ?_
  | refine lvE ?_
  | fail) <;> try (apply Cj.mk <;> first | exact trivial | intros))
 refine .of (fun c=>[(6,I c),(5,.ref 2)]) (fun c=>[(2,.arr 6 ((g.outsN p c).map Ou))]) 3 (fun c=>0≤c∧c≤g.b.cells) (fun c=>(g.b.cells - c).toNat) 0 ?_
 conv=>whnf
 refine ⟨⟨[],hdA (lvL ?_) (lvL ?_)⟩,?_,fun c ⟨c0,c1⟩=>lvN ?_⟩ <;> (try (apply Cj.mk <;> first | exact trivial | intros))
 ·exact ⟨by omega,by omega⟩
 have hol:=hno c c0 c1
 by_cases hc:c < g.b.cells
 ·have hsu:g.outsN p (c+1)=g.outsN p c++g.outsOf p c:=flat_succ _ c0
  have hcc:=h.c c c0 hc
  have ho:=Of_p (nth p.ct c) (by omega)
  by_cases hm:ofK (nth p.ct c) < 0∨ofS (nth p.ct c)≠p.side
  ·have he:g.outsOf p c=[]:=if_pos hm
   rw [he,List.append_nil] at hsu
   repeat' ((first
    | refine lvA ?_
    | refine ⟨_,_,ho,lvN ?_⟩
    | (refine .inl ?_;(conv=>whnf);refine ⟨_,_,ho,lvN ?_⟩)
    | refine lvE ?_
    | fail) <;> try (apply Cj.mk <;> first | exact trivial | intros))
   all_goals (try (exfalso;omega))
   all_goals
    refine ⟨c+1,⟨[],hdA (lvL ?_) (lvL ?_)⟩,?_,by (try dsimp only);omega,rfl⟩ <;> (try (apply Cj.mk <;> first | exact trivial | intros))
    ·rw [hsu]
    ·exact ⟨by omega,by omega⟩
  ·have hk:=kind_rg hg h c0 hc hm
   have hcr:=canRun_of hg h c0 hc hm
   have h8:=hg.pl _ hk.1 hk.2
   have he:g.outsOf p c=g.outsC p c (nth g.kinds (ofK (nth p.ct c))).progs.length:=if_neg hm
   have hcl:=outsC_len hg hcr
   rw [he] at hsu
   have e1:((nth g.kinds (ofK (nth p.ct c))).progs.map Pg).length=(nth g.kinds (ofK (nth p.ct c))).progs.length:=List.length_map _
   repeat' ((first
    | refine lvK ?_
    | refine ⟨_,_,ho,lvN ?_⟩
    | (refine .inl ?_;(conv=>whnf);refine ⟨_,_,ho,lvN ?_⟩)
    | refine lvE ?_
    | fail) <;> try (apply Cj.mk <;> first | exact trivial | intros))
   refine .of (fun i=>[(8,I i),(5,.ref 2)]) (fun i=>[(2,.arr 6 ((g.outsN p c++g.outsC p c i).map Ou))]) 4 (fun i=>0≤i∧i≤(nth g.kinds (ofK (nth p.ct c))).progs.length) (fun i=>((nth g.kinds (ofK (nth p.ct c))).progs.length - i).toNat) 0 ?_
   conv=>whnf
   refine ⟨⟨[],hdA (lvL ?_) (lvL ?_)⟩,?_,fun i ⟨i0,i1⟩=>lvN ?_⟩ <;> (try (apply Cj.mk <;> first | exact trivial | intros))
   ·rw [show g.outsC p c 0=[] from rfl,List.append_nil]
   ·exact ⟨by omega,by omega⟩
   have hci:(g.outsC p c i).length≤344373768:=by
    obtain ⟨n,rfl⟩:=Int.eq_ofNat_of_zero_le i0
    have:=hcl n (by omega)
    omega
   have hal:(g.outsN p c++g.outsC p c i).length=(g.outsN p c).length+(g.outsC p c i).length:=List.length_append
   by_cases hi:i < (nth g.kinds (ofK (nth p.ct c))).progs.length
   ·have hsc:g.outsC p c (i+1)=g.outsC p c i++g.runsR p c i:=flat_succ _ i0
    have hr:=Runs_p g hg p c i (hcr i i0 hi)
    have hrl:=runsR_len hg (hcr i i0 hi)
    repeat' ((first
     | refine lvK ?_
     | refine ⟨_,_,hr,lvN ?_⟩
     | (refine .inl ?_;(conv=>whnf);refine ⟨_,_,hr,lvN ?_⟩)
     | refine lvE ?_
     | fail) <;> try (apply Cj.mk <;> first | exact trivial | intros))
    refine ⟨i+1,⟨[],hdA (lvL ?_) (lvL ?_)⟩,?_,by (try dsimp only);omega,rfl⟩ <;> (try (apply Cj.mk <;> first | exact trivial | intros))
    ·rw [hsc,List.append_assoc]
    ·exact ⟨by omega,by omega⟩
   ·obtain rfl:i=(nth g.kinds (ofK (nth p.ct c))).progs.length:=by omega
    rw [← hsu]
    repeat' ((first
     | refine lvK ?_
     | refine lvE ?_
     | fail) <;> try (apply Cj.mk <;> first | exact trivial | intros))
    refine ⟨c+1,⟨[],hdA (lvL ?_) (lvL ?_)⟩,?_,by (try dsimp only);omega,rfl⟩ <;> (try (apply Cj.mk <;> first | exact trivial | intros))
    ·exact ⟨by omega,by omega⟩
 ·obtain rfl:c=g.b.cells:=by omega
  repeat' ((first
   | refine lvK ?_
   | refine lvE ?_
   | fail) <;> try (apply Cj.mk <;> first | exact trivial | intros))
end Go.Proofs.Ytejljpjdifblpaa
