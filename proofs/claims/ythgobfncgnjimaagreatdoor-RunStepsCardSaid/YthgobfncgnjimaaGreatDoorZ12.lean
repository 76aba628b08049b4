/- Contracts of functions of the program, proved by the checker; and plain laws. -/
import Derived.Test.YthgobfncgnjimaaGreatDoorZ11
import Derived.Test.YthgobfncgnjimaaGreatDoorZ03
set_option linter.unusedVariables false
set_option linter.unusedSimpArgs false
namespace Go.Proofs.YthgobfncgnjimaaGreatDoor
open Go Go.Sk
def dropQ (p:Ps) (k c:Int):Ps:={ p.setH (p.hand.set k.toNat (nth p.hand k - 1)) with ct:=p.ct.set c.toNat (code k p.side),side:=1 - p.side }
def canDrop (p:Ps) (k c:Int):Bool:=!(nth p.hand k == 0 || nth p.ct c != 0)
def dropC (p:Ps) (k n:Int):List Ps:=((ints n).filter (canDrop p k)).map (dropQ p k)
def dropK (p:Ps) (cells k:Int):List Ps:=(ints k).flatMap fun k=>dropC p k cells
def Gm.dropsL (g:Gm) (p:Ps):List Ps:=dropK p g.b.cells g.nk
theorem dropC_succ (p:Ps) (k:Int) {n:Int} (h:0≤n):dropC p k (n+1)=dropC p k n++(if canDrop p k n then [dropQ p k n] else []):=by
 unfold dropC
 rw [ints_succ h,List.filter_append,List.map_append]
 congr 1
 cases hc:canDrop p k n <;> simp [List.filter,hc]
theorem dropC_len (p:Ps) (k n:Int):(dropC p k n).length≤n.toNat:=by
 unfold dropC
 rw [List.length_map]
 have:=List.length_filter_le (canDrop p k) (ints n)
 rw [ints_len] at this
 exact this
theorem dropK_succ (p:Ps) (cells:Int) {k:Int} (h:0≤k):dropK p cells (k+1)=dropK p cells k++dropC p k cells:=by
 unfold dropK
 rw [ints_succ h,List.flatMap_append]
 simp
theorem dropK_len (p:Ps) (cells:Int):∀ n:Nat,(dropK p cells n).length≤n * cells.toNat
 | 0=>by simp [dropK,ints]
 | n+1=>by
  have h1:=dropK_len p cells n
  have h2:=dropC_len p n cells
  rw [show ((n+1:Nat):Int)=(n:Int)+1 by omega,dropK_succ p cells (by omega),List.length_append,Nat.add_mul]
  omega
theorem dropQ_ok {g:Gm} (hg:g.ok) {p:Ps} (h:p.ok g) {k c:Int} (k0:0≤k) (k1:k < g.nk) (c0:0≤c) (hd:canDrop p k c=true):(dropQ p k c).ok g:=by
 have hc:=code_rg k0 k1 hg.k6 h.s
 have hs:=h.s
 have hp:=h.setC (v:=code k p.side) c0 (by omega) (by omega)
 have hh:HdOk g p.hand→0 < nth p.hand k→HdOk g (p.hand.set k.toNat (nth p.hand k - 1)):=fun hh h0=>by
  have:=hh.v k k0 k1
  exact hh.set k0 k1 (by omega) (by omega) (this.2.2 h0)
 unfold canDrop at hd
 simp only [Bool.not_eq_true',Bool.or_eq_false_iff,beq_eq_false_iff_ne,bne_eq_false_iff_eq] at hd
 unfold dropQ Ps.setH
 unfold Ps.hand at hh hd ⊢
 rcases hs with e | e
 ·simp only [e,if_true] at hh hd hp hc ⊢
  have:=h.h0.v k k0 k1
  exact ⟨hp.len,hp.c,hh h.h0 (by omega),h.h1,h.r0,h.r1,.inr rfl⟩
 ·have e':¬ (1:Int)=0:=by decide
  simp only [e,e',if_false] at hh hd hp hc ⊢
  have:=h.h1.v k k0 k1
  exact ⟨hp.len,hp.c,h.h0,hh h.h1 (by omega),h.r0,h.r1,.inl rfl⟩
theorem dropsL_ok {g:Gm} (hg:g.ok) {p:Ps} (h:p.ok g) {q:Ps} (hq:q∈g.dropsL p):q.ok g:=by
 unfold Gm.dropsL dropK dropC at hq
 obtain ⟨k,hk,hq⟩:=List.mem_flatMap.1 hq
 obtain ⟨c,hc,rfl⟩:=List.mem_map.1 hq
 have h1:=mem_ints.1 hk
 have h2:=List.mem_filter.1 hc
 exact dropQ_ok hg h h1.1 h1.2 (mem_ints.1 h2.1).1 h2.2
set_option maxHeartbeats 4000000 in
set_option maxRecDepth 10000 in
theorem Drops_p (g:Gm) (hg:g.ok) (p:Ps) (h:p.ok g):Pure Tryz.prog 36 [g.av,p.av] (Pss (canon cmpP (g.dropsL p))) none:=by
 have hnk:g.nk=g.kinds.length:=rfl
 have en:(g.kinds.map Kn).length=g.kinds.length:=List.length_map _
 have el:(p.ct.map I).length=p.ct.length:=List.length_map _
 have hlen:=h.len
 have k6:=hg.k6
 have c9:=hg.c9
 have hdl:(g.dropsL p).length≤54:=by
  have h1:=dropK_len p g.b.cells g.kinds.length
  have h2:g.kinds.length * g.b.cells.toNat≤6 * 9:=Nat.mul_le_mul (by omega) (by omega)
  unfold Gm.dropsL
  rw [hnk];omega
 have hsort:=R4Sort_p (g.dropsL p) (by omega) (fun q hq=>(dropsL_ok hg h hq).small hg)
 have cp:=copied_p p (h.small hg)
 have e0:(p.h0.map I).length=p.h0.length:=List.length_map _
 have e1:(p.h1.map I).length=p.h1.length:=List.length_map _
 have l0:=h.h0.len
 have l1:=h.h1.len
 have hsd:=h.s
 have hdl2:∀ k:Int,0≤k→k≤g.nk→(dropK p g.b.cells k).length≤54:=fun k k0 k1=>by
  obtain ⟨n,rfl⟩:=Int.eq_ofNat_of_zero_le k0
  have h1:=dropK_len p g.b.cells n
  have h2:n * g.b.cells.toNat≤6 * 9:=Nat.mul_le_mul (by omega) (by omega)
  omega
 have hok:∀ k c,canDrop p k c=true∨canDrop p k c=false:=fun k c=>by cases canDrop p k c <;> simp
 have hv0:=h.h0.v
 have hv1:=h.h1.v
 unfold Gm.dropsL at hsort ⊢
 clear hdl
 obtain ⟨ct,h0,h1,rr,side⟩:=p
 dsimp only at *
 rcases hsd with rfl | rfl
 ·refine fun_of tok D_ok Tryz.func36 rfl Tryz.ntmps36 Tryz.results36 (by kernel_rfl) (by simp) (by simp) ?_
  conv=>whnf
  repeat' (first | (refine lvK ?_;apply Cj.mk <;> first | exact trivial | intros) | (refine lvE ?_;apply Cj.mk <;> first | exact trivial | intros) | fail)
  refine .of (fun k=>[(6,I k),(5,.ref 2)]) (fun k=>[(2,.arr 5 ((dropK ⟨ct,h0,h1,rr,0⟩ g.b.cells k).map Ps.av))]) 3 (fun k=>0≤k∧k≤g.nk) (fun k=>(g.nk - k).toNat) 0 ?_
  conv=>whnf
  refine ⟨⟨[],hdA (lvL ?_) (lvL ?_)⟩,?_,fun k ⟨k0,k1⟩=>lvN ?_⟩ <;> (try (apply Cj.mk <;> first | exact trivial | intros))
  ·exact ⟨by omega,by omega⟩
  have hdk:=hdl2 k k0 k1
  by_cases hk:k < g.nk
  ·have hsu:=dropK_succ ⟨ct,h0,h1,rr,0⟩ g.b.cells k0
   repeat' (first | (refine lvK ?_;apply Cj.mk <;> first | exact trivial | intros) | (refine lvE ?_;apply Cj.mk <;> first | exact trivial | intros) | fail)
   refine .of (fun c=>[(7,I c),(5,.ref 2)]) (fun c=>[(2,.arr 5 ((dropK ⟨ct,h0,h1,rr,0⟩ g.b.cells k++dropC ⟨ct,h0,h1,rr,0⟩ k c).map Ps.av))]) 3 (fun c=>0≤c∧c≤g.b.cells) (fun c=>(g.b.cells - c).toNat) 0 ?_
   conv=>whnf
   refine ⟨⟨[],hdA (lvL ?_) (lvL ?_)⟩,?_,fun c ⟨c0,c1⟩=>lvN ?_⟩ <;> (try (apply Cj.mk <;> first | exact trivial | intros))
   ·rw [show dropC _ k 0=[] from rfl,List.append_nil]
   ·exact ⟨by omega,by omega⟩
   by_cases hc:c < g.b.cells
   ·have hsc:=dropC_succ ⟨ct,h0,h1,rr,0⟩ k c0
    have hcl:=dropC_len ⟨ct,h0,h1,rr,0⟩ k c
    have hal:(dropK ⟨ct,h0,h1,rr,0⟩ g.b.cells k++dropC ⟨ct,h0,h1,rr,0⟩ k c).length=(dropK ⟨ct,h0,h1,rr,0⟩ g.b.cells k).length+(dropC ⟨ct,h0,h1,rr,0⟩ k c).length:=List.length_append
    have hcode:=Code_p k 0
    by_cases hcan:nth h0 k≠0∧nth ct c=0
    ·have hcd:canDrop ⟨ct,h0,h1,rr,0⟩ k c=true:=by
      show (!(nth h0 k == 0 || nth ct c != 0))=true
      simp [hcan.1,hcan.2]
     rw [hcd,if_pos rfl] at hsc
     have hh:=hv0 k k0 hk
     repeat' (first | ((first | refine lvK ?_ | refine ⟨_,_,hcode,lvN ?_⟩ | (refine .inl ?_;(conv=>whnf);first | refine ⟨_,_,hcode,lvN ?_⟩) | (refine .inr (.inl ?_);(conv=>whnf);refine ⟨[],[],[(⟨ct,h0,h1,rr,0⟩:Ps).av],_,_,⟨rfl,rfl,rfl⟩,cp,lvN ?_⟩) | refine ap1 (f:=Ps.av) (a:=(dropQ ⟨ct,h0,h1,rr,0⟩ k c)) (by decide) (by omega) rfl rfl (lvN ?_));apply Cj.mk <;> first | exact trivial | intros) | (refine lvE ?_;apply Cj.mk <;> first | exact trivial | intros) | fail)
     refine ⟨c+1,⟨[],hdA (lvL ?_) (lvL ?_)⟩,?_,by (try dsimp only);omega,rfl⟩ <;> (try (apply Cj.mk <;> first | exact trivial | intros))
     ·rw [hsc,← List.append_assoc]
     ·exact ⟨by omega,by omega⟩
    ·have hcd:canDrop ⟨ct,h0,h1,rr,0⟩ k c=false:=by
      show (!(nth h0 k == 0 || nth ct c != 0))=false
      simp only [Bool.not_eq_false',Bool.or_eq_true,beq_iff_eq,bne_iff_ne]
      omega
     rw [hcd,if_neg (by decide),List.append_nil] at hsc
     repeat' (first | (refine lvA ?_;apply Cj.mk <;> first | exact trivial | intros) | (refine lvE ?_;apply Cj.mk <;> first | exact trivial | intros) | fail)
     all_goals first
      | (exfalso;omega)
      | skip
     all_goals
      refine ⟨c+1,⟨[],hdA (lvL ?_) (lvL ?_)⟩,?_,by (try dsimp only);omega,rfl⟩ <;> (try (apply Cj.mk <;> first | exact trivial | intros))
      ·rw [hsc]
      ·exact ⟨by omega,by omega⟩
   ·obtain rfl:c=g.b.cells:=by omega
    rw [← hsu]
    repeat' (first | (refine lvK ?_;apply Cj.mk <;> first | exact trivial | intros) | (refine lvE ?_;apply Cj.mk <;> first | exact trivial | intros) | fail)
    refine ⟨k+1,⟨[],hdA (lvL ?_) (lvL ?_)⟩,?_,by (try dsimp only);omega,rfl⟩ <;> (try (apply Cj.mk <;> first | exact trivial | intros))
    ·exact ⟨by omega,by omega⟩
  ·obtain rfl:k=g.nk:=by omega
   repeat' (first | ((first | refine lvK ?_ | (refine .inr (.inl ?_);(conv=>whnf);refine ⟨_,_,hsort,lvN ?_⟩));apply Cj.mk <;> first | exact trivial | intros) | (refine lvE ?_;apply Cj.mk <;> first | exact trivial | intros) | fail)
 ·refine fun_of tok D_ok Tryz.func36 rfl Tryz.ntmps36 Tryz.results36 (by kernel_rfl) (by simp) (by simp) ?_
  conv=>whnf
  repeat' (first | (refine lvK ?_;apply Cj.mk <;> first | exact trivial | intros) | (refine lvE ?_;apply Cj.mk <;> first | exact trivial | intros) | fail)
  refine .of (fun k=>[(6,I k),(5,.ref 2)]) (fun k=>[(2,.arr 5 ((dropK ⟨ct,h0,h1,rr,1⟩ g.b.cells k).map Ps.av))]) 3 (fun k=>0≤k∧k≤g.nk) (fun k=>(g.nk - k).toNat) 0 ?_
  conv=>whnf
  refine ⟨⟨[],hdA (lvL ?_) (lvL ?_)⟩,?_,fun k ⟨k0,k1⟩=>lvN ?_⟩ <;> (try (apply Cj.mk <;> first | exact trivial | intros))
  ·exact ⟨by omega,by omega⟩
  have hdk:=hdl2 k k0 k1
  by_cases hk:k < g.nk
  ·have hsu:=dropK_succ ⟨ct,h0,h1,rr,1⟩ g.b.cells k0
   repeat' (first | (refine lvK ?_;apply Cj.mk <;> first | exact trivial | intros) | (refine lvE ?_;apply Cj.mk <;> first | exact trivial | intros) | fail)
   refine .of (fun c=>[(7,I c),(5,.ref 2)]) (fun c=>[(2,.arr 5 ((dropK ⟨ct,h0,h1,rr,1⟩ g.b.cells k++dropC ⟨ct,h0,h1,rr,1⟩ k c).map Ps.av))]) 3 (fun c=>0≤c∧c≤g.b.cells) (fun c=>(g.b.cells - c).toNat) 0 ?_
   conv=>whnf
   refine ⟨⟨[],hdA (lvL ?_) (lvL ?_)⟩,?_,fun c ⟨c0,c1⟩=>lvN ?_⟩ <;> (try (apply Cj.mk <;> first | exact trivial | intros))
   ·rw [show dropC _ k 0=[] from rfl,List.append_nil]
   ·exact ⟨by omega,by omega⟩
   by_cases hc:c < g.b.cells
   ·have hsc:=dropC_succ ⟨ct,h0,h1,rr,1⟩ k c0
    have hcl:=dropC_len ⟨ct,h0,h1,rr,1⟩ k c
    have hal:(dropK ⟨ct,h0,h1,rr,1⟩ g.b.cells k++dropC ⟨ct,h0,h1,rr,1⟩ k c).length=(dropK ⟨ct,h0,h1,rr,1⟩ g.b.cells k).length+(dropC ⟨ct,h0,h1,rr,1⟩ k c).length:=List.length_append
    have hcode:=Code_p k 1
    by_cases hcan:nth h1 k≠0∧nth ct c=0
    ·have hcd:canDrop ⟨ct,h0,h1,rr,1⟩ k c=true:=by
      show (!(nth h1 k == 0 || nth ct c != 0))=true
      simp [hcan.1,hcan.2]
     rw [hcd,if_pos rfl] at hsc
     have hh:=hv1 k k0 hk
     repeat' (first | ((first | refine lvK ?_ | refine ⟨_,_,hcode,lvN ?_⟩ | (refine .inl ?_;(conv=>whnf);first | refine ⟨_,_,hcode,lvN ?_⟩) | (refine .inr (.inl ?_);(conv=>whnf);refine ⟨[],[],[(⟨ct,h0,h1,rr,1⟩:Ps).av],_,_,⟨rfl,rfl,rfl⟩,cp,lvN ?_⟩) | refine ap1 (f:=Ps.av) (a:=(dropQ ⟨ct,h0,h1,rr,1⟩ k c)) (by decide) (by omega) rfl rfl (lvN ?_));apply Cj.mk <;> first | exact trivial | intros) | (refine lvE ?_;apply Cj.mk <;> first | exact trivial | intros) | fail)
     refine ⟨c+1,⟨[],hdA (lvL ?_) (lvL ?_)⟩,?_,by (try dsimp only);omega,rfl⟩ <;> (try (apply Cj.mk <;> first | exact trivial | intros))
     ·rw [hsc,← List.append_assoc]
     ·exact ⟨by omega,by omega⟩
    ·have hcd:canDrop ⟨ct,h0,h1,rr,1⟩ k c=false:=by
      show (!(nth h1 k == 0 || nth ct c != 0))=false
      simp only [Bool.not_eq_false',Bool.or_eq_true,beq_iff_eq,bne_iff_ne]
      omega
     rw [hcd,if_neg (by decide),List.append_nil] at hsc
     repeat' (first | (refine lvA ?_;apply Cj.mk <;> first | exact trivial | intros) | (refine lvE ?_;apply Cj.mk <;> first | exact trivial | intros) | fail)
     all_goals first
      | (exfalso;omega)
      | skip
     all_goals
      refine ⟨c+1,⟨[],hdA (lvL ?_) (lvL ?_)⟩,?_,by (try dsimp only);omega,rfl⟩ <;> (try (apply Cj.mk <;> first | exact trivial | intros))
      ·rw [hsc]
      ·exact ⟨by omega,by omega⟩
   ·obtain rfl:c=g.b.cells:=by omega
    rw [← hsu]
    repeat' (first | (refine lvK ?_;apply Cj.mk <;> first | exact trivial | intros) | (refine lvE ?_;apply Cj.mk <;> first | exact trivial | intros) | fail)
    refine ⟨k+1,⟨[],hdA (lvL ?_) (lvL ?_)⟩,?_,by (try dsimp only);omega,rfl⟩ <;> (try (apply Cj.mk <;> first | exact trivial | intros))
    ·exact ⟨by omega,by omega⟩
  ·obtain rfl:k=g.nk:=by omega
   repeat' (first | ((first | refine lvK ?_ | (refine .inr (.inl ?_);(conv=>whnf);refine ⟨_,_,hsort,lvN ?_⟩));apply Cj.mk <;> first | exact trivial | intros) | (refine lvE ?_;apply Cj.mk <;> first | exact trivial | intros) | fail)
end Go.Proofs.YthgobfncgnjimaaGreatDoor
