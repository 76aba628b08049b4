/- Contracts of functions of the program, proved by the checker; and plain laws. -/
import Derived.Test.YtejljpjdifblpaaZ26
import Derived.Test.YtejljpjdifblpaaZ21
import Derived.Test.YtejljpjdifblpaaZ27
import Derived.Test.YtejljpjdifblpaaZ19
import Derived.Test.YtejljpjdifblpaaZ20
import Derived.Test.YtejljpjdifblpaaZ00
set_option linter.unusedVariables false
set_option linter.unusedSimpArgs false
namespace Go.Proofs.Ytejljpjdifblpaa
open Go Go.Sk
theorem validB_ok {g:Gm} {x:Iv} (h:x.validB g=true):x.ok g:=by
 obtain ⟨⟨m2,m3,len,s0,s1⟩,hr,h0,h1,hrt⟩:=validB_iff.1 h
 refine ⟨m2,m3,len,fun n n0 n1=>(hr n n0 (by omega)).1,fun n c n0 n1 c0 c1=>(hr n n0 (by omega)).2 c c0 c1,h0.1,h1.1,fun s k k0 k1=>?_,hrt.1,hrt.2,s0,s1⟩
 unfold Iv.hd
 split
 ·exact h0.2 k k0 k1
 ·exact h1.2 k k0 k1
set_option maxRecDepth 10000 in
theorem Kept_p (g:Gm) (hg:g.ok) (x:Iv) (hx:x.ok g):Pure Try.prog 14 [g.av,x.av] (Bo (x.keptB g)) none:=by
 have hc:=Compile_p g hg
 have hk:=kept_p g hg x hx
 obtain ⟨a0,a1,ha⟩:∃ a0 a1,g.codeA=.ag [.sl a0,.sl a1]:=⟨_,_,rfl⟩
 rw [ha] at hc hk
 generalize x.keptB g=b at *
 refine fun_of tok D_ok Try.func14 rfl Try.ntmps14 Try.results14 (by kernel_rfl) (by simp) (by simp) ?_
 conv=>whnf
 repeat' ((first
  | refine lvK ?_
  | refine ⟨_,_,hc,lvN ?_⟩
  | (refine .inl ?_;(conv=>whnf);refine ⟨_,_,hc,lvN ?_⟩)
  | refine ⟨_,_,hk,lvN ?_⟩
  | (refine .inl ?_;(conv=>whnf);refine ⟨_,_,hk,lvN ?_⟩)
  | refine lvE ?_
  | fail) <;> try (apply Cj.mk <;> first | exact trivial | intros))
def refB (g:Gm) (p q:Ps) (x:Iv):Bool:=x.validB g && (!decide (x.val g p=x.val g q) && x.keptB g)
def refA (g:Gm) (p q:Ps) (l:List Iv):AV:=match l.findIdx? (refB g p q) with | some i=>.tup [I i,I 0] | none=>.tup [I 0,I 270]
theorem refA_some {g:Gm} {p q:Ps} {l:List Iv} {i:Int} (i0:0≤i) (i1:i < l.length) (h:refB g p q (nth l i)=true) (hl:∀ j:Int,0≤j→j < i→refB g p q (nth l j)=false):refA g p q l=.tup [I i,I 0]:=by
 have hf:l.findIdx? (refB g p q)=some i.toNat:=by
  rw [List.findIdx?_eq_some_iff_getElem]
  refine ⟨by omega,?_,fun j hj=>?_⟩
  ·have:=nth_some i0 (show i < l.length by omega)
   rw [List.getElem?_eq_getElem (by omega)] at this
   injection this with this
   rw [this];exact h
  ·have:=nth_some (l:=l) (i:=(j:Int)) (by omega) (by omega)
   rw [Int.toNat_natCast,List.getElem?_eq_getElem (by omega)] at this
   injection this with this
   rw [this,hl j (by omega) (by omega)];decide
 unfold refA
 rw [hf]
 show AV.tup [I ((i.toNat:Int)),I 0]=_
 rw [Int.toNat_of_nonneg i0]
theorem refA_none {g:Gm} {p q:Ps} {l:List Iv} (hl:∀ j:Int,0≤j→j < l.length→refB g p q (nth l j)=false):refA g p q l=.tup [I 0,I 270]:=by
 have hf:l.findIdx? (refB g p q)=none:=by
  rw [List.findIdx?_eq_none_iff]
  intro x hx
  obtain ⟨j,j0,j1,rfl⟩:=mem_nth hx
  exact hl j j0 j1
 unfold refA
 rw [hf]
set_option maxHeartbeats 8000000 in
set_option maxRecDepth 10000 in
theorem Refute_p (g:Gm) (hg:g.ok) (p q:Ps) (hp:p.ok g) (hq:q.ok g) (l:List Iv) (hl:∀ x,x∈l→x.sz) (hn:l.length≤1000000000):Pure Try.prog 13 [g.av,p.av,q.av,.sl (l.map Iv.av)] (refA g p q l) none:=by
 have hc:=Compile_p g hg
 have el:(l.map Iv.av).length=l.length:=List.length_map _
 have hr1:=fun i i0 i1=>refA_some (g:=g) (p:=p) (q:=q) (l:=l) (i:=i) i0 i1
 have hr2:=refA_none (g:=g) (p:=p) (q:=q) (l:=l)
 have hV:=fun x hx=>Valid_p g hg x hx
 have hX:=fun x hx=>Value_p g hg x hx
 have hK:=fun x hx=>kept_p g hg x hx
 obtain ⟨a0,a1,ha⟩:∃ a0 a1,g.codeA=.ag [.sl a0,.sl a1]:=⟨_,_,rfl⟩
 rw [ha] at hc hK
 generalize refA g p q l=res at *
 refine fun_of tok D_ok Try.func13 rfl Try.ntmps13 Try.results13 (by kernel_rfl) (by simp) (by simp) ?_
 conv=>whnf
 repeat' ((first
  | refine lvK ?_
  | refine ⟨_,_,hc,lvN ?_⟩
  | (refine .inl ?_;(conv=>whnf);refine ⟨_,_,hc,lvN ?_⟩)
  | refine lvE ?_
  | fail) <;> try (apply Cj.mk <;> first | exact trivial | intros))
 refine .of (fun i=>[(17,I i)]) (fun i=>[]) 4 (fun i=>0≤i∧i≤l.length∧∀ j:Int,0≤j→j < i→refB g p q (nth l j)=false) (fun i=>(l.length - i).toNat) 0 ?_
 conv=>whnf
 refine ⟨⟨[],hdA (lvL ?_) (lvL ?_)⟩,?_,fun i ⟨i0,i1,hi⟩=>lvN ?_⟩ <;> (try (apply Cj.mk <;> first | exact trivial | intros))
 ·exact ⟨by omega,by omega,fun j h1 h2=>by omega⟩
 by_cases hil:i < l.length
 ·have hx:=hl _ (nth_mem i0 hil)
  have hv:=hV _ hx
  have hr1:=hr1 i i0 hil
  have hdef:refB g p q (nth l i)=((nth l i).validB g && (!decide ((nth l i).val g p=(nth l i).val g q) && (nth l i).keptB g)):=rfl
  cases hvb:(nth l i).validB g with
  | false =>
   rw [hvb] at hdef hv
   repeat' ((first
    | refine lvK ?_
    | refine ⟨_,_,hv,lvN ?_⟩
    | (refine .inl ?_;(conv=>whnf);refine ⟨_,_,hv,lvN ?_⟩)
    | refine lvE ?_
    | fail) <;> try (apply Cj.mk <;> first | exact trivial | intros))
   refine ⟨i+1,⟨[],hdA (lvL ?_) (lvL ?_)⟩,?_,by (try dsimp only);omega,rfl⟩ <;> (try (apply Cj.mk <;> first | exact trivial | intros))
   refine ⟨by omega,by omega,fun j h1 h2=>?_⟩
   by_cases e:j=i
   ·rw [e,hdef];rfl
   ·exact hi j h1 (by omega)
  | true =>
   have hok:=validB_ok hvb
   have h2:=hX _ hok p hp
   have h2q:=hX _ hok q hq
   have h3:=hK _ hok
   rw [hvb] at hdef hv
   by_cases hne:(nth l i).val g p=(nth l i).val g q
   ·rw [decide_eq_true hne] at hdef
    repeat' ((first
     | refine lvK ?_
     | refine ⟨_,_,hv,lvN ?_⟩
     | (refine .inl ?_;(conv=>whnf);refine ⟨_,_,hv,lvN ?_⟩)
     | refine ⟨_,_,h2,lvN ?_⟩
     | (refine .inl ?_;(conv=>whnf);refine ⟨_,_,h2,lvN ?_⟩)
     | refine ⟨_,_,h2q,lvN ?_⟩
     | (refine .inl ?_;(conv=>whnf);refine ⟨_,_,h2q,lvN ?_⟩)
     | refine ⟨_,_,h3,lvN ?_⟩
     | (refine .inl ?_;(conv=>whnf);refine ⟨_,_,h3,lvN ?_⟩)
     | refine lvE ?_
     | fail) <;> try (apply Cj.mk <;> first | exact trivial | intros))
    refine ⟨i+1,⟨[],hdA (lvL ?_) (lvL ?_)⟩,?_,by (try dsimp only);omega,rfl⟩ <;> (try (apply Cj.mk <;> first | exact trivial | intros))
    refine ⟨by omega,by omega,fun j h1 h2=>?_⟩
    by_cases e:j=i
    ·rw [e,hdef];rfl
    ·exact hi j h1 (by omega)
   ·rw [decide_eq_false hne] at hdef
    cases hkb:(nth l i).keptB g with
    | false =>
     rw [hkb] at hdef h3
     repeat' ((first
      | refine lvK ?_
      | refine ⟨_,_,hv,lvN ?_⟩
      | (refine .inl ?_;(conv=>whnf);refine ⟨_,_,hv,lvN ?_⟩)
      | refine ⟨_,_,h2,lvN ?_⟩
      | (refine .inl ?_;(conv=>whnf);refine ⟨_,_,h2,lvN ?_⟩)
      | refine ⟨_,_,h2q,lvN ?_⟩
      | (refine .inl ?_;(conv=>whnf);refine ⟨_,_,h2q,lvN ?_⟩)
      | refine ⟨_,_,h3,lvN ?_⟩
      | (refine .inl ?_;(conv=>whnf);refine ⟨_,_,h3,lvN ?_⟩)
      | refine lvE ?_
      | fail) <;> try (apply Cj.mk <;> first | exact trivial | intros))
     refine ⟨i+1,⟨[],hdA (lvL ?_) (lvL ?_)⟩,?_,by (try dsimp only);omega,rfl⟩ <;> (try (apply Cj.mk <;> first | exact trivial | intros))
     refine ⟨by omega,by omega,fun j h1 h2=>?_⟩
     by_cases e:j=i
     ·rw [e,hdef];rfl
     ·exact hi j h1 (by omega)
    | true =>
     rw [hkb] at hdef h3
     rw [hr1 (by rw [hdef];rfl) hi]
     repeat' ((first
      | refine lvK ?_
      | refine ⟨_,_,hv,lvN ?_⟩
      | (refine .inl ?_;(conv=>whnf);refine ⟨_,_,hv,lvN ?_⟩)
      | refine ⟨_,_,h2,lvN ?_⟩
      | (refine .inl ?_;(conv=>whnf);refine ⟨_,_,h2,lvN ?_⟩)
      | refine ⟨_,_,h2q,lvN ?_⟩
      | (refine .inl ?_;(conv=>whnf);refine ⟨_,_,h2q,lvN ?_⟩)
      | refine ⟨_,_,h3,lvN ?_⟩
      | (refine .inl ?_;(conv=>whnf);refine ⟨_,_,h3,lvN ?_⟩)
      | refine lvE ?_
      | fail) <;> try (apply Cj.mk <;> first | exact trivial | intros))
 ·rw [hr2 fun j h1 h2=>hi j h1 (by omega)]
  repeat' ((first
   | refine lvK ?_
   | refine lvE ?_
   | fail) <;> try (apply Cj.mk <;> first | exact trivial | intros))
def sanS (g1 g2:Gm):St:={ tmps:=[(40,AV.ptr 19 5),(6,AV.ptr 19 0),(39,AV.ag [I 2,AV.ref 12,AV.ref 13,AV.ref 14,AV.ref 15,I 0]),(38,AV.pea 12 1 2 0),(37,AV.ref 18),(36,AV.ref 12),(35,AV.ptr 16 1),(34,AV.pea 12 1 1 0),(33,AV.ref 17),(32,AV.ref 12),(31,AV.ptr 16 1),(5,AV.ptr 16 0),(30,AV.ag [I 2,AV.ref 12,AV.ref 13,AV.ref 14,AV.ref 15,I 0]),(29,g1.av),(4,AV.ptr 11 0),(28,AV.ag [AV.ref 8,AV.ref 9,AV.ref 10,I 0,I 0]),(27,AV.ag [AV.ref 9,AV.ref 10]),(26,AV.ref 10),(25,AV.ref 9),(24,AV.ref 8),(3,AV.ptr 7 0),(23,AV.ag [AV.ref 4,AV.ref 5,AV.ref 6,I 0,I 0]),(22,AV.ag [AV.ref 5,AV.ref 6]),(21,AV.ref 6),(20,AV.ref 5),(19,AV.ref 4),(2,AV.ptr 3 0),(18,g2.av),(17,AV.ref 2),(16,AV.ag [I 1,I 0]),(15,AV.ag [I 1,I 0]),(1,AV.ptr 1 0),(14,g1.av),(13,AV.ref 0),(12,AV.ag [I 1,I 0]),(0,Bo false)],objs:=[(19,AO.box [I 2,AV.ref 12,AV.ref 13,AV.ref 14,AV.ref 15,I 1]),(19,AO.box [I 2,AV.ref 12,AV.ref 13,AV.ref 14,AV.ref 15,I 0]),(19,AO.box [I 0,AV.nils,AV.nils,AV.nils,AV.nils,I 0]),(12,AO.tre 1 [AV.own 1 [I 0,I 0,I 0],AV.own 1 [I 0,I 1,I 0],AV.own 1 [I 0,I 1,I 0]]),(18,AO.dead),(18,AO.arr 1 [I 0,I 1,I 0]),(12,AO.tre 1 [AV.own 1 [I 0,I 0,I 0],AV.own 1 [I 0,I 1,I 0],AV.own 1 [I 0,I 0,I 0]]),(17,AO.dead),(17,AO.arr 1 [I 0,I 1,I 0]),(16,AO.box [I 2,AV.ref 12,AV.ref 13,AV.ref 14,AV.ref 15,I 0]),(16,AO.box [I 0,AV.nils,AV.nils,AV.nils,AV.nils,I 0]),(12,AO.tre 1 [AV.own 1 [I 0,I 0,I 0],AV.own 1 [I 0,I 0,I 0],AV.own 1 [I 0,I 0,I 0]]),(13,AO.arr 1 [I 0]),(14,AO.arr 1 [I 0]),(15,AO.arr 1 []),(11,AO.box [AV.ref 8,AV.ref 9,AV.ref 10,I 0,I 0]),(11,AO.box [AV.nils,AV.nils,AV.nils,I 0,I 0]),(10,AO.arr 1 [I 0]),(9,AO.arr 1 [I 0]),(8,AO.arr 1 [I 0,I 1,I 2]),(7,AO.box [AV.ref 4,AV.ref 5,AV.ref 6,I 0,I 0]),(7,AO.box [AV.nils,AV.nils,AV.nils,I 0,I 0]),(6,AO.arr 1 [I 0]),(5,AO.arr 1 [I 0]),(4,AO.arr 1 [I 1,I 0,I 2]),(3,AO.box (cellsA g2.av)),(3,AO.box [I 0,AV.nils,AV.nils,AV.nils,I 0,Bo false,AV.nils,I 0,I 0]),(2,AO.pub [AV.ag [I 1,I 0],AV.ag [I 1,I 0]]),(2,AO.arr 2 [AV.ag [I 1,I 0],AV.ag [I 1,I 0]]),(1,AO.box (cellsA g1.av)),(1,AO.box [I 0,AV.nils,AV.nils,AV.nils,I 0,Bo false,AV.nils,I 0,I 0]),(0,AO.pub [AV.ag [I 1,I 0]]),(0,AO.arr 2 [AV.ag [I 1,I 0]])],next:=20,size:=117 }
set_option maxHeartbeats 8000000 in
set_option maxRecDepth 10000 in
theorem sanT (g1 g2:Gm) (r1:Pure Try.prog 13 [g1.av,(⟨[1,0,2],[0],[0],0,0⟩:Ps).av,(⟨[0,1,2],[0],[0],0,0⟩:Ps).av,.sl ([(⟨2,[[0,0,0],[0,1,0],[0,1,0]],[0],[0],[],0⟩:Iv),(⟨2,[[0,0,0],[0,1,0],[0,1,0]],[0],[0],[],1⟩:Iv)].map Iv.av)] (.tup [I 1,I 0]) none) (r2:Pure Try.prog 13 [g1.av,(⟨[1,0,2],[0],[0],0,0⟩:Ps).av,(⟨[1,0,2],[0],[0],0,0⟩:Ps).av,.sl ([(⟨2,[[0,0,0],[0,1,0],[0,1,0]],[0],[0],[],0⟩:Iv),(⟨2,[[0,0,0],[0,1,0],[0,1,0]],[0],[0],[],1⟩:Iv)].map Iv.av)] (.tup [I 0,I 270]) none)
  (k1:Pure Try.prog 14 [g2.av,(⟨2,[[0,0,0],[0,1,0],[0,1,0]],[0],[0],[],0⟩:Iv).av] (Bo true) none) (k2:Pure Try.prog 14 [g1.av,(⟨2,[[0,0,0],[0,1,0],[0,1,0]],[0],[0],[],0⟩:Iv).av] (Bo false) none) (k3:Pure Try.prog 14 [g1.av,(⟨2,[[0,0,0],[0,1,0],[0,1,0]],[0],[0],[],1⟩:Iv).av] (Bo true) none) (k4:Pure Try.prog 14 [g2.av,(⟨2,[[0,0,0],[0,1,0],[0,1,0]],[0],[0],[],1⟩:Iv).av] (Bo false) none)
  (v1:Pure Try.prog 8 [g1.av,(⟨2,[[0,0,0],[0,1,0],[0,1,0]],[0],[0],[],0⟩:Iv).av] (Bo true) none) (v2:Pure Try.prog 8 [g1.av,(⟨0,[],[],[],[],0⟩:Iv).av] (Bo false) none) (w1:Pure Try.prog 10 [(⟨2,[[0,0,0],[0,1,0],[0,1,0]],[0],[0],[],0⟩:Iv).av,(⟨[1,0,2],[0],[0],0,0⟩:Ps).av] (I 0) none) (w2:Pure Try.prog 10 [(⟨2,[[0,0,0],[0,1,0],[0,1,0]],[0],[0],[],0⟩:Iv).av,(⟨[0,1,2],[0],[0],0,0⟩:Ps).av] (I 1) none) :
  vcC Try.prog tab D (tailC 10 (Try.f5.body.getD .skip)) (sanS g1 g2) (exitOK tab Try.f5.results.toList (Bo true) []):=by
 unfold sanS
 refine vc_cutT 1 fun R8 hR8=>?_
 conv=>whnf
 repeat' ((first
  | refine lvK ?_
  | (refine ⟨[],?_⟩;(conv=>whnf);refine ⟨fun e he=>by (rcases List.mem_cons.1 he with rfl | he;exact trivial;rcases List.mem_cons.1 he with rfl | he;exact trivial;rcases List.mem_cons.1 he with rfl | he;exact trivial;cases he),.mk [Is [0,0,0],Is [0,1,0],Is [0,1,0]] rfl (lvN ?_)⟩)
  | refine lvE ?_
  | fail) <;> try (apply Cj.mk <;> first | exact trivial | intros))
 refine .inr (.inr (.inr (.inl ⟨{ tmps:=[(42,g1.av),(43,.ag [Is [1,0,2],Is [0],Is [0],I 0,I 0]),(44,.ag [Is [0,1,2],Is [0],Is [0],I 0,I 0]),(47,.sl [.ag [I 2,Iss [[0,0,0],[0,1,0],[0,1,0]],Is [0],Is [0],Is [],I 0],.ag [I 2,Iss [[0,0,0],[0,1,0],[0,1,0]],Is [0],Is [0],Is [],I 1]]),(1,.ptr 0 0),(2,.ptr 1 0),(3,.ptr 2 0),(4,.ptr 3 0),(5,.ptr 4 0),(6,.ptr 5 0),(0,Bo false)],objs:=[(0,.box (cellsA g1.av)),(1,.box (cellsA g2.av)),(2,.box [Is [1,0,2],Is [0],Is [0],I 0,I 0]),(3,.box [Is [0,1,2],Is [0],Is [0],I 0,I 0]),(4,.box [I 2,Iss [[0,0,0],[0,1,0],[0,1,0]],Is [0],Is [0],Is [],I 0]),(5,.box [I 2,Iss [[0,0,0],[0,1,0],[0,1,0]],Is [0],Is [0],Is [],I 1])],next:=6,size:=117,par:=[] },exitS [.obj 1,.obj 3,.obj 7,.obj 11,.obj 16,.obj 19] (by kernel_rfl) (by kernel_rfl) (by kernel_rfl) (lvL ?_) (lvL ?_),.inr (.inr ?_)⟩)))
 ·apply Cj.mk <;> first | exact trivial | intros
 ·apply Cj.mk <;> first | exact trivial | intros
 conv=>whnf
 refine ⟨_,_,r1,lvN ?_⟩
 apply Cj.mk <;> first | exact trivial | intros
 repeat' ((first
  | refine lvK ?_
  | refine lvE ?_
  | fail) <;> try (apply Cj.mk <;> first | exact trivial | intros))
 try dsimp only [St.after,St.afterAt,St.pin,St.unpin,initSt,initT,numO,cellsA,Option.map,ren,renL,renO,St.setObj,headSt,List.cons_append,List.nil_append,List.length_nil,Nat.reduceAdd]
 refine hR8 _ ?_
 refine vc_cutT 1 fun R9 hR9=>?_
 conv=>whnf
 repeat' ((first
  | refine lvK ?_
  | (refine .inr (.inl ?_);(conv=>whnf);refine ⟨_,_,r2,lvN ?_⟩)
  | refine lvE ?_
  | fail) <;> try (apply Cj.mk <;> first | exact trivial | intros))
 try dsimp only [St.after,St.afterAt,St.pin,St.unpin,initSt,initT,numO,cellsA,Option.map,ren,renL,renO,St.setObj,headSt,List.cons_append,List.nil_append,List.length_nil,Nat.reduceAdd]
 refine hR9 _ ?_
 refine vc_cutT 1 fun R10 hR10=>?_
 conv=>whnf
 repeat' ((first
  | refine lvK ?_
  | refine ⟨_,_,k1,lvN ?_⟩
  | (refine .inl ?_;(conv=>whnf);refine ⟨_,_,k1,lvN ?_⟩)
  | refine ⟨_,_,k2,lvN ?_⟩
  | (refine .inl ?_;(conv=>whnf);refine ⟨_,_,k2,lvN ?_⟩)
  | refine ⟨_,_,k3,lvN ?_⟩
  | (refine .inl ?_;(conv=>whnf);refine ⟨_,_,k3,lvN ?_⟩)
  | refine ⟨_,_,k4,lvN ?_⟩
  | (refine .inl ?_;(conv=>whnf);refine ⟨_,_,k4,lvN ?_⟩)
  | refine lvE ?_
  | fail) <;> try (apply Cj.mk <;> first | exact trivial | intros))
 try dsimp only [St.after,St.afterAt,St.pin,St.unpin,initSt,initT,numO,cellsA,Option.map,ren,renL,renO,St.setObj,headSt,List.cons_append,List.nil_append,List.length_nil,Nat.reduceAdd]
 refine hR10 _ ?_
 conv=>whnf
 repeat' ((first
  | refine lvK ?_
  | refine ⟨_,_,v1,lvN ?_⟩
  | (refine .inl ?_;(conv=>whnf);refine ⟨_,_,v1,lvN ?_⟩)
  | refine ⟨_,_,v2,lvN ?_⟩
  | (refine .inl ?_;(conv=>whnf);refine ⟨_,_,v2,lvN ?_⟩)
  | refine ⟨_,_,w1,lvN ?_⟩
  | (refine .inl ?_;(conv=>whnf);refine ⟨_,_,w1,lvN ?_⟩)
  | refine ⟨_,_,w2,lvN ?_⟩
  | (refine .inl ?_;(conv=>whnf);refine ⟨_,_,w2,lvN ?_⟩)
  | refine lvE ?_
  | fail) <;> try (apply Cj.mk <;> first | exact trivial | intros))
end Go.Proofs.Ytejljpjdifblpaa
