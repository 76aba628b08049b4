/- Contracts of functions of the program, proved by the checker; and plain laws. -/
import Derived.Test.YtejljpjdifblpaaZ14
import Derived.Test.YtejljpjdifblpaaZ09
import Derived.Test.YtejljpjdifblpaaZ15
set_option linter.unusedVariables false
set_option linter.unusedSimpArgs false
namespace Go.Proofs.Ytejljpjdifblpaa
open Go Go.Sk
structure R6 where
 g:R3
 p:R4
 picks:List Int
def R6.cs (x:R6):List AV:=x.g.cs++x.p.cs++[Us x.picks]
structure R6.ok (x:R6):Prop where
 g:x.g.ok
 p:x.p.ok
 b:∀ i:Int,0≤i→i < x.picks.length→b8 (nth x.picks i)
 l:x.picks.length≤9223372036854775807
def R6.gm (x:R6):Gm:=x.g.made
def R6.p0 (x:R6):Ps:=x.p.made x.gm
def R6.walk (x:R6):List Ps:=x.p0 :: x.gm.walkR (x.picks.take 6) x.p0
def R6.ps (x:R6):Ps:=nth x.walk ((x.walk.length:Int) - 1)
theorem R6.gm_ok {x:R6} (hx:x.ok):x.gm.ok:=R3.made_ok hx.g
theorem R6.gm_nk (x:R6):x.gm.nk=1∨x.gm.nk=2:=by
 have:=x.g.nk_12
 rw [show x.gm.nk=x.g.made.nk from rfl,R3.made_nk];exact this
theorem R6.p0_ok {x:R6} (hx:x.ok):x.p0.ok x.gm:=R4.made_ok hx.p (R6.gm_ok hx) (by have:=x.gm_nk;omega)
theorem R6.walk_ok {x:R6} (hx:x.ok):∀ q,q∈x.walk→q.ok x.gm:=fun q hq=>by
 rcases List.mem_cons.1 hq with rfl | hq
 ·exact R6.p0_ok hx
 ·exact walkR_ok (R6.gm_ok hx) _ (R6.p0_ok hx) q hq
theorem R6.ps_ok {x:R6} (hx:x.ok):x.ps.ok x.gm:=R6.walk_ok hx _ (nth_mem (by unfold R6.walk;simp) (by omega))
set_option maxHeartbeats 4000000 in
set_option maxRecDepth 10000 in
theorem Made6_p (x:R6) (hx:x.ok):Pure Try.prog 6 [.ag x.cs] (.tup [x.gm.av,x.ps.av]) none:=by
 have m3:=R3Made_p x.g hx.g
 have m4:=R4Made_p x.p hx.p x.gm (R6.gm_ok hx) x.gm_nk
 have mw:=Walk6_p x.gm (R6.gm_ok hx) x.p0 (R6.p0_ok hx) (x.picks.take 6) (by rw [List.length_take];omega)
 have hwl:=walkR_len x.gm (x.picks.take 6) x.p0
 have hwl2:x.walk.length=(x.gm.walkR (x.picks.take 6) x.p0).length+1:=rfl
 rw [List.length_take] at hwl
 have hb:=hx.b
 have hl:=hx.l
 have ep:(x.picks.map U8).length=x.picks.length:=List.length_map _
 have ew:(x.walk.map Ps.av).length=x.walk.length:=List.length_map _
 have m4':Pure Try.prog 17 [x.gm.av,.ag x.p.cs] x.p0.av none:=m4
 have mw':Pure Try.prog 16 [x.gm.av,x.p0.av,Is (x.picks.take 6)] (Pss x.walk) none:=mw
 have m3':Pure Try.prog 15 [.ag x.g.cs] x.gm.av none:=m3
 clear m4 mw m3
 unfold R6.ps
 generalize x.gm=g at *
 generalize x.p0=p at *
 generalize x.walk=w at *
 obtain ⟨xg,xp,picks⟩:=x
 dsimp only at *
 refine fun_of tok D_ok Try.func6 rfl Try.ntmps6 Try.results6 (by kernel_rfl) (by simp) (by simp) ?_
 conv=>whnf
 repeat' ((first
  | refine lvK ?_
  | refine ⟨_,_,m3',lvN ?_⟩
  | (refine .inl ?_;(conv=>whnf);refine ⟨_,_,m3',lvN ?_⟩)
  | refine lvE ?_
  | fail) <;> try (apply Cj.mk <;> first | exact trivial | intros))
 refine .of (fun i=>[(6,I i),(5,.ref 4)]) (fun i=>[(4,.arr 1 ((picks.take i.toNat).map I))]) 5 (fun i=>0≤i∧i≤picks.length∧i≤6) (fun i=>(6 - i).toNat) 0 ?_
 conv=>whnf
 refine ⟨⟨[],hdA (lvL ?_) (lvL ?_)⟩,?_,fun i ⟨i0,i1,i6⟩=>lvN ?_⟩ <;> (try (apply Cj.mk <;> first | exact trivial | intros))
 ·exact ⟨by omega,by omega,by omega⟩
 have htl:=take_len i0 i1
 by_cases hi:i < picks.length∧i < 6
 ·have hsu:=take_snoc i0 hi.1
  have hbi:=hb i i0 hi.1
  unfold b8 at hbi
  repeat' ((first
   | refine lvK ?_
   | refine lvE ?_
   | fail) <;> try (apply Cj.mk <;> first | exact trivial | intros))
  refine ⟨i+1,⟨[],hdA (lvL ?_) (lvL ?_)⟩,?_,by (try dsimp only);omega,rfl⟩ <;> (try (apply Cj.mk <;> first | exact trivial | intros))
  ·rw [hsu]
  ·exact ⟨by omega,by omega,by omega⟩
 ·have hte:picks.take i.toNat=picks.take 6:=by
   by_cases h6:i=6
   ·rw [h6];rfl
   ·rw [take_all (by omega),List.take_of_length_le (by omega)]
  rw [hte]
  by_cases h6:i < picks.length
  ·repeat' ((first
    | refine lvD ?_
    | refine ShowsJ.mk (by kernel_rfl) (by kernel_rfl) (by kernel_rfl) (lvL ?_) (lvL ?_) rfl
    | refine lvE ?_
    | fail) <;> try (apply Cj.mk <;> first | exact trivial | intros))
   refine drawP [4] ?_
   conv=>whnf
   try dsimp only [St.after,St.afterAt,St.pin,St.unpin,initSt,initT,numO,cellsA,Option.map,ren,renL,renO,St.setObj,headSt,List.cons_append,List.nil_append,List.length_nil,Nat.reduceAdd]
   repeat' ((first
    | refine lvD ?_
    | refine ⟨_,_,m4',lvN ?_⟩
    | (refine .inl ?_;(conv=>whnf);refine ⟨_,_,m4',lvN ?_⟩)
    | refine ⟨_,_,mw',lvN ?_⟩
    | (refine .inl ?_;(conv=>whnf);refine ⟨_,_,mw',lvN ?_⟩)
    | refine ShowsJ.mk (by kernel_rfl) (by kernel_rfl) (by kernel_rfl) (lvL ?_) (lvL ?_) rfl
    | refine lvE ?_
    | fail) <;> try (apply Cj.mk <;> first | exact trivial | intros))
   (first | refine drawA2 (by decide +kernel) ?_ | refine drawA (by decide +kernel) ?_ | refine drawL (by decide +kernel) ?_)
   conv=>whnf
   try dsimp only [St.after,St.afterAt,St.pin,St.unpin,initSt,initT,numO,cellsA,Option.map,ren,renL,renO,St.setObj,headSt,List.cons_append,List.nil_append,List.length_nil,Nat.reduceAdd]
   try (conv=>enter [7,3];whnf)
   repeat' ((first
    | refine lvD ?_
    | refine ⟨_,_,m4',lvN ?_⟩
    | (refine .inl ?_;(conv=>whnf);refine ⟨_,_,m4',lvN ?_⟩)
    | refine ⟨_,_,mw',lvN ?_⟩
    | (refine .inl ?_;(conv=>whnf);refine ⟨_,_,mw',lvN ?_⟩)
    | refine ShowsJ.mk (by kernel_rfl) (by kernel_rfl) (by kernel_rfl) (lvL ?_) (lvL ?_) rfl
    | refine lvE ?_
    | fail) <;> try (apply Cj.mk <;> first | exact trivial | intros))
   refine drawJ [1,2] [] [] [(1,.box [I g.b.cells,Iss g.b.next,Is g.b.turn,.sl (g.kinds.map Kn),I g.rights,Bo g.must,.sl (g.cls.map Ca),I g.blocked,I g.endless]),(2,.box [Is (nth w ((w.length:Int) - 1)).ct,Is (nth w ((w.length:Int) - 1)).h0,Is (nth w ((w.length:Int) - 1)).h1,I (nth w ((w.length:Int) - 1)).rights,I (nth w ((w.length:Int) - 1)).side])] 5 (by decide +kernel) ?_
   conv=>whnf
   refine And.intro ?_ ?_
   ·repeat' ((first
     | refine lvD ?_
     | refine ShowsJ.mk (by kernel_rfl) (by kernel_rfl) (by kernel_rfl) (lvL ?_) (lvL ?_) rfl
     | refine lvE ?_
     | fail) <;> try (apply Cj.mk <;> first | exact trivial | intros))
    all_goals rw [ew]
   repeat' ((first
    | refine lvD ?_
    | refine ShowsJ.mk (by kernel_rfl) (by kernel_rfl) (by kernel_rfl) (lvL ?_) (lvL ?_) rfl
    | refine lvE ?_
    | fail) <;> try (apply Cj.mk <;> first | exact trivial | intros))
  ·repeat' ((first
    | refine lvD ?_
    | refine ShowsJ.mk (by kernel_rfl) (by kernel_rfl) (by kernel_rfl) (lvL ?_) (lvL ?_) rfl
    | refine lvE ?_
    | fail) <;> try (apply Cj.mk <;> first | exact trivial | intros))
   refine drawP [4] ?_
   conv=>whnf
   try dsimp only [St.after,St.afterAt,St.pin,St.unpin,initSt,initT,numO,cellsA,Option.map,ren,renL,renO,St.setObj,headSt,List.cons_append,List.nil_append,List.length_nil,Nat.reduceAdd]
   repeat' ((first
    | refine lvD ?_
    | refine ⟨_,_,m4',lvN ?_⟩
    | (refine .inl ?_;(conv=>whnf);refine ⟨_,_,m4',lvN ?_⟩)
    | refine ⟨_,_,mw',lvN ?_⟩
    | (refine .inl ?_;(conv=>whnf);refine ⟨_,_,mw',lvN ?_⟩)
    | refine ShowsJ.mk (by kernel_rfl) (by kernel_rfl) (by kernel_rfl) (lvL ?_) (lvL ?_) rfl
    | refine lvE ?_
    | fail) <;> try (apply Cj.mk <;> first | exact trivial | intros))
   (first | refine drawA2 (by decide +kernel) ?_ | refine drawA (by decide +kernel) ?_ | refine drawL (by decide +kernel) ?_)
   conv=>whnf
   try dsimp only [St.after,St.afterAt,St.pin,St.unpin,initSt,initT,numO,cellsA,Option.map,ren,renL,renO,St.setObj,headSt,List.cons_append,List.nil_append,List.length_nil,Nat.reduceAdd]
   try (conv=>enter [7,3];whnf)
   repeat' ((first
    | refine lvD ?_
    | refine ⟨_,_,m4',lvN ?_⟩
    | (refine .inl ?_;(conv=>whnf);refine ⟨_,_,m4',lvN ?_⟩)
    | refine ⟨_,_,mw',lvN ?_⟩
    | (refine .inl ?_;(conv=>whnf);refine ⟨_,_,mw',lvN ?_⟩)
    | refine ShowsJ.mk (by kernel_rfl) (by kernel_rfl) (by kernel_rfl) (lvL ?_) (lvL ?_) rfl
    | refine lvE ?_
    | fail) <;> try (apply Cj.mk <;> first | exact trivial | intros))
   refine drawJ [1,2] [] [] [(1,.box [I g.b.cells,Iss g.b.next,Is g.b.turn,.sl (g.kinds.map Kn),I g.rights,Bo g.must,.sl (g.cls.map Ca),I g.blocked,I g.endless]),(2,.box [Is (nth w ((w.length:Int) - 1)).ct,Is (nth w ((w.length:Int) - 1)).h0,Is (nth w ((w.length:Int) - 1)).h1,I (nth w ((w.length:Int) - 1)).rights,I (nth w ((w.length:Int) - 1)).side])] 5 (by decide +kernel) ?_
   conv=>whnf
   refine And.intro ?_ ?_
   ·repeat' ((first
     | refine lvD ?_
     | refine ShowsJ.mk (by kernel_rfl) (by kernel_rfl) (by kernel_rfl) (lvL ?_) (lvL ?_) rfl
     | refine lvE ?_
     | fail) <;> try (apply Cj.mk <;> first | exact trivial | intros))
    all_goals rw [ew]
   repeat' ((first
    | refine lvD ?_
    | refine ShowsJ.mk (by kernel_rfl) (by kernel_rfl) (by kernel_rfl) (lvL ?_) (lvL ?_) rfl
    | refine lvE ?_
    | fail) <;> try (apply Cj.mk <;> first | exact trivial | intros))
end Go.Proofs.Ytejljpjdifblpaa
