/- Contracts of functions of the program, proved by the checker; and plain laws. -/
import Derived.Test.YthgobfncgnjimaaGreatDoorZ16
import Derived.Test.YthgobfncgnjimaaGreatDoorZ09
import Derived.Test.YthgobfncgnjimaaGreatDoorZ17
import Derived.Test.YthgobfncgnjimaaGreatDoorRows
import Derived.Test.YthgobfncgnjimaaGreatDoorSk17
set_option linter.unusedVariables false
set_option linter.unusedSimpArgs false
namespace Go.Proofs.YthgobfncgnjimaaGreatDoor
open Go Go.Sk
def OS1 (g:Gm) (p:Ps):List AO:=[.box p.cs,.box [.nils]]
def OS2 (g:Gm) (p:Ps):List AO:=[.box (cellsA g.av),.box p.cs,.box [.nils]]
def Gm.errR (g:Gm) (p:Ps):Int:=if p.ok g then 50 else 40
set_option maxHeartbeats 8000000 in
set_option maxRecDepth 10000 in
theorem runE1_p (g:Gm) (hg:g.ok) (p:Ps) (hl:p.ct.length≤4611686018427387904) (cell i:Int) (h:¬ CanRun g p cell i) (os:List AO) (hos:os=OS1 g p) :
  Fun Tryz.prog 42 os [g.av,p.av,I cell,I i,fnL1] (I (g.errR p)) os:=by
 subst hos
 have hv:=PValid_p g hg p hl
 have hnk:g.nk=g.kinds.length:=rfl
 have en:(g.kinds.map Kn).length=g.kinds.length:=List.length_map _
 have el:(p.ct.map I).length=p.ct.length:=List.length_map _
 have k6:=hg.k6
 have c9:=hg.c9
 unfold Gm.errR
 by_cases hp:p.ok g
 ·rw [decide_eq_true hp] at hv
  rw [if_pos hp]
  have hlen:=hp.len
  by_cases hc:0≤cell∧cell < g.b.cells
  ·have hr:=hp.c cell hc.1 hc.2
   have hm:=Man_p (nth p.ct cell) (by omega)
   have e1:((nth g.kinds (ofK (nth p.ct cell))).progs.map Pg).length=(nth g.kinds (ofK (nth p.ct cell))).progs.length:=List.length_map _
   by_cases hmm:ofK (nth p.ct cell) < 0∨ofS (nth p.ct cell)≠p.side
   ·have hsd:=hp.s
    have hof:=ofK_rg hg hr.1 hr.2
    have hmm:ofS (nth p.ct cell)≠p.side:=by omega
    refine fun_cut 8 [] tok D_ok Tryz.func42 rfl Tryz.ntmps42 Tryz.results42 (by kernel_rfl) (by simp) (by simp) fun R hR=>?_
    conv=>whnf
    repeat' (first | ((first | refine lvA ?_ | refine ⟨_,_,hv,lvN ?_⟩ | refine ⟨_,_,hm,lvN ?_⟩ | (refine .inl ?_;(conv=>whnf);first | refine ⟨_,_,hv,lvN ?_⟩ | refine ⟨_,_,hm,lvN ?_⟩));apply Cj.mk <;> first | exact trivial | intros) | (refine lvE ?_;apply Cj.mk <;> first | exact trivial | intros) | fail)
    all_goals (try (exfalso;omega))
   ·have hk:=kind_rg hg hp hc.1 hc.2 hmm
    have hi:¬ (0≤i∧i < (nth g.kinds (ofK (nth p.ct cell))).progs.length):=fun q=>h (canRun_of hg hp hc.1 hc.2 hmm i q.1 q.2)
    refine fun_cut 8 [] tok D_ok Tryz.func42 rfl Tryz.ntmps42 Tryz.results42 (by kernel_rfl) (by simp) (by simp) fun R hR=>?_
    conv=>whnf
    repeat' (first | ((first | refine lvA ?_ | refine ⟨_,_,hv,lvN ?_⟩ | refine ⟨_,_,hm,lvN ?_⟩ | (refine .inl ?_;(conv=>whnf);first | refine ⟨_,_,hv,lvN ?_⟩ | refine ⟨_,_,hm,lvN ?_⟩));apply Cj.mk <;> first | exact trivial | intros) | (refine lvE ?_;apply Cj.mk <;> first | exact trivial | intros) | fail)
    all_goals (try (exfalso;omega))
  ·refine fun_cut 8 [] tok D_ok Tryz.func42 rfl Tryz.ntmps42 Tryz.results42 (by kernel_rfl) (by simp) (by simp) fun R hR=>?_
   conv=>whnf
   repeat' (first | ((first | refine lvA ?_ | refine ⟨_,_,hv,lvN ?_⟩ | (refine .inl ?_;(conv=>whnf);first | refine ⟨_,_,hv,lvN ?_⟩));apply Cj.mk <;> first | exact trivial | intros) | (refine lvE ?_;apply Cj.mk <;> first | exact trivial | intros) | fail)
   all_goals (try (exfalso;omega))
 ·rw [decide_eq_false hp] at hv
  rw [if_neg hp]
  refine fun_cut 8 [] tok D_ok Tryz.func42 rfl Tryz.ntmps42 Tryz.results42 (by kernel_rfl) (by simp) (by simp) fun R hR=>?_
  conv=>whnf
  repeat' (first | ((first | refine lvA ?_ | refine ⟨_,_,hv,lvN ?_⟩ | (refine .inl ?_;(conv=>whnf);first | refine ⟨_,_,hv,lvN ?_⟩));apply Cj.mk <;> first | exact trivial | intros) | (refine lvE ?_;apply Cj.mk <;> first | exact trivial | intros) | fail)
set_option maxHeartbeats 4000000 in
set_option maxRecDepth 10000 in
theorem PRuns_err (g:Gm) (hg:g.ok) (p:Ps) (hl:p.ct.length≤4611686018427387904) (cell i:Int) (h:¬ CanRun g p cell i):Pure Tryz.prog 14 [g.av,p.av,I cell,I i] (.tup [.sl [],I (g.errR p)]) none:=by
 have hr:=runE1_p g hg p hl cell i h _ rfl
 have he:g.errR p≠0:=by unfold Gm.errR;split <;> decide
 unfold OS1 at hr
 generalize g.errR p=e at *
 refine fun_of tok D_ok Tryz.func14 rfl Tryz.ntmps14 Tryz.results14 (by kernel_rfl) (by simp) (by simp) ?_
 conv=>whnf
 repeat' (first | ((first | refine lvK ?_ | (refine .inl ?_;(conv=>whnf);refine ⟨[1,2],_,[g.av,p.av,I cell,I i,fnL1],_,_,⟨rfl,rfl,rfl⟩,hr,lvN ?_⟩));apply Cj.mk <;> first | exact trivial | intros) | (refine lvE ?_;apply Cj.mk <;> first | exact trivial | intros) | fail)
structure R6 where
 g:R3
 p:R4
 picks:List Int
def R6.cs (x:R6):List AV:=x.g.cs++x.p.cs++[Us x.picks]
structure R6.ok (x:R6):Prop where
 g:x.g.ok
 p:x.p.ok
 b:∀ i:Int,0≤i→i < x.picks.length→b8 (nth x.picks i)
 l:x.picks.length≤9223372036854775807
def R6.gm (x:R6):Gm:=x.g.made
def R6.p0 (x:R6):Ps:=x.p.made x.gm
def R6.walk (x:R6):List Ps:=x.p0 :: x.gm.walkR (x.picks.take 6) x.p0
def R6.ps (x:R6):Ps:=nth x.walk ((x.walk.length:Int) - 1)
theorem R6.gm_ok {x:R6} (hx:x.ok):x.gm.ok:=R3.made_ok hx.g
theorem R6.gm_nk (x:R6):x.gm.nk=1∨x.gm.nk=2:=by
 have:=x.g.nk_12
 rw [show x.gm.nk=x.g.made.nk from rfl,R3.made_nk];exact this
theorem R6.p0_ok {x:R6} (hx:x.ok):x.p0.ok x.gm:=R4.made_ok hx.p (R6.gm_ok hx) (by have:=x.gm_nk;omega)
theorem R6.walk_ok {x:R6} (hx:x.ok):∀ q,q∈x.walk→q.ok x.gm:=fun q hq=>by
 rcases List.mem_cons.1 hq with rfl | hq
 ·exact R6.p0_ok hx
 ·exact walkR_ok (R6.gm_ok hx) _ (R6.p0_ok hx) q hq
theorem R6.ps_ok {x:R6} (hx:x.ok):x.ps.ok x.gm:=R6.walk_ok hx _ (nth_mem (by unfold R6.walk;simp) (by omega))
set_option maxHeartbeats 4000000 in
set_option maxRecDepth 10000 in
theorem Made6_p (x:R6) (hx:x.ok):Pure Tryz.prog 12 [.ag x.cs] (.tup [x.gm.av,x.ps.av]) none:=by
 have m3:=R3Made_p x.g hx.g
 have m4:=R4Made_p x.p hx.p x.gm (R6.gm_ok hx) x.gm_nk
 have mw:=Walk6_p x.gm (R6.gm_ok hx) x.p0 (R6.p0_ok hx) (x.picks.take 6) (by rw [List.length_take];omega)
 have hwl:=walkR_len x.gm (x.picks.take 6) x.p0
 have hwl2:x.walk.length=(x.gm.walkR (x.picks.take 6) x.p0).length+1:=rfl
 rw [List.length_take] at hwl
 have hb:=hx.b
 have hl:=hx.l
 have ep:(x.picks.map U8).length=x.picks.length:=List.length_map _
 have ew:(x.walk.map Ps.av).length=x.walk.length:=List.length_map _
 have m4':Pure Tryz.prog 20 [x.gm.av,.ag x.p.cs] x.p0.av none:=m4
 have mw':Pure Tryz.prog 41 [x.gm.av,x.p0.av,Is (x.picks.take 6)] (Pss x.walk) none:=mw
 have m3':Pure Tryz.prog 40 [.ag x.g.cs] x.gm.av none:=m3
 clear m4 mw m3
 unfold R6.ps
 generalize x.gm=g at *
 generalize x.p0=p at *
 generalize x.walk=w at *
 obtain ⟨xg,xp,picks⟩:=x
 dsimp only at *
 refine fun_of tok D_ok Tryz.func12 rfl Tryz.ntmps12 Tryz.results12 (by kernel_rfl) (by simp) (by simp) ?_
 conv=>whnf
 repeat' (first | ((first | refine lvK ?_ | refine ⟨_,_,m3',lvN ?_⟩ | (refine .inl ?_;(conv=>whnf);first | refine ⟨_,_,m3',lvN ?_⟩));apply Cj.mk <;> first | exact trivial | intros) | (refine lvE ?_;apply Cj.mk <;> first | exact trivial | intros) | fail)
 refine .of (fun i=>[(6,I i),(5,.ref 4)]) (fun i=>[(4,.arr 1 ((picks.take i.toNat).map I))]) 5 (fun i=>0≤i∧i≤picks.length∧i≤6) (fun i=>(6 - i).toNat) 0 ?_
 conv=>whnf
 refine ⟨⟨[],hdA (lvL ?_) (lvL ?_)⟩,?_,fun i ⟨i0,i1,i6⟩=>lvN ?_⟩ <;> (try (apply Cj.mk <;> first | exact trivial | intros))
 ·exact ⟨by omega,by omega,by omega⟩
 have htl:=take_len i0 i1
 by_cases hi:i < picks.length∧i < 6
 ·have hsu:=take_snoc i0 hi.1
  have hbi:=hb i i0 hi.1
  unfold b8 at hbi
  repeat' (first | (refine lvK ?_;apply Cj.mk <;> first | exact trivial | intros) | (refine lvE ?_;apply Cj.mk <;> first | exact trivial | intros) | fail)
  refine ⟨i+1,⟨[],hdA (lvL ?_) (lvL ?_)⟩,?_,by (try dsimp only);omega,rfl⟩ <;> (try (apply Cj.mk <;> first | exact trivial | intros))
  ·rw [hsu]
  ·exact ⟨by omega,by omega,by omega⟩
 ·have hte:picks.take i.toNat=picks.take 6:=by
   by_cases h6:i=6
   ·rw [h6];rfl
   ·rw [take_all (by omega),List.take_of_length_le (by omega)]
  rw [hte]
  by_cases h6:i < picks.length
  ·repeat' (first
    | (refine lvD ?_;apply Cj.mk <;> first | exact trivial | intros)
    | (refine ShowsJ.mk (by kernel_rfl) (by kernel_rfl) (by kernel_rfl) (lvL ?_) (lvL ?_) rfl <;> (try (apply Cj.mk <;> first | exact trivial | intros)))
    | (refine lvE ?_;apply Cj.mk <;> first | exact trivial | intros)
    | fail)
   refine drawP [4] ?_
   conv=>whnf
   try dsimp only [St.after,St.afterAt,St.pin,St.unpin,initSt,initT,numO,cellsA,Option.map,ren,renL,renO,St.setObj,headSt,List.cons_append,List.nil_append,List.length_nil,Nat.reduceAdd]
   repeat' (first | ((first | refine lvD ?_ | refine ⟨_,_,m4',lvN ?_⟩ | refine ⟨_,_,mw',lvN ?_⟩ | (refine .inl ?_;(conv=>whnf);first | refine ⟨_,_,m4',lvN ?_⟩ | refine ⟨_,_,mw',lvN ?_⟩));apply Cj.mk <;> first | exact trivial | intros) | (refine ShowsJ.mk (by kernel_rfl) (by kernel_rfl) (by kernel_rfl) (lvL ?_) (lvL ?_) rfl <;> (try (apply Cj.mk <;> first | exact trivial | intros))) | (refine lvE ?_;apply Cj.mk <;> first | exact trivial | intros) | fail)
   (first | refine drawA2 (by decide +kernel) ?_ | refine drawA (by decide +kernel) ?_ | refine drawL (by decide +kernel) ?_)
   conv=>whnf
   try dsimp only [St.after,St.afterAt,St.pin,St.unpin,initSt,initT,numO,cellsA,Option.map,ren,renL,renO,St.setObj,headSt,List.cons_append,List.nil_append,List.length_nil,Nat.reduceAdd]
   try (conv=>enter [7,3];whnf)
   repeat' (first | ((first | refine lvD ?_ | refine ⟨_,_,m4',lvN ?_⟩ | refine ⟨_,_,mw',lvN ?_⟩ | (refine .inl ?_;(conv=>whnf);first | refine ⟨_,_,m4',lvN ?_⟩ | refine ⟨_,_,mw',lvN ?_⟩));apply Cj.mk <;> first | exact trivial | intros) | (refine ShowsJ.mk (by kernel_rfl) (by kernel_rfl) (by kernel_rfl) (lvL ?_) (lvL ?_) rfl <;> (try (apply Cj.mk <;> first | exact trivial | intros))) | (refine lvE ?_;apply Cj.mk <;> first | exact trivial | intros) | fail)
   refine drawJ [1,2] [] [] [(1,.box [I g.b.cells,Iss g.b.next,Is g.b.turn,.sl (g.kinds.map Kn),I g.rights,Bo g.must,.sl (g.cls.map Ca),I g.blocked,I g.endless]),(2,.box [Is (nth w ((w.length:Int) - 1)).ct,Is (nth w ((w.length:Int) - 1)).h0,Is (nth w ((w.length:Int) - 1)).h1,I (nth w ((w.length:Int) - 1)).rights,I (nth w ((w.length:Int) - 1)).side])] 5 (by decide +kernel) ?_
   conv=>whnf
   refine And.intro ?_ ?_
   ·repeat' (first
     | (refine lvD ?_;apply Cj.mk <;> first | exact trivial | intros)
     | (refine ShowsJ.mk (by kernel_rfl) (by kernel_rfl) (by kernel_rfl) (lvL ?_) (lvL ?_) rfl <;> (try (apply Cj.mk <;> first | exact trivial | intros)))
     | (refine lvE ?_;apply Cj.mk <;> first | exact trivial | intros)
     | fail)
    all_goals rw [ew]
   repeat' (first | (refine lvD ?_;apply Cj.mk <;> first | exact trivial | intros) | (refine ShowsJ.mk (by kernel_rfl) (by kernel_rfl) (by kernel_rfl) (lvL ?_) (lvL ?_) rfl <;> (try (apply Cj.mk <;> first | exact trivial | intros))) | (refine lvE ?_;apply Cj.mk <;> first | exact trivial | intros) | fail)
  ·repeat' (first
    | (refine lvD ?_;apply Cj.mk <;> first | exact trivial | intros)
    | (refine ShowsJ.mk (by kernel_rfl) (by kernel_rfl) (by kernel_rfl) (lvL ?_) (lvL ?_) rfl <;> (try (apply Cj.mk <;> first | exact trivial | intros)))
    | (refine lvE ?_;apply Cj.mk <;> first | exact trivial | intros)
    | fail)
   refine drawP [4] ?_
   conv=>whnf
   try dsimp only [St.after,St.afterAt,St.pin,St.unpin,initSt,initT,numO,cellsA,Option.map,ren,renL,renO,St.setObj,headSt,List.cons_append,List.nil_append,List.length_nil,Nat.reduceAdd]
   repeat' (first | ((first | refine lvD ?_ | refine ⟨_,_,m4',lvN ?_⟩ | refine ⟨_,_,mw',lvN ?_⟩ | (refine .inl ?_;(conv=>whnf);first | refine ⟨_,_,m4',lvN ?_⟩ | refine ⟨_,_,mw',lvN ?_⟩));apply Cj.mk <;> first | exact trivial | intros) | (refine ShowsJ.mk (by kernel_rfl) (by kernel_rfl) (by kernel_rfl) (lvL ?_) (lvL ?_) rfl <;> (try (apply Cj.mk <;> first | exact trivial | intros))) | (refine lvE ?_;apply Cj.mk <;> first | exact trivial | intros) | fail)
   (first | refine drawA2 (by decide +kernel) ?_ | refine drawA (by decide +kernel) ?_ | refine drawL (by decide +kernel) ?_)
   conv=>whnf
   try dsimp only [St.after,St.afterAt,St.pin,St.unpin,initSt,initT,numO,cellsA,Option.map,ren,renL,renO,St.setObj,headSt,List.cons_append,List.nil_append,List.length_nil,Nat.reduceAdd]
   try (conv=>enter [7,3];whnf)
   repeat' (first | ((first | refine lvD ?_ | refine ⟨_,_,m4',lvN ?_⟩ | refine ⟨_,_,mw',lvN ?_⟩ | (refine .inl ?_;(conv=>whnf);first | refine ⟨_,_,m4',lvN ?_⟩ | refine ⟨_,_,mw',lvN ?_⟩));apply Cj.mk <;> first | exact trivial | intros) | (refine ShowsJ.mk (by kernel_rfl) (by kernel_rfl) (by kernel_rfl) (lvL ?_) (lvL ?_) rfl <;> (try (apply Cj.mk <;> first | exact trivial | intros))) | (refine lvE ?_;apply Cj.mk <;> first | exact trivial | intros) | fail)
   refine drawJ [1,2] [] [] [(1,.box [I g.b.cells,Iss g.b.next,Is g.b.turn,.sl (g.kinds.map Kn),I g.rights,Bo g.must,.sl (g.cls.map Ca),I g.blocked,I g.endless]),(2,.box [Is (nth w ((w.length:Int) - 1)).ct,Is (nth w ((w.length:Int) - 1)).h0,Is (nth w ((w.length:Int) - 1)).h1,I (nth w ((w.length:Int) - 1)).rights,I (nth w ((w.length:Int) - 1)).side])] 5 (by decide +kernel) ?_
   conv=>whnf
   refine And.intro ?_ ?_
   ·repeat' (first
     | (refine lvD ?_;apply Cj.mk <;> first | exact trivial | intros)
     | (refine ShowsJ.mk (by kernel_rfl) (by kernel_rfl) (by kernel_rfl) (lvL ?_) (lvL ?_) rfl <;> (try (apply Cj.mk <;> first | exact trivial | intros)))
     | (refine lvE ?_;apply Cj.mk <;> first | exact trivial | intros)
     | fail)
    all_goals rw [ew]
   repeat' (first | (refine lvD ?_;apply Cj.mk <;> first | exact trivial | intros) | (refine ShowsJ.mk (by kernel_rfl) (by kernel_rfl) (by kernel_rfl) (lvL ?_) (lvL ?_) rfl <;> (try (apply Cj.mk <;> first | exact trivial | intros))) | (refine lvE ?_;apply Cj.mk <;> first | exact trivial | intros) | fail)
open Go Go.Sk Go.ChangeShapes Go.WideShapes Go.ChangeAt Go.RowKit
theorem own:ownKnob Tryz.prog.godebug=none:=by kernel_rfl
theorem wf_b8 {m:Int} (h:(Lit.int .u8 m).wf=true):b8 m:=by
 simp [Lit.wf,IntKind.has,IntKind.min,IntKind.max,IntKind.signed,IntKind.bits] at h
 exact h
theorem row_map {α:Type} {ks:List CK} {f:α→AV} {p:α→Prop} (hf:∀ cs,CKoks ks cs→∃ x,packA cs=f x∧p x) {a:AV} (h:CKok (.row ks) a):∃ l:List α,a=.sl (l.map f)∧l.length≤9223372036854775807∧∀ x,x∈l→p x:=by
 simp only [CKok] at h
 obtain ⟨xs,rfl,hl,hx⟩:=h
 have:∃ l:List α,xs=l.map f∧∀ x,x∈l→p x:=by
  clear hl
  induction xs with
  | nil=>exact ⟨[],rfl,fun x hx=>by cases hx⟩
  | cons e r ih =>
   obtain ⟨l,h1,h2⟩:=ih fun e he=>hx e (List.mem_cons_of_mem _ he)
   obtain ⟨cs,h3,h4⟩:=hx e (List.mem_cons_self ..)
   obtain ⟨x,h5,h6⟩:=hf cs h4
   exact ⟨x :: l,by rw [h1,h3,h5];rfl,fun y hy=>by
    rcases List.mem_cons.1 hy with rfl | hy
    ·exact h6
    ·exact h2 y hy⟩
 obtain ⟨l,rfl,h2⟩:=this
 rw [List.length_map] at hl
 exact ⟨l,rfl,by unfold maxLen at hl;omega,h2⟩
theorem ck_u8 {a:AV} (h:CKok (.int .u8) a):∃ n,a=U8 n∧b8 n:=by
 simp only [CKok] at h
 obtain ⟨n,rfl,h⟩:=h
 exact ⟨n,rfl,wf_b8 h⟩
theorem ck_u8s {ks:List CK} {us:List AV} (h:CKoks (.int .u8 :: ks) us):∃ n r,us=U8 n :: r∧b8 n∧CKoks ks r:=by
 simp only [CKoks] at h
 obtain ⟨a,r,rfl,h1,h2⟩:=h
 obtain ⟨n,rfl,h3⟩:=ck_u8 h1
 exact ⟨n,r,rfl,h3,h2⟩
theorem ck_nil {us:List AV} (h:CKoks [] us):us=[]:=by simpa [CKoks] using h
theorem ck_row {ks ls:List CK} {us:List AV} (h:CKoks (.row ks :: ls) us):∃ a r,us=a :: r∧CKok (.row ks) a∧CKoks ls r:=by
 simp only [CKoks] at h
 exact h
theorem row_u8 {a:AV} (h:CKok (.row [.int .u8]) a):∃ l:List Int,a=Us l∧l.length≤9223372036854775807∧∀ i:Int,0≤i→i < l.length→b8 (nth l i):=by
 obtain ⟨l,h1,h2,h3⟩:=row_map (f:=U8) (p:=b8) (fun cs hc=>by
  obtain ⟨n,r,rfl,hn,hr⟩:=ck_u8s hc
  rw [ck_nil hr]
  exact ⟨n,rfl,hn⟩) h
 exact ⟨l,h1,h2,fun i i0 i1=>h3 _ (nth_mem i0 i1)⟩
theorem row_c3 {a:AV} (h:CKok (.row [.int .u8,.int .u8,.int .u8]) a):∃ l:List C3,a=.sl (l.map Cb)∧l.length≤9223372036854775807∧∀ i:Int,0≤i→i < l.length→b8 (nth l i).a∧b8 (nth l i).b∧b8 (nth l i).c:=by
 obtain ⟨l,h1,h2,h3⟩:=row_map (f:=Cb) (p:=fun x=>b8 x.a∧b8 x.b∧b8 x.c) (fun cs hc=>by
  obtain ⟨n1,r1,rfl,q1,hr⟩:=ck_u8s hc
  obtain ⟨n2,r2,rfl,q2,hr⟩:=ck_u8s hr
  obtain ⟨n3,r3,rfl,q3,hr⟩:=ck_u8s hr
  rw [ck_nil hr]
  exact ⟨⟨n1,n2,n3⟩,rfl,q1,q2,q3⟩) h
 exact ⟨l,h1,h2,fun i i0 i1=>h3 _ (nth_mem i0 i1)⟩
def u8s:Nat→List CK→List CK
 | 0,r=>r
 | n+1,r=>.int .u8 :: u8s n r
theorem ck_r4 {ks:List CK} {us:List AV} (h:CKoks (u8s 18 ks) us):∃ (y:R4) (r:List AV),us=y.cs++r∧y.ok∧CKoks ks r:=by
 obtain ⟨n0,r0,rfl,q0,g0⟩:=ck_u8s h
 clear h
 obtain ⟨n1,r1,rfl,q1,g1⟩:=ck_u8s g0
 clear g0
 obtain ⟨n2,r2,rfl,q2,g2⟩:=ck_u8s g1
 clear g1
 obtain ⟨n3,r3,rfl,q3,g3⟩:=ck_u8s g2
 clear g2
 obtain ⟨n4,r4,rfl,q4,g4⟩:=ck_u8s g3
 clear g3
 obtain ⟨n5,r5,rfl,q5,g5⟩:=ck_u8s g4
 clear g4
 obtain ⟨n6,r6,rfl,q6,g6⟩:=ck_u8s g5
 clear g5
 obtain ⟨n7,r7,rfl,q7,g7⟩:=ck_u8s g6
 clear g6
 obtain ⟨n8,r8,rfl,q8,g8⟩:=ck_u8s g7
 clear g7
 obtain ⟨n9,r9,rfl,q9,g9⟩:=ck_u8s g8
 clear g8
 obtain ⟨n10,r10,rfl,q10,g10⟩:=ck_u8s g9
 clear g9
 obtain ⟨n11,r11,rfl,q11,g11⟩:=ck_u8s g10
 clear g10
 obtain ⟨n12,r12,rfl,q12,g12⟩:=ck_u8s g11
 clear g11
 obtain ⟨n13,r13,rfl,q13,g13⟩:=ck_u8s g12
 clear g12
 obtain ⟨n14,r14,rfl,q14,g14⟩:=ck_u8s g13
 clear g13
 obtain ⟨n15,r15,rfl,q15,g15⟩:=ck_u8s g14
 clear g14
 obtain ⟨n16,r16,rfl,q16,g16⟩:=ck_u8s g15
 clear g15
 obtain ⟨n17,r17,rfl,q17,g17⟩:=ck_u8s g16
 clear g16
 refine ⟨⟨n0,n1,n2,n3,n4,n5,n6,n7,n8,n9,n10,n11,n12,n13,n14,n15,n16,n17⟩,r17,rfl,fun n hn=>?_,g17⟩
 simp only [R4.l,List.mem_cons,List.not_mem_nil,or_false] at hn
 rcases hn with rfl | rfl | rfl | rfl | rfl | rfl | rfl | rfl | rfl | rfl | rfl | rfl | rfl | rfl | rfl | rfl | rfl | rfl <;> assumption
theorem ck_r3 {ks:List CK} {us:List AV} (h:CKoks (u8s 3 (.row [.int .u8] :: .row [.int .u8] :: .row [.int .u8,.int .u8,.int .u8] :: u8s 6 ks)) us):∃ (y:R3) (r:List AV),us=y.cs++r∧y.ok∧CKoks ks r:=by
 obtain ⟨n0,r0,rfl,q0,g0⟩:=ck_u8s h
 clear h
 obtain ⟨n1,r1,rfl,q1,g1⟩:=ck_u8s g0
 clear g0
 obtain ⟨n2,r2,rfl,q2,g2⟩:=ck_u8s g1
 clear g1
 obtain ⟨a3,r3,rfl,p3,g3⟩:=ck_row g2
 clear g2
 obtain ⟨a4,r4,rfl,p4,g4⟩:=ck_row g3
 clear g3
 obtain ⟨a5,r5,rfl,p5,g5⟩:=ck_row g4
 clear g4
 obtain ⟨n6,r6,rfl,q6,g6⟩:=ck_u8s g5
 clear g5
 obtain ⟨n7,r7,rfl,q7,g7⟩:=ck_u8s g6
 clear g6
 obtain ⟨n8,r8,rfl,q8,g8⟩:=ck_u8s g7
 clear g7
 obtain ⟨n9,r9,rfl,q9,g9⟩:=ck_u8s g8
 clear g8
 obtain ⟨n10,r10,rfl,q10,g10⟩:=ck_u8s g9
 clear g9
 obtain ⟨n11,r11,rfl,q11,g11⟩:=ck_u8s g10
 clear g10
 obtain ⟨l3,rfl,s3,t3⟩:=row_u8 p3
 obtain ⟨l4,rfl,s4,t4⟩:=row_u8 p4
 obtain ⟨l5,rfl,s5,t5⟩:=row_c3 p5
 exact ⟨⟨n0,n1,n2,l3,l4,l5,n6,n7,n8,n9,n10,n11⟩,r11,rfl,⟨q0,q1,q2,t3,t4,t5,q6,q7,q8,q9,q10,s3,s4,s5⟩,g11⟩
def ksR4:List CK:=u8s 18 []
def ksR6:List CK:=u8s 3 (.row [.int .u8] :: .row [.int .u8] :: .row [.int .u8,.int .u8,.int .u8] :: u8s 6 (u8s 18 [.row [.int .u8]]))
theorem ck_r6 {us:List AV} (h:CKoks ksR6 us):∃ y:R6,us=y.cs∧y.ok:=by
 obtain ⟨y,r,rfl,hy,h1⟩:=ck_r3 h
 obtain ⟨z,r',rfl,hz,h2⟩:=ck_r4 h1
 obtain ⟨a,r'',rfl,ha,h3⟩:=ck_row h2
 obtain ⟨l,rfl,s,t⟩:=row_u8 ha
 obtain rfl:=ck_nil h3
 exact ⟨⟨y,z,l⟩,(List.append_assoc ..).symm,hy,hz,t,s⟩
section
variable {H:Type} {enc:TypeId × Value→H} {W:World} {sp:Nat→Bool} {held:Bool} {v:Value} {d:DataW H} {ps:List MemPlace} {b0:Nat} {r:Reach}
set_option maxRecDepth 10000 in
theorem open_r6 (hv:Value.okWide Tryz.prog W r b0 32 v) (h:DataW.Trod enc Tryz.prog W 0 sp held 32 v d ps):∃ x:R6,x.ok∧∀ V:VV,RepT NT W V (.ag x.cs) v:=by
 obtain ⟨cs,rfl,hs⟩:=okWide_struct Tryz.underlying32 hv
 obtain ⟨us,h1,h2⟩:=arg_ag (n:=8) (ks:=ksR6) (by kernel_rfl) (by rw [hs];kernel_rfl) h
 obtain ⟨x,hu,hx⟩:=ck_r6 h1
 subst hu
 exact ⟨x,hx,h2⟩
theorem wf_u8 {m:Int} (h:(Lit.int .u8 m).wf=true):0≤m∧m≤255:=wf_b8 h
set_option maxRecDepth 10000 in
theorem open_r4 (hv:Value.okWide Tryz.prog W r b0 30 v) (h:DataW.Trod enc Tryz.prog W 0 sp held 30 v d ps):∃ x:R4,x.ok∧∀ V:VV,RepT NT W V (.ag x.cs) v:=by
 obtain ⟨cs,rfl,hs⟩:=okWide_struct Tryz.underlying30 hv
 obtain ⟨us,h1,h2⟩:=arg_ag (n:=8) (ks:=ksR4) (by kernel_rfl) (by rw [hs];kernel_rfl) h
 obtain ⟨x,r,hu,hx,hr⟩:=ck_r4 h1
 rw [ck_nil hr,List.append_nil] at hu
 subst hu
 exact ⟨x,hx,h2⟩
set_option maxRecDepth 10000 in
theorem r6_bd {A:Nat→Prop} (x:R6):bd A (.ag x.cs):=by
 simp [R6.cs,R3.cs,R4.cs,bd,bdL,U8,Us]
end
end Go.Proofs.YthgobfncgnjimaaGreatDoor
