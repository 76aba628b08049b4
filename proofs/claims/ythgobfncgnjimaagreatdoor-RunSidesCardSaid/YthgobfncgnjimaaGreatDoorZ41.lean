/- Contracts of functions of the program, proved by the checker. -/
import Derived.Test.YthgobfncgnjimaaGreatDoorZ40
import Derived.Test.YthgobfncgnjimaaGreatDoorZ30
set_option linter.unusedVariables false
set_option linter.unusedSimpArgs false
namespace Go.Proofs.YthgobfncgnjimaaGreatDoor
open Go Go.Sk
theorem setF' {α:Type} {l:List α} {f:α→AV} {n:Nat} {e:AV} {z:α} {K:List AV→Prop} (hz:e=f z) (k:K ((l.set n z).map f)):CalcL ((l.map f).set n e) K:=.mk _ (by rw [List.map_set,hz]) k
def mapTo {α:Type} (f:α→α) (l:List α) (i:Int):List α:=(l.take i.toNat).map f++l.drop i.toNat
theorem mapTo_len {α:Type} (f:α→α) (l:List α) (i:Int):(mapTo f l i).length=l.length:=by unfold mapTo;simp;omega
theorem mapTo_zero {α:Type} (f:α→α) (l:List α):mapTo f l 0=l:=rfl
theorem mapTo_all {α:Type} (f:α→α) (l:List α):mapTo f l l.length=l.map f:=by unfold mapTo;simp
theorem mapTo_nth {α:Type} [Inhabited α] (f:α→α) {l:List α} {i:Int} (h0:0≤i) (h:i < l.length):nth (mapTo f l i) i=nth l i:=by
 unfold mapTo nth
 rw [List.getD_eq_getElem?_getD,List.getElem?_append_right (by simp;omega),List.getElem?_drop,List.getD_eq_getElem?_getD]
 congr 2
 simp;omega
theorem mapTo_set {α:Type} [Inhabited α] (f:α→α) {l:List α} {i:Int} (h0:0≤i) (h:i < l.length):(mapTo f l i).set i.toNat (f (nth l i))=mapTo f l (i+1):=by
 unfold mapTo
 rw [take_snoc h0 h,List.map_append,drop_nth h0 h,List.set_append_right _ _ (by simp;omega)]
 have e:i.toNat - ((l.take i.toNat).map f).length=0:=by simp;omega
 rw [e,show (i+1).toNat=i.toNat+1 by omega,List.append_assoc]
 rfl
theorem Leads5_p (y:Stp):Pure Tryz.prog 59 [St1 y] (Bo (decide (y.op=1∨y.op=2∨y.op=7))) none:=by
 refine fun_of tok D_ok Tryz.func59 rfl Tryz.ntmps59 Tryz.results59 (by kernel_rfl) (by simp) (by simp) ?_
 conv=>whnf
 repeat' (first | (refine lvA ?_;apply Cj.mk <;> first | exact trivial | intros) | (refine lvE ?_;apply Cj.mk <;> first | exact trivial | intros) | fail)
 all_goals (congr 1;simp_all)
 all_goals (rw [Bool.eq_iff_iff];simp)
set_option maxHeartbeats 4000000 in
set_option maxRecDepth 10000 in
theorem Turned_p (b:Bd) (hb:b.ok) (p:List Stp) (hl:p.length≤8) (hp:∀ y,y∈p→(y.op=1∨y.op=2∨y.op=7)→0≤y.n∧y.n < b.next.length):Pure Tryz.prog 25 [Pg p,Is b.turn] (Pg (p.map (trn b))) none:=by
 have el:(p.map St1).length=p.length:=List.length_map _
 have et:(b.turn.map I).length=b.turn.length:=List.length_map _
 have htl:=hb.tl
 refine fun_of tok D_ok Tryz.func25 rfl Tryz.ntmps25 Tryz.results25 (by kernel_rfl) (by simp) (by simp) ?_
 conv=>whnf
 repeat' (first | (refine lvK ?_;apply Cj.mk <;> first | exact trivial | intros) | (refine lvE ?_;apply Cj.mk <;> first | exact trivial | intros) | fail)
 refine .of (fun i=>[(6,I i)]) (fun i=>[(0,.arr 2 ((mapTo (trn b) p i).map St1))]) 1 (fun i=>0≤i∧i≤p.length) (fun i=>(p.length - i).toNat) 0 ?_
 conv=>whnf
 refine ⟨⟨[],hdA (lvL ?_) (lvL ?_)⟩,?_,fun i ⟨i0,i1⟩=>lvN ?_⟩ <;> (try (apply Cj.mk <;> first | exact trivial | intros))
 ·exact ⟨by omega,by omega⟩
 have eml:=mapTo_len (trn b) p i
 have emm:((mapTo (trn b) p i).map St1).length=(mapTo (trn b) p i).length:=List.length_map _
 by_cases hi:i < p.length
 ·have hnt:=mapTo_nth (trn b) i0 hi
  have hst:=mapTo_set (trn b) i0 hi
  have hpi:=hp _ (nth_mem i0 hi)
  have hld:=Leads5_p (nth (mapTo (trn b) p i) i)
  rw [show decide ((nth (mapTo (trn b) p i) i).op=1∨(nth (mapTo (trn b) p i) i).op=2∨(nth (mapTo (trn b) p i) i).op=7)=decide ((nth p i).op=1∨(nth p i).op=2∨(nth p i).op=7) by rw [hnt]] at hld
  have hnn:(nth (mapTo (trn b) p i) i).n=(nth p i).n:=by rw [hnt]
  have hno:(nth (mapTo (trn b) p i) i).op=(nth p i).op:=by rw [hnt]
  by_cases hlead:(nth p i).op=1∨(nth p i).op=2∨(nth p i).op=7
  ·have hr:=hpi hlead
   rw [decide_eq_true hlead] at hld
   have htr:trn b (nth p i)=⟨(nth p i).op,b.tn (nth p i).n⟩:=if_pos hlead
   repeat' (first | ((first | refine lvK ?_ | refine ⟨_,_,hld,lvN ?_⟩ | (refine .inl ?_;(conv=>whnf);first | refine ⟨_,_,hld,lvN ?_⟩) | (refine setF' (z:=trn b (nth p i)) (by rw [htr,hnt];rfl) (lvN ?_)));apply Cj.mk <;> first | exact trivial | intros) | (refine lvE ?_;apply Cj.mk <;> first | exact trivial | intros) | fail)
   all_goals
    refine ⟨i+1,⟨[],hdA (lvL ?_) (lvL ?_)⟩,?_,by (try dsimp only);omega,rfl⟩ <;> (try (apply Cj.mk <;> first | exact trivial | intros))
    ·rw [hst]
    ·exact ⟨by omega,by omega⟩
  ·rw [decide_eq_false hlead] at hld
   have htr:trn b (nth p i)=nth p i:=if_neg hlead
   have hsame:mapTo (trn b) p (i+1)=mapTo (trn b) p i:=by
    rw [← hst,htr]
    refine ext_nth (by simp) fun j j0 j1=>?_
    rw [List.length_set] at j1
    by_cases e:j=i
    ·subst e;rw [nth_set_eq j0 (by omega),hnt]
    ·rw [nth_set_ne i0 j0 (fun q=>e q.symm)]
   repeat' (first | ((first | refine lvK ?_ | refine ⟨_,_,hld,lvN ?_⟩ | (refine .inl ?_;(conv=>whnf);first | refine ⟨_,_,hld,lvN ?_⟩));apply Cj.mk <;> first | exact trivial | intros) | (refine lvE ?_;apply Cj.mk <;> first | exact trivial | intros) | fail)
   all_goals
    refine ⟨i+1,⟨[],hdA (lvL ?_) (lvL ?_)⟩,?_,by (try dsimp only);omega,rfl⟩ <;> (try (apply Cj.mk <;> first | exact trivial | intros))
    ·rw [hsame]
    ·exact ⟨by omega,by omega⟩
 ·obtain rfl:i=p.length:=by omega
  rw [mapTo_all]
  have emt:((p.map (trn b)).map St1).length=p.length:=by rw [List.length_map,List.length_map]
  repeat' (first | (refine lvK ?_;apply Cj.mk <;> first | exact trivial | intros) | (refine lvE ?_;apply Cj.mk <;> first | exact trivial | intros) | fail)
set_option maxHeartbeats 4000000 in
set_option maxRecDepth 10000 in
theorem Exch_p (g:Gm) (hg:g.ok) (p:Ps) (hp:p.ok g):Pure Tryz.prog 26 [p.av] (exP p).av none:=by
 have cp:=copied_p p (hp.small hg)
 have hlen:=hp.len
 have c9:=hg.c9
 have k6:=hg.k6
 have hps:=hp.s
 have el:(p.ct.map I).length=p.ct.length:=List.length_map _
 refine fun_of tok D_ok Tryz.func26 rfl Tryz.ntmps26 Tryz.results26 (by kernel_rfl) (by simp) (by simp) ?_
 conv=>whnf
 repeat' (first | ((first | refine lvK ?_ | (refine .inr (.inl ?_);(conv=>whnf);refine ⟨[],[],[p.av],_,_,⟨rfl,rfl,rfl⟩,cp,lvN ?_⟩));apply Cj.mk <;> first | exact trivial | intros) | (refine lvE ?_;apply Cj.mk <;> first | exact trivial | intros) | fail)
 refine .of (fun c=>[(4,I c)]) (fun c=>[(2,.arr 1 ((mapTo xc p.ct c).map I))]) 6 (fun c=>0≤c∧c≤p.ct.length) (fun c=>(p.ct.length - c).toNat) 0 ?_
 conv=>whnf
 refine ⟨⟨[],hdA (lvL ?_) (lvL ?_)⟩,?_,fun c ⟨c0,c1⟩=>lvN ?_⟩ <;> (try (apply Cj.mk <;> first | exact trivial | intros))
 ·exact ⟨by omega,by omega⟩
 have eml:=mapTo_len xc p.ct c
 have emm:((mapTo xc p.ct c).map I).length=(mapTo xc p.ct c).length:=List.length_map _
 by_cases hc:c < p.ct.length
 ·have hnt:=mapTo_nth xc c0 hc
  have hst:=mapTo_set xc c0 hc
  have hr:=hp.c c c0 (by omega)
  have ho:=Of_p (nth (mapTo xc p.ct c) c) (by omega)
  have hcode:=Code_p (ofK (nth (mapTo xc p.ct c) c)) (1 - ofS (nth (mapTo xc p.ct c) c))
  have hrk:=ofK_rg hg hr.1 hr.2
  rw [← hnt] at hrk
  repeat' (first | ((first | refine lvK ?_ | refine ⟨_,_,ho,lvN ?_⟩ | refine ⟨_,_,hcode,lvN ?_⟩ | (refine .inl ?_;(conv=>whnf);first | refine ⟨_,_,ho,lvN ?_⟩ | refine ⟨_,_,hcode,lvN ?_⟩));apply Cj.mk <;> first | exact trivial | intros) | (refine lvE ?_;apply Cj.mk <;> first | exact trivial | intros) | fail)
  refine ⟨c+1,⟨[],hdA (lvL ?_) (lvL ?_)⟩,?_,by (try dsimp only);omega,rfl⟩ <;> (try (apply Cj.mk <;> first | exact trivial | intros))
  ·rw [show code (ofK (nth (mapTo xc p.ct c) c)) (1 - ofS (nth (mapTo xc p.ct c) c))=xc (nth p.ct c) by rw [hnt];rfl,hst]
  ·exact ⟨by omega,by omega⟩
 ·obtain rfl:c=p.ct.length:=by omega
  rw [mapTo_all]
  have emt:((p.ct.map xc).map I).length=p.ct.length:=by rw [List.length_map,List.length_map]
  repeat' (first | (refine lvK ?_;apply Cj.mk <;> first | exact trivial | intros) | (refine lvE ?_;apply Cj.mk <;> first | exact trivial | intros) | fail)
def backL (l:List Oc):List Oc:=l.foldl (fun acc o=>put cmpO (exO o) acc) []
theorem backL_succ {M:List Oc} {k:Int} (k0:0≤k) (k1:k < M.length):backL (M.take (k+1).toNat)=put cmpO (exO (nth M k)) (backL (M.take k.toNat)):=by
 unfold backL
 rw [take_snoc k0 k1,List.foldl_append]
 rfl
theorem backL_mem (l:List Oc):∀ (acc:List Oc) (x:Oc),x∈l.foldl (fun acc o=>put cmpO (exO o) acc) acc→x∈acc∨∃ o,o∈l∧x=exO o:=by
 induction l with
 | nil=>intro acc x h;exact .inl h
 | cons o r ih =>
  intro acc x h
  rcases ih _ x h with h | ⟨q,h1,h2⟩
  ·rcases (mem_put cmpO_tot).1 h with rfl | h
   ·exact .inr ⟨o,by simp,rfl⟩
   ·exact .inl h
  ·exact .inr ⟨q,by simp [h1],h2⟩
theorem backL_len (l:List Oc):∀ acc:List Oc,(l.foldl (fun acc o=>put cmpO (exO o) acc) acc).length≤acc.length+l.length:=by
 induction l with
 | nil=>intro acc;simp
 | cons o r ih =>
  intro acc
  have h1:=ih (put cmpO (exO o) acc)
  have h2:=put_len (c:=cmpO) (x:=exO o) (l:=acc)
  rw [List.foldl_cons,List.length_cons]
  omega
def trP (b:Bd) (pg:List Stp):List Stp:=pg.map (trn b)
def trK (b:Bd) (k:Kd):Kd:={ k with progs:=k.progs.map (trP b) }
def kO2 (b:Bd) (a a':Kd) (k:Int):AO:=if k=0 then .arr 3 [Kn a,Kn a'] else if k=1 then .tre 3 [.ag [.v (.string a.name),.own 1 ((a.progs.map (trP b)).map Pg),Bo a.keep],Kn a'] else .pub [Kn (trK b a),Kn (trK b a')]
def kO1 (b:Bd) (a:Kd) (k:Int):AO:=if k=0 then .arr 3 [Kn a] else .pub [Kn (trK b a)]
theorem pubL_one {x y:AV} (h:pubE x=some y):PubL [x] [y]:=⟨rfl,fun q e e' h1 h2=>by
 cases q with
 | zero=>obtain rfl:=Option.some.inj h1;obtain rfl:=Option.some.inj h2;exact h
 | succ q=>simp at h1⟩
theorem pubL_two {x y x' y':AV} (h:pubE x=some y) (h':pubE x'=some y'):PubL [x,x'] [y,y']:=⟨rfl,fun q e e' h1 h2=>by
 match q with
 | 0=>obtain rfl:=Option.some.inj h1;obtain rfl:=Option.some.inj h2;exact h
 | 1=>obtain rfl:=Option.some.inj h1;obtain rfl:=Option.some.inj h2;exact h'
 | q+2=>simp at h1⟩
end Go.Proofs.YthgobfncgnjimaaGreatDoor
