/- Contracts of functions of the program, proved by the checker. -/
import Derived.Test.YthgobfncgnjimaaGreatDoorZ30
import Derived.Test.YthgobfncgnjimaaGreatDoorZ21
set_option linter.unusedVariables false
set_option linter.unusedSimpArgs false
namespace Go.Proofs.YthgobfncgnjimaaGreatDoor
open Go Go.Sk
def Gm.with (g:Gm) (kind i:Int) (pg:List Stp):Gm:={ g with kinds:=g.kinds.set kind.toNat { nth g.kinds kind with progs:=(nth g.kinds kind).progs.set i.toNat pg } }
theorem nth_setL {α:Type} [Inhabited α] {l:List α} {v:α} {i j:Int} (h0:0≤i) (h1:0≤j) (h:i < l.length):nth (l.set i.toNat v) j=if i=j then v else nth l j:=by
 unfold nth
 rw [List.getD_eq_getElem?_getD,List.getElem?_set]
 by_cases e:i=j
 ·subst e
  rw [if_pos rfl,if_pos (by omega),if_pos rfl];rfl
 ·rw [if_neg (by omega),if_neg e,List.getD_eq_getElem?_getD]
section
variable {g:Gm} {kind i:Int} {pg:List Stp}
theorem with_nk:(g.with kind i pg).nk=g.nk:=by unfold Gm.with Gm.nk;rw [List.length_set]
theorem with_kind (k0:0≤kind) (k1:kind < g.nk) {k:Int} (h0:0≤k):nth (g.with kind i pg).kinds k=if kind=k then { nth g.kinds kind with progs:=(nth g.kinds kind).progs.set i.toNat pg } else nth g.kinds k:=nth_setL k0 h0 k1
theorem with_keep (k0:0≤kind) (k1:kind < g.nk) (k:Int):(g.with kind i pg).keep k=g.keep k:=by
 unfold Gm.keep
 by_cases h:0≤k
 ·rw [with_kind k0 k1 h]
  split
  ·rename_i e;rw [e]
  ·rfl
 ·have e:∀ l:List Kd,nth l k=nth l 0:=fun l=>by unfold nth;rw [show k.toNat=(0:Int).toNat by omega]
  rw [e,e,with_kind k0 k1 (Int.le_refl 0)]
  split
  ·rename_i e;rw [e]
  ·rfl
theorem with_take (k0:0≤kind) (k1:kind < g.nk) (s:Rs):(g.with kind i pg).takeR s=g.takeR s:=by
 unfold Gm.takeR
 simp only [with_keep k0 k1]
theorem with_step (k0:0≤kind) (k1:kind < g.nk) (s:Rs) (x:Stp):(g.with kind i pg).stepR s x=g.stepR s x:=by
 unfold Gm.stepR
 simp only [with_take k0 k1]
 rfl
end
structure Longer (g:Gm) (p:Ps) (cell i:Int) (x:Stp):Prop where
 ok:g.ok
 run:CanRun g p cell i
 l7:(g.prog p cell i).length≤7
 x:StpOk g.nd g.nk g.rights x
def Gm.longer (g:Gm) (p:Ps) (cell i:Int) (x:Stp):Gm:=g.with (ofK (nth p.ct cell)) i (g.prog p cell i++[x])
theorem longer_nk {g:Gm} {p:Ps} {cell i:Int} {x:Stp}:(g.longer p cell i x).nk=g.nk:=with_nk
section
variable {g:Gm} {p:Ps} {cell i:Int} {x:Stp} (h:Longer g p cell i x)
include h
theorem longer_step (s:Rs) (y:Stp):(g.longer p cell i x).stepR s y=g.stepR s y:=with_step h.run.k0 (h.run.k1 h.ok) s y
theorem longer_progs (k:Int) (k0:0≤k):(nth (g.longer p cell i x).kinds k).progs=if ofK (nth p.ct cell)=k then (nth g.kinds (ofK (nth p.ct cell))).progs.set i.toNat (g.prog p cell i++[x]) else (nth g.kinds k).progs:=by
 unfold Gm.longer
 rw [with_kind h.run.k0 (h.run.k1 h.ok) k0]
 split <;> rfl
theorem longer_prog:(g.longer p cell i x).prog p cell i=g.prog p cell i++[x]:=by
 unfold Gm.prog
 rw [longer_progs h _ h.run.k0,if_pos rfl,nth_setL h.run.i0 h.run.i0 h.run.i1,if_pos rfl]
 rfl
theorem longer_pok {q:Ps} (hq:q.ok g):q.ok (g.longer p cell i x):=by
 have hk:=fun k=>with_keep (pg:=g.prog p cell i++[x]) (i:=i) h.run.k0 (h.run.k1 h.ok) k
 have hd:∀ l,HdOk g l→HdOk (g.longer p cell i x) l:=fun l hl=>⟨by rw [longer_nk];exact hl.len,fun k k0 k1=>by
  rw [longer_nk] at k1
  have:=hl.v k k0 k1
  exact ⟨this.1,this.2.1,fun q=>by unfold Gm.longer;rw [hk];exact this.2.2 q⟩⟩
 exact ⟨hq.len,fun c c0 c1=>by rw [longer_nk];exact hq.c c c0 c1,hd _ hq.h0,hd _ hq.h1,hq.r0,hq.r1,hq.s⟩
theorem longer_ok:(g.longer p cell i x).ok:=by
 have hg:=h.ok
 refine ⟨hg.b,hg.c9,by rw [longer_nk];exact hg.k1,by rw [longer_nk];exact hg.k6,fun k k0 k1=>?_,fun k k0 k1 pg hp=>?_,hg.r0,hg.r4,hg.cl,fun c hc=>?_,hg.bl,hg.en⟩
 ·rw [longer_nk] at k1
  rw [longer_progs h k k0]
  split
  ·rw [List.length_set];exact hg.pl _ h.run.k0 (h.run.k1 hg)
  ·exact hg.pl k k0 k1
 ·rw [longer_nk] at k1 ⊢
  have hnd:(g.longer p cell i x).nd=g.nd:=rfl
  have hrt:(g.longer p cell i x).rights=g.rights:=rfl
  rw [hnd,hrt]
  rw [longer_progs h k k0] at hp
  split at hp
  ·rcases List.mem_or_eq_of_mem_set hp with hp | rfl
   ·exact hg.pg _ h.run.k0 (h.run.k1 hg) pg hp
   ·have hpg:=h.run.pg hg
    have h7:=h.l7
    refine ⟨by simp,by simp;omega,fun y hy=>?_⟩
    rcases List.mem_append.1 hy with hy | hy
    ·exact hpg.st y hy
    ·rw [List.mem_singleton] at hy;subst hy;exact h.x
  ·exact hg.pg k k0 k1 pg hp
 ·have:=hg.cs c hc
  exact ⟨this.t1,this.t3,by rw [longer_nk];exact this.cs⟩
theorem longer_run:CanRun (g.longer p cell i x) p cell i:=⟨longer_pok h h.run.ok,h.run.c0,h.run.c1,h.run.k0,h.run.sd,h.run.i0,by
 rw [longer_progs h _ h.run.k0,if_pos rfl,List.length_set];exact h.run.i1⟩
theorem longer_now:∀ n:Nat,n≤(g.prog p cell i).length→(g.longer p cell i x).now p cell i n=g.now p cell i n:=fun n hn=>by
 unfold Gm.now
 rw [longer_prog h,Int.toNat_natCast,List.take_append_of_le_length hn]
 have:∀ (l:List Stp) (a:List Rs),l.foldl (g.longer p cell i x).all1 a=l.foldl g.all1 a:=fun l=>by
  induction l with
  | nil=>intro a;rfl
  | cons y r ih =>
   intro a
   rw [List.foldl_cons,List.foldl_cons,ih]
   congr 1
   unfold Gm.all1 Gm.next1
   simp only [longer_step h]
 exact this _ _
theorem longer_end:(g.longer p cell i x).now p cell i ((g.longer p cell i x).prog p cell i).length=g.all1 (g.now p cell i (g.prog p cell i).length) x:=by
 have hl:((g.longer p cell i x).prog p cell i).length=(g.prog p cell i).length+1:=by rw [longer_prog h];simp
 rw [hl,show (((g.prog p cell i).length+1:Nat):Int)=((g.prog p cell i).length:Int)+1 by omega,Gm.now_succ _ p cell i (by omega) (by rw [hl];omega),longer_now h _ (Nat.le_refl _)]
 have e:nth ((g.longer p cell i x).prog p cell i) (g.prog p cell i).length=x:=by
  rw [longer_prog h]
  unfold nth
  rw [Int.toNat_natCast,List.getD_eq_getElem?_getD,List.getElem?_append_right (Nat.le_refl _)]
  simp
 rw [e]
 unfold Gm.all1 Gm.next1
 simp only [longer_step h]
end
theorem mem_runs {g:Gm} {p:Ps} {cell i:Int} {o:Oc}:o∈g.runsR p cell i↔∃ s,s∈g.now p cell i (g.prog p cell i).length∧nth s.p.ct s.cur=0∧o=fin p.side s:=by
 unfold Gm.runsR
 rw [insL_mem]
 simp
theorem content_K {g:Gm} (hg:g.ok) {s:Rs} (hs:s.ok g):nth s.p.ct s.cur=0↔ofK (nth s.p.ct s.cur) < 0:=by
 have hr:=hs.c s.cur hs.u0 hs.u1
 have:=ofK_rg hg hr.1 hr.2
 omega
theorem onlyR_iff {s y:Rs} {b:Bool}:y∈onlyR s b↔y=s∧b=true:=by cases b <;> simp [onlyR]
section
variable {g:Gm} {p:Ps} {cell i:Int}
theorem now_end (hg:g.ok) (h:CanRun g p cell i) {s:Rs} (hs:s∈g.now p cell i (g.prog p cell i).length):s.ok g:=(now_ok hg h _ (Nat.le_refl _)).1 s hs
theorem longer_mem {x:Stp} (h:Longer g p cell i x) {o:Oc}:o∈(g.longer p cell i x).runsR p cell i↔∃ s,s∈g.now p cell i (g.prog p cell i).length∧∃ y,y∈g.stepR s x∧nth y.p.ct y.cur=0∧o=fin p.side y:=by
 rw [mem_runs,longer_end h]
 constructor
 ·rintro ⟨y,hy,h1,h2⟩
  obtain ⟨s,hs,hy⟩:=mem_all1.1 hy
  exact ⟨s,hs,y,hy,h1,h2⟩
 ·rintro ⟨s,hs,y,hy,h1,h2⟩
  exact ⟨y,mem_all1.2 ⟨s,hs,hy⟩,h1,h2⟩
theorem longer_empty (h:Longer g p cell i ⟨3,0⟩):(g.longer p cell i ⟨3,0⟩).runsR p cell i=g.runsR p cell i:=by
 refine Asc.uniq cmpO_tot (runs_asc ..) (runs_asc ..) fun o=>?_
 rw [longer_mem h,mem_runs]
 constructor
 ·rintro ⟨s,hs,y,hy,h1,h2⟩
  rw [step3 g s rfl] at hy
  obtain ⟨rfl,_⟩:=onlyR_iff.1 hy
  exact ⟨y,hs,h1,h2⟩
 ·rintro ⟨s,hs,h1,h2⟩
  refine ⟨s,hs,s,?_,h1,h2⟩
  rw [step3 g s rfl,onlyR_iff]
  exact ⟨rfl,decide_eq_true ((content_K h.ok (now_end h.ok h.run hs)).1 h1)⟩
theorem longer_none {x:Stp} (h:Longer g p cell i x) (hx:x.op=4∨x.op=5):(g.longer p cell i x).runsR p cell i=[]:=by
 rw [List.eq_nil_iff_forall_not_mem]
 intro o ho
 obtain ⟨s,hs,y,hy,h1,_⟩:=(longer_mem h).1 ho
 have hk:=content_K h.ok (now_end h.ok h.run hs)
 rcases hx with e | e
 ·rw [step4 g s e] at hy
  obtain ⟨rfl,hb⟩:=onlyR_iff.1 hy
  rw [Bool.and_eq_true,decide_eq_true_eq] at hb
  have:=hk.1 h1
  omega
 ·rw [step5 g s e] at hy
  obtain ⟨rfl,hb⟩:=onlyR_iff.1 hy
  rw [Bool.and_eq_true,decide_eq_true_eq] at hb
  have:=hk.1 h1
  omega
theorem longer_need {r:Int} (h:Longer g p cell i ⟨9,r⟩):(g.longer p cell i ⟨9,r⟩).runsR p cell i=(g.runsR p cell i).filter fun o=>bitR o.p.rights r == 1:=by
 refine Asc.uniq cmpO_tot (runs_asc ..) ((runs_asc ..).filter _) fun o=>?_
 rw [longer_mem h,List.mem_filter,mem_runs]
 constructor
 ·rintro ⟨s,hs,y,hy,h1,h2⟩
  rw [step9 g s rfl] at hy
  obtain ⟨rfl,hb⟩:=onlyR_iff.1 hy
  exact ⟨⟨y,hs,h1,h2⟩,by rw [h2];exact hb⟩
 ·rintro ⟨⟨s,hs,h1,h2⟩,hb⟩
  refine ⟨s,hs,s,?_,h1,h2⟩
  rw [step9 g s rfl,onlyR_iff]
  rw [h2] at hb
  exact ⟨rfl,hb⟩
def clrO (r:Int) (o:Oc):Oc:={ o with p:={ o.p with rights:=clrR o.p.rights r } }
def wantO (r:Int) (l:List Oc):List Oc:=l.foldl (fun acc o=>put cmpO (clrO r o) acc) []
theorem mem_wantO {r:Int} {o:Oc} (l:List Oc):∀ acc:List Oc,o∈l.foldl (fun acc o=>put cmpO (clrO r o) acc) acc↔o∈acc∨∃ y,y∈l∧o=clrO r y:=by
 induction l with
 | nil=>intro acc;simp
 | cons y t ih =>
  intro acc
  rw [List.foldl_cons,ih,mem_put cmpO_tot]
  constructor
  ·rintro ((h | h) | ⟨z,hz,h⟩)
   ·exact .inr ⟨y,by simp,h⟩
   ·exact .inl h
   ·exact .inr ⟨z,by simp [hz],h⟩
  ·rintro (h | ⟨z,hz,h⟩)
   ·exact .inl (.inr h)
   ·rcases List.mem_cons.1 hz with rfl | hz
    ·exact .inl (.inl h)
    ·exact .inr ⟨z,hz,h⟩
theorem wantO_asc (r:Int) (l:List Oc):∀ acc:List Oc,Asc cmpO acc→Asc cmpO (l.foldl (fun acc o=>put cmpO (clrO r o) acc) acc):=by
 induction l with
 | nil=>intro acc h;exact h
 | cons y t ih=>intro acc h;rw [List.foldl_cons];exact ih _ (put_asc cmpO_tot h)
theorem longer_lose {r:Int} (h:Longer g p cell i ⟨10,r⟩):(g.longer p cell i ⟨10,r⟩).runsR p cell i=wantO r (g.runsR p cell i):=by
 refine Asc.uniq cmpO_tot (runs_asc ..) (wantO_asc r _ [] List.Pairwise.nil) fun o=>?_
 unfold wantO
 rw [longer_mem h,mem_wantO]
 constructor
 ·rintro ⟨s,hs,y,hy,h1,h2⟩
  rw [step10 g s rfl,List.mem_singleton] at hy
  subst hy
  exact .inr ⟨fin p.side s,mem_runs.2 ⟨s,hs,h1,rfl⟩,by rw [h2];rfl⟩
 ·rintro (h0 | ⟨y,hy,h2⟩)
  ·simp at h0
  ·obtain ⟨s,hs,h1,rfl⟩:=mem_runs.1 hy
   refine ⟨s,hs,{ s with p:={ s.p with rights:=clrR s.p.rights r } },?_,h1,by rw [h2];rfl⟩
   rw [step10 g s rfl,List.mem_singleton]
end
theorem mem_readsL_iff {g:Gm} {p:Ps} {cell i c:Int}:c∈g.readsL p cell i↔∃ k:Int,0≤k∧k < (g.prog p cell i).length+1∧∃ s,s∈g.now p cell i k∧c∈g.readX p.side (g.stepAt p cell i k) s:=by
 unfold Gm.readsL Gm.readN Gm.readK Gm.readS
 rw [List.mem_flatMap]
 constructor
 ·rintro ⟨k,hk,hc⟩
  obtain ⟨s,hs,hc⟩:=List.mem_flatMap.1 hc
  have:=mem_ints.1 hk
  exact ⟨k,this.1,this.2,s,hs,hc⟩
 ·rintro ⟨k,k0,k1,s,hs,hc⟩
  exact ⟨k,mem_ints.2 ⟨k0,k1⟩,List.mem_flatMap.2 ⟨s,hs,hc⟩⟩
theorem readX_cur {g:Gm} {side:Int} {x:Stp} {s:Rs} (hx:x.op≠7):g.readX side x s=[s.cur]:=by
 unfold Gm.readX
 rw [if_neg (fun q=>hx q.1)]
theorem longer_reads {g:Gm} {p:Ps} {cell i:Int} (h:Longer g p cell i ⟨3,0⟩):(g.longer p cell i ⟨3,0⟩).readsR p cell i=g.readsR p cell i:=by
 have hpr:=longer_prog h
 have hl:((g.longer p cell i ⟨3,0⟩).prog p cell i).length=(g.prog p cell i).length+1:=by rw [hpr];simp
 have hat:∀ k:Int,0≤k→k < (g.prog p cell i).length→(g.longer p cell i ⟨3,0⟩).stepAt p cell i k=g.stepAt p cell i k:=fun k k0 k1=>by
  unfold Gm.stepAt
  rw [if_pos (by rw [hl];omega),if_pos k1,hpr]
  unfold nth
  rw [List.getD_eq_getElem?_getD,List.getElem?_append_left (by omega),List.getD_eq_getElem?_getD]
 have hatn:(g.longer p cell i ⟨3,0⟩).stepAt p cell i (g.prog p cell i).length=⟨3,0⟩:=by
  unfold Gm.stepAt
  rw [if_pos (by rw [hl];omega),hpr]
  unfold nth
  rw [Int.toNat_natCast,List.getD_eq_getElem?_getD,List.getElem?_append_right (Nat.le_refl _)]
  simp
 have hate:(g.longer p cell i ⟨3,0⟩).stepAt p cell i ((g.prog p cell i).length+1)=⟨0,0⟩:=by
  unfold Gm.stepAt
  rw [if_neg (by rw [hl];omega)]
 have hat0:g.stepAt p cell i (g.prog p cell i).length=⟨0,0⟩:=by unfold Gm.stepAt;rw [if_neg (by omega)]
 have hnow:∀ k:Int,0≤k→k≤(g.prog p cell i).length→(g.longer p cell i ⟨3,0⟩).now p cell i k=g.now p cell i k:=fun k k0 k1=>by
  obtain ⟨n,rfl⟩:=Int.eq_ofNat_of_zero_le k0
  exact longer_now h n (by omega)
 have hrx:∀ (x:Stp) (s:Rs),(g.longer p cell i ⟨3,0⟩).readX p.side x s=g.readX p.side x s:=fun _ _=>rfl
 have hend:=longer_end h
 rw [hl] at hend
 have key:∀ c,c∈(g.longer p cell i ⟨3,0⟩).readsL p cell i↔c∈g.readsL p cell i:=fun c=>by
  rw [mem_readsL_iff,mem_readsL_iff,hl]
  constructor
  ·rintro ⟨k,k0,k1,s,hs,hc⟩
   rw [hrx] at hc
   by_cases h1:k < (g.prog p cell i).length
   ·rw [hnow k k0 (by omega)] at hs
    rw [hat k k0 h1] at hc
    exact ⟨k,k0,by omega,s,hs,hc⟩
   ·by_cases h2:k=(g.prog p cell i).length
    ·subst h2
     rw [hnow _ k0 (Int.le_refl _)] at hs
     rw [hatn,readX_cur (by decide)] at hc
     exact ⟨_,k0,by omega,s,hs,by rw [hat0,readX_cur (by decide)];exact hc⟩
    ·obtain rfl:k=(g.prog p cell i).length+1:=by omega
     rw [show ((g.prog p cell i).length:Int)+1=(((g.prog p cell i).length+1:Nat):Int) by omega,hend] at hs
     rw [hate,readX_cur (by decide)] at hc
     obtain ⟨t,ht,hst⟩:=mem_all1.1 hs
     rw [step3 g t rfl] at hst
     obtain ⟨rfl,_⟩:=onlyR_iff.1 hst
     exact ⟨(g.prog p cell i).length,by omega,by omega,s,ht,by rw [hat0,readX_cur (by decide)];exact hc⟩
  ·rintro ⟨k,k0,k1,s,hs,hc⟩
   by_cases h1:k < (g.prog p cell i).length
   ·exact ⟨k,k0,by omega,s,by rw [hnow k k0 (by omega)];exact hs,by rw [hrx,hat k k0 h1];exact hc⟩
   ·obtain rfl:k=(g.prog p cell i).length:=by omega
    rw [hat0,readX_cur (by decide)] at hc
    exact ⟨_,k0,by omega,s,by rw [hnow _ k0 (Int.le_refl _)];exact hs,by rw [hrx,hatn,readX_cur (by decide)];exact hc⟩
 unfold Gm.readsR seenI
 show (ints g.b.cells).filter _=_
 refine List.filter_congr fun c _=>?_
 rw [Bool.eq_iff_iff,decide_eq_true_eq,decide_eq_true_eq,key]
end Go.Proofs.YthgobfncgnjimaaGreatDoor
