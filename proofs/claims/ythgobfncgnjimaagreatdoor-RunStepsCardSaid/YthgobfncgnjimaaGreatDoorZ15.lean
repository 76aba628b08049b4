/- Contracts of functions of the program, proved by the checker; and plain laws. -/
import Derived.Test.YthgobfncgnjimaaGreatDoorZ09
import Derived.Test.YthgobfncgnjimaaGreatDoorZ11
import Derived.Test.YthgobfncgnjimaaGreatDoorZ12
import Derived.Test.YthgobfncgnjimaaGreatDoorZ04
import Derived.Test.YthgobfncgnjimaaGreatDoorZ13
import Derived.Test.YthgobfncgnjimaaGreatDoorZ14
import Derived.Test.YthgobfncgnjimaaGreatDoorZ00
set_option linter.unusedVariables false
set_option linter.unusedSimpArgs false
namespace Go.Proofs.YthgobfncgnjimaaGreatDoor
open Go Go.Sk
def Ps.cs (p:Ps):List AV:=[Is p.ct,Is p.h0,Is p.h1,I p.rights,I p.side]
def outs1 (side:Int) (acc:List Oc) (s:Rs):List Oc:=if nth s.p.ct s.cur≠0 then acc else acc++[fin side s]
set_option maxHeartbeats 4000000 in
set_option maxRecDepth 10000 in
theorem look1_op (g:Gm) (hg:g.ok) (p:Ps) (s:Rs) (hs:s.ok g) (x:Stp) (hx:1≤x.op∧x.op≤10) (acc:List Oc):Fun Tryz.prog 43 [.box p.cs,.box [.ref 2],.arr 6 (acc.map Ou)] [Sa s,St1 x,.ptr 0 0,.ptr 1 0] (.tup []) [.box p.cs,.box [.ref 2],.arr 6 (acc.map Ou)]:=by
 refine fun_of tok D_ok Tryz.func43 rfl Tryz.ntmps43 Tryz.results43 (by kernel_rfl) (by simp) (by simp) ?_
 conv=>whnf
 repeat' (first | (refine lvK ?_;apply Cj.mk <;> first | exact trivial | intros) | (refine lvE ?_;apply Cj.mk <;> first | exact trivial | intros) | fail)
set_option maxHeartbeats 4000000 in
set_option maxRecDepth 10000 in
theorem look1_end (g:Gm) (hg:g.ok) (p:Ps) (hp:p.side=0∨p.side=1) (s:Rs) (hs:s.ok g) (acc:List Oc) (hacc:acc.length≤1000000000):Fun Tryz.prog 43 [.box p.cs,.box [.ref 2],.arr 6 (acc.map Ou)] [Sa s,St1 ⟨0,0⟩,.ptr 0 0,.ptr 1 0] (.tup []) [.box p.cs,.box [.ref 3],.dead,.arr 6 ((outs1 p.side acc s).map Ou)]:=by
 have cp:=own_p s (hs.pos.small hg)
 have hc:=GCode_p s.kind p.side
 have ec:(s.p.ct.map I).length=s.p.ct.length:=List.length_map _
 have hlen:=hs.len
 have hu0:=hs.u0
 have hu1:=hs.u1
 unfold outs1
 by_cases h:nth s.p.ct s.cur=0
 ·rw [if_neg (by simpa using h)]
  refine fun_of_mv [2] tok D_ok Tryz.func43 rfl Tryz.ntmps43 Tryz.results43 (by kernel_rfl) (by simp) (by simp) ?_
  conv=>whnf
  try dsimp only [St.mv,mvT,mvA,mvL,mvO,mvOs,Nat.beq_refl]
  repeat' (first | ((first | refine lvK ?_ | refine ⟨_,_,hc,lvN ?_⟩ | (refine .inl ?_;(conv=>whnf);first | refine ⟨_,_,hc,lvN ?_⟩) | (refine .inr (.inl ?_);(conv=>whnf);refine ⟨[],[],[Sa s],_,_,⟨rfl,rfl,rfl⟩,cp,lvN ?_⟩) | refine ap1 (f:=Ou) (a:=(fin p.side s)) (by decide) (by omega) rfl rfl (lvN ?_));apply Cj.mk <;> first | exact trivial | intros) | fail)
  refine exitS [.obj 0,.obj 1,.obj 2,.obj 21] (by kernel_rfl) (by kernel_rfl) (by kernel_rfl) (lvL ?_) (lvL ?_) <;> (try (apply Cj.mk <;> first | exact trivial | intros))
 ·rw [if_pos h]
  refine fun_of_mv [2] tok D_ok Tryz.func43 rfl Tryz.ntmps43 Tryz.results43 (by kernel_rfl) (by simp) (by simp) ?_
  conv=>whnf
  try dsimp only [St.mv,mvT,mvA,mvL,mvO,mvOs,Nat.beq_refl]
  repeat' (first | (refine lvK ?_;apply Cj.mk <;> first | exact trivial | intros) | fail)
  refine exitS [.obj 0,.obj 1,.obj 2,.obj 3] (by kernel_rfl) (by kernel_rfl) (by kernel_rfl) (lvL ?_) (lvL ?_) <;> (try (apply Cj.mk <;> first | exact trivial | intros))
def Gm.outsC (g:Gm) (p:Ps) (c n:Int):List Oc:=(ints n).flatMap fun i=>g.runsR p c i
def Gm.outsOf (g:Gm) (p:Ps) (c:Int):List Oc:=if ofK (nth p.ct c) < 0∨ofS (nth p.ct c)≠p.side then [] else g.outsC p c (nth g.kinds (ofK (nth p.ct c))).progs.length
def Gm.outsN (g:Gm) (p:Ps) (n:Int):List Oc:=(ints n).flatMap fun c=>g.outsOf p c
def Gm.outsR (g:Gm) (p:Ps):List Oc:=g.outsN p g.b.cells
theorem flat_succ {α:Type} (f:Int→List α) {n:Int} (h:0≤n):(ints (n+1)).flatMap f=(ints n).flatMap f++f n:=by rw [ints_succ h,List.flatMap_append];simp
theorem outsC_len {g:Gm} (hg:g.ok) {p:Ps} {c:Int} (hc:∀ i:Int,0≤i→i < (nth g.kinds (ofK (nth p.ct c))).progs.length→CanRun g p c i):∀ n:Nat,n≤(nth g.kinds (ofK (nth p.ct c))).progs.length→(g.outsC p c n).length≤n * 43046721
 | 0,_=>by simp [Gm.outsC,ints]
 | n+1,hn=>by
  have h1:=outsC_len hg hc n (by omega)
  have h2:=runsR_len hg (hc n (by omega) (by omega))
  unfold Gm.outsC at h1 ⊢
  rw [show ((n+1:Nat):Int)=(n:Int)+1 by omega,flat_succ _ (by omega),List.length_append]
  omega
theorem canRun_of {g:Gm} (hg:g.ok) {p:Ps} (h:p.ok g) {c:Int} (c0:0≤c) (c1:c < g.b.cells) (hm:¬ (ofK (nth p.ct c) < 0∨ofS (nth p.ct c)≠p.side)) (i:Int) (i0:0≤i) (i1:i < (nth g.kinds (ofK (nth p.ct c))).progs.length):CanRun g p c i :=
 ⟨h,c0,c1,by omega,by omega,i0,i1⟩
theorem kind_rg {g:Gm} (hg:g.ok) {p:Ps} (h:p.ok g) {c:Int} (c0:0≤c) (c1:c < g.b.cells) (hm:¬ (ofK (nth p.ct c) < 0∨ofS (nth p.ct c)≠p.side)):0≤ofK (nth p.ct c)∧ofK (nth p.ct c) < g.nk:=by
 have h1:=h.c c c0 c1
 have:=ofK_rg hg h1.1 h1.2
 omega
theorem outsOf_len {g:Gm} (hg:g.ok) {p:Ps} (h:p.ok g) {c:Int} (c0:0≤c) (c1:c < g.b.cells):(g.outsOf p c).length≤344373768:=by
 unfold Gm.outsOf
 split
 ·simp
 ·rename_i hm
  have hk:=kind_rg hg h c0 c1 hm
  have h8:=hg.pl _ hk.1 hk.2
  have:=outsC_len hg (canRun_of hg h c0 c1 hm) _ (Nat.le_refl _)
  omega
theorem outsN_len {g:Gm} (hg:g.ok) {p:Ps} (h:p.ok g):∀ n:Nat,(n:Int)≤g.b.cells→(g.outsN p n).length≤n * 344373768
 | 0,_=>by simp [Gm.outsN,ints]
 | n+1,hn=>by
  have h1:=outsN_len hg h n (by omega)
  have h2:=outsOf_len hg h (c:=n) (by omega) (by omega)
  unfold Gm.outsN at h1 ⊢
  rw [show ((n+1:Nat):Int)=(n:Int)+1 by omega,flat_succ _ (by omega),List.length_append]
  omega
theorem outsR_ok {g:Gm} (hg:g.ok) {p:Ps} (h:p.ok g) {o:Oc} (ho:o∈g.outsR p):o.p.ok g:=by
 unfold Gm.outsR Gm.outsN at ho
 obtain ⟨c,hc,ho⟩:=List.mem_flatMap.1 ho
 have hc:=mem_ints.1 hc
 unfold Gm.outsOf at ho
 split at ho
 ·simp at ho
 ·rename_i hm
  unfold Gm.outsC at ho
  obtain ⟨i,hi,ho⟩:=List.mem_flatMap.1 ho
  have hi:=mem_ints.1 hi
  exact runsR_ok hg (canRun_of hg h hc.1 hc.2 hm i hi.1 hi.2) ho
set_option maxHeartbeats 4000000 in
set_option maxRecDepth 10000 in
theorem Outcomes_p (g:Gm) (hg:g.ok) (p:Ps) (h:p.ok g):Pure Tryz.prog 92 [g.av,p.av] (Ous (g.outsR p)) none:=by
 have hnk:g.nk=g.kinds.length:=rfl
 have en:(g.kinds.map Kn).length=g.kinds.length:=List.length_map _
 have el:(p.ct.map I).length=p.ct.length:=List.length_map _
 have hlen:=h.len
 have c9:=hg.c9
 have k6:=hg.k6
 have hno:∀ c:Int,0≤c→c≤g.b.cells→(g.outsN p c).length≤3099363912:=fun c c0 c1=>by
  obtain ⟨n,rfl⟩:=Int.eq_ofNat_of_zero_le c0
  have:=outsN_len hg h n c1
  omega
 unfold Gm.outsR
 refine fun_of tok D_ok Tryz.func92 rfl Tryz.ntmps92 Tryz.results92 (by kernel_rfl) (by simp) (by simp) ?_
 conv=>whnf
 repeat' (first | (refine lvK ?_;apply Cj.mk <;> first | exact trivial | intros) | (refine lvE ?_;apply Cj.mk <;> first | exact trivial | intros) | fail)
 refine .of (fun c=>[(6,I c),(5,.ref 2)]) (fun c=>[(2,.arr 6 ((g.outsN p c).map Ou))]) 3 (fun c=>0≤c∧c≤g.b.cells) (fun c=>(g.b.cells - c).toNat) 0 ?_
 conv=>whnf
 refine ⟨⟨[],hdA (lvL ?_) (lvL ?_)⟩,?_,fun c ⟨c0,c1⟩=>lvN ?_⟩ <;> (try (apply Cj.mk <;> first | exact trivial | intros))
 ·exact ⟨by omega,by omega⟩
 have hol:=hno c c0 c1
 by_cases hc:c < g.b.cells
 ·have hsu:g.outsN p (c+1)=g.outsN p c++g.outsOf p c:=flat_succ _ c0
  have hcc:=h.c c c0 hc
  have ho:=Of_p (nth p.ct c) (by omega)
  by_cases hm:ofK (nth p.ct c) < 0∨ofS (nth p.ct c)≠p.side
  ·have he:g.outsOf p c=[]:=if_pos hm
   rw [he,List.append_nil] at hsu
   repeat' (first | ((first | refine lvA ?_ | refine ⟨_,_,ho,lvN ?_⟩ | (refine .inl ?_;(conv=>whnf);first | refine ⟨_,_,ho,lvN ?_⟩));apply Cj.mk <;> first | exact trivial | intros) | (refine lvE ?_;apply Cj.mk <;> first | exact trivial | intros) | fail)
   all_goals (try (exfalso;omega))
   all_goals
    refine ⟨c+1,⟨[],hdA (lvL ?_) (lvL ?_)⟩,?_,by (try dsimp only);omega,rfl⟩ <;> (try (apply Cj.mk <;> first | exact trivial | intros))
    ·rw [hsu]
    ·exact ⟨by omega,by omega⟩
  ·have hk:=kind_rg hg h c0 hc hm
   have hcr:=canRun_of hg h c0 hc hm
   have h8:=hg.pl _ hk.1 hk.2
   have he:g.outsOf p c=g.outsC p c (nth g.kinds (ofK (nth p.ct c))).progs.length:=if_neg hm
   have hcl:=outsC_len hg hcr
   rw [he] at hsu
   have e1:((nth g.kinds (ofK (nth p.ct c))).progs.map Pg).length=(nth g.kinds (ofK (nth p.ct c))).progs.length:=List.length_map _
   repeat' (first | ((first | refine lvK ?_ | refine ⟨_,_,ho,lvN ?_⟩ | (refine .inl ?_;(conv=>whnf);first | refine ⟨_,_,ho,lvN ?_⟩));apply Cj.mk <;> first | exact trivial | intros) | (refine lvE ?_;apply Cj.mk <;> first | exact trivial | intros) | fail)
   refine .of (fun i=>[(8,I i),(5,.ref 2)]) (fun i=>[(2,.arr 6 ((g.outsN p c++g.outsC p c i).map Ou))]) 4 (fun i=>0≤i∧i≤(nth g.kinds (ofK (nth p.ct c))).progs.length) (fun i=>((nth g.kinds (ofK (nth p.ct c))).progs.length - i).toNat) 0 ?_
   conv=>whnf
   refine ⟨⟨[],hdA (lvL ?_) (lvL ?_)⟩,?_,fun i ⟨i0,i1⟩=>lvN ?_⟩ <;> (try (apply Cj.mk <;> first | exact trivial | intros))
   ·rw [show g.outsC p c 0=[] from rfl,List.append_nil]
   ·exact ⟨by omega,by omega⟩
   have hci:(g.outsC p c i).length≤344373768:=by
    obtain ⟨n,rfl⟩:=Int.eq_ofNat_of_zero_le i0
    have:=hcl n (by omega)
    omega
   have hal:(g.outsN p c++g.outsC p c i).length=(g.outsN p c).length+(g.outsC p c i).length:=List.length_append
   by_cases hi:i < (nth g.kinds (ofK (nth p.ct c))).progs.length
   ·have hsc:g.outsC p c (i+1)=g.outsC p c i++g.runsR p c i:=flat_succ _ i0
    have hr:=Runs_p g hg p c i (hcr i i0 hi)
    have hrl:=runsR_len hg (hcr i i0 hi)
    repeat' (first | ((first | refine lvK ?_ | refine ⟨_,_,hr,lvN ?_⟩ | (refine .inl ?_;(conv=>whnf);first | refine ⟨_,_,hr,lvN ?_⟩));apply Cj.mk <;> first | exact trivial | intros) | (refine lvE ?_;apply Cj.mk <;> first | exact trivial | intros) | fail)
    refine ⟨i+1,⟨[],hdA (lvL ?_) (lvL ?_)⟩,?_,by (try dsimp only);omega,rfl⟩ <;> (try (apply Cj.mk <;> first | exact trivial | intros))
    ·rw [hsc,List.append_assoc]
    ·exact ⟨by omega,by omega⟩
   ·obtain rfl:i=(nth g.kinds (ofK (nth p.ct c))).progs.length:=by omega
    rw [← hsu]
    repeat' (first | (refine lvK ?_;apply Cj.mk <;> first | exact trivial | intros) | (refine lvE ?_;apply Cj.mk <;> first | exact trivial | intros) | fail)
    refine ⟨c+1,⟨[],hdA (lvL ?_) (lvL ?_)⟩,?_,by (try dsimp only);omega,rfl⟩ <;> (try (apply Cj.mk <;> first | exact trivial | intros))
    ·exact ⟨by omega,by omega⟩
 ·obtain rfl:c=g.b.cells:=by omega
  repeat' (first | (refine lvK ?_;apply Cj.mk <;> first | exact trivial | intros) | (refine lvE ?_;apply Cj.mk <;> first | exact trivial | intros) | fail)
def kvs (l:List Rs):List Value:=l.map fun s=>.string (keyB s)
def kxs (l:List Rs):List AV:=l.map fun _=>Bo true
def outsL (side:Int) (acc:List Oc) (l:List Rs):List Oc:=l.foldl (outs1 side) acc
theorem kvs_mem {g:Gm} (hg:g.ok) {l:List Rs} (hl:∀ s,s∈l→s.ok g) {s:Rs} (hs:s.ok g):Value.string (keyB s)∈kvs l↔s∈l:=by
 unfold kvs
 constructor
 ·intro h
  obtain ⟨t,ht,e⟩:=List.mem_map.1 h
  injection e with e
  rw [← key_inj hg (hl t ht) hs e];exact ht
 ·intro h
  exact List.mem_map.2 ⟨s,h,rfl⟩
theorem outs1_len (side:Int) (acc:List Oc) (s:Rs):(outs1 side acc s).length≤acc.length+1:=by unfold outs1;split <;> simp
theorem outsL_len (side:Int) (l:List Rs):∀ acc,(outsL side acc l).length≤acc.length+l.length:=by
 induction l with
 | nil=>intro acc;simp [outsL]
 | cons s r ih =>
  intro acc
  have h1:=ih (outs1 side acc s)
  have h2:=outs1_len side acc s
  unfold outsL at h1 ⊢
  rw [List.foldl_cons,List.length_cons];omega
theorem outsL_succ (side:Int) (acc:List Oc) {l:List Rs} {j:Int} (j0:0≤j) (h:j < l.length):outsL side acc (l.take (j+1).toNat)=outs1 side (outsL side acc (l.take j.toNat)) (nth l j):=by
 unfold outsL
 rw [take_snoc j0 h,List.foldl_append];rfl
def fnL1:AV:=.fn (.func 43) [] [.ptr 0 0,.ptr 1 0]
set_option maxHeartbeats 8000000 in
set_option maxRecDepth 10000 in
theorem run1_p (g:Gm) (hg:g.ok) (p:Ps) (cell i:Int) (h:CanRun g p cell i) (acc:List Oc) (hacc:acc.length≤1000) :
  Fun Tryz.prog 42 [.box p.cs,.box [.ref 2],.arr 6 (acc.map Ou)] [g.av,p.av,I cell,I i,fnL1] (I 0)
   [.box p.cs,.box [.ref 3],.dead,.arr 6 ((outsL p.side acc (g.now p cell i (g.prog p cell i).length)).map Ou)]:=by
 have hlen:=h.ok.len
 have k6:=hg.k6
 have c9:=hg.c9
 have hv:=PValid_p g hg p (by omega)
 rw [decide_eq_true h.ok] at hv
 have hnk:g.nk=g.kinds.length:=rfl
 have en:(g.kinds.map Kn).length=g.kinds.length:=List.length_map _
 have el:(p.ct.map I).length=p.ct.length:=List.length_map _
 have c0:=h.c0
 have c1:=h.c1
 have k0:=h.k0
 have k1:=h.k1 hg
 have sd:=h.sd
 have i0:=h.i0
 have i1:=h.i1
 have hr:=h.ok.c cell c0 c1
 have hm:=Man_p (nth p.ct cell) (by omega)
 have cp:=own_p ⟨p,ofK (nth p.ct cell),cell,false⟩ (h.ok.small hg)
 have e1:((nth g.kinds (ofK (nth p.ct cell))).progs.map Pg).length=(nth g.kinds (ofK (nth p.ct cell))).progs.length:=List.length_map _
 have hprog:g.prog p cell i=nth (nth g.kinds (ofK (nth p.ct cell))).progs i:=rfl
 have hpg:=h.pg hg
 have el8:=hpg.l8
 have hrun0:run0 p cell=⟨{ p with ct:=p.ct.set cell.toNat 0 },ofK (nth p.ct cell),cell,false⟩:=rfl
 have e2:((g.prog p cell i).map St1).length=(g.prog p cell i).length:=List.length_map _
 generalize hkk:ofK (nth p.ct cell)=kk at *
 generalize hks:ofS (nth p.ct cell)=ks at *
 subst sd
 refine fun_cut 8 [2] tok D_ok Tryz.func42 rfl Tryz.ntmps42 Tryz.results42 (by kernel_rfl) (by simp) (by simp) fun R hR=>?_
 conv=>whnf
 try dsimp only [St.mv,mvT,mvA,mvL,mvO,mvOs,Nat.beq_refl]
 repeat' (first | ((first | refine lvK ?_ | refine ⟨_,_,hv,lvN ?_⟩ | refine ⟨_,_,hm,lvN ?_⟩ | (refine .inl ?_;(conv=>whnf);first | refine ⟨_,_,hv,lvN ?_⟩ | refine ⟨_,_,hm,lvN ?_⟩));apply Cj.mk <;> first | exact trivial | intros) | fail)
 refine .inr (.inr (.inl ⟨{ tmps:=[(70,Sa ⟨p,kk,cell,false⟩),(2,I cell),(3,I i),(4,fnL1),(5,.ptr 4 0),(6,.ptr 5 0),(11,I kk)],objs:=[(0,.box p.cs),(1,.box [.ref 3]),(3,.arr 6 (acc.map Ou)),(4,.box (cellsA g.av)),(5,.box p.cs)],next:=6,size:=140,par:=[0,1,2] },exitS [.obj 0,.obj 1,.obj 2,.obj 3,.obj 4,.obj 5] (by kernel_rfl) (by kernel_rfl) (by kernel_rfl) (lvL ?_) (lvL ?_),.inl ?_⟩))
 ·apply Cj.mk <;> first | exact trivial | intros
 ·apply Cj.mk <;> first | exact trivial | intros
 conv=>whnf
 refine ⟨[],[],[Sa ⟨p,kk,cell,false⟩],_,_,⟨rfl,rfl,rfl⟩,cp,?_⟩
 conv=>whnf
 repeat' (first | (refine lvK ?_;apply Cj.mk <;> first | exact trivial | intros) | fail)
 refine hR _ ?_
 conv=>whnf
 repeat' (first | (refine lvK ?_;apply Cj.mk <;> first | exact trivial | intros) | fail)
 rw [← hprog]
 refine .of (fun k=>[(89,I k),(14,.ref 10)]) (fun k=>[(10,.arr 8 ((g.now p cell i k).map Sa))]) 11 (fun k=>0≤k∧k≤(g.prog p cell i).length) (fun k=>((g.prog p cell i).length - k).toNat) 0 ?_
 conv=>whnf
 refine ⟨⟨[],hdA (lvL ?_) (lvL ?_)⟩,?_,fun k ⟨q0,q1⟩=>lvN ?_⟩ <;> (try (apply Cj.mk <;> first | exact trivial | intros))
 ·show _=[Sa (run0 p cell)]
  rw [hrun0]
  rfl
 ·exact ⟨by omega,by omega⟩
 have hnl:=now_len hg h q0 q1
 by_cases hk:k < (g.prog p cell i).length
 ·have hsu:=g.now_succ p cell i q0 hk
  have hst:=hpg.st _ (nth_mem q0 hk)
  have hok:∀ s,s∈g.now p cell i k→s.ok g:=by
   obtain ⟨n,rfl⟩:=Int.eq_ofNat_of_zero_le q0
   exact (now_ok hg h n (by omega)).1
  unfold Gm.all1 at hsu
  have en2:((g.now p cell i k).map Sa).length=(g.now p cell i k).length:=List.length_map _
  repeat' (first | (refine lvK ?_;apply Cj.mk <;> first | exact trivial | intros) | fail)
  refine .of (fun n=>[(96,I n),(17,.ref 13)]) (fun n=>[(12,.mp .string (kvs (((g.now p cell i k).take n.toNat).foldl (g.next1 (nth (g.prog p cell i) k)) [])) (kxs (((g.now p cell i k).take n.toNat).foldl (g.next1 (nth (g.prog p cell i) k)) []))),(13,.arr 8 ((((g.now p cell i k).take n.toNat).foldl (g.next1 (nth (g.prog p cell i) k)) []).map Sa))]) 14 (fun n=>0≤n∧n≤(g.now p cell i k).length) (fun n=>((g.now p cell i k).length - n).toNat) 0 ?_
  conv=>whnf
  refine ⟨⟨[],hdA (lvL ?_) (lvL ?_)⟩,?_,fun n ⟨n0,n1⟩=>lvN ?_⟩ <;> (try (apply Cj.mk <;> first | exact trivial | intros))
  ·exact ⟨by omega,by omega⟩
  by_cases hn:n < (g.now p cell i k).length
  ·have hsn:=take_snoc n0 hn
   have hso:=hok _ (nth_mem n0 hn)
   have hop:1≤(nth (g.prog p cell i) k).op∧(nth (g.prog p cell i) k).op≤10:=by have:=hst;unfold StpOk at this;omega
   have look:=look1_op g hg p (nth (g.now p cell i k) n) hso (nth (g.prog p cell i) k) hop acc
   have hstep:=sstep_p g hg _ hso _ hst
   have hAok:∀ s,s∈((g.now p cell i k).take n.toNat).foldl (g.next1 (nth (g.prog p cell i) k)) []→s.ok g:=next_ok hg hst _ [] (by simp) fun s hs=>hok s (List.mem_of_mem_take hs)
   have hMok:∀ s,s∈g.stepR (nth (g.now p cell i k) n) (nth (g.prog p cell i) k)→s.ok g:=fun s hs=>stepR_ok hg hso hst hs
   have hAl:=next_len hg (nth (g.prog p cell i) k) ((g.now p cell i k).take n.toNat) []
   have hMl:=stepR_len hg (nth (g.now p cell i k) n) (nth (g.prog p cell i) k)
   rw [List.length_take,List.length_nil] at hAl
   repeat' (first | ((first | refine lvK ?_ | refine ⟨_,_,hstep,lvN ?_⟩ | (refine .inl ?_;(conv=>whnf);first | refine ⟨_,_,hstep,lvN ?_⟩) | (refine .inl ?_;(conv=>whnf);refine ⟨[0,1,3],_,[Sa (nth (g.now p cell i k) n),St1 (nth (g.prog p cell i) k),.ptr 0 0,.ptr 1 0],_,_,⟨rfl,rfl,rfl⟩,look,lvN ?_⟩));apply Cj.mk <;> first | exact trivial | intros) | fail)
   generalize hA:((g.now p cell i k).take n.toNat).foldl (g.next1 (nth (g.prog p cell i) k)) []=A at *
   generalize hM:g.stepR (nth (g.now p cell i k) n) (nth (g.prog p cell i) k)=M at *
   have em:(M.map Sa).length=M.length:=List.length_map _
   refine .of (fun m=>[(109,I m),(17,.ref 13)]) (fun m=>[(12,.mp .string (kvs (addR A (M.take m.toNat))) (kxs (addR A (M.take m.toNat)))),(13,.arr 8 ((addR A (M.take m.toNat)).map Sa))]) 15 (fun m=>0≤m∧m≤M.length) (fun m=>(M.length - m).toNat) 0 ?_
   conv=>whnf
   refine ⟨⟨[],hdA (lvL ?_) (lvL ?_)⟩,?_,fun m ⟨m0,m1⟩=>lvN ?_⟩ <;> (try (apply Cj.mk <;> first | exact trivial | intros))
   ·exact ⟨by omega,by omega⟩
   by_cases hm':m < M.length
   ·have hsu:=addR_succ A m0 hm'
    have hms:=hMok _ (nth_mem m0 hm')
    have hkey:=key_p (nth M m) (nums_mem hg hms.pos) hms.k0 (by have:=hms.k1;omega) hms.u0 (by have:=hms.u1;omega)
    have hBok:∀ s,s∈addR A (M.take m.toNat)→s.ok g:=fun s hs=>((mem_addR _).1 hs).elim (hAok s) fun h=>hMok s (List.mem_of_mem_take h)
    have hBl:=addR_len (M.take m.toNat) A
    rw [List.length_take] at hBl
    have hkm:=kvs_mem hg hBok hms
    unfold add1 at hsu
    generalize hB:addR A (M.take m.toNat)=B at *
    by_cases hf:nth M m∈B
    ·rw [if_pos hf] at hsu
     obtain ⟨q,hq,hq1⟩:=List.getElem_of_mem (hkm.2 hf)
     have hq1:(kvs B)[q]?=some (.string (keyB (nth M m))):=by rw [List.getElem?_eq_getElem hq,hq1]
     have hq2:(kxs B)[q]?=some (Bo true):=by
      unfold kvs at hq;unfold kxs
      rw [List.length_map] at hq
      rw [List.getElem?_map,List.getElem?_eq_getElem hq];rfl
     repeat' (first | ((first | refine lvK ?_ | refine ⟨_,_,hkey,lvN ?_⟩ | (refine .inl ?_;(conv=>whnf);first | refine ⟨_,_,hkey,lvN ?_⟩) | refine ⟨rfl,trivial,LookR.get q _ hq1 hq2 rfl (lvN ?_)⟩);apply Cj.mk <;> first | exact trivial | intros) | fail)
     refine ⟨m+1,⟨[],hdA (lvL ?_) (lvL ?_)⟩,?_,by (try dsimp only);omega,rfl⟩ <;> (try (apply Cj.mk <;> first | exact trivial | intros))
     ·rw [hsu]
     ·rw [hsu]
     ·rw [hsu]
     ·exact ⟨by omega,by omega⟩
    ·rw [if_neg hf] at hsu
     have hno:=fun z=>hf (hkm.1 z)
     have hks:kvs (addR A (M.take (m+1).toNat))=kvs B++[.string (keyB (nth M m))]:=by rw [hsu];unfold kvs;rw [List.map_append];rfl
     have hxs:kxs (addR A (M.take (m+1).toNat))=kxs B++[Bo true]:=by rw [hsu];unfold kxs;rw [List.map_append];rfl
     repeat' (first | ((first | refine lvK ?_ | refine ⟨_,_,hkey,lvN ?_⟩ | (refine .inl ?_;(conv=>whnf);first | refine ⟨_,_,hkey,lvN ?_⟩) | refine ⟨rfl,trivial,LookR.no hno (lvN ?_)⟩ | (refine ⟨rfl,trivial,?_⟩;(conv=>whnf);refine UpdR.new hno _ _ hks hxs (lvN ?_)) | refine ap1 (f:=Sa) (a:=(nth M m)) (by decide) (by omega) rfl rfl (lvN ?_));apply Cj.mk <;> first | exact trivial | intros) | fail)
     refine ⟨m+1,⟨[],hdA (lvL ?_) (lvL ?_)⟩,?_,by (try dsimp only);omega,rfl⟩ <;> (try (apply Cj.mk <;> first | exact trivial | intros))
     ·rw [hsu]
     ·exact ⟨by omega,by omega⟩
   ·obtain rfl:m=M.length:=by omega
    rw [take_all (Int.le_refl _)]
    have hfin:((g.now p cell i k).take (n+1).toNat).foldl (g.next1 (nth (g.prog p cell i) k)) []=addR A M:=by
     rw [hsn,List.foldl_append,hA]
     show g.next1 _ A _=_
     unfold Gm.next1
     rw [hM]
    repeat' (first | (refine lvK ?_;apply Cj.mk <;> first | exact trivial | intros) | fail)
    refine ⟨n+1,⟨[],hdA (lvL ?_) (lvL ?_)⟩,?_,by (try dsimp only);omega,rfl⟩ <;> (try (apply Cj.mk <;> first | exact trivial | intros))
    ·rw [hfin]
    ·rw [hfin]
    ·rw [hfin]
    ·exact ⟨by omega,by omega⟩
  ·obtain rfl:n=(g.now p cell i k).length:=by omega
   rw [take_all (Int.le_refl _),← hsu]
   repeat' (first | (refine lvK ?_;apply Cj.mk <;> first | exact trivial | intros) | fail)
   refine ⟨k+1,⟨[],hdA (lvL ?_) (lvL ?_)⟩,?_,by (try dsimp only);omega,rfl⟩ <;> (try (apply Cj.mk <;> first | exact trivial | intros))
   exact ⟨by omega,by omega⟩
 ·obtain rfl:k=(g.prog p cell i).length:=by omega
  have hol:=now_len hg h (k:=(g.prog p cell i).length) (by omega) (Int.le_refl _)
  have hno:=(now_ok hg h _ (Nat.le_refl _)).1
  generalize g.now p cell i (g.prog p cell i).length=l at *
  have el2:(l.map Sa).length=l.length:=List.length_map _
  repeat' (first | (refine lvK ?_;apply Cj.mk <;> first | exact trivial | intros) | fail)
  refine .of (fun j=>[(131,I j)]) (fun j=>[(1,.box [.ref 3]),(3,.arr 6 ((outsL p.side acc (l.take j.toNat)).map Ou))]) 11 (fun j=>0≤j∧j≤l.length) (fun j=>(l.length - j).toNat) 0 ?_
  conv=>whnf
  refine ⟨⟨[],hdA (lvL ?_) (lvL ?_)⟩,?_,fun j ⟨j0,j1⟩=>lvN ?_⟩ <;> (try (apply Cj.mk <;> first | exact trivial | intros))
  ·exact ⟨by omega,by omega⟩
  have hul:=outsL_len p.side (l.take j.toNat) acc
  rw [List.length_take] at hul
  by_cases hj:j < l.length
  ·have hts:=outsL_succ p.side acc j0 hj
   have look:=look1_end g hg p h.ok.s (nth l j) (hno _ (nth_mem j0 hj)) (outsL p.side acc (l.take j.toNat)) (by omega)
   repeat' (first | ((first | refine lvK ?_ | (refine .inl ?_;(conv=>whnf);refine ⟨[0,1,3],_,[Sa (nth l j),St1 ⟨0,0⟩,.ptr 0 0,.ptr 1 0],_,_,⟨rfl,rfl,rfl⟩,look,lvN ?_⟩));apply Cj.mk <;> first | exact trivial | intros) | fail)
   refine ⟨j+1,⟨[],hdA (lvL ?_) (lvL ?_)⟩,?_,by (try dsimp only);omega,rfl⟩ <;> (try (apply Cj.mk <;> first | exact trivial | intros))
   ·rw [hts]
   ·exact ⟨by omega,by omega⟩
  ·obtain rfl:j=l.length:=by omega
   rw [take_all (Int.le_refl _)]
   repeat' (first | (refine lvK ?_;apply Cj.mk <;> first | exact trivial | intros) | fail)
   refine exitS [.obj 0,.obj 1,.obj 2,.obj 3] (by kernel_rfl) (by kernel_rfl) (by kernel_rfl) (lvL ?_) (lvL ?_) <;> (try (apply Cj.mk <;> first | exact trivial | intros))
def psZ:Ps:=⟨[],[],[],0,0⟩
end Go.Proofs.YthgobfncgnjimaaGreatDoor
