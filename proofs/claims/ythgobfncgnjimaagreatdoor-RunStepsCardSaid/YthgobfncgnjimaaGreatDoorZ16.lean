/- Contracts of functions of the program, proved by the checker; and plain laws. -/
import Derived.Test.YthgobfncgnjimaaGreatDoorZ15
import Derived.Test.YthgobfncgnjimaaGreatDoorZ00
set_option linter.unusedVariables false
set_option linter.unusedSimpArgs false
namespace Go.Proofs.YthgobfncgnjimaaGreatDoor
open Go Go.Sk
def Gm.stepAt (g:Gm) (p:Ps) (cell i k:Int):Stp:=if k < (g.prog p cell i).length then nth (g.prog p cell i) k else ⟨0,0⟩
def Gm.readX (g:Gm) (side:Int) (x:Stp) (s:Rs):List Int:=s.cur :: (if x.op=7∧nth s.p.ct s.cur≠0∧0≤g.b.to side x.n s.cur then [g.b.to side x.n s.cur] else [])
def Gm.readS (g:Gm) (side:Int) (x:Stp) (l:List Rs):List Int:=l.flatMap (g.readX side x)
def Gm.readK (g:Gm) (p:Ps) (cell i k:Int):List Int:=g.readS p.side (g.stepAt p cell i k) (g.now p cell i k)
def Gm.readN (g:Gm) (p:Ps) (cell i n:Int):List Int:=(ints n).flatMap (g.readK p cell i)
def Gm.readsL (g:Gm) (p:Ps) (cell i:Int):List Int:=g.readN p cell i ((g.prog p cell i).length+1)
def seenB (n:Int) (l:List Int):List Bool:=(ints n).map fun c=>decide (c∈l)
def seenI (n:Int) (l:List Int):List Int:=(ints n).filter fun c=>decide (c∈l)
def Gm.readsR (g:Gm) (p:Ps) (cell i:Int):List Int:=seenI g.b.cells (g.readsL p cell i)
theorem seenI_len (n:Int) (l:List Int):(seenI n l).length≤n.toNat:=filter_ints_le n _
theorem readS_succ (g:Gm) (side:Int) (x:Stp) {l:List Rs} {n:Int} (n0:0≤n) (h:n < l.length):g.readS side x (l.take (n+1).toNat)=g.readS side x (l.take n.toNat)++g.readX side x (nth l n):=by
 unfold Gm.readS
 rw [take_snoc n0 h,List.flatMap_append];simp
set_option maxHeartbeats 4000000 in
set_option maxRecDepth 10000 in
theorem lookR_p (g:Gm) (hg:g.ok) (p:Ps) (s:Rs) (hs:s.ok g) (x:Stp) (acc:List Int) (hacc:acc.length≤10000000000) :
  Fun Tryz.prog 52 [.box (cellsA g.av),.box p.cs,.box [.ref 3],.arr 1 (acc.map I)] [Sa s,St1 x,.ptr 2 0,.ptr 0 0,.ptr 1 0] (.tup []) [.box (cellsA g.av),.box p.cs,.box [.ref 4],.dead,.arr 1 ((acc++g.readX p.side x s).map I)]:=by
 have ec:(s.p.ct.map I).length=s.p.ct.length:=List.length_map _
 have hlen:=hs.len
 have hu0:=hs.u0
 have hu1:=hs.u1
 have ht:=To15_p g.b hg.b p.side x.n s.cur
 have hl1:(acc++[s.cur]).length=acc.length+1:=by simp
 unfold Gm.readX
 by_cases hx:x.op=7
 ·by_cases hz:nth s.p.ct s.cur=0
  ·rw [if_neg (fun q=>q.2.1 hz)]
   refine fun_of_mv [3] tok D_ok Tryz.func52 rfl Tryz.ntmps52 Tryz.results52 (by kernel_rfl) (by simp) (by simp) ?_
   conv=>whnf
   try dsimp only [St.mv,mvT,mvA,mvL,mvO,mvOs,Nat.beq_refl]
   repeat' (first | ((first | refine lvK ?_ | refine ⟨_,_,ht,lvN ?_⟩ | (refine .inl ?_;(conv=>whnf);first | refine ⟨_,_,ht,lvN ?_⟩));apply Cj.mk <;> first | exact trivial | intros) | fail)
   refine exitS [.obj 0,.obj 1,.obj 2,.obj 3,.obj 8] (by kernel_rfl) (by kernel_rfl) (by kernel_rfl) (lvL ?_) (lvL ?_) <;> (try (apply Cj.mk <;> first | exact trivial | intros))
  ·generalize hto:g.b.to p.side x.n s.cur=to at *
   by_cases h0:0≤to
   ·rw [if_pos ⟨hx,hz,h0⟩]
    refine fun_of_mv [3] tok D_ok Tryz.func52 rfl Tryz.ntmps52 Tryz.results52 (by kernel_rfl) (by simp) (by simp) ?_
    conv=>whnf
    try dsimp only [St.mv,mvT,mvA,mvL,mvO,mvOs,Nat.beq_refl]
    repeat' (first | ((first | refine lvK ?_ | refine ⟨_,_,ht,lvN ?_⟩ | (refine .inl ?_;(conv=>whnf);first | refine ⟨_,_,ht,lvN ?_⟩));apply Cj.mk <;> first | exact trivial | intros) | fail)
    refine exitS [.obj 0,.obj 1,.obj 2,.obj 3,.obj 10] (by kernel_rfl) (by kernel_rfl) (by kernel_rfl) (lvL ?_) (lvL ?_) <;> (try (apply Cj.mk <;> first | exact trivial | intros))
    rw [List.append_assoc];rfl
   ·rw [if_neg (fun q=>h0 q.2.2)]
    refine fun_of_mv [3] tok D_ok Tryz.func52 rfl Tryz.ntmps52 Tryz.results52 (by kernel_rfl) (by simp) (by simp) ?_
    conv=>whnf
    try dsimp only [St.mv,mvT,mvA,mvL,mvO,mvOs,Nat.beq_refl]
    repeat' (first | ((first | refine lvK ?_ | refine ⟨_,_,ht,lvN ?_⟩ | (refine .inl ?_;(conv=>whnf);first | refine ⟨_,_,ht,lvN ?_⟩));apply Cj.mk <;> first | exact trivial | intros) | fail)
    refine exitS [.obj 0,.obj 1,.obj 2,.obj 3,.obj 8] (by kernel_rfl) (by kernel_rfl) (by kernel_rfl) (lvL ?_) (lvL ?_) <;> (try (apply Cj.mk <;> first | exact trivial | intros))
 ·rw [if_neg (fun q=>hx q.1)]
  refine fun_of_mv [3] tok D_ok Tryz.func52 rfl Tryz.ntmps52 Tryz.results52 (by kernel_rfl) (by simp) (by simp) ?_
  conv=>whnf
  try dsimp only [St.mv,mvT,mvA,mvL,mvO,mvOs,Nat.beq_refl]
  repeat' (first | ((first | refine lvK ?_ | refine ⟨_,_,ht,lvN ?_⟩ | (refine .inl ?_;(conv=>whnf);first | refine ⟨_,_,ht,lvN ?_⟩));apply Cj.mk <;> first | exact trivial | intros) | fail)
  refine exitS [.obj 0,.obj 1,.obj 2,.obj 3,.obj 8] (by kernel_rfl) (by kernel_rfl) (by kernel_rfl) (lvL ?_) (lvL ?_) <;> (try (apply Cj.mk <;> first | exact trivial | intros))
theorem fin_mem_outsL {side:Int} {o:Oc} (l:List Rs):∀ acc:List Oc,o∈outsL side acc l↔o∈acc∨∃ s,s∈l∧nth s.p.ct s.cur=0∧o=fin side s:=by
 induction l with
 | nil=>intro acc;simp [outsL]
 | cons s r ih =>
  intro acc
  have h1:=ih (outs1 side acc s)
  unfold outsL at h1 ⊢
  rw [List.foldl_cons,h1]
  unfold outs1
  constructor
  ·rintro (h | ⟨t,h1,h2,h3⟩)
   ·split at h
    ·exact .inl h
    ·rename_i q
     rcases List.mem_append.1 h with h | h
     ·exact .inl h
     ·exact .inr ⟨s,by simp,by omega,by simpa using h⟩
   ·exact .inr ⟨t,by simp [h1],h2,h3⟩
  ·rintro (h | ⟨t,h1,h2,h3⟩)
   ·left
    split
    ·exact h
    ·exact List.mem_append_left _ h
   ·rcases List.mem_cons.1 h1 with rfl | h1
    ·left
     rw [if_neg (by omega)]
     exact List.mem_append_right _ (by simp [h3])
    ·exact .inr ⟨t,h1,h2,h3⟩
theorem outsL_canon (g:Gm) (p:Ps) (cell i:Int):canon cmpO (outsL p.side [] (g.now p cell i (g.prog p cell i).length))=g.runsR p cell i:=by
 symm
 unfold Gm.runsR
 refine Asc.canon cmpO_tot (insL_asc _ [] List.Pairwise.nil) fun x=>?_
 rw [insL_mem,fin_mem_outsL]
set_option maxHeartbeats 4000000 in
set_option maxRecDepth 10000 in
theorem PRuns_p (g:Gm) (hg:g.ok) (p:Ps) (cell i:Int) (h:CanRun g p cell i):Pure Tryz.prog 14 [g.av,p.av,I cell,I i] (.tup [Ous (g.runsR p cell i),I 0]) none:=by
 have hr:=run1_p g hg p cell i h [] (by simp)
 have hno:=(now_ok hg h _ (Nat.le_refl _)).1
 have hnl:=now_len hg h (k:=(g.prog p cell i).length) (by omega) (Int.le_refl _)
 have hol:=outsL_len p.side (g.now p cell i (g.prog p cell i).length) []
 have hok:∀ o,o∈outsL p.side [] (g.now p cell i (g.prog p cell i).length)→o.p.small:=fun o ho=>by
  rcases (fin_mem_outsL _ _).1 ho with ho | ⟨s,hs,_,rfl⟩
  ·simp at ho
  ·exact (fin_ok hg (hno s hs) h.ok.s).small hg
 rw [← outsL_canon]
 generalize outsL p.side [] (g.now p cell i (g.prog p cell i).length)=L at *
 have hs:=SortO_p L (by simp at hol;omega) hok
 have hc:=CompactO_p (sortC cmpO L) (by rw [sortC_len];simp at hol;omega) (fun o ho=>hok o (sortC_mem.1 ho))
 rw [ddI_sort cmpO_tot] at hc
 refine fun_of tok D_ok Tryz.func14 rfl Tryz.ntmps14 Tryz.results14 (by kernel_rfl) (by simp) (by simp) ?_
 conv=>whnf
 repeat' (first | (refine lvK ?_;apply Cj.mk <;> first | exact trivial | intros) | (refine lvE ?_;apply Cj.mk <;> first | exact trivial | intros) | fail)
 refine .inr (.inl ⟨{ tmps:=[(4,.ptr 0 0),(5,.ptr 1 0),(10,.ptr 2 0),(12,g.av),(13,p.av),(14,I cell),(15,I i),(16,.fn (.func 43) [] [.ptr 1 0,.ptr 2 0])],objs:=[(0,.box (cellsA g.av)),(1,.box p.cs),(2,.box [.ref 3]),(3,.arr 6 (([]:List Oc).map Ou))],next:=4,size:=25,par:=[] },exitS [.obj 0,.obj 1,.obj 2,.cell 2 0] (by kernel_rfl) (by kernel_rfl) (by kernel_rfl) (lvL ?_) (lvL ?_),.inl ?_⟩)
 ·apply Cj.mk <;> first | exact trivial | intros
 ·apply Cj.mk <;> first | exact trivial | intros
 conv=>whnf
 refine ⟨[1,2,3],_,[g.av,p.av,I cell,I i,fnL1],_,_,⟨rfl,rfl,rfl⟩,hr,lvN ?_⟩
 apply Cj.mk <;> first | exact trivial | intros
 repeat' (first | ((first | refine lvK ?_ | (refine .inr (.inr (.inl ?_));(conv=>whnf);refine ⟨[4],_,[.ref 0,.v (.func (.func 47) #[] #[])],_,_,⟨rfl,rfl,rfl⟩,hs,lvN ?_⟩) | (refine .inr (.inr (.inl ?_));(conv=>whnf);refine ⟨[4],_,[.ref 0,.v (.func (.func 49) #[] #[])],_,_,⟨rfl,rfl,rfl⟩,hc,lvN ?_⟩));apply Cj.mk <;> first | exact trivial | intros) | (refine lvE ?_;apply Cj.mk <;> first | exact trivial | intros) | fail)
def Ch (c:Int × Int):AV:=.ag [I c.1,I c.2,Bo true]
def Chs (l:List (Int × Int)):AV:=.sl (l.map Ch)
def chC (c n:Int):List (Int × Int):=(ints n).map fun i=>(c,i)
def Gm.chOf (g:Gm) (p:Ps) (c:Int):List (Int × Int):=if ofK (nth p.ct c) < 0∨ofS (nth p.ct c)≠p.side then [] else chC c (nth g.kinds (ofK (nth p.ct c))).progs.length
def Gm.chN (g:Gm) (p:Ps) (n:Int):List (Int × Int):=(ints n).flatMap fun c=>g.chOf p c
def Gm.chs (g:Gm) (p:Ps):List (Int × Int):=g.chN p g.b.cells
theorem chC_succ (c:Int) {n:Int} (h:0≤n):chC c (n+1)=chC c n++[(c,n)]:=by unfold chC;rw [ints_succ h,List.map_append];rfl
theorem chC_len (c n:Int):(chC c n).length=n.toNat:=by unfold chC;rw [List.length_map,ints_len]
theorem chOf_len {g:Gm} (hg:g.ok) {p:Ps} (h:p.ok g) {c:Int} (c0:0≤c) (c1:c < g.b.cells):(g.chOf p c).length≤8:=by
 unfold Gm.chOf
 split
 ·simp
 ·rename_i hm
  have hk:=kind_rg hg h c0 c1 hm
  have h8:=hg.pl _ hk.1 hk.2
  rw [chC_len];omega
theorem chN_len {g:Gm} (hg:g.ok) {p:Ps} (h:p.ok g):∀ n:Nat,(n:Int)≤g.b.cells→(g.chN p n).length≤n * 8
 | 0,_=>by simp [Gm.chN,ints]
 | n+1,hn=>by
  have h1:=chN_len hg h n (by omega)
  have h2:=chOf_len hg h (c:=n) (by omega) (by omega)
  unfold Gm.chN at h1 ⊢
  rw [show ((n+1:Nat):Int)=(n:Int)+1 by omega,flat_succ _ (by omega),List.length_append]
  omega
theorem mem_chs {g:Gm} (hg:g.ok) {p:Ps} (h:p.ok g) {c i:Int}:(c,i)∈g.chs p↔CanRun g p c i:=by
 unfold Gm.chs Gm.chN
 rw [List.mem_flatMap]
 constructor
 ·rintro ⟨c',hc',hm⟩
  have hc:=mem_ints.1 hc'
  unfold Gm.chOf at hm
  split at hm
  ·simp at hm
  ·rename_i q
   unfold chC at hm
   obtain ⟨i',hi',e⟩:=List.mem_map.1 hm
   injection e with e1 e2
   subst e1;subst e2
   have hi:=mem_ints.1 hi'
   exact canRun_of hg h hc.1 hc.2 q i' hi.1 hi.2
 ·intro q
  refine ⟨c,mem_ints.2 ⟨q.c0,q.c1⟩,?_⟩
  unfold Gm.chOf
  rw [if_neg (by have:=q.k0;have:=q.sd;omega)]
  exact List.mem_map.2 ⟨i,mem_ints.2 ⟨q.i0,q.i1⟩,rfl⟩
set_option maxHeartbeats 4000000 in
set_option maxRecDepth 10000 in
theorem Choices_p (g:Gm) (hg:g.ok) (p:Ps) (h:p.ok g):Pure Tryz.prog 31 [g.av,p.av] (.ref 0) (some (.arr 3 ((g.chs p).map Ch))):=by
 have hnk:g.nk=g.kinds.length:=rfl
 have en:(g.kinds.map Kn).length=g.kinds.length:=List.length_map _
 have el:(p.ct.map I).length=p.ct.length:=List.length_map _
 have hlen:=h.len
 have c9:=hg.c9
 have k6:=hg.k6
 have hno:∀ c:Int,0≤c→c≤g.b.cells→(g.chN p c).length≤72:=fun c c0 c1=>by
  obtain ⟨n,rfl⟩:=Int.eq_ofNat_of_zero_le c0
  have:=chN_len hg h n c1
  omega
 unfold Gm.chs
 refine fun_of tok D_ok Tryz.func31 rfl Tryz.ntmps31 Tryz.results31 (by kernel_rfl) (by simp) (by simp) ?_
 conv=>whnf
 repeat' (first | (refine lvK ?_;apply Cj.mk <;> first | exact trivial | intros) | (refine lvE ?_;apply Cj.mk <;> first | exact trivial | intros) | fail)
 refine .of (fun c=>[(6,I c),(5,.ref 2)]) (fun c=>[(2,.arr 3 ((g.chN p c).map Ch))]) 3 (fun c=>0≤c∧c≤g.b.cells) (fun c=>(g.b.cells - c).toNat) 0 ?_
 conv=>whnf
 refine ⟨⟨[],hdA (lvL ?_) (lvL ?_)⟩,?_,fun c ⟨c0,c1⟩=>lvN ?_⟩ <;> (try (apply Cj.mk <;> first | exact trivial | intros))
 ·exact ⟨by omega,by omega⟩
 have hol:=hno c c0 c1
 by_cases hc:c < g.b.cells
 ·have hsu:g.chN p (c+1)=g.chN p c++g.chOf p c:=flat_succ _ c0
  have hcc:=h.c c c0 hc
  have ho:=Of_p (nth p.ct c) (by omega)
  by_cases hm:ofK (nth p.ct c) < 0∨ofS (nth p.ct c)≠p.side
  ·have he:g.chOf p c=[]:=if_pos hm
   rw [he,List.append_nil] at hsu
   repeat' (first | ((first | refine lvK ?_ | refine ⟨_,_,ho,lvN ?_⟩ | (refine .inl ?_;(conv=>whnf);first | refine ⟨_,_,ho,lvN ?_⟩));apply Cj.mk <;> first | exact trivial | intros) | (refine lvE ?_;apply Cj.mk <;> first | exact trivial | intros) | fail)
   refine .of (fun i=>[(8,I i),(5,.ref 2)]) (fun i=>[(2,.arr 3 ((g.chN p c).map Ch))]) 4 (fun i=>i=0) (fun i=>0) 0 ?_
   conv=>whnf
   refine ⟨⟨[],hdA (lvL ?_) (lvL ?_)⟩,?_,fun i hi=>lvN ?_⟩ <;> (try (apply Cj.mk <;> first | exact trivial | intros))
   ·rfl
   subst hi
   repeat' (first | (refine lvA ?_;apply Cj.mk <;> first | exact trivial | intros) | (refine lvE ?_;apply Cj.mk <;> first | exact trivial | intros) | fail)
   all_goals (try (exfalso;omega))
   all_goals
    refine ⟨c+1,⟨[],hdA (lvL ?_) (lvL ?_)⟩,?_,by (try dsimp only);omega,rfl⟩ <;> (try (apply Cj.mk <;> first | exact trivial | intros))
    ·rw [hsu]
    ·exact ⟨by omega,by omega⟩
  ·have hk:=kind_rg hg h c0 hc hm
   have h8:=hg.pl _ hk.1 hk.2
   have he:g.chOf p c=chC c (nth g.kinds (ofK (nth p.ct c))).progs.length:=if_neg hm
   rw [he] at hsu
   have e1:((nth g.kinds (ofK (nth p.ct c))).progs.map Pg).length=(nth g.kinds (ofK (nth p.ct c))).progs.length:=List.length_map _
   repeat' (first | ((first | refine lvK ?_ | refine ⟨_,_,ho,lvN ?_⟩ | (refine .inl ?_;(conv=>whnf);first | refine ⟨_,_,ho,lvN ?_⟩));apply Cj.mk <;> first | exact trivial | intros) | (refine lvE ?_;apply Cj.mk <;> first | exact trivial | intros) | fail)
   refine .of (fun i=>[(8,I i),(5,.ref 2)]) (fun i=>[(2,.arr 3 ((g.chN p c++chC c i).map Ch))]) 4 (fun i=>0≤i∧i≤(nth g.kinds (ofK (nth p.ct c))).progs.length) (fun i=>((nth g.kinds (ofK (nth p.ct c))).progs.length - i).toNat) 0 ?_
   conv=>whnf
   refine ⟨⟨[],hdA (lvL ?_) (lvL ?_)⟩,?_,fun i ⟨i0,i1⟩=>lvN ?_⟩ <;> (try (apply Cj.mk <;> first | exact trivial | intros))
   ·rw [show chC c 0=[] from rfl,List.append_nil]
   ·exact ⟨by omega,by omega⟩
   have hcl:=chC_len c i
   have hal:(g.chN p c++chC c i).length=(g.chN p c).length+(chC c i).length:=List.length_append
   by_cases hi:i < (nth g.kinds (ofK (nth p.ct c))).progs.length
   ·have hsc:=chC_succ c i0
    repeat' (first | ((first | refine lvK ?_ | refine ap1 (f:=Ch) (a:=(c,i)) (by decide) (by omega) rfl rfl (lvN ?_));apply Cj.mk <;> first | exact trivial | intros) | (refine lvE ?_;apply Cj.mk <;> first | exact trivial | intros) | fail)
    refine ⟨i+1,⟨[],hdA (lvL ?_) (lvL ?_)⟩,?_,by (try dsimp only);omega,rfl⟩ <;> (try (apply Cj.mk <;> first | exact trivial | intros))
    ·rw [hsc,List.append_assoc]
    ·exact ⟨by omega,by omega⟩
   ·obtain rfl:i=(nth g.kinds (ofK (nth p.ct c))).progs.length:=by omega
    rw [← hsu]
    repeat' (first | (refine lvK ?_;apply Cj.mk <;> first | exact trivial | intros) | (refine lvE ?_;apply Cj.mk <;> first | exact trivial | intros) | fail)
    refine ⟨c+1,⟨[],hdA (lvL ?_) (lvL ?_)⟩,?_,by (try dsimp only);omega,rfl⟩ <;> (try (apply Cj.mk <;> first | exact trivial | intros))
    ·exact ⟨by omega,by omega⟩
 ·obtain rfl:c=g.b.cells:=by omega
  repeat' (first | (refine lvK ?_;apply Cj.mk <;> first | exact trivial | intros) | (refine lvE ?_;apply Cj.mk <;> first | exact trivial | intros) | fail)
def Gm.pick (g:Gm) (p:Ps) (n:Int):Int × Int:=nth (g.chs p) (n % (g.chs p).length)
set_option maxHeartbeats 4000000 in
set_option maxRecDepth 10000 in
theorem Pick_p (g:Gm) (hg:g.ok) (p:Ps) (h:p.ok g) (n:Int) (hn:b8 n) (hne:g.chs p≠[]):Pure Tryz.prog 13 [g.av,p.av,U8 n] (Ch (g.pick p n)) none:=by
 have hc:=Choices_p g hg p h
 have hb:=hn.1
 have hb2:=hn.2
 have hl0:0 < (g.chs p).length:=List.length_pos_iff.2 hne
 unfold Gm.pick
 generalize g.chs p=l at *
 have el:(l.map Ch).length=l.length:=List.length_map _
 have hm0:0≤n % ((l.map Ch).length:Int):=Int.emod_nonneg _ (by omega)
 have hm1:n % ((l.map Ch).length:Int) < l.length:=by have:=Int.emod_lt_of_pos n (b:=((l.map Ch).length:Int)) (by omega);omega
 rw [show n % (l.length:Int)=n % ((l.map Ch).length:Int) by rw [el]]
 refine fun_of tok D_ok Tryz.func13 rfl Tryz.ntmps13 Tryz.results13 (by kernel_rfl) (by simp) (by simp) ?_
 conv=>whnf
 repeat' (first | ((first | refine lvK ?_ | refine ⟨_,_,hc,lvN ?_⟩ | (refine .inl ?_;(conv=>whnf);first | refine ⟨_,_,hc,lvN ?_⟩));apply Cj.mk <;> first | exact trivial | intros) | (refine lvE ?_;apply Cj.mk <;> first | exact trivial | intros) | fail)
set_option maxHeartbeats 4000000 in
set_option maxRecDepth 10000 in
theorem Pick0_p (g:Gm) (hg:g.ok) (p:Ps) (h:p.ok g) (n:Int) (hne:g.chs p=[]):Pure Tryz.prog 13 [g.av,p.av,U8 n] (.ag [I 0,I 0,Bo false]) none:=by
 have hc:=Choices_p g hg p h
 rw [hne] at hc
 refine fun_of tok D_ok Tryz.func13 rfl Tryz.ntmps13 Tryz.results13 (by kernel_rfl) (by simp) (by simp) ?_
 conv=>whnf
 repeat' (first | ((first | refine lvK ?_ | refine ⟨_,_,hc,lvN ?_⟩ | (refine .inl ?_;(conv=>whnf);first | refine ⟨_,_,hc,lvN ?_⟩));apply Cj.mk <;> first | exact trivial | intros) | (refine lvE ?_;apply Cj.mk <;> first | exact trivial | intros) | fail)
def NilS:AV:=.v (.slice none 0 0)
def Gm.mustR (g:Gm) (l:List Oc):Bool:=l.any fun o=>g.must && o.took
def Gm.keptR (g:Gm) (must:Bool) (l:List Oc):List Ps:=(l.filter fun o=>!must || o.took).map (·.p)
def Gm.movesR (g:Gm) (p:Ps):List Ps :=
 if g.endedR p≥0 then [] else canon cmpP (g.keptR (g.mustR (g.outsR p)) (g.outsR p)++(if g.mustR (g.outsR p) then [] else canon cmpP (g.dropsL p)))
theorem keptR_ok {g:Gm} (hg:g.ok) {p:Ps} (h:p.ok g) {b:Bool} {q:Ps} (hq:q∈g.keptR b (g.outsR p)):q.ok g:=by
 obtain ⟨o,ho,rfl⟩:=List.mem_map.1 hq
 exact outsR_ok hg h (List.mem_filter.1 ho).1
theorem movesR_ok {g:Gm} (hg:g.ok) {p:Ps} (h:p.ok g) {q:Ps} (hq:q∈g.movesR p):q.ok g:=by
 unfold Gm.movesR at hq
 split at hq
 ·simp at hq
 ·rcases List.mem_append.1 ((mem_canon cmpP_tot).1 hq) with hq | hq
  ·exact keptR_ok hg h hq
  ·split at hq
   ·simp at hq
   ·exact dropsL_ok hg h ((mem_canon cmpP_tot).1 hq)
theorem keptR_succ (g:Gm) (b:Bool) {l:List Oc} {i:Int} (h0:0≤i) (h:i < l.length):g.keptR b (l.take (i+1).toNat)=g.keptR b (l.take i.toNat)++(if !b || (nth l i).took then [(nth l i).p] else []):=by
 unfold Gm.keptR
 rw [take_snoc h0 h,List.filter_append,List.map_append]
 congr 1
 cases hc:(!b || (nth l i).took) <;> simp [List.filter,hc]
theorem keptR_len (g:Gm) (b:Bool) (l:List Oc):(g.keptR b l).length≤l.length:=by
 unfold Gm.keptR
 rw [List.length_map]
 exact List.length_filter_le _ _
theorem mustR_succ (g:Gm) {l:List Oc} {i:Int} (h0:0≤i) (h:i < l.length):g.mustR (l.take (i+1).toNat)=(g.mustR (l.take i.toNat) || (g.must && (nth l i).took)):=by
 unfold Gm.mustR
 rw [take_snoc h0 h,List.any_append]
 simp
theorem dropsL_len {g:Gm} (hg:g.ok) (p:Ps):(g.dropsL p).length≤54:=by
 have hnk:g.nk=g.kinds.length:=rfl
 have k6:=hg.k6
 have c9:=hg.c9
 have h1:=dropK_len p g.b.cells g.kinds.length
 have h2:g.kinds.length * g.b.cells.toNat≤6 * 9:=Nat.mul_le_mul (by omega) (by omega)
 unfold Gm.dropsL
 rw [hnk];omega
theorem outsR_len {g:Gm} (hg:g.ok) {p:Ps} (h:p.ok g):(g.outsR p).length≤3099363912:=by
 have c9:=hg.c9
 have c1:=hg.b.c1
 have:=outsN_len hg h g.b.cells.toNat (by omega)
 unfold Gm.outsR
 rw [show ((g.b.cells.toNat:Nat):Int)=g.b.cells by omega] at this
 omega
set_option maxHeartbeats 4000000 in
set_option maxRecDepth 10000 in
theorem Moves6_p (g:Gm) (hg:g.ok) (p:Ps) (h:p.ok g):Pure Tryz.prog 67 [g.av,p.av] (Pss (g.movesR p)) none:=by
 have hen:=Ended_p g hg p h
 have hou:=Outcomes_p g hg p h
 have hdr:=Drops_p g hg p h
 have hol:=outsR_len hg h
 have hdl:=dropsL_len hg p
 have hcl:=canon_len (c:=cmpP) (g.dropsL p)
 have hkl:=fun b=>keptR_len g b (g.outsR p)
 have hall:∀ b:Bool,∀ q,q∈g.keptR b (g.outsR p)++(if b then [] else canon cmpP (g.dropsL p))→q.small:=fun b q hq=>by
  rcases List.mem_append.1 hq with hq | hq
  ·exact (keptR_ok hg h hq).small hg
  ·split at hq
   ·simp at hq
   ·exact (dropsL_ok hg h ((mem_canon cmpP_tot).1 hq)).small hg
 have hsort:=R4Sort_p (g.keptR (g.mustR (g.outsR p)) (g.outsR p)++(if g.mustR (g.outsR p) then [] else canon cmpP (g.dropsL p))) (by
  have:=hkl (g.mustR (g.outsR p))
  rw [List.length_append]
  split
  ·simp only [List.length_nil];omega
  ·omega) (hall _)
 unfold Gm.movesR
 clear hall
 generalize canon cmpP (g.dropsL p)=dl at *
 generalize g.outsR p=l at *
 generalize g.endedR p=e at *
 have el:(l.map Ou).length=l.length:=List.length_map _
 have edl:(dl.map Ps.av).length=dl.length:=List.length_map _
 refine fun_of tok D_ok Tryz.func67 rfl Tryz.ntmps67 Tryz.results67 (by kernel_rfl) (by simp) (by simp) ?_
 conv=>whnf
 by_cases he:e≥0
 ·rw [if_pos he]
  repeat' (first | ((first | refine lvK ?_ | refine ⟨_,_,hen,lvN ?_⟩ | (refine .inl ?_;(conv=>whnf);first | refine ⟨_,_,hen,lvN ?_⟩));apply Cj.mk <;> first | exact trivial | intros) | (refine lvE ?_;apply Cj.mk <;> first | exact trivial | intros) | fail)
 ·rw [if_neg he]
  repeat' (first | ((first | refine lvK ?_ | refine ⟨_,_,hen,lvN ?_⟩ | refine ⟨_,_,hou,lvN ?_⟩ | (refine .inl ?_;(conv=>whnf);first | refine ⟨_,_,hen,lvN ?_⟩ | refine ⟨_,_,hou,lvN ?_⟩));apply Cj.mk <;> first | exact trivial | intros) | (refine lvE ?_;apply Cj.mk <;> first | exact trivial | intros) | fail)
  refine .of (fun i=>[(8,I i),(7,Bo (g.mustR (l.take i.toNat)))]) (fun i=>[]) 2 (fun i=>0≤i∧i≤l.length) (fun i=>(l.length - i).toNat) 0 ?_
  conv=>whnf
  refine ⟨⟨[],hdA (lvL ?_) (lvL ?_)⟩,?_,fun i ⟨i0,i1⟩=>lvN ?_⟩ <;> (try (apply Cj.mk <;> first | exact trivial | intros))
  ·exact ⟨by omega,by omega⟩
  by_cases hi:i < l.length
  ·have hsu:=mustR_succ g i0 hi
   generalize g.mustR (l.take i.toNat)=m at *
   cases m with
   | true =>
    rw [Bool.true_or] at hsu
    repeat' (first | (refine lvK ?_;apply Cj.mk <;> first | exact trivial | intros) | (refine lvE ?_;apply Cj.mk <;> first | exact trivial | intros) | fail)
    refine ⟨i+1,⟨[],hdA (lvL ?_) (lvL ?_)⟩,?_,by (try dsimp only);omega,rfl⟩ <;> (try (apply Cj.mk <;> first | exact trivial | intros))
    ·rw [hsu]
    ·exact ⟨by omega,by omega⟩
   | false =>
    rw [Bool.false_or] at hsu
    repeat' (first | (refine lvK ?_;apply Cj.mk <;> first | exact trivial | intros) | (refine lvE ?_;apply Cj.mk <;> first | exact trivial | intros) | fail)
    all_goals
     refine ⟨i+1,⟨[],hdA (lvL ?_) (lvL ?_)⟩,?_,by (try dsimp only);omega,rfl⟩ <;> (try (apply Cj.mk <;> first | exact trivial | intros))
     ·rw [hsu];simp_all
     ·exact ⟨by omega,by omega⟩
  ·obtain rfl:i=l.length:=by omega
   rw [take_all (Int.le_refl _)]
   generalize g.mustR l=m at *
   have hkl':=hkl m
   repeat' (first | (refine lvK ?_;apply Cj.mk <;> first | exact trivial | intros) | (refine lvE ?_;apply Cj.mk <;> first | exact trivial | intros) | fail)
   refine .of (fun i=>[(9,I i),(6,.ref 2)]) (fun i=>[(2,.arr 5 ((g.keptR m (l.take i.toNat)).map Ps.av))]) 3 (fun i=>0≤i∧i≤l.length) (fun i=>(l.length - i).toNat) 0 ?_
   conv=>whnf
   refine ⟨⟨[],hdA (lvL ?_) (lvL ?_)⟩,?_,fun i ⟨j0,j1⟩=>lvN ?_⟩ <;> (try (apply Cj.mk <;> first | exact trivial | intros))
   ·exact ⟨by omega,by omega⟩
   have hkt:=keptR_len g m (l.take i.toNat)
   rw [List.length_take] at hkt
   by_cases hi:i < l.length
   ·have hsu:=keptR_succ g m j0 hi
    cases m with
    | false =>
     simp only [Bool.not_false,Bool.true_or,if_true] at hsu
     repeat' (first | ((first | refine lvK ?_ | refine ap1 (f:=Ps.av) (a:=(nth l i).p) (by decide) (by omega) rfl rfl (lvN ?_));apply Cj.mk <;> first | exact trivial | intros) | (refine lvE ?_;apply Cj.mk <;> first | exact trivial | intros) | fail)
     refine ⟨i+1,⟨[],hdA (lvL ?_) (lvL ?_)⟩,?_,by (try dsimp only);omega,rfl⟩ <;> (try (apply Cj.mk <;> first | exact trivial | intros))
     ·rw [hsu]
     ·exact ⟨by omega,by omega⟩
    | true =>
     cases ht:(nth l i).took with
     | true =>
      simp only [Bool.not_true,Bool.false_or,ht,if_true] at hsu
      repeat' (first | ((first | refine lvK ?_ | refine ap1 (f:=Ps.av) (a:=(nth l i).p) (by decide) (by omega) rfl rfl (lvN ?_));apply Cj.mk <;> first | exact trivial | intros) | (refine lvE ?_;apply Cj.mk <;> first | exact trivial | intros) | fail)
      all_goals (try (exfalso;simp_all;done))
      refine ⟨i+1,⟨[],hdA (lvL ?_) (lvL ?_)⟩,?_,by (try dsimp only);omega,rfl⟩ <;> (try (apply Cj.mk <;> first | exact trivial | intros))
      ·rw [hsu]
      ·exact ⟨by omega,by omega⟩
     | false =>
      simp only [Bool.not_true,Bool.false_or,ht,Bool.false_eq_true,if_false,List.append_nil] at hsu
      repeat' (first | ((first | refine lvK ?_ | refine ap1 (f:=Ps.av) (a:=(nth l i).p) (by decide) (by omega) rfl rfl (lvN ?_));apply Cj.mk <;> first | exact trivial | intros) | (refine lvE ?_;apply Cj.mk <;> first | exact trivial | intros) | fail)
      all_goals (try (exfalso;simp_all;done))
      refine ⟨i+1,⟨[],hdA (lvL ?_) (lvL ?_)⟩,?_,by (try dsimp only);omega,rfl⟩ <;> (try (apply Cj.mk <;> first | exact trivial | intros))
      ·rw [hsu]
      ·exact ⟨by omega,by omega⟩
   ·obtain rfl:i=l.length:=by omega
    rw [take_all (Int.le_refl _)]
    cases m with
    | true =>
     rw [if_pos rfl,List.append_nil] at hsort ⊢
     repeat' (first | ((first | refine lvK ?_ | (refine .inr (.inl ?_);(conv=>whnf);refine ⟨_,_,hsort,lvN ?_⟩));apply Cj.mk <;> first | exact trivial | intros) | (refine lvE ?_;apply Cj.mk <;> first | exact trivial | intros) | fail)
    | false =>
     rw [if_neg (by decide)] at hsort ⊢
     repeat' (first | ((first | refine lvK ?_ | refine ⟨_,_,hdr,lvN ?_⟩ | (refine .inl ?_;(conv=>whnf);first | refine ⟨_,_,hdr,lvN ?_⟩) | (refine .inr (.inl ?_);(conv=>whnf);refine ⟨_,_,hsort,lvN ?_⟩));apply Cj.mk <;> first | exact trivial | intros) | (refine lvE ?_;apply Cj.mk <;> first | exact trivial | intros) | fail)
def Gm.walkR (g:Gm):List Int→Ps→List Ps
 | [],_=>[]
 | x :: r,p=>if (g.movesR p).length=0 then [] else nth (g.movesR p) (x % (g.movesR p).length) :: g.walkR r (nth (g.movesR p) (x % (g.movesR p).length))
theorem walkR_end {g:Gm} {x:Int} {r:List Int} {p:Ps} (h:(g.movesR p).length=0):g.walkR (x :: r) p=[]:=if_pos h
theorem walkR_go {g:Gm} {x:Int} {r:List Int} {p:Ps} (h:¬ (g.movesR p).length=0):g.walkR (x :: r) p=nth (g.movesR p) (x % (g.movesR p).length) :: g.walkR r (nth (g.movesR p) (x % (g.movesR p).length)):=if_neg h
theorem walkR_ok {g:Gm} (hg:g.ok):∀ (l:List Int) {p:Ps},p.ok g→∀ q,q∈g.walkR l p→q.ok g
 | [],p,_,q,hq=>by simp [Gm.walkR] at hq
 | x :: r,p,h,q,hq=>by
  by_cases hm:(g.movesR p).length=0
  ·rw [walkR_end hm] at hq;simp at hq
  ·rw [walkR_go hm] at hq
   have m0:=Int.emod_nonneg x (show ((g.movesR p).length:Int)≠0 by omega)
   have m1:=Int.emod_lt_of_pos x (show 0 < ((g.movesR p).length:Int) by omega)
   have hk:=movesR_ok hg h (nth_mem m0 m1)
   rcases List.mem_cons.1 hq with rfl | hq
   ·exact hk
   ·exact walkR_ok hg r hk q hq
theorem walkR_len (g:Gm):∀ (l:List Int) (p:Ps),(g.walkR l p).length≤l.length
 | [],p=>by simp [Gm.walkR]
 | x :: r,p=>by
  by_cases hm:(g.movesR p).length=0
  ·rw [walkR_end hm];simp
  ·rw [walkR_go hm]
   have:=walkR_len g r (nth (g.movesR p) (x % (g.movesR p).length))
   simp only [List.length_cons];omega
theorem tmod_fix {x n:Int} (hn:0 < n):-n < x.tmod n∧x.tmod n < n∧(x.tmod n < 0→x.tmod n+n=x % n)∧(¬ x.tmod n < 0→x.tmod n=x % n):=by
 have h1:=Int.emod_nonneg x (show n≠0 by omega)
 have h2:=Int.emod_lt_of_pos x hn
 have h3:=Int.tmod_eq_emod (a:=x) (b:=n)
 have h4:(n.natAbs:Int)=n:=by omega
 split at h3
 ·omega
 ·omega
theorem movesR_len {g:Gm} (hg:g.ok) {p:Ps} (h:p.ok g):(g.movesR p).length≤3099363966:=by
 have h1:=outsR_len hg h
 have h2:=dropsL_len hg p
 have h3:=canon_len (c:=cmpP) (g.dropsL p)
 have h4:=keptR_len g (g.mustR (g.outsR p)) (g.outsR p)
 unfold Gm.movesR
 split
 ·simp
 ·refine Nat.le_trans (canon_len _) ?_
  rw [List.length_append]
  split
  ·simp only [List.length_nil];omega
  ·omega
structure WkS where
 i:Int
 p:Ps
 out:List Ps
instance:Inhabited WkS:=⟨⟨0,default,[]⟩⟩
set_option maxHeartbeats 4000000 in
set_option maxRecDepth 10000 in
theorem Walk6_p (g:Gm) (hg:g.ok) (p:Ps) (h:p.ok g) (l:List Int) (hl:l.length≤34359738000):Pure Tryz.prog 41 [g.av,p.av,Is l] (Pss (p :: g.walkR l p)) none:=by
 have hint:OwnHint:=⟨⟩
 have el:(l.map I).length=l.length:=List.length_map _
 refine fun_of tok D_ok Tryz.func41 rfl Tryz.ntmps41 Tryz.results41 (by kernel_rfl) (by simp) (by simp) ?_
 conv=>whnf
 repeat' (first | (refine lvK ?_;apply Cj.mk <;> first | exact trivial | intros) | (refine lvE ?_;apply Cj.mk <;> first | exact trivial | intros) | fail)
 refine .of (fun (s:WkS)=>[(8,I s.i),(7,.ref 2)]) (fun (s:WkS)=>[(1,.box [Is s.p.ct,Is s.p.h0,Is s.p.h1,I s.p.rights,I s.p.side]),(2,.arr 5 (s.out.map Ps.av))]) 3 (fun (s:WkS)=>0≤s.i∧s.i≤l.length∧s.out.length≤s.i+1∧s.p.ok g∧s.out++g.walkR (l.drop s.i.toNat) s.p=p :: g.walkR l p) (fun (s:WkS)=>(l.length - s.i).toNat) (⟨0,p,[p]⟩:WkS) ?_
 conv=>whnf
 refine ⟨⟨[],hdA (lvL ?_) (lvL ?_)⟩,?_,fun (s:WkS) ⟨i0,i1,ol,hp,hs⟩=>lvN ?_⟩ <;> (try (apply Cj.mk <;> first | exact trivial | intros))
 ·exact ⟨by simp,by simp,by simp,h,by simp⟩
 obtain ⟨i,q,out⟩:=s
 dsimp only at *
 have hm:=Moves6_p g hg q hp
 have hml:=movesR_len hg hp
 by_cases hi:i < l.length
 ·rw [drop_nth i0 hi] at hs
  have eml:((g.movesR q).map Ps.av).length=(g.movesR q).length:=List.length_map _
  by_cases hz:(g.movesR q).length=0
  ·rw [walkR_end hz,List.append_nil] at hs
   repeat' (first | ((first | refine lvK ?_ | refine ⟨_,_,hm,lvN ?_⟩ | (refine .inl ?_;(conv=>whnf);first | refine ⟨_,_,hm,lvN ?_⟩));apply Cj.mk <;> first | exact trivial | intros) | (refine lvE ?_;apply Cj.mk <;> first | exact trivial | intros) | fail)
   ·rw [hs]
  ·rw [walkR_go hz] at hs
   have m0:=Int.emod_nonneg (nth l i) (show ((g.movesR q).length:Int)≠0 by omega)
   have m1:=Int.emod_lt_of_pos (nth l i) (show 0 < ((g.movesR q).length:Int) by omega)
   have hk:=movesR_ok hg hp (nth_mem m0 m1)
   obtain ⟨t1,t2,t3,t4⟩:=tmod_fix (x:=nth l i) (n:=(g.movesR q).length) (by omega)
   generalize g.movesR q=mv at *
   repeat' (first | ((first | refine lvK ?_ | refine ⟨_,_,hm,lvN ?_⟩ | (refine .inl ?_;(conv=>whnf);first | refine ⟨_,_,hm,lvN ?_⟩));apply Cj.mk <;> first | exact trivial | intros) | (refine lvE ?_;apply Cj.mk <;> first | exact trivial | intros) | fail)
   refine And.intro (by omega) (Calc.mk _ rfl ?_)
   rw [eml]
   generalize (nth l i).tmod mv.length=t at *
   by_cases ht:t < 0
   ·have t5:=t3 ht
    have hix:t+((mv.map Ps.av).length:Int)=nth l i % mv.length:=by rw [eml];exact t5
    repeat' (first | ((first | refine lvK ?_ | refine ap1 (f:=Ps.av) (a:=(nth mv (t+((mv.map Ps.av).length:Int)))) (by decide) (by omega) rfl rfl (lvN ?_));apply Cj.mk <;> first | exact trivial | intros) | (refine lvE ?_;apply Cj.mk <;> first | exact trivial | intros) | fail)
    refine ⟨(⟨i+1,nth mv (t+((mv.map Ps.av).length:Int)),out++[nth mv (t+((mv.map Ps.av).length:Int))]⟩:WkS),⟨[],hdA (lvL ?_) (lvL ?_)⟩,?_,by (try dsimp only);omega,rfl⟩ <;> (try (apply Cj.mk <;> first | exact trivial | intros))
    ·dsimp only
     rw [hix]
     refine ⟨by omega,by omega,?_,hk,?_⟩
     ·rw [List.length_append,List.length_singleton];omega
     ·rw [← hs,List.append_assoc];rfl
   ·have t5:=t4 ht
    have hix:t=nth l i % mv.length:=by exact t5
    repeat' (first | ((first | refine lvK ?_ | refine ap1 (f:=Ps.av) (a:=(nth mv (t))) (by decide) (by omega) rfl rfl (lvN ?_));apply Cj.mk <;> first | exact trivial | intros) | (refine lvE ?_;apply Cj.mk <;> first | exact trivial | intros) | fail)
    refine ⟨(⟨i+1,nth mv (t),out++[nth mv (t)]⟩:WkS),⟨[],hdA (lvL ?_) (lvL ?_)⟩,?_,by (try dsimp only);omega,rfl⟩ <;> (try (apply Cj.mk <;> first | exact trivial | intros))
    ·dsimp only
     rw [hix]
     refine ⟨by omega,by omega,?_,hk,?_⟩
     ·rw [List.length_append,List.length_singleton];omega
     ·rw [← hs,List.append_assoc];rfl
 ·obtain rfl:i=l.length:=by omega
  rw [drop_all (Int.le_refl _)] at hs
  rw [show g.walkR [] q=[] from rfl,List.append_nil] at hs
  rw [← hs]
  repeat' (first | (refine lvK ?_;apply Cj.mk <;> first | exact trivial | intros) | (refine lvE ?_;apply Cj.mk <;> first | exact trivial | intros) | fail)
end Go.Proofs.YthgobfncgnjimaaGreatDoor
