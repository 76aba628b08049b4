/- Contracts of functions of the program, proved by the checker; and plain laws. -/
import Derived.Test.YtejljpjdifblpaaZ13
set_option linter.unusedVariables false
set_option linter.unusedSimpArgs false
namespace Go.Proofs.Ytejljpjdifblpaa
open Go Go.Sk
structure Ac where
 op:Int
 a:Int
 b:Int
instance:Inhabited Ac:=⟨⟨0,0,0⟩⟩
structure Pth where
 acts:List Ac
 to:Int
instance:Inhabited Pth:=⟨⟨[],0⟩⟩
def slideP (p:Pth):List Ac→List Int→List Pth
 | _,[]=>[]
 | more,c :: r=>⟨p.acts++more,c⟩ :: slideP p (more++[⟨3,c,0⟩]) r
def extR (b:Bd) (side:Int) (p:Pth) (x:Stp):List Pth :=
 if x.op=1 then (if b.to side x.n p.to < 0 then [] else [⟨p.acts,b.to side x.n p.to⟩])
 else if x.op=7 then (if b.to side x.n p.to < 0 then [] else [⟨p.acts++[⟨7,p.to,b.to side x.n p.to⟩],p.to⟩])
 else if x.op=2 then slideP p [] (b.line side x.n p.to)
 else if x.op=8∨x.op=9∨x.op=10 then [⟨p.acts++[⟨x.op,x.n,0⟩],p.to⟩]
 else [⟨p.acts++[⟨x.op,p.to,0⟩],p.to⟩]
def pathsR (b:Bd) (side:Int) (pg:List Stp) (cell:Int):List Pth:=pg.foldl (fun now x=>now.flatMap (extR b side · x)) [⟨[],cell⟩]
def Gm.pathsK (g:Gm) (side k cell:Int):List Pth:=(nth g.kinds k).progs.flatMap fun pg=>pathsR g.b side pg cell
structure Iv where
 mod:Int
 men:List (List Int)
 h0:List Int
 h1:List Int
 rights:List Int
 side:Int
def Iv.hd (x:Iv) (s:Int):List Int:=if s=0 then x.h0 else x.h1
def Iv.mn (x:Iv) (n c:Int):Int:=nth (nth x.men n) c
def Iv.lift (x:Iv) (n c:Int):Int:=x.mn 0 c - x.mn n c
def Iv.turn (x:Iv) (side:Int):Int:=x.side * (1 - 2 * side)
structure Kp where
 sum:Int
 now:Int
 last:List Int
def Iv.takeL (x:Iv) (g:Gm) (side a:Int):List Int:=(ints g.nk).map fun k=>x.lift (code k (1 - side)) a+(if g.keep k then nth (x.hd side) k else 0)
def Iv.pushL (x:Iv) (g:Gm) (a b:Int):List Int:=(ints (2 * g.nk)).map fun n=>x.lift (n+1) a - x.lift (n+1) b
def Iv.loseL (x:Iv) (last:List Int) (a:Int):List Int:=if nth last a=9 then [- nth x.rights a] else if nth last a=10 then [0] else [- nth x.rights a,0]
def Iv.actL (x:Iv) (g:Gm) (side:Int) (last:List Int) (a:Ac):List Int :=
 if a.op=6 then x.takeL g side a.a else if a.op=7 then x.pushL g a.a a.b else if a.op=10 then x.loseL last a.a else []
def lastR (last:List Int) (a:Ac):List Int:=if a.op=9∨a.op=10 then last.set a.a.toNat a.op else last
def nowR (side now:Int) (a:Ac):Int:=if a.op=8 then code a.a side else now
def sameL (mod:Int) (l:List Int):Prop:=∀ n,n∈l→mod ∣ n - nth l 0
def Iv.keepsA (x:Iv) (g:Gm) (side:Int):List Ac→Kp→Prop
 | [],_=>True
 | a :: r,s=>sameL x.mod (x.actL g side s.last a)∧x.keepsA g side r ⟨s.sum+nth (x.actL g side s.last a) 0,nowR side s.now a,lastR s.last a⟩
def Iv.runA (x:Iv) (g:Gm) (side:Int):List Ac→Kp→Kp
 | [],s=>s
 | a :: r,s=>x.runA g side r ⟨s.sum+nth (x.actL g side s.last a) 0,nowR side s.now a,lastR s.last a⟩
def Iv.keeps (x:Iv) (g:Gm) (side k cell:Int) (p:Pth):Prop :=
 x.keepsA g side p.acts ⟨x.lift (code k side) cell+x.turn side,code k side,List.replicate g.rights.toNat 0⟩ ∧
 x.mod ∣ (x.runA g side p.acts ⟨x.lift (code k side) cell+x.turn side,code k side,List.replicate g.rights.toNat 0⟩).sum - x.lift (x.runA g side p.acts ⟨x.lift (code k side) cell+x.turn side,code k side,List.replicate g.rights.toNat 0⟩).now p.to
def Iv.dropsK (x:Iv) (g:Gm):Prop:=∀ side k c:Int,side=0∨side=1→0≤k→k < g.nk→0≤c→c < g.b.cells→g.keep k=true→x.mod ∣ - x.lift (code k side) c - nth (x.hd side) k+x.turn side
def Iv.kept (x:Iv) (g:Gm):Prop:=x.dropsK g∧∀ side k c:Int,side=0∨side=1→0≤k→k < g.nk→0≤c→c < g.b.cells→∀ p,p∈g.pathsK side k c→x.keeps g side k c p
structure SumOf (g:Gm) (t:Int) (x y z:Iv):Prop where
 my:y.mod=x.mod
 mz:z.mod=x.mod
 men:∀ n c:Int,0≤n→n≤2 * g.nk→0≤c→c < g.b.cells→x.mod ∣ z.mn n c - (x.mn n c+t * y.mn n c)
 hd:∀ s k:Int,0≤k→k < g.nk→x.mod ∣ nth (z.hd s) k - (nth (x.hd s) k+t * nth (y.hd s) k)
 rt:∀ r:Int,0≤r→r < g.rights→x.mod ∣ nth z.rights r - (nth x.rights r+t * nth y.rights r)
 sd:x.mod ∣ z.side - (x.side+t * y.side)
theorem cg_sub {m t a b c a' b' c':Int} (h:m ∣ c - (a+t * b)) (h':m ∣ c' - (a'+t * b')):m ∣ (c - c') - ((a - a')+t * (b - b')):=by
 have:=Int.dvd_sub h h'
 rwa [show c - (a+t * b) - (c' - (a'+t * b'))=(c - c') - ((a - a')+t * (b - b')) by rw [Int.mul_sub];omega] at this
theorem cg_zero (m t:Int):m ∣ 0 - (0+t * 0):=by simp
theorem cg_end {m t a b c:Int} (h:m ∣ c - (a+t * b)) (ha:m ∣ a) (hb:m ∣ b):m ∣ c:=by
 obtain ⟨k,hk⟩:=h
 obtain ⟨u,hu⟩:=ha
 obtain ⟨v,hv⟩:=hb
 refine ⟨k+(u+t * v),?_⟩
 have h1:t * b=m * (t * v):=by rw [hv,← Int.mul_assoc,Int.mul_comm t m,Int.mul_assoc]
 rw [Int.mul_add,Int.mul_add,← hk,← hu,← h1]
 omega
section
variable {g:Gm} {t:Int} {x y z:Iv} (h:SumOf g t x y z)
include h
end
structure CgL (m t:Int) (a b c:List Int):Prop where
 la:a.length=c.length
 lb:b.length=c.length
 cg:∀ i:Int,0≤i→i < c.length→m ∣ nth c i - (nth a i+t * nth b i)
theorem CgL.map {m t:Int} {n:Int} {fa fb fc:Int→Int} (hf:∀ k:Int,0≤k→k < n→m ∣ fc k - (fa k+t * fb k)):CgL m t ((ints n).map fa) ((ints n).map fb) ((ints n).map fc):=by
 refine ⟨by simp,by simp,fun i i0 i1=>?_⟩
 rw [List.length_map,ints_len] at i1
 rw [nth_map_ints i0 (by omega),nth_map_ints i0 (by omega),nth_map_ints i0 (by omega)]
 exact hf i i0 (by omega)
theorem CgL.zero {m t:Int} {a b c:List Int} (h:CgL m t a b c):m ∣ nth c 0 - (nth a 0+t * nth b 0):=by
 by_cases hc:(0:Int) < c.length
 ·exact h.cg 0 (Int.le_refl 0) hc
 ·have hc0:c=[]:=List.eq_nil_of_length_eq_zero (by omega)
  have ha0:a=[]:=List.eq_nil_of_length_eq_zero (by have:=h.la;omega)
  have hb0:b=[]:=List.eq_nil_of_length_eq_zero (by have:=h.lb;omega)
  subst hc0;subst ha0;subst hb0
  exact cg_zero m t
theorem CgL.same {m t:Int} {a b c:List Int} (h:CgL m t a b c) (ha:sameL m a) (hb:sameL m b):sameL m c:=fun n hn=>by
 obtain ⟨i,hi⟩:=List.mem_iff_getElem?.1 hn
 have hil:i < c.length:=(List.getElem?_eq_some_iff.1 hi).1
 have e:∀ l:List Int,i < l.length→nth l (i:Int)∈l:=fun l hl=>nth_mem (by omega) (by omega)
 have hn':n=nth c (i:Int):=by
  have:=nth_some (l:=c) (i:=(i:Int)) (by omega) (by omega)
  rw [Int.toNat_natCast,hi] at this
  exact Option.some.inj this
 rw [hn']
 exact cg_end (cg_sub (h.cg i (by omega) (by omega)) h.zero) (ha _ (e a (by have:=h.la;omega))) (hb _ (e b (by have:=h.lb;omega)))
def AcOk (g:Gm) (a:Ac):Prop:=(a.op=6→0≤a.a∧a.a < g.b.cells)∧(a.op=7→0≤a.a∧a.a < g.b.cells∧0≤a.b∧a.b < g.b.cells)∧(a.op=9∨a.op=10→0≤a.a∧a.a < g.rights)∧(a.op=8→0≤a.a∧a.a < g.nk)
section
variable {g:Gm} (hg:g.ok) {t:Int} {x y z:Iv} (h:SumOf g t x y z)
include hg h
end
structure PtOk (g:Gm) (p:Pth):Prop where
 acts:∀ a,a∈p.acts→AcOk g a
 t0:0≤p.to
 t1:p.to < g.b.cells
theorem acOk_app {g:Gm} {l:List Ac} {a:Ac} (hl:∀ a,a∈l→AcOk g a) (ha:AcOk g a):∀ b,b∈l++[a]→AcOk g b:=fun b hb=>by
 rcases List.mem_append.1 hb with hb | hb
 ·exact hl b hb
 ·rw [List.mem_singleton] at hb
  subst hb
  exact ha
theorem slideP_ok {g:Gm} {p:Pth} (hp:PtOk g p):∀ (l:List Int) (more:List Ac),(∀ a,a∈more→AcOk g a)→(∀ c,c∈l→0≤c∧c < g.b.cells)→∀ q,q∈slideP p more l→PtOk g q
 | [],more,_,_,q,hq=>by simp [slideP] at hq
 | c :: r,more,hm,hl,q,hq=>by
  rcases List.mem_cons.1 hq with rfl | hq
  ·have hc:=hl c (by simp)
   refine ⟨fun a ha=>?_,hc.1,hc.2⟩
   rcases List.mem_append.1 ha with ha | ha
   ·exact hp.acts a ha
   ·exact hm a ha
  ·refine slideP_ok hp r _ (acOk_app hm ?_) (fun c hc=>hl c (by simp [hc])) q hq
   refine ⟨fun e=>?_,fun e=>?_,fun e=>?_,fun e=>?_⟩ <;> (dsimp only at e;omega)
theorem extR_ok {g:Gm} (hg:g.ok) {side:Int} {p:Pth} (hp:PtOk g p) {x:Stp} (hx:StpOk g.nd g.nk g.rights x):∀ q,q∈extR g.b side p x→PtOk g q:=fun q hq=>by
 have ht:=(g.b.to_lt hg.b side x.n p.to).2
 have h0:=hp.t0
 have h1:=hp.t1
 unfold StpOk at hx
 unfold extR at hq
 split at hq
 ·split at hq
  ·simp at hq
  ·rw [List.mem_singleton] at hq
   subst hq
   exact ⟨hp.acts,by dsimp only;omega,ht⟩
 ·split at hq
  ·split at hq
   ·simp at hq
   ·rw [List.mem_singleton] at hq
    subst hq
    refine ⟨acOk_app hp.acts ?_,h0,h1⟩
    refine ⟨fun e=>?_,fun e=>?_,fun e=>?_,fun e=>?_⟩ <;> (dsimp only at e ⊢;omega)
  ·split at hq
   ·exact slideP_ok hp _ [] (by simp) (g.b.line_rg hg.b side x.n p.to).1 q hq
   ·split at hq
    ·rw [List.mem_singleton] at hq
     subst hq
     refine ⟨acOk_app hp.acts ?_,h0,h1⟩
     refine ⟨fun e=>?_,fun e=>?_,fun e=>?_,fun e=>?_⟩ <;> (dsimp only at e ⊢;omega)
    ·rw [List.mem_singleton] at hq
     subst hq
     refine ⟨acOk_app hp.acts ?_,h0,h1⟩
     refine ⟨fun e=>?_,fun e=>?_,fun e=>?_,fun e=>?_⟩ <;> (dsimp only at e ⊢;omega)
theorem pathsR_ok {g:Gm} (hg:g.ok) {side:Int}:∀ (pg:List Stp) (now:List Pth),(∀ x,x∈pg→StpOk g.nd g.nk g.rights x)→(∀ q,q∈now→PtOk g q)→∀ q,q∈pg.foldl (fun now x=>now.flatMap (extR g.b side · x)) now→PtOk g q
 | [],now,_,hn,q,hq=>hn q hq
 | x :: r,now,hp,hn,q,hq=>by
  refine pathsR_ok hg r _ (fun y hy=>hp y (by simp [hy])) (fun u hu=>?_) q hq
  obtain ⟨v,hv,huv⟩:=List.mem_flatMap.1 hu
  exact extR_ok hg (hn v hv) (hp x (by simp)) u huv
theorem pathsK_ok {g:Gm} (hg:g.ok) {side k c:Int} (k0:0≤k) (k1:k < g.nk) (c0:0≤c) (c1:c < g.b.cells):∀ q,q∈g.pathsK side k c→PtOk g q:=fun q hq=>by
 obtain ⟨pg,hpg,hq⟩:=List.mem_flatMap.1 hq
 refine pathsR_ok hg pg _ (hg.pg k k0 k1 pg hpg).st (fun u hu=>?_) q hq
 rw [List.mem_singleton] at hu
 subst hu
 exact ⟨by simp,c0,c1⟩
theorem run_now {g:Gm} (hg:g.ok) (x:Iv) {side:Int} (hs:side=0∨side=1):∀ (acts:List Ac) (s:Kp),(∀ a,a∈acts→AcOk g a)→(1≤s.now∧s.now≤2 * g.nk)→1≤(x.runA g side acts s).now∧(x.runA g side acts s).now≤2 * g.nk
 | [],s,_,h=>h
 | a :: r,s,ha,h=>by
  have k6:=hg.k6
  refine run_now hg x hs r _ (fun b hb=>ha b (by simp [hb])) ?_
  dsimp only
  unfold nowR
  split
  ·rename_i e
   have:=(ha a (by simp)).2.2.2 e
   rw [code_rg this.1 this.2 k6 hs]
   omega
  ·exact h
section
variable {g:Gm} (hg:g.ok) {t:Int} {x y z:Iv} (h:SumOf g t x y z)
include hg h
end
def Gm.mustR (g:Gm) (l:List Oc):Bool:=l.any fun o=>g.must && o.took
def Gm.keptR (g:Gm) (must:Bool) (l:List Oc):List Ps:=(l.filter fun o=>!must || o.took).map (·.p)
def Gm.movesR (g:Gm) (p:Ps):List Ps :=
 if g.endedR p≥0 then [] else canon cmpP (g.keptR (g.mustR (g.outsR p)) (g.outsR p)++(if g.mustR (g.outsR p) then [] else canon cmpP (g.dropsL p)))
theorem keptR_ok {g:Gm} (hg:g.ok) {p:Ps} (h:p.ok g) {b:Bool} {q:Ps} (hq:q∈g.keptR b (g.outsR p)):q.ok g:=by
 obtain ⟨o,ho,rfl⟩:=List.mem_map.1 hq
 exact outsR_ok hg h (List.mem_filter.1 ho).1
theorem movesR_ok {g:Gm} (hg:g.ok) {p:Ps} (h:p.ok g) {q:Ps} (hq:q∈g.movesR p):q.ok g:=by
 unfold Gm.movesR at hq
 split at hq
 ·simp at hq
 ·rcases List.mem_append.1 ((mem_canon cmpP_tot).1 hq) with hq | hq
  ·exact keptR_ok hg h hq
  ·split at hq
   ·simp at hq
   ·exact dropsL_ok hg h ((mem_canon cmpP_tot).1 hq)
theorem keptR_succ (g:Gm) (b:Bool) {l:List Oc} {i:Int} (h0:0≤i) (h:i < l.length):g.keptR b (l.take (i+1).toNat)=g.keptR b (l.take i.toNat)++(if !b || (nth l i).took then [(nth l i).p] else []):=by
 unfold Gm.keptR
 rw [take_snoc h0 h,List.filter_append,List.map_append]
 congr 1
 cases hc:(!b || (nth l i).took) <;> simp [List.filter,hc]
theorem keptR_len (g:Gm) (b:Bool) (l:List Oc):(g.keptR b l).length≤l.length:=by
 unfold Gm.keptR
 rw [List.length_map]
 exact List.length_filter_le _ _
theorem mustR_succ (g:Gm) {l:List Oc} {i:Int} (h0:0≤i) (h:i < l.length):g.mustR (l.take (i+1).toNat)=(g.mustR (l.take i.toNat) || (g.must && (nth l i).took)):=by
 unfold Gm.mustR
 rw [take_snoc h0 h,List.any_append]
 simp
theorem dropsL_len {g:Gm} (hg:g.ok) (p:Ps):(g.dropsL p).length≤54:=by
 have hnk:g.nk=g.kinds.length:=rfl
 have k6:=hg.k6
 have c9:=hg.c9
 have h1:=dropK_len p g.b.cells g.kinds.length
 have h2:g.kinds.length * g.b.cells.toNat≤6 * 9:=Nat.mul_le_mul (by omega) (by omega)
 unfold Gm.dropsL
 rw [hnk];omega
theorem outsR_len {g:Gm} (hg:g.ok) {p:Ps} (h:p.ok g):(g.outsR p).length≤3099363912:=by
 have c9:=hg.c9
 have c1:=hg.b.c1
 have:=outsN_len hg h g.b.cells.toNat (by omega)
 unfold Gm.outsR
 rw [show ((g.b.cells.toNat:Nat):Int)=g.b.cells by omega] at this
 omega
set_option maxHeartbeats 4000000 in
set_option maxRecDepth 10000 in
theorem Moves6_p (g:Gm) (hg:g.ok) (p:Ps) (h:p.ok g):Pure Try.prog 27 [g.av,p.av] (Pss (g.movesR p)) none:=by
 have hen:=Ended_p g hg p h
 have hou:=Outcomes_p g hg p h
 have hdr:=Drops_p g hg p h
 have hol:=outsR_len hg h
 have hdl:=dropsL_len hg p
 have hcl:=canon_len (c:=cmpP) (g.dropsL p)
 have hkl:=fun b=>keptR_len g b (g.outsR p)
 have hall:∀ b:Bool,∀ q,q∈g.keptR b (g.outsR p)++(if b then [] else canon cmpP (g.dropsL p))→q.small:=fun b q hq=>by
  rcases List.mem_append.1 hq with hq | hq
  ·exact (keptR_ok hg h hq).small hg
  ·split at hq
   ·simp at hq
   ·exact (dropsL_ok hg h ((mem_canon cmpP_tot).1 hq)).small hg
 have hsort:=R4Sort_p (g.keptR (g.mustR (g.outsR p)) (g.outsR p)++(if g.mustR (g.outsR p) then [] else canon cmpP (g.dropsL p))) (by
  have:=hkl (g.mustR (g.outsR p))
  rw [List.length_append]
  split
  ·simp only [List.length_nil];omega
  ·omega) (hall _)
 unfold Gm.movesR
 clear hall
 generalize canon cmpP (g.dropsL p)=dl at *
 generalize g.outsR p=l at *
 generalize g.endedR p=e at *
 have el:(l.map Ou).length=l.length:=List.length_map _
 have edl:(dl.map Ps.av).length=dl.length:=List.length_map _
 refine fun_of tok D_ok Try.func27 rfl Try.ntmps27 Try.results27 (by kernel_rfl) (by simp) (by simp) ?_
 conv=>whnf
 by_cases he:e≥0
 ·rw [if_pos he]
  repeat' ((first
   | refine lvK ?_
   | refine ⟨_,_,hen,lvN ?_⟩
   | (refine .inl ?_;(conv=>whnf);refine ⟨_,_,hen,lvN ?_⟩)
   | refine lvE ?_
   | fail) <;> try (apply Cj.mk <;> first | exact trivial | intros))
 ·rw [if_neg he]
  repeat' ((first
   | refine lvK ?_
   | refine ⟨_,_,hen,lvN ?_⟩
   | (refine .inl ?_;(conv=>whnf);refine ⟨_,_,hen,lvN ?_⟩)
   | refine ⟨_,_,hou,lvN ?_⟩
   | (refine .inl ?_;(conv=>whnf);refine ⟨_,_,hou,lvN ?_⟩)
   | refine lvE ?_
   | fail) <;> try (apply Cj.mk <;> first | exact trivial | intros))
  refine .of (fun i=>[(8,I i),(7,Bo (g.mustR (l.take i.toNat)))]) (fun i=>[]) 2 (fun i=>0≤i∧i≤l.length) (fun i=>(l.length - i).toNat) 0 ?_
  conv=>whnf
  refine ⟨⟨[],hdA (lvL ?_) (lvL ?_)⟩,?_,fun i ⟨i0,i1⟩=>lvN ?_⟩ <;> (try (apply Cj.mk <;> first | exact trivial | intros))
  ·exact ⟨by omega,by omega⟩
  by_cases hi:i < l.length
  ·have hsu:=mustR_succ g i0 hi
   generalize g.mustR (l.take i.toNat)=m at *
   cases m with
   | true =>
    rw [Bool.true_or] at hsu
    repeat' ((first
     | refine lvK ?_
     | refine lvE ?_
     | fail) <;> try (apply Cj.mk <;> first | exact trivial | intros))
    refine ⟨i+1,⟨[],hdA (lvL ?_) (lvL ?_)⟩,?_,by (try dsimp only);omega,rfl⟩ <;> (try (apply Cj.mk <;> first | exact trivial | intros))
    ·rw [hsu]
    ·exact ⟨by omega,by omega⟩
   | false =>
    rw [Bool.false_or] at hsu
    repeat' ((first
     | refine lvK ?_
     | refine lvE ?_
     | fail) <;> try (apply Cj.mk <;> first | exact trivial | intros))
    all_goals
     refine ⟨i+1,⟨[],hdA (lvL ?_) (lvL ?_)⟩,?_,by (try dsimp only);omega,rfl⟩ <;> (try (apply Cj.mk <;> first | exact trivial | intros))
     ·rw [hsu];simp_all
     ·exact ⟨by omega,by omega⟩
  ·obtain rfl:i=l.length:=by omega
   rw [take_all (Int.le_refl _)]
   generalize g.mustR l=m at *
   have hkl':=hkl m
   repeat' ((first
    | refine lvK ?_
    | refine lvE ?_
    | fail) <;> try (apply Cj.mk <;> first | exact trivial | intros))
   refine .of (fun i=>[(9,I i),(6,.ref 2)]) (fun i=>[(2,.arr 5 ((g.keptR m (l.take i.toNat)).map Ps.av))]) 3 (fun i=>0≤i∧i≤l.length) (fun i=>(l.length - i).toNat) 0 ?_
   conv=>whnf
   refine ⟨⟨[],hdA (lvL ?_) (lvL ?_)⟩,?_,fun i ⟨j0,j1⟩=>lvN ?_⟩ <;> (try (apply Cj.mk <;> first | exact trivial | intros))
   ·exact ⟨by omega,by omega⟩
   have hkt:=keptR_len g m (l.take i.toNat)
   rw [List.length_take] at hkt
   by_cases hi:i < l.length
   ·have hsu:=keptR_succ g m j0 hi
    cases m with
    | false =>
     simp only [Bool.not_false,Bool.true_or,if_true] at hsu
     repeat' ((first
      | refine lvK ?_
      | refine ap1 (f:=Ps.av) (a:=(nth l i).p) (by decide) (by omega) rfl rfl (lvN ?_)
      | refine lvE ?_
      | fail) <;> try (apply Cj.mk <;> first | exact trivial | intros))
     refine ⟨i+1,⟨[],hdA (lvL ?_) (lvL ?_)⟩,?_,by (try dsimp only);omega,rfl⟩ <;> (try (apply Cj.mk <;> first | exact trivial | intros))
     ·rw [hsu]
     ·exact ⟨by omega,by omega⟩
    | true =>
     cases ht:(nth l i).took with
     | true =>
      simp only [Bool.not_true,Bool.false_or,ht,if_true] at hsu
      repeat' ((first
       | refine lvK ?_
       | refine ap1 (f:=Ps.av) (a:=(nth l i).p) (by decide) (by omega) rfl rfl (lvN ?_)
       | refine lvE ?_
       | fail) <;> try (apply Cj.mk <;> first | exact trivial | intros))
      all_goals (try (exfalso;simp_all;done))
      refine ⟨i+1,⟨[],hdA (lvL ?_) (lvL ?_)⟩,?_,by (try dsimp only);omega,rfl⟩ <;> (try (apply Cj.mk <;> first | exact trivial | intros))
      ·rw [hsu]
      ·exact ⟨by omega,by omega⟩
     | false =>
      simp only [Bool.not_true,Bool.false_or,ht,Bool.false_eq_true,if_false,List.append_nil] at hsu
      repeat' ((first
       | refine lvK ?_
       | refine ap1 (f:=Ps.av) (a:=(nth l i).p) (by decide) (by omega) rfl rfl (lvN ?_)
       | refine lvE ?_
       | fail) <;> try (apply Cj.mk <;> first | exact trivial | intros))
      all_goals (try (exfalso;simp_all;done))
      refine ⟨i+1,⟨[],hdA (lvL ?_) (lvL ?_)⟩,?_,by (try dsimp only);omega,rfl⟩ <;> (try (apply Cj.mk <;> first | exact trivial | intros))
      ·rw [hsu]
      ·exact ⟨by omega,by omega⟩
   ·obtain rfl:i=l.length:=by omega
    rw [take_all (Int.le_refl _)]
    cases m with
    | true =>
     rw [if_pos rfl,List.append_nil] at hsort ⊢
     repeat' ((first
      | refine lvK ?_
      | (refine .inr (.inl ?_);(conv=>whnf);refine ⟨_,_,hsort,lvN ?_⟩)
      | refine lvE ?_
      | fail) <;> try (apply Cj.mk <;> first | exact trivial | intros))
    | false =>
     rw [if_neg (by decide)] at hsort ⊢
     repeat' ((first
      | refine lvK ?_
      | refine ⟨_,_,hdr,lvN ?_⟩
      | (refine .inl ?_;(conv=>whnf);refine ⟨_,_,hdr,lvN ?_⟩)
      | (refine .inr (.inl ?_);(conv=>whnf);refine ⟨_,_,hsort,lvN ?_⟩)
      | refine lvE ?_
      | fail) <;> try (apply Cj.mk <;> first | exact trivial | intros))
def Gm.walkR (g:Gm):List Int→Ps→List Ps
 | [],_=>[]
 | x :: r,p=>if (g.movesR p).length=0 then [] else nth (g.movesR p) (x % (g.movesR p).length) :: g.walkR r (nth (g.movesR p) (x % (g.movesR p).length))
theorem walkR_end {g:Gm} {x:Int} {r:List Int} {p:Ps} (h:(g.movesR p).length=0):g.walkR (x :: r) p=[]:=if_pos h
theorem walkR_go {g:Gm} {x:Int} {r:List Int} {p:Ps} (h:¬ (g.movesR p).length=0):g.walkR (x :: r) p=nth (g.movesR p) (x % (g.movesR p).length) :: g.walkR r (nth (g.movesR p) (x % (g.movesR p).length)):=if_neg h
theorem walkR_ok {g:Gm} (hg:g.ok):∀ (l:List Int) {p:Ps},p.ok g→∀ q,q∈g.walkR l p→q.ok g
 | [],p,_,q,hq=>by simp [Gm.walkR] at hq
 | x :: r,p,h,q,hq=>by
  by_cases hm:(g.movesR p).length=0
  ·rw [walkR_end hm] at hq;simp at hq
  ·rw [walkR_go hm] at hq
   have m0:=Int.emod_nonneg x (show ((g.movesR p).length:Int)≠0 by omega)
   have m1:=Int.emod_lt_of_pos x (show 0 < ((g.movesR p).length:Int) by omega)
   have hk:=movesR_ok hg h (nth_mem m0 m1)
   rcases List.mem_cons.1 hq with rfl | hq
   ·exact hk
   ·exact walkR_ok hg r hk q hq
theorem walkR_len (g:Gm):∀ (l:List Int) (p:Ps),(g.walkR l p).length≤l.length
 | [],p=>by simp [Gm.walkR]
 | x :: r,p=>by
  by_cases hm:(g.movesR p).length=0
  ·rw [walkR_end hm];simp
  ·rw [walkR_go hm]
   have:=walkR_len g r (nth (g.movesR p) (x % (g.movesR p).length))
   simp only [List.length_cons];omega
theorem tmod_fix {x n:Int} (hn:0 < n):-n < x.tmod n∧x.tmod n < n∧(x.tmod n < 0→x.tmod n+n=x % n)∧(¬ x.tmod n < 0→x.tmod n=x % n):=by
 have h1:=Int.emod_nonneg x (show n≠0 by omega)
 have h2:=Int.emod_lt_of_pos x hn
 have h3:=Int.tmod_eq_emod (a:=x) (b:=n)
 have h4:(n.natAbs:Int)=n:=by omega
 split at h3
 ·omega
 ·omega
theorem movesR_len {g:Gm} (hg:g.ok) {p:Ps} (h:p.ok g):(g.movesR p).length≤3099363966:=by
 have h1:=outsR_len hg h
 have h2:=dropsL_len hg p
 have h3:=canon_len (c:=cmpP) (g.dropsL p)
 have h4:=keptR_len g (g.mustR (g.outsR p)) (g.outsR p)
 unfold Gm.movesR
 split
 ·simp
 ·refine Nat.le_trans (canon_len _) ?_
  rw [List.length_append]
  split
  ·simp only [List.length_nil];omega
  ·omega
structure WkS where
 i:Int
 p:Ps
 out:List Ps
instance:Inhabited WkS:=⟨⟨0,default,[]⟩⟩
set_option maxHeartbeats 4000000 in
set_option maxRecDepth 10000 in
theorem Walk6_p (g:Gm) (hg:g.ok) (p:Ps) (h:p.ok g) (l:List Int) (hl:l.length≤34359738000):Pure Try.prog 16 [g.av,p.av,Is l] (Pss (p :: g.walkR l p)) none:=by
 have hint:OwnHint:=⟨⟩
 have el:(l.map I).length=l.length:=List.length_map _
 refine fun_of tok D_ok Try.func16 rfl Try.ntmps16 Try.results16 (by kernel_rfl) (by simp) (by simp) ?_
 conv=>whnf
 repeat' ((first
  | refine lvK ?_
  | refine lvE ?_
  | fail) <;> try (apply Cj.mk <;> first | exact trivial | intros))
 refine .of (fun (s:WkS)=>[(8,I s.i),(7,.ref 2)]) (fun (s:WkS)=>[(1,.box [Is s.p.ct,Is s.p.h0,Is s.p.h1,I s.p.rights,I s.p.side]),(2,.arr 5 (s.out.map Ps.av))]) 3 (fun (s:WkS)=>0≤s.i∧s.i≤l.length∧s.out.length≤s.i+1∧s.p.ok g∧s.out++g.walkR (l.drop s.i.toNat) s.p=p :: g.walkR l p) (fun (s:WkS)=>(l.length - s.i).toNat) (⟨0,p,[p]⟩:WkS) ?_
 conv=>whnf
 refine ⟨⟨[],hdA (lvL ?_) (lvL ?_)⟩,?_,fun (s:WkS) ⟨i0,i1,ol,hp,hs⟩=>lvN ?_⟩ <;> (try (apply Cj.mk <;> first | exact trivial | intros))
 ·exact ⟨by simp,by simp,by simp,h,by simp⟩
 obtain ⟨i,q,out⟩:=s
 dsimp only at *
 have hm:=Moves6_p g hg q hp
 have hml:=movesR_len hg hp
 by_cases hi:i < l.length
 ·rw [drop_nth i0 hi] at hs
  have eml:((g.movesR q).map Ps.av).length=(g.movesR q).length:=List.length_map _
  by_cases hz:(g.movesR q).length=0
  ·rw [walkR_end hz,List.append_nil] at hs
   repeat' ((first
    | refine lvK ?_
    | refine ⟨_,_,hm,lvN ?_⟩
    | (refine .inl ?_;(conv=>whnf);refine ⟨_,_,hm,lvN ?_⟩)
    | refine lvE ?_
    | fail) <;> try (apply Cj.mk <;> first | exact trivial | intros))
   ·rw [hs]
  ·rw [walkR_go hz] at hs
   have m0:=Int.emod_nonneg (nth l i) (show ((g.movesR q).length:Int)≠0 by omega)
   have m1:=Int.emod_lt_of_pos (nth l i) (show 0 < ((g.movesR q).length:Int) by omega)
   have hk:=movesR_ok hg hp (nth_mem m0 m1)
   obtain ⟨t1,t2,t3,t4⟩:=tmod_fix (x:=nth l i) (n:=(g.movesR q).length) (by omega)
   generalize g.movesR q=mv at *
   repeat' ((first
    | refine lvK ?_
    | refine ⟨_,_,hm,lvN ?_⟩
    | (refine .inl ?_;(conv=>whnf);refine ⟨_,_,hm,lvN ?_⟩)
    | refine lvE ?_
    | fail) <;> try (apply Cj.mk <;> first | exact trivial | intros))
   refine And.intro (by omega) (Calc.mk _ rfl ?_)
   rw [eml]
   generalize (nth l i).tmod mv.length=t at *
   by_cases ht:t < 0
   ·have t5:=t3 ht
    have hix:t+((mv.map Ps.av).length:Int)=nth l i % mv.length:=by rw [eml];exact t5
    repeat' ((first
     | refine lvK ?_
     | refine ap1 (f:=Ps.av) (a:=(nth mv (t+((mv.map Ps.av).length:Int)))) (by decide) (by omega) rfl rfl (lvN ?_)
     | refine lvE ?_
     | fail) <;> try (apply Cj.mk <;> first | exact trivial | intros))
    refine ⟨(⟨i+1,nth mv (t+((mv.map Ps.av).length:Int)),out++[nth mv (t+((mv.map Ps.av).length:Int))]⟩:WkS),⟨[],hdA (lvL ?_) (lvL ?_)⟩,?_,by (try dsimp only);omega,rfl⟩ <;> (try (apply Cj.mk <;> first | exact trivial | intros))
    ·dsimp only
     rw [hix]
     refine ⟨by omega,by omega,?_,hk,?_⟩
     ·rw [List.length_append,List.length_singleton];omega
     ·rw [← hs,List.append_assoc];rfl
   ·have t5:=t4 ht
    have hix:t=nth l i % mv.length:=by exact t5
    repeat' ((first
     | refine lvK ?_
     | refine ap1 (f:=Ps.av) (a:=(nth mv (t))) (by decide) (by omega) rfl rfl (lvN ?_)
     | refine lvE ?_
     | fail) <;> try (apply Cj.mk <;> first | exact trivial | intros))
    refine ⟨(⟨i+1,nth mv (t),out++[nth mv (t)]⟩:WkS),⟨[],hdA (lvL ?_) (lvL ?_)⟩,?_,by (try dsimp only);omega,rfl⟩ <;> (try (apply Cj.mk <;> first | exact trivial | intros))
    ·dsimp only
     rw [hix]
     refine ⟨by omega,by omega,?_,hk,?_⟩
     ·rw [List.length_append,List.length_singleton];omega
     ·rw [← hs,List.append_assoc];rfl
 ·obtain rfl:i=l.length:=by omega
  rw [drop_all (Int.le_refl _)] at hs
  rw [show g.walkR [] q=[] from rfl,List.append_nil] at hs
  rw [← hs]
  repeat' ((first
   | refine lvK ?_
   | refine lvE ?_
   | fail) <;> try (apply Cj.mk <;> first | exact trivial | intros))
end Go.Proofs.Ytejljpjdifblpaa
