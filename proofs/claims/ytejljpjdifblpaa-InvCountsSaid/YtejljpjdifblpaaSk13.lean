/- A checker of Go functions by conditions over small pure states: part 14. -/
import Derived.Test.YtejljpjdifblpaaSk12
set_option linter.unusedVariables false
set_option linter.unusedSimpArgs false
namespace Go.Sk
open Go.RowKit
def resOf (T:TypeId→Option TI) (σ:St):ResultVar→Option AV
 | .tmp t=>σ.get t
 | .cell t ty=>match σ.get t,T ty with
  | some (.ptr id j),some i=>match σ.obj id with
   | some (.box cs)=>partA (cs.drop j) i 0
   | _=>none
  | _,_=>none
def resL (T:TypeId→Option TI) (σ:St):List ResultVar→Option (List AV)
 | []=>some []
 | r :: rs=>match resOf T σ r,resL T σ rs with | some y,some ys=>some (y :: ys) | _,_=>none
def resAll (T:TypeId→Option TI) (σ:St) (rs:List ResultVar):Option AV :=
 match resL T σ rs with
 | some [y]=>some y
 | some ys=>some (.tup ys)
 | none=>none
def numO:Nat→List AO→List (Nat × AO)
 | _,[]=>[]
 | i,o :: r=>(i,o) :: numO (i+1) r
def exitSt (σ:St) (y:AV):St:={ tmps:=[(0,y)],objs:=σ.objs,next:=σ.next,size:=1,par:=σ.par }
def goalSt (m:List Nat) (x:AV) (os':List AO):St:={ tmps:=[(0,x)],objs:=numO 0 os',next:=os'.length,size:=1,par:=m }
def exitOK (T:TypeId→Option TI) (rs:List ResultVar) (x:AV) (os':List AO) (e:Exit) (σ:St):Prop :=
 match e with
 | .normal | .ret=>match resAll T σ rs with
  | some y=>∃ bs,backK bs (exitSt σ y) fun σ'=>∃ ss,LeS σ' ss (goalSt σ.par x os')
  | none=>False
 | _=>False
def initT:Nat→List AV→List (Nat × AV)
 | _,[]=>[]
 | i,x :: r=>(i,x) :: initT (i+1) r
def initSt (os:List AO) (args:List AV) (n:Nat):St:={ tmps:=initT 0 args,objs:=numO 0 os,next:=os.length,size:=n,par:=upTo os.length [] }
section
variable {P:Program} {T:TypeId→Option TI} {N0:Nat→Prop} {base:Nat} {w0:W0}
theorem initT_get:∀ {args:List AV} {i t:Nat} {x:AV},look (initT i args) t=some x→i≤t∧args[t - i]?=some x
 | [],i,t,x,h=>by simp [initT,look] at h
 | y :: r,i,t,x,h=>by
  unfold initT look at h
  split at h
  ·rename_i e;subst e;injection h with h;subst h;simp
  ·obtain ⟨h1,h2⟩:=initT_get h
   refine ⟨by omega,?_⟩
   rw [show t - i=(t - (i+1))+1 by omega,List.getElem?_cons_succ];exact h2
theorem numO_get:∀ {os:List AO} {i j:Nat},look (numO i os) j=if i≤j then os[j - i]? else none
 | [],i,j=>by simp [numO,look]
 | o :: r,i,j=>by
  unfold numO look
  rw [numO_get (os:=r) (i:=i+1) (j:=j)]
  by_cases h1:i=j
  ·subst h1;simp
  ·rw [if_neg h1]
   by_cases h2:i≤j
   ·rw [if_pos h2,if_pos (by omega),show j - i=(j - (i+1))+1 by omega,List.getElem?_cons_succ]
   ·rw [if_neg h2,if_neg (by omega)]
theorem numO_obj (os:List AO):(fun j=>look (numO 0 os) j)=obL os:=by
 funext j
 rw [numO_get]
 simp [obL]
theorem resOf_run (hT:TOK P T) {V:VV} {σ:St} {a:Act} {w:World} (h:Rel N0 base w0 σ.size V σ.get σ.obj (fun i=>i < σ.next) a w) {r:ResultVar} {y:AV} (hy:resOf T σ r=some y) :
  ∃ v,((match r with
   | .tmp t=>pure (a.tmps.getD t Go.undef)
   | .cell t ty=>do loadVar ty (← asAddr (a.tmps.getD t Go.undef)):Sem Value)).run P w=.ok v w∧RepT (Nf N0 base V σ.obj) w V y v∧bd (fun i=>i < σ.next) y:=by
 unfold resOf at hy
 split at hy
 ·rename_i t
  exact ⟨_,rfl,h.tm t y hy,h.bdt t y hy⟩
 ·rename_i t ty
  split at hy
  ·rename_i id j i hg hi
   split at hy
   ·rename_i cs hob
    obtain ⟨cs',hK,hsound⟩:=atPtr_sound (ob:=σ.obj) (p:=.ptr id j) (K:=fun c=>c=cs.drop j) (by unfold atPtr;simp only [hob])
    subst hK
    have hrt:=h.tm t _ hg
    obtain ⟨h1,h2⟩:=hsound (A:=fun i=>i < σ.next) hrt (fun i u hu=>⟨h.obs i u hu,h.bdo i u hu⟩)
    obtain ⟨u,h3,h4⟩:=h1.load hT hi hy
    obtain ⟨b,o',hv,_⟩:=h1
    refine ⟨u,?_,h4,bd_part h2 hy⟩
    simp only [hv,Instr.loadAt,Instr.sureAddr,Sem.run_bind,Sem.run_pure,Result.andThen_ok] at h3
    simp only [hv,asAddr,Sem.run_bind,Sem.run_pure,Result.andThen_ok,h3]
   ·cases hy
  ·cases hy
theorem resL_run (hT:TOK P T) {V:VV} {σ:St} {a:Act} {w:World} (h:Rel N0 base w0 σ.size V σ.get σ.obj (fun i=>i < σ.next) a w):∀ {rs:List ResultVar} {ys:List AV},resL T σ rs=some ys →
  ∃ vs:List Value,(rs.mapM fun r=>(match r with
   | .tmp t=>pure (a.tmps.getD t Go.undef)
   | .cell t ty=>do loadVar ty (← asAddr (a.tmps.getD t Go.undef)):Sem Value)).run P w=.ok vs w∧vs.length=ys.length∧(∀ (j:Nat) (h1:j < ys.length) (h2:j < vs.length),RepT (Nf N0 base V σ.obj) w V ys[j] vs[j])∧bdL (fun i=>i < σ.next) ys
 | [],ys,hy=>by
  simp [resL] at hy;subst hy
  exact ⟨[],rfl,rfl,fun j h1=>by simp at h1,by simp [bdL]⟩
 | r :: rs,ys,hy=>by
  unfold resL at hy
  split at hy
  ·rename_i y ys' h1 h2
   injection hy with hy;subst hy
   obtain ⟨v,q1,q2,q3⟩:=resOf_run hT h h1
   obtain ⟨vs,q4,q5,q6,q7⟩:=resL_run hT h h2
   refine ⟨v :: vs,?_,by simp [q5],fun j h3 h4=>?_,by simp only [bdL];exact ⟨q3,q7⟩⟩
   ·rw [List.mapM_cons,Sem.run_bind,q1]
    simp only [Result.andThen_ok,Sem.run_bind,q4,Sem.run_pure]
   ·cases j with
    | zero=>exact q2
    | succ j=>exact q6 j (Nat.lt_of_succ_lt_succ h3) (Nat.lt_of_succ_lt_succ h4)
  ·cases hy
theorem resAll_run (hT:TOK P T) {V:VV} {σ:St} {a:Act} {w:World} (h:Rel N0 base w0 σ.size V σ.get σ.obj (fun i=>i < σ.next) a w) {fn:Func} {y:AV} (hy:resAll T σ fn.results.toList=some y) :
  ∃ v,(results fn a.tmps).run P w=.ok v w∧RepT (Nf N0 base V σ.obj) w V y v∧bd (fun i=>i < σ.next) y:=by
 unfold resAll at hy
 have key:∀ ys,resL T σ fn.results.toList=some ys→∃ vs:List Value,(fn.results.mapM fun r=>(match r with
   | .tmp t=>pure (a.tmps.getD t Go.undef)
   | .cell t ty=>do loadVar ty (← asAddr (a.tmps.getD t Go.undef)):Sem Value)).run P w=.ok vs.toArray w∧vs.length=ys.length∧(∀ (j:Nat) (h1:j < ys.length) (h2:j < vs.length),RepT (Nf N0 base V σ.obj) w V ys[j] vs[j])∧bdL (fun i=>i < σ.next) ys:=fun ys hys=>by
  obtain ⟨vs,h1,h2,h3,h4⟩:=resL_run hT h hys
  refine ⟨vs,?_,h2,h3,h4⟩
  rw [Array.mapM_eq_mapM_toList]
  simp only [Sem.run_map,h1,Result.andThen_ok]
 split at hy
 ·rename_i y' hys
  injection hy with hy;subst hy
  obtain ⟨vs,h1,h2,h3,h4⟩:=key _ hys
  obtain ⟨v,rfl⟩:∃ v,vs=[v]:=List.length_eq_one_iff.1 (by simpa using h2)
  refine ⟨v,?_,h3 0 (by simp) (by simp),by simpa [bdL] using h4⟩
  unfold results
  rw [Sem.run_bind]
  erw [h1]
  simp
 ·rename_i ys hne hys
  injection hy with hy;subst hy
  obtain ⟨vs,h1,h2,h3,h4⟩:=key _ hys
  refine ⟨.tuple vs.toArray,?_,.tup ys vs.toArray (by simpa using h2) (fun j h5 h6=>by simpa using h3 j h5 (by simpa using h6)),by unfold bd;exact h4⟩
  unfold results
  rw [Sem.run_bind]
  erw [h1]
  have hl:¬ vs.toArray.size=1:=by
   intro h5
   simp at h5
   rw [h2] at h5
   obtain ⟨y0,rfl⟩:=List.length_eq_one_iff.1 h5
   exact hne y0 rfl
  simp only [Result.andThen_ok,hl,dite_false,Sem.run_pure]
 ·cases hy
theorem leaves_marks {fn:Func} {tmps:Array Value} {R:Ending→World→Prop}:∀ (Ds:List Nat) (w:World),Ds.Nodup→(∀ D,D∈Ds→w.heap[D]?=some (.deferred (some []))) →
  (∀ w2:World,w2.heap.size=w.heap.size→(∀ b,b ∉ Ds→w2.heap[b]?=w.heap[b]?)→w2.os=w.os→w2.tape=w.tape→Outp w w2→∃ v,(results fn tmps).run P w2=.ok v w2∧R (.returned v) w2) →
  LeavesInM (WR none) 0 P fn tmps R (Ds.map markOf) .returning w
 | [],w,_,_,h=>h w rfl (fun _ _=>rfl) rfl rfl (.refl _)
 | D :: Ds,w,hn,hh,h=>by
  rw [List.nodup_cons] at hn
  refine ⟨by simp,.inl ⟨D,w.putObj D (.deferred none),rfl,run_takeDeferred (hh D (by simp)),leaves_marks Ds _ hn.2 (fun E hE=>(World.putObj_heap_other (fun e:E=D=>hn.1 (e ▸ hE))).trans (hh E (by simp [hE]))) fun w2 h1 h2 h3 h4 h5=>?_⟩⟩
  exact h w2 (h1.trans World.putObj_size) (fun b hb=>by
   rw [List.mem_cons,not_or] at hb
   exact (h2 b hb.2).trans (World.putObj_heap_other hb.1)) h3 h4 ⟨h5.eq,h5.le⟩
def exitX (T:TypeId→Option TI) (rs:List ResultVar) (Ψ:AV→List AO→Prop) (n:Nat) (e:Exit) (σ:St):Prop:=∃ x os',Ψ x os'∧n≤os'.length∧exitOK T rs x os' e σ
def mvA (id n:Nat):AV→AV
 | .ref i=>match Nat.beq i id with
  | true=>.ref n
  | false=>.ref i
 | x=>x
def mvT (id n:Nat):List (Nat × AV)→List (Nat × AV)
 | []=>[]
 | (t,x) :: r=>(t,mvA id n x) :: mvT id n r
def mvL (id n:Nat):List AV→List AV
 | []=>[]
 | x :: r=>mvA id n x :: mvL id n r
def mvO (id n:Nat):AO→AO
 | .box cs=>.box (mvL id n cs)
 | o=>o
def mvOs (id n:Nat):List (Nat × AO)→List (Nat × AO)
 | []=>[]
 | (t,x) :: r=>(t,mvO id n x) :: mvOs id n r
theorem mvL_get {id n:Nat}:∀ {l:List AV} {j:Nat},(mvL id n l)[j]?=(l[j]?).map (mvA id n)
 | [],j=>by simp [mvL]
 | x :: r,0=>rfl
 | x :: r,j+1=>by simpa [mvL] using mvL_get (l:=r) (j:=j)
theorem mvL_len {id n:Nat}:∀ {l:List AV},(mvL id n l).length=l.length
 | []=>rfl
 | x :: r=>by simp [mvL,mvL_len (l:=r)]
theorem look_mvOs {id n:Nat}:∀ {l:List (Nat × AO)} {t:Nat},look (mvOs id n l) t=(look l t).map (mvO id n)
 | [],t=>rfl
 | (u,x) :: r,t=>by
  unfold mvOs look
  split
  ·rfl
  ·exact look_mvOs
theorem mvO_live {id n:Nat} (o:AO):(mvO id n o).live=o.live:=by cases o <;> rfl
def St.mv (σ:St) (id k:Nat) (xs:List AV):St:={ tmps:=mvT id σ.next σ.tmps,objs:=(σ.next,.arr k xs) :: (id,.dead) :: mvOs id σ.next σ.objs,next:=σ.next+1,size:=σ.size,par:=σ.par }
theorem look_mvT {id n:Nat}:∀ {l:List (Nat × AV)} {t:Nat},look (mvT id n l) t=(look l t).map (mvA id n)
 | [],t=>rfl
 | (u,x) :: r,t=>by
  unfold mvT look
  split
  ·rfl
  ·exact look_mvT
theorem RS.mv {σ:St} {a:Act} {w:World} (hr:RS N0 base w0 σ a w) {id k:Nat} {xs:List AV} (hob:σ.obj id=some (.arr k xs)):RS N0 base w0 (σ.mv id k xs) a w:=by
 obtain ⟨hp,V,hV⟩:=hr
 obtain ⟨h0,h00⟩:=hV.obs id _ hob
 have hid:=(hV.bdo id _ hob).1
 have h:=hV.replace (w':=w) (n:=σ.next) (o':=.arr k xs) (v:=V id) hob rfl (Nat.lt_irrefl _) (Nat.le_refl _) (fun _ _ _=>rfl) rfl rfl (.refl _) (fun b hb=>.inl ((h0 b).2 hb))
  (fun hN=>⟨fun b=>by rw [updV_same,updV_f],by rw [updV_same];exact h00.mono hN fun _ _=>rfl⟩) trivial
 obtain ⟨ob,hob2⟩:∃ ob,ob=updP σ.obj id .dead σ.next (.arr k xs):=⟨_,rfl⟩
 rw [← hob2] at h
 have hobj:(σ.mv id k xs).obj=fun i=>(ob i).map (mvO id σ.next):=by
  funext i
  simp only [hob2,St.obj,St.mv,look,look_mvOs,updP,updO]
  by_cases h1:σ.next=i
  ·subst h1;simp [mvO]
  ·have h1':¬ i=σ.next:=fun e=>h1 e.symm
   by_cases h2:id=i
   ·subst h2;simp [h1,h1',mvO]
   ·have h2':¬ i=id:=fun e=>h2 e.symm
    simp [h1,h1',h2,h2']
 have hnx:(fun i=>i < (σ.mv id k xs).next)=addA (fun i=>i < σ.next) σ.next:=by
  funext i
  simp only [St.mv,addA]
  exact propext (by omega)
 refine ⟨hp,updV V σ.next (V id),?_⟩
 rw [hobj,hnx]
 have hg:∀ t x,(σ.mv id k xs).get t=some x→∃ y,σ.get t=some y∧x=mvA id σ.next y:=fun t x hx=>by
  unfold St.get St.mv at hx
  rw [look_mvT] at hx
  cases hy:look σ.tmps t with
  | none=>rw [hy] at hx;cases hx
  | some y=>rw [hy] at hx;injection hx with hx;exact ⟨y,hy,hx.symm⟩
 have hmv:∀ {N:Nat→Prop} {y:AV} {v:Value},RepT N w (updV V σ.next (V id)) y v→bd (addA (fun i=>i < σ.next) σ.next) y→RepT N w (updV V σ.next (V id)) (mvA id σ.next y) v∧bd (addA (fun i=>i < σ.next) σ.next) (mvA id σ.next y):=fun {N y v} hr hb=>by
  unfold mvA
  split
  ·rename_i i
   split
   ·rename_i hi
    have:=Nat.eq_of_beq_eq_true hi
    subst this
    cases hr with
    | im h=>cases h
    | ref _ ho =>
     refine ⟨?_,by unfold bd;exact .inr rfl⟩
     have e:(updV V σ.next (V i)) i=V i:=updV_ne _ _ _ (by omega)
     rw [e] at ho ⊢
     have:=RepT.ref (N:=N) (w:=w) (V:=updV V σ.next (V i)) σ.next (by rw [updV_same];exact ho)
     rwa [updV_same] at this
   ·exact ⟨hr,hb⟩
  ·exact ⟨hr,hb⟩
 have hlive:∀ i,live (fun i=>(ob i).map (mvO id σ.next)) i↔live ob i:=fun i=>by
  unfold live
  constructor
  ·rintro ⟨o,h1,h2⟩
   cases h3:ob i with
   | none=>simp [h3] at h1
   | some o1 =>
    simp [h3] at h1
    subst h1
    exact ⟨o1,rfl,by rwa [mvO_live] at h2⟩
  ·rintro ⟨o,h1,h2⟩
   exact ⟨mvO id σ.next o,by simp [h1],by rwa [mvO_live]⟩
 have hNf:Nf N0 base (updV V σ.next (V id)) (fun i=>(ob i).map (mvO id σ.next))=Nf N0 base (updV V σ.next (V id)) ob:=by
  funext b
  unfold Nf
  simp only [hlive]
 have hget:∀ {i:Nat} {o:AO},(fun i=>(ob i).map (mvO id σ.next)) i=some o→∃ o1,ob i=some o1∧o=mvO id σ.next o1:=fun {i o} h1=>by
  cases h3:ob i with
  | none=>simp [h3] at h1
  | some o1=>simp [h3] at h1;exact ⟨o1,rfl,h1.symm⟩
 exact { h with
  tm:=fun t x hx=>by
   obtain ⟨y,h1,rfl⟩:=hg t x hx
   rw [hNf]
   exact (hmv (h.tm t y h1) (h.bdt t y h1)).1
  obs:=fun i o ho=>by
   obtain ⟨o1,h1,rfl⟩:=hget ho
   rw [hNf]
   have h2:=h.obs i o1 h1
   cases o1 with
   | box cs =>
    obtain ⟨q0,b,arr,T,q1,q2,q3,q4⟩:=h2
    refine ⟨q0,b,arr,T,q1,q2,by rw [mvL_len];exact q3,fun j c hj=>?_⟩
    rw [mvL_get] at hj
    cases hc:cs[j]? with
    | none=>rw [hc] at hj;cases hj
    | some y =>
     rw [hc] at hj
     injection hj with hj
     subst hj
     obtain ⟨u,r1,r2,r3⟩:=q4 j y hc
     exact ⟨u,r1,(hmv r2 (bdL_get (h.bdo i _ h1).2 hc)).1,r3⟩
   | _=>exact h2
  inj:=fun i j b h1 h2=>h.inj i j b ((hlive i).1 h1) ((hlive j).1 h2)
  low:=fun i b h1=>h.low i b ((hlive i).1 h1)
  bdo:=fun i o ho=>by
   obtain ⟨o1,h1,rfl⟩:=hget ho
   have h2:=h.bdo i o1 h1
   refine ⟨h2.1,?_⟩
   cases o1 with
   | box cs =>
    refine bdL_iff.2 fun x hx=>?_
    obtain ⟨j,hj⟩:=List.mem_iff_getElem?.1 hx
    rw [mvL_get] at hj
    cases hc:cs[j]? with
    | none=>rw [hc] at hj;cases hj
    | some y =>
     rw [hc] at hj
     injection hj with hj
     subst hj
     have hby:=bdL_get h2.2 hc
     unfold mvA
     split
     ·split
      ·unfold bd;exact .inr rfl
      ·exact hby
     ·exact hby
   | _=>exact h2.2
  bdt:=fun t x hx=>by
   obtain ⟨y,h1,rfl⟩:=hg t x hx
   exact (hmv (h.tm t y h1) (h.bdt t y h1)).2 }
def mvAll:List Nat→St→(St→Prop)→Prop
 | [],σ,K=>K σ
 | id :: r,σ,K=>match σ.obj id with
  | some (.arr k xs)=>mvAll r (σ.mv id k xs) K
  | _=>False
theorem mvAll_elim:∀ {ids:List Nat} {σ:St} {K:St→Prop} {a:Act} {w:World},mvAll ids σ K→RS N0 base w0 σ a w→∃ σ',K σ'∧RS N0 base w0 σ' a w
 | [],σ,K,a,w,h,hr=>⟨σ,h,hr⟩
 | id :: r,σ,K,a,w,h,hr=>by
  unfold mvAll at h
  split at h
  ·rename_i k xs hob
   exact mvAll_elim h (hr.mv hob)
  ·exact h.elim
theorem funx_of_vc (hT:TOK P T) {D:Draw} (hD:DOK P D) {f:FuncId} {fn:Func} {c:Code} (hf:P.funcs[f]?=some fn) (hb:fn.body=some c) (hname:(fn.name == "runtime.NumGoroutine")=false) {os:List AO} {args:List AV}
  (hn:args.length≤fn.ntmps) {Ψ:AV→List AO→Prop} (ids:List Nat) (h:mvAll ids (initSt os args fn.ntmps) fun σ=>vcC P T D c σ (exitX T fn.results.toList Ψ os.length)):FunX P f os args Ψ:=by
 refine ⟨⟨fn,hf,by rw [hb];rfl,hname⟩,fun N w V vs hs hown hrep hbd=>?_⟩
 refine (calls_WR (r:=none) (n:=0)).1 (callsIn_of_wp_marks hf hb trivial ?_)
 have hobj:(initSt os args fn.ntmps).obj=obL os:=numO_obj os
 have hNN:∀ b,N b→Nf (fun b=>N b∨foot V (obL os) b) w.heap.size V (obL os) b:=fun b hN=>⟨fun _=>.inl hN,fun i hl hb=>(hown.low i b hl hb).2 hN⟩
 have hinit:RS (fun b=>N b∨foot V (obL os) b) w.heap.size { w:=w,f:=foot V (obL os),m:=upTo os.length [],v:=V.v } (initSt os args fn.ntmps) { tmps:=vs++Array.replicate (fn.ntmps - vs.size) Go.undef,defers:=[] } w:=by
  refine ⟨rfl,V,?_⟩
  rw [hobj]
  refine ⟨fun t x hx=>?_,fun i o ho=>?_,hown.inj,fun i b hl hb=>⟨.inr ⟨⟨i,hl,hb⟩,.inr ⟨i,hl,hb⟩⟩,(hown.low i b hl hb).1⟩,fun t x hx=>?_,hown.bdo,⟨rfl,rfl,.refl _,Nat.le_refl _,fun _ _ _=>rfl⟩,Nat.le_refl _,rfl,?_,fun i hi=>⟨(upTo_lt hi).resolve_right (by simp),rfl⟩⟩
  ·obtain ⟨_,h2⟩:=initT_get hx
   rw [Nat.sub_zero] at h2
   obtain ⟨h3,h4⟩:=List.getElem?_eq_some_iff.1 h2
   have h5:t < vs.size:=by omega
   have:=hrep t h3 h5
   rw [h4] at this
   have hget:(vs++Array.replicate (fn.ntmps - vs.size) Go.undef).getD t Go.undef=vs[t]:=by
    simp [Array.getElem?_append_left h5,h5]
   rw [hget]
   exact this.mono (A:=ltA os.length) (fun b hN _=>⟨hNN b hN,rfl⟩) (fun _ _=>rfl) (h4 ▸ bdL_iff.1 hbd _ (List.getElem_mem h3))
  ·exact (hown.obs i o ho).mono (A:=ltA os.length) (fun b hN _=>⟨hNN b hN,rfl⟩) (Nat.le_refl _) (fun _ _=>rfl) (fun _=>Iff.rfl) (hown.bdo i o ho).1 (fun _ _ _=>rfl) (hown.bdo i o ho).2
  ·obtain ⟨_,h2⟩:=initT_get hx
   exact bdL_iff.1 hbd _ (List.mem_of_getElem? h2)
  ·simp [initSt];omega
 obtain ⟨σ0,h,hinit⟩:=mvAll_elim h hinit
 have hX:RSX (fun b=>N b∨foot V (obL os) b) w.heap.size { w:=w,f:=foot V (obL os),m:=upTo os.length [],v:=V.v } σ0 { tmps:=vs++Array.replicate (fn.ntmps - vs.size) Go.undef,defers:=[] } w :=
  ⟨_,_,_,Ext.refl (Nat.le_refl _) (fun b hb=>.inr ⟨hb,.inr hb⟩),hinit⟩
 refine wpIn_mono (vcC_sound hT hD c h (fun l hl=>by cases hl) hX) fun e a w' ⟨σ,⟨x,os',hΨ,hle,h1⟩,N1,b1,w1,hx,hp,V1,hV1⟩=>?_
 have fin:(match resAll T σ fn.results.toList with | some y=>∃ bs,backK bs (exitSt σ y) fun σ'=>∃ ss,LeS σ' ss (goalSt σ.par x os') | none=>False)→LeavesInM (WR none) 0 P fn a.tmps (fun e w'=>∃ v x os',Ψ x os'∧os.length≤os'.length∧e=.returned v∧Frm w.heap.size { w:=w,f:=foot V (obL os) } w'∧Outc N w V os w' x os' v) a.defers .returning w':=by
  intro h1
  obtain ⟨Ds,d1,d2,d3⟩:=hx.ds
  have d4:a.defers=Ds.map markOf:=by rw [hV1.dfr,d1];simp
  rw [d4]
  refine leaves_marks Ds w' d2 (fun D hD=>?_) fun w2 k1 k2 k3 k4 k5=>?_
  ·obtain ⟨p1,p2,p3,p4,p5⟩:=d3 D hD
   exact (hV1.bel.block D p2 p4).trans p5
  have hV:=hV1.settle hx (w2:=w2) (Nat.le_of_eq k1.symm) (fun b hb hh=>k2 b fun hD=>by
    obtain ⟨p1,p2,p3,p4,p5⟩:=d3 b hD
    rcases hh with q | q | q
    ·exact p3 (q p2)
    ·omega
    ·exact p4 q) (fun b hb _=>k2 b fun hD=>by have:=(d3 b hD).1;omega) k3 k4 k5
  split at h1
  ·rename_i y hy
   obtain ⟨v,h2,h3,h4⟩:=resAll_run hT hV hy
   refine ⟨v,h2,v,x,os',hΨ,hle,rfl,⟨hV.bel.os,hV.bel.tape,hV.bel.output,hV.bel.size,hV.bel.block⟩,?_⟩
   have hp':({ w:=w,f:=foot V (obL os),m:=upTo os.length [],v:=V.v }:W0).m=(exitSt σ y).par:=hx.m.symm.trans hp
   have hE:RS (fun b=>N b∨foot V (obL os) b) w.heap.size { w:=w,f:=foot V (obL os),m:=upTo os.length [],v:=V.v } (exitSt σ y) { tmps:=#[v],defers:=[] } w2:=by
    refine ⟨hp',V1,⟨fun t x hx=>?_,hV.obs,hV.inj,hV.low,fun t x hx=>?_,hV.bdo,hV.bel,hV.bas,rfl,rfl,hV.par⟩⟩
    ·simp only [St.get,exitSt,look] at hx
     split at hx
     ·rename_i e;subst e;injection hx with hx;subst hx;exact h3
     ·cases hx
    ·simp only [St.get,exitSt,look] at hx
     split at hx
     ·injection hx with hx;subst hx;exact h4
     ·cases hx
   obtain ⟨bs,h1⟩:=h1
   obtain ⟨σ2,⟨ss,q1⟩,q2,_,_⟩:=backK_elim h1 hE
   obtain ⟨_,V',hV'⟩:=q1.sound q2
   have hob:(goalSt σ.par x os').obj=obL os':=numO_obj os'
   rw [hob] at hV'
   refine ⟨V',fun i hi=>(hV'.par i (mem_upTo hi)).2,hV'.tm 0 x rfl,hV'.bdt 0 x rfl,fun i o ho=>⟨hV'.obs i o ho,(hV'.bdo i o ho).2⟩,hV'.inj,fun i b hl hb=>⟨?_,(hV'.low i b hl hb).2⟩⟩
   rcases (hV'.low i b hl hb).1 with q | ⟨q,_⟩
   ·exact .inl q
   ·exact .inr q
  ·exact h1.elim
 cases e <;> first | exact fin h1 | exact h1.elim
theorem Fun.of_x {P:Program} {f:FuncId} {os os':List AO} {args:List AV} {x:AV} (hle:os.length≤os'.length) (h:FunX P f os args fun y ys=>y=x∧ys=os'):Fun P f os args x os' :=
 ⟨h.en,hle,fun N w V vs h1 h2 h3 h4=>(h.run N w V vs h1 h2 h3 h4).mono fun e w' ⟨v,y,ys,⟨e1,e2⟩,_,q1,q2,q3⟩=>⟨v,q1,q2,by subst e1;subst e2;exact q3⟩⟩
theorem fun_of_vc (hT:TOK P T) {D:Draw} (hD:DOK P D) {f:FuncId} {fn:Func} {c:Code} (hf:P.funcs[f]?=some fn) (hb:fn.body=some c) (hname:(fn.name == "runtime.NumGoroutine")=false) {os os':List AO} {args:List AV}
  (hn:args.length≤fn.ntmps) (hle:os.length≤os'.length) {x:AV} (ids:List Nat) (h:mvAll ids (initSt os args fn.ntmps) fun σ=>vcC P T D c σ (exitOK T fn.results.toList x os')):Fun P f os args x os':=by
 refine Fun.of_x hle (funx_of_vc hT hD hf hb hname hn ids ?_)
 have e:(exitOK T fn.results.toList x os')=exitX T fn.results.toList (fun y ys=>y=x∧ys=os') os.length:=?_
 ·rw [← e];exact h
 funext e σ
 exact propext ⟨fun h=>⟨x,os',⟨rfl,rfl⟩,hle,h⟩,fun ⟨_,_,⟨h1,h2⟩,_,h3⟩=>by subst h1;subst h2;exact h3⟩
theorem fun_of (hT:TOK P T) {D:Draw} (hD:DOK P D) {f:FuncId} {fn:Func} (hf:P.funcs[f]?=some fn) {c:Code} {n:Nat} {rs:Array ResultVar} (hb:fn.body=some c) (hn:fn.ntmps=n) (hr:fn.results=rs) (hname:(fn.name == "runtime.NumGoroutine")=false) {os os':List AO} {args:List AV}
  (hl:args.length≤n) (hle:os.length≤os'.length) {x:AV} (h:vcC P T D c (initSt os args n) (exitOK T rs.toList x os')):Fun P f os args x os':=by
 subst hn;subst hr
 exact fun_of_vc hT hD hf hb hname hl hle [] h
theorem fun_of_mv (ids:List Nat) (hT:TOK P T) {D:Draw} (hD:DOK P D) {f:FuncId} {fn:Func} (hf:P.funcs[f]?=some fn) {c:Code} {n:Nat} {rs:Array ResultVar} (hb:fn.body=some c) (hn:fn.ntmps=n) (hr:fn.results=rs) (hname:(fn.name == "runtime.NumGoroutine")=false) {os os':List AO} {args:List AV}
  (hl:args.length≤n) (hle:os.length≤os'.length) {x:AV} (h:mvAll ids (initSt os args n) fun σ=>vcC P T D c σ (exitOK T rs.toList x os')):Fun P f os args x os':=by
 subst hn;subst hr
 exact fun_of_vc hT hD hf hb hname hl hle ids h
theorem funx_of (hT:TOK P T) {D:Draw} (hD:DOK P D) {f:FuncId} {fn:Func} (hf:P.funcs[f]?=some fn) {c:Code} {n:Nat} {rs:Array ResultVar} (hb:fn.body=some c) (hn:fn.ntmps=n) (hr:fn.results=rs) (hname:(fn.name == "runtime.NumGoroutine")=false) {os:List AO} {args:List AV}
  (hl:args.length≤n) {Ψ:AV→List AO→Prop} (h:vcC P T D c (initSt os args n) (exitX T rs.toList Ψ os.length)):FunX P f os args Ψ:=by
 subst hn;subst hr
 exact funx_of_vc hT hD hf hb hname hl [] h
end
end Go.Sk
namespace Go.Sk
open Go.RowKit
def dstIdx (ops:List Oper) (t:Nat):Option Nat:=ops.findIdx? fun o=>o.dst == some t
def afterB (o:Oper) (i:Nat):Bool:=o.after.toList.any fun e=>Region.binds .any e && e.on == i
def looksOK (pre:List Oper) (o:Oper) (t:Nat):Bool:=match dstIdx pre t with
 | some i=>afterB o i
 | none=>true
def tmpsOf (o:Oper):List Nat:=o.op.operands.toList.filterMap fun | .tmp t=>some t | _=>none
def ddp:List Nat→List Nat
 | []=>[]
 | x :: r=>let d:=ddp r;match d.contains x with
  | true=>d
  | false=>x :: d
theorem mem_ddp:∀ {l:List Nat} {x:Nat},x∈ddp l→x∈l
 | y :: r,x,h=>by
  unfold ddp at h
  simp only at h
  split at h
  ·exact List.mem_cons_of_mem _ (mem_ddp h)
  ·rcases List.mem_cons.1 h with rfl | h
   ·simp
   ·exact List.mem_cons_of_mem _ (mem_ddp h)
def ancs (ops:List Oper):List (List Nat) :=
 ops.foldl (fun acc o=>acc++[ddp ((o.after.toList.filter (Region.binds .any)).flatMap fun e=>e.on :: acc.getD e.on [])]) []
def noDefer (o:Oper):Bool:=match o.op with | .defer _=>false | _=>true
def preOK (ops:List Oper) (k:Nat):Bool :=
 let pre:=ops.take k
 (pre.zipIdx.all fun (o,j)=>(match o.dst with | some d=>dstIdx pre d == some j | none=>false) && (tmpsOf o).all (looksOK pre o) &&
  (match o.guard with
   | none=>true
   | some (g,_)=>match (ops[g]?).bind Oper.dst with
    | some d=>looksOK pre o d
    | none=>false)) &&
 (ops.zipIdx.all fun (o,j)=>o.after.toList.all fun e=>!Region.binds .any e || decide (e.on < j)) && ops.all noDefer
def sufOK (ops:List Oper) (k:Nat):Bool :=
 let an:=ancs ops
 (List.range ops.length).all fun j=>decide (j < k) || (List.range j).all fun i=>(an.getD j []).contains i
def St.afterAt (σ:St) (dst:Option Nat) (x:AV) (no:Option AO) (n:Nat):St :=
 { tmps:=(match dst with | some d=>(d,x) :: σ.tmps | none=>σ.tmps),objs:=(match no with | some o=>(n,o) :: σ.objs | none=>σ.objs),next:=σ.next,size:=σ.size,par:=σ.par }
section
variable {P:Program} {T:TypeId→Option TI} {N0:Nat→Prop} {base:Nat} {w0:W0}
def wantA (all:Array Oper) (σ:St) (o:Oper):Option Bool :=
 match o.guard with
 | none=>some true
 | some (j,want)=>match (all[j]?).bind Oper.dst with
  | none=>none
  | some d=>match σ.get d with
   | some (.v (.bool b))=>some (b == want)
   | some .skip=>some false
   | _=>none
structure Vis where
 ob:Nat→Option AO
 n:Nat
def Vis.of (v:Vis) (σ:St) (o:Oper) (i:Nat):Option AO :=
 match v.ob i with
 | some u=>some u
 | none=>match decide (v.n≤i) && afterB o (i - v.n) with
  | true=>σ.obj i
  | false=>none
def Good (P:Program) (all:Array Oper) (ob:Vis) (n:Nat) (σ:St) (o:Oper) (r:AV × Option AO):Prop :=
 dstOk σ o=true∧((wantA all σ o=some true∧OKs P o σ.eval (ob.of σ o) n r.1 r.2)∨(wantA all σ o=some false∧r=(.skip,none)))
def Alike (σ2 σ:St):Prop:=σ2.get=σ.get∧σ2.obj=σ.obj∧σ2.next=σ.next∧σ2.size=σ.size∧σ2.par=σ.par
theorem Alike.refl (σ:St):Alike σ σ:=⟨rfl,rfl,rfl,rfl,rfl⟩
theorem Alike.learn {σ:St} {d:Nat} {b:Bool} (h:σ.get d=some (.v (.bool b))):Alike (σ.after (some d) (.v (.bool b)) none) σ:=by
 refine ⟨?_,rfl,rfl,rfl,rfl⟩
 rw [St.get_after]
 funext t
 unfold upd
 split
 ·rename_i e;injection e with e;subst e;exact h.symm
 ·rfl
inductive Gen (P:Program) (all:Array Oper) (ob:Vis):List Oper→Nat→St→List (AV × Option AO)→St→Prop
 | nil (n:Nat) (σ:St):Gen P all ob [] n σ [] σ
 | cons {o:Oper} {r:List Oper} {n:Nat} {σ σ':St} {x:AV × Option AO} {xs:List (AV × Option AO)} {σ2:St} (hs:Alike σ2 σ) (h:Good P all ob n σ o x) (h':Gen P all ob r (n+1) (σ2.afterAt o.dst x.1 x.2 n) xs σ'):Gen P all ob (o :: r) n σ (x :: xs) σ'
structure Pre (P:Program) (T:TypeId→Option TI) (all:Array Oper) (ob:Vis) (ops:List Oper) (n:Nat) (σ:St) (K:St→Prop):Prop where
 gen:TOK P T→∃ rs σ',Gen P all ob ops n σ rs σ'∧K σ'
theorem preNil {all:Array Oper} {ob:Vis} {n:Nat} {σ:St} {K:St→Prop} (h:K σ):Pre P T all ob [] n σ K:=⟨fun _=>⟨[],σ,.nil n σ,h⟩⟩
section
variable {all:Array Oper} {ob:Vis} {n:Nat} {σ:St} {K:St→Prop} {o:Oper} {r:List Oper}
theorem preI {all:Array Oper} {ob:Vis} {ops:List Oper} {n:Nat} {σ:St} {K:St→Prop} (h:Pre P T all ob ops n σ K):Pre P T all ob ops n σ K:=h
theorem pre_run {σ2:St} (hs:Alike σ2 σ) (hd:dstOk σ o=true) (hw:wantA all σ o=some true) (h:pstep P T false σ2.eval (ob.of σ2 o) n o fun x no=>Pre P T all ob r (n+1) (σ2.afterAt o.dst x no n) K):Pre P T all ob (o :: r) n σ K:=⟨fun hT=>by
 obtain ⟨x,no,h1,h2⟩:=pstep_sound hT h
 obtain ⟨rs,σ',h3,h4⟩:=h1.gen hT
 have e:σ2.eval=σ.eval:=by unfold St.eval;rw [hs.1]
 have e2:ob.of σ2 o=ob.of σ o:=by funext i;unfold Vis.of;rw [hs.2.1]
 rw [e,e2] at h2
 exact ⟨(x,no) :: rs,σ',.cons hs ⟨hd,.inl ⟨hw,h2⟩⟩ h3,h4⟩⟩
theorem pre_skip {σ2:St} (hs:Alike σ2 σ) (hd:dstOk σ o=true) (hw:wantA all σ o=some false) (h:Pre P T all ob r (n+1) (σ2.afterAt o.dst .skip none n) K):Pre P T all ob (o :: r) n σ K:=⟨fun hT=>by
 obtain ⟨rs,σ',h3,h4⟩:=h.gen hT
 exact ⟨(.skip,none) :: rs,σ',.cons hs ⟨hd,.inr ⟨hw,rfl⟩⟩ h3,h4⟩⟩
theorem preOp (hd:dstOk σ o=true) (hg:o.guard=none) (h:pstep P T false σ.eval (ob.of σ o) n o fun x no=>Pre P T all ob r (n+1) (σ.afterAt o.dst x no n) K):Pre P T all ob (o :: r) n σ K :=
 pre_run (Alike.refl σ) hd (by simp [wantA,hg]) h
theorem preSkip {j d:Nat} {want:Bool} (hd:dstOk σ o=true) (hg:o.guard=some (j,want)) (hj:(all[j]?).bind Oper.dst=some d) (hv:σ.get d=some .skip) (h:Pre P T all ob r (n+1) (σ.afterAt o.dst .skip none n) K):Pre P T all ob (o :: r) n σ K :=
 pre_skip (Alike.refl σ) hd (by simp only [wantA,hg,hj,hv]) h
theorem preGT {j d:Nat} {b:Bool} (hd:dstOk σ o=true) (hg:o.guard=some (j,true)) (hj:(all[j]?).bind Oper.dst=some d) (hv:σ.get d=some (.v (.bool b)))
  (h:ifB b (pstep P T false (σ.after (some d) (.v (.bool true)) none).eval (ob.of (σ.after (some d) (.v (.bool true)) none) o) n o fun x no=>Pre P T all ob r (n+1) ((σ.after (some d) (.v (.bool true)) none).afterAt o.dst x no n) K) (Pre P T all ob r (n+1) ((σ.after (some d) (.v (.bool false)) none).afterAt o.dst .skip none n) K)):Pre P T all ob (o :: r) n σ K:=by
 have hw:wantA all σ o=some (b == true):=by simp only [wantA,hg,hj,hv]
 cases b with
 | true=>exact pre_run (Alike.learn hv) hd hw ((ifB_elim h).1 rfl)
 | false=>exact pre_skip (Alike.learn hv) hd hw ((ifB_elim h).2 rfl)
theorem preGF {j d:Nat} {b:Bool} (hd:dstOk σ o=true) (hg:o.guard=some (j,false)) (hj:(all[j]?).bind Oper.dst=some d) (hv:σ.get d=some (.v (.bool b)))
  (h:ifB b (Pre P T all ob r (n+1) ((σ.after (some d) (.v (.bool true)) none).afterAt o.dst .skip none n) K) (pstep P T false (σ.after (some d) (.v (.bool false)) none).eval (ob.of (σ.after (some d) (.v (.bool false)) none) o) n o fun x no=>Pre P T all ob r (n+1) ((σ.after (some d) (.v (.bool false)) none).afterAt o.dst x no n) K)):Pre P T all ob (o :: r) n σ K:=by
 have hw:wantA all σ o=some (b == false):=by simp only [wantA,hg,hj,hv]
 cases b with
 | true=>exact pre_skip (Alike.learn hv) hd hw ((ifB_elim h).1 rfl)
 | false=>exact pre_run (Alike.learn hv) hd hw ((ifB_elim h).2 rfl)
theorem preT {j d:Nat} (hd:dstOk σ o=true) (hg:o.guard=some (j,true)) (hj:(all[j]?).bind Oper.dst=some d) (hv:σ.get d=some (.v (.bool true)))
  (h:pstep P T false σ.eval (ob.of σ o) n o fun x no=>Pre P T all ob r (n+1) (σ.afterAt o.dst x no n) K):Pre P T all ob (o :: r) n σ K :=
 pre_run (Alike.refl σ) hd (by simp only [wantA,hg,hj,hv];rfl) h
theorem preF {j d:Nat} (hd:dstOk σ o=true) (hg:o.guard=some (j,false)) (hj:(all[j]?).bind Oper.dst=some d) (hv:σ.get d=some (.v (.bool false)))
  (h:pstep P T false σ.eval (ob.of σ o) n o fun x no=>Pre P T all ob r (n+1) (σ.afterAt o.dst x no n) K):Pre P T all ob (o :: r) n σ K :=
 pre_run (Alike.refl σ) hd (by simp only [wantA,hg,hj,hv];rfl) h
theorem preTS {j d:Nat} (hd:dstOk σ o=true) (hg:o.guard=some (j,true)) (hj:(all[j]?).bind Oper.dst=some d) (hv:σ.get d=some (.v (.bool false)))
  (h:Pre P T all ob r (n+1) (σ.afterAt o.dst .skip none n) K):Pre P T all ob (o :: r) n σ K :=
 pre_skip (Alike.refl σ) hd (by simp only [wantA,hg,hj,hv];rfl) h
theorem preFS {j d:Nat} (hd:dstOk σ o=true) (hg:o.guard=some (j,false)) (hj:(all[j]?).bind Oper.dst=some d) (hv:σ.get d=some (.v (.bool true)))
  (h:Pre P T all ob r (n+1) (σ.afterAt o.dst .skip none n) K):Pre P T all ob (o :: r) n σ K :=
 pre_skip (Alike.refl σ) hd (by simp only [wantA,hg,hj,hv];rfl) h
end
section
variable (P:Program) (T:TypeId→Option TI)
def vcPre (all:Array Oper) (ob:Vis):List Oper→Nat→St→(St→Prop)→Prop
 | [],_,σ,K=>K σ
 | o :: r,n,σ,K =>
  let run:=fun (σ:St)=>pstep P T false σ.eval (ob.of σ o) n o fun x no=>vcPre all ob r (n+1) (σ.afterAt o.dst x no n) K
  let skip:=fun (σ:St)=>vcPre all ob r (n+1) (σ.afterAt o.dst .skip none n) K
  match dstOk σ o with
  | false=>False
  | true=>match o.guard with
   | none=>run σ
   | some (j,want)=>match (all[j]?).bind Oper.dst with
    | none=>False
    | some d=>match σ.get d with
     | some (.v (.bool b))=>match want with
      | true=>ifB b (run (σ.after (some d) (.v (.bool true)) none)) (skip (σ.after (some d) (.v (.bool false)) none))
      | false=>ifB b (skip (σ.after (some d) (.v (.bool true)) none)) (run (σ.after (some d) (.v (.bool false)) none))
     | some .skip=>skip σ
     | _=>False
end
variable (P T) in
def vcDraw (ops:Array Oper) (σ:St) (K:St→Prop):Prop :=
 ∃ k,(preOK ops.toList k && sufOK ops.toList k && decide (k≤ops.size))=true ∧
  Pre P T ops ⟨σ.obj,σ.next⟩ (ops.toList.take k) σ.next { σ with next:=σ.next+k } fun σ'=>vcOps0 P T ops (ops.toList.drop k) σ' K
def valOf:List Oper→List (AV × Option AO)→(Nat→Option AV)→Nat→Option AV
 | o :: r,x :: xs,g=>valOf r xs (upd g o.dst x.1)
 | _,_,g=>g
def objOf:List Oper→List (AV × Option AO)→Nat→(Nat→Option AO)→Nat→Option AO
 | _ :: r,x :: xs,n,ob=>objOf r xs (n+1) (updN ob n x.2)
 | _,_,_,ob=>ob
theorem afterAt_get (σ:St) (dst:Option Nat) (x:AV) (no:Option AO) (n:Nat):(σ.afterAt dst x no n).get=upd σ.get dst x:=by
 funext t
 cases dst with
 | none=>rfl
 | some d=>simp [St.get,St.afterAt,look,upd]
theorem afterAt_obj (σ:St) (dst:Option Nat) (x:AV) (no:Option AO) (n:Nat):(σ.afterAt dst x no n).obj=updN σ.obj n no:=by
 funext i
 cases no with
 | none=>rfl
 | some o=>simp only [St.obj,St.afterAt,look,updN,updO,eq_comm]
theorem Gen.end {all:Array Oper} {ob:Vis} {ops:List Oper} {n:Nat} {σ σ':St} {rs:List (AV × Option AO)} (h:Gen P all ob ops n σ rs σ') :
  rs.length=ops.length∧σ'.get=valOf ops rs σ.get∧σ'.obj=objOf ops rs n σ.obj∧σ'.next=σ.next∧σ'.size=σ.size:=by
 induction h with
 | nil n σ=>exact ⟨rfl,rfl,rfl,rfl,rfl⟩
 | cons hs h h' ih =>
  obtain ⟨i1,i2,i3,i4,i5⟩:=ih
  rw [afterAt_get,hs.1] at i2
  rw [afterAt_obj,hs.2.1] at i3
  exact ⟨by simp [i1],i2,i3,i4.trans hs.2.2.1,i5.trans hs.2.2.2.1⟩
theorem Gen.at {all:Array Oper} {ob:Vis} {ops:List Oper} {n:Nat} {σ σ':St} {rs:List (AV × Option AO)} (h:Gen P all ob ops n σ rs σ') :
  ∀ (j:Nat) (h1:j < ops.length) (h2:j < rs.length),∃ σj:St,Good P all ob (n+j) σj ops[j] rs[j]∧σj.get=valOf (ops.take j) (rs.take j) σ.get∧σj.size=σ.size∧σj.obj=objOf (ops.take j) (rs.take j) n σ.obj:=by
 induction h with
 | nil n σ=>intro j h1;simp at h1
 | @cons o r n σ σ' x xs σ2 hs h h' ih =>
  intro j h1 h2
  cases j with
  | zero=>exact ⟨σ,h,rfl,rfl,rfl⟩
  | succ j =>
   obtain ⟨σj,i1,i2,i3,i4⟩:=ih j (Nat.lt_of_succ_lt_succ h1) (Nat.lt_of_succ_lt_succ h2)
   rw [afterAt_get,hs.1] at i2
   rw [afterAt_obj,hs.2.1] at i4
   exact ⟨σj,by rw [show n+(j+1)=n+1+j by omega];exact i1,i2,i3.trans hs.2.2.2.1,i4⟩
theorem valOf_none:∀ {ops:List Oper} {rs:List (AV × Option AO)} {g:Nat→Option AV} {t:Nat},(∀ o,o∈ops→o.dst≠some t)→valOf ops rs g t=g t
 | [],rs,g,t,_=>by cases rs <;> rfl
 | o :: r,[],g,t,_=>rfl
 | o :: r,x :: xs,g,t,h=>by
  unfold valOf
  rw [valOf_none fun o' ho'=>h o' (by simp [ho'])]
  unfold upd
  rw [if_neg (h o (by simp))]
theorem valOf_some:∀ {ops:List Oper} {rs:List (AV × Option AO)} {g:Nat→Option AV} {t i:Nat} {o:Oper} {x:AV × Option AO},ops[i]?=some o→o.dst=some t→rs[i]?=some x→(∀ (j:Nat) (o':Oper),ops[j]?=some o'→o'.dst=some t→j=i)→valOf ops rs g t=some x.1
 | [],rs,g,t,i,o,x,h,_,_,_=>by simp at h
 | o' :: r,[],g,t,i,o,x,_,_,h,_=>by simp at h
 | o' :: r,x' :: xs,g,t,i,o,x,h1,h2,h3,h4=>by
  unfold valOf
  cases i with
  | zero =>
   simp at h1 h3
   subst h1;subst h3
   rw [valOf_none fun o'' ho'' hd=>by
    obtain ⟨j,hj⟩:=List.mem_iff_getElem?.1 ho''
    have:=h4 (j+1) o'' (by simpa using hj) hd
    omega]
   unfold upd
   rw [if_pos h2]
  | succ i =>
   exact valOf_some (i:=i) (by simpa using h1) h2 (by simpa using h3) fun j o'' hj hd=>by
    have:=h4 (j+1) o'' (by simpa using hj) hd
    omega
theorem objOf_get:∀ {ops:List Oper} {rs:List (AV × Option AO)} {n:Nat} {ob:Nat→Option AO} {i:Nat},rs.length=ops.length→objOf ops rs n ob i=if n≤i∧i < n+ops.length then (match (rs[i - n]?).bind (·.2) with | some o=>some o | none=>ob i) else ob i
 | [],rs,n,ob,i,h=>by
  have:rs=[]:=List.eq_nil_of_length_eq_zero h
  subst this
  simp only [objOf,List.length_nil]
  rw [if_neg (by omega)]
 | o :: r,[],n,ob,i,h=>by simp at h
 | o :: r,x :: xs,n,ob,i,h=>by
  unfold objOf
  rw [objOf_get (by simpa using h)]
  simp only [List.length_cons]
  by_cases hi:i=n
  ·subst hi
   rw [if_neg (by omega),if_pos (by omega),Nat.sub_self]
   cases hx:x.2 <;> simp [updN,updO,hx]
  ·have hu:updN ob n x.2 i=ob i:=by
    cases x.2 with
    | none=>rfl
    | some o=>simp [updN,updO,hi]
   rw [hu]
   by_cases hc:n+1≤i∧i < n+1+r.length
   ·rw [if_pos hc,if_pos (by omega),show i - n=(i - (n+1))+1 by omega,List.getElem?_cons_succ]
   ·rw [if_neg hc,if_neg (by omega)]
end
end Go.Sk
namespace Go.Sk
open Go.RowKit
theorem filter_lt {α:Type} {p q:α→Bool}:∀ {l:List α},(∀ x,q x=true→p x=true)→∀ {x:α},x∈l→p x=true→q x=false→(l.filter q).length < (l.filter p).length
 | [],_,x,h,_,_=>by simp at h
 | y :: r,hpq,x,h,h1,h2=>by
  have hle:(r.filter q).length≤(r.filter p).length:=by
   clear h
   induction r with
   | nil=>simp
   | cons z r ih =>
    simp only [List.filter_cons]
    cases hq:q z with
    | true=>rw [hpq z hq];simpa using ih
    | false=>cases p z <;> simp <;> omega
  rcases List.mem_cons.1 h with rfl | h
  ·simp only [List.filter_cons,h1,h2,if_true,Bool.false_eq_true,if_false,List.length_cons]
   omega
  ·have:=filter_lt hpq h h1 h2
   simp only [List.filter_cons]
   cases hq:q y with
   | true=>rw [hpq y hq];simpa using this
   | false=>cases p y <;> simp <;> omega
def cnt (listed:Array Bool):Nat:=((List.range listed.size).filter fun i=>!listed.getD i true).length
theorem cnt_set {listed:Array Bool} {i:Nat} (h:listed.getD i true=false):cnt (listed.setIfInBounds i true) < cnt listed:=by
 have hi:i < listed.size:=by
  rcases Nat.lt_or_ge i listed.size with h' | h'
  ·exact h'
  ·simp [Array.getElem?_eq_none h'] at h
 unfold cnt
 rw [Array.size_setIfInBounds]
 refine filter_lt (x:=i) (fun x hx=>?_) (by simpa using hi) (by simpa using h) ?_
 ·by_cases hxi:i=x
  ·subst hxi;simp [hi] at hx
  ·rw [getD_set_ne true hxi] at hx;exact hx
 ·simp [hi]
def Closed (ops:Array Oper) (listed:Array Bool):Prop:=∀ (i:Nat) (o:Oper),listed.getD i false=true→ops[i]?=some o→∀ e∈o.after,Region.binds .any e=true→listed.getD e.on false=true
theorem ancs_snoc (l:List Oper) (o:Oper):ancs (l++[o])=ancs l++[ddp ((o.after.toList.filter (Region.binds .any)).flatMap fun e=>e.on :: (ancs l).getD e.on [])]:=by
 simp [ancs,List.foldl_append]
theorem ancs_len (l:List Oper):∀ n,n≤l.length→(ancs (l.take n)).length=n:=by
 intro n
 induction n with
 | zero=>intro _;simp [ancs]
 | succ n ih =>
  intro hn
  rw [List.take_succ_eq_append_getElem (by omega),ancs_snoc,List.length_append,ih (by omega)]
  rfl
theorem ancs_listed {ops:Array Oper} {listed:Array Bool} (hc:Closed ops listed):∀ n,n≤ops.toList.length→∀ (j:Nat) (o:Oper),j < n→ops[j]?=some o→(∀ e∈o.after,Region.binds .any e=true→listed.getD e.on false=true) →
  ∀ i∈(ancs (ops.toList.take n)).getD j [],listed.getD i false=true:=by
 intro n
 induction n with
 | zero=>intro _ j o hj;omega
 | succ n ih =>
  intro hn j o hj ho hl i hi
  have hlen:=ancs_len ops.toList n (by omega)
  rw [List.take_succ_eq_append_getElem (by omega),ancs_snoc] at hi
  by_cases hjn:j < n
  ·refine ih (by omega) j o hjn ho hl i ?_
   simp only [List.getD_eq_getElem?_getD] at hi ⊢
   rwa [List.getElem?_append_left (by omega)] at hi
  ·have hje:j=n:=by omega
   subst hje
   simp only [List.getD_eq_getElem?_getD] at hi
   rw [List.getElem?_append_right (by omega),hlen,Nat.sub_self] at hi
   simp only [List.getElem?_cons_zero,Option.getD_some] at hi
   replace hi:=mem_ddp hi
   simp only [List.mem_flatMap,List.mem_filter] at hi
   obtain ⟨e,⟨he1,he2⟩,he3⟩:=hi
   have hjs:j < ops.size:=by
    rw [Array.length_toList] at hn
    omega
   have hoe:ops.toList[j]=o:=by
    rw [Array.getElem_toList]
    rw [Array.getElem?_eq_getElem hjs] at ho
    injection ho
   rw [hoe] at he1
   have hle:=hl e (by simpa using he1) he2
   rcases List.mem_cons.1 he3 with rfl | he3
   ·exact hle
   ·by_cases hej:e.on < j
    ·obtain ⟨o',ho'⟩:∃ o',ops[e.on]?=some o':=⟨_,Array.getElem?_eq_getElem (by omega)⟩
     refine ih (by omega) e.on o' hej ho' (hc e.on o' hle ho') i ?_
     rw [List.getD_eq_getElem?_getD];exact he3
    ·rw [List.getElem?_eq_none (by omega)] at he3
     simp at he3
section
variable {P:Program} {T:TypeId→Option TI} {N0:Nat→Prop} {base:Nat} {w0:W0}
theorem closed_set {ops:Array Oper} {listed:Array Bool} (hc:Closed ops listed) {j:Nat} (hr:j∈Region.ready .any ops listed):Closed ops (listed.setIfInBounds j true):=by
 obtain ⟨_,o',ho',hall⟩:=mem_ready.1 hr
 intro i o hi ho e he hb
 by_cases hij:j=i
 ·subst hij
  rw [ho'] at ho;injection ho with ho;subst ho
  exact getD_set_true (hall e he hb)
 ·rw [getD_set_ne false hij] at hi
  exact getD_set_true (hc i o hi ho e he hb)
theorem suf_any (hT:TOK P T) {ops:Array Oper} {k:Nat} (hsuf:∀ j,j < ops.size→k≤j→∀ i,i < j→i∈(ancs ops.toList).getD j []) (hedge:∀ (j:Nat) (o:Oper),ops[j]?=some o→∀ e∈o.after,Region.binds .any e=true→e.on < j)
  {K:St→Prop} {Q:Exit→Act→World→Prop} (hK:∀ σ' a' w',K σ'→RS N0 base w0 σ' a' w'→Q .normal a' w') :
  ∀ (fuel i:Nat) (listed:Array Bool) (σ:St) (a:Act) (w:World),ops.size - i≤fuel→k≤i→i≤ops.size→listed.size=ops.size→Closed ops listed→(∀ q,q < ops.size→(listed.getD q false=true↔q < i)) →
   vcOps0 P T ops (ops.toList.drop i) σ K→RS N0 base w0 σ a w→wpAny P .any ops Q fuel listed a w:=by
 have hgd:∀ {listed:Array Bool} {q:Nat},listed.size=ops.size→q < ops.size→listed.getD q true=listed.getD q false:=fun h1 h2=>by
  simp [h1,h2]
 have hready:∀ {listed:Array Bool} {i:Nat},k≤i→listed.size=ops.size→Closed ops listed→(∀ q,q < ops.size→(listed.getD q false=true↔q < i))→∀ j,j∈Region.ready .any ops listed→j=i:=by
  intro listed i hki hsz hcl hl j hj
  obtain ⟨h1,o,ho,hall⟩:=mem_ready.1 hj
  have hjs:j < ops.size:=(Array.getElem?_eq_some_iff.1 ho).1
  rw [hgd hsz hjs] at h1
  have hij:¬ j < i:=fun h=>by rw [(hl j hjs).2 h] at h1;cases h1
  by_cases hji:i < j
  ·have:=ancs_listed hcl ops.toList.length (Nat.le_refl _) j o (by simpa using hjs) ho hall i (by rw [List.take_length];exact hsuf j hjs (by omega) i hji)
   have:=(hl i (by omega)).1 this
   omega
  ·omega
 intro fuel
 induction fuel with
 | zero =>
  intro i listed σ a w hf hki his hsz hcl hl hv hr
  have hie:i=ops.size:=by omega
  subst hie
  rw [show ops.toList.drop ops.size=[] from List.drop_eq_nil_of_le (by simp)] at hv
  refine ⟨?_,hK _ _ _ hv hr⟩
  refine List.eq_nil_iff_forall_not_mem.2 fun j hj=>?_
  have:=hready hki hsz hcl hl j hj
  obtain ⟨_,o,ho,_⟩:=mem_ready.1 hj
  have:=(Array.getElem?_eq_some_iff.1 ho).1
  omega
 | succ fuel ih =>
  intro i listed σ a w hf hki his hsz hcl hl hv hr
  refine ⟨fun hnil=>?_,fun j hj=>?_⟩
  ·by_cases hie:i=ops.size
   ·subst hie
    rw [show ops.toList.drop ops.size=[] from List.drop_eq_nil_of_le (by simp)] at hv
    exact hK _ _ _ hv hr
   ·have hil:i < ops.size:=by omega
    have:i∈Region.ready .any ops listed:=mem_ready.2 ⟨by
     rw [hgd hsz hil]
     cases h:listed.getD i false with
     | false=>rfl
     | true=>have:=(hl i hil).1 h;omega,_,Array.getElem?_eq_getElem hil,fun e he hbi=>(hl _ (by have:=hedge i _ (Array.getElem?_eq_getElem hil) e he hbi;omega)).2 (hedge i _ (Array.getElem?_eq_getElem hil) e he hbi)⟩
    rw [hnil] at this
    cases this
  ·obtain rfl:=hready hki hsz hcl hl j hj
   have hcl':=closed_set hcl hj
   obtain ⟨_,o,ho,_⟩:=mem_ready.1 hj
   have hjs:j < ops.size:=(Array.getElem?_eq_some_iff.1 ho).1
   have hoe:ops.toList[j]'(by simpa using hjs)=o:=by
    rw [Array.getElem_toList]
    rw [Array.getElem?_eq_getElem hjs] at ho
    injection ho
   rw [List.drop_eq_getElem_cons (by simpa using hjs),hoe] at hv
   have next:∀ {σ':St} {a':Act} {w':World},vcOps0 P T ops (ops.toList.drop (j+1)) σ' K→RS N0 base w0 σ' a' w'→wpAny P .any ops Q fuel (listed.setIfInBounds j true) a' w':=fun h1 h2 =>
    ih (j+1) _ _ _ _ (by omega) (by omega) (by omega) (by simpa using hsz) hcl' (fun q hq=>by
     by_cases hjq:j=q
     ·subst hjq;simp [hsz,hjs]
     ·rw [getD_set_ne false hjq,hl q hq];omega) h1 h2
   unfold wpOp
   rw [ho]
   have hone:=vcOps0_sound (N0:=N0) (base:=base) (w0:=w0) hT (all:=ops) (ops:=[o]) (σ:=σ) (K:=fun σ'=>vcOps0 P T ops (ops.toList.drop (j+1)) σ' K) (a:=a) (w:=w)
    (Q:=fun e a' w'=>match e with | .normal=>wpAny P .any ops Q fuel (listed.setIfInBounds j true) a' w' | e=>Q e a' w') (by
     unfold vcOps0 at hv ⊢
     exact hv) hr (fun σ' a' w' h1 h2=>next h1 h2)
   unfold wpList at hone
   simp only
   split at hone
   ·rename_i hw
    rw [if_pos hw]
    rcases hone with hone | ⟨h1,a0,w0',h2⟩
    ·left
     unfold Oper.wp at hone ⊢
     generalize (execOp a.eval o).run P w=r at hone ⊢
     cases r with
     | ok n w' =>
      cases n <;> simp only [Oper.upon,wpList] at hone ⊢ <;> exact hone
     | halt x w'=>cases x <;> simp only [Oper.upon] at hone ⊢ <;> exact hone
    ·exact .inr ⟨h1,a0,w0',h2⟩
   ·rename_i hw
    rw [if_neg hw]
    exact hone
theorem dstIdx_some {pre:List Oper} {t i:Nat} (h:dstIdx pre t=some i):∃ o,pre[i]?=some o∧o.dst=some t:=by
 unfold dstIdx at h
 rw [List.findIdx?_eq_some_iff_getElem] at h
 obtain ⟨h1,h2,_⟩:=h
 exact ⟨pre[i],List.getElem?_eq_getElem h1,by simpa using h2⟩
theorem dstIdx_none {pre:List Oper} {t:Nat} (h:dstIdx pre t=none):∀ o,o∈pre→o.dst≠some t:=by
 unfold dstIdx at h
 rw [List.findIdx?_eq_none_iff] at h
 intro o ho hd
 have:=h o ho
 simp [hd] at this
structure PreF (ops:Array Oper) (k:Nat):Prop where
 dst:∀ (j:Nat) (o:Oper),j < k→ops[j]?=some o→∃ d,o.dst=some d∧dstIdx (ops.toList.take k) d=some j
 look:∀ (j:Nat) (o:Oper),j < k→ops[j]?=some o→∀ t,t∈tmpsOf o→∀ i,dstIdx (ops.toList.take k) t=some i→afterB o i=true
 guard:∀ (j:Nat) (o:Oper),j < k→ops[j]?=some o→∀ g want d,o.guard=some (g,want)→(ops[g]?).bind Oper.dst=some d→∀ i,dstIdx (ops.toList.take k) d=some i→afterB o i=true
 edge:∀ (j:Nat) (o:Oper),ops[j]?=some o→∀ e∈o.after,Region.binds .any e=true→e.on < j
theorem preOK_spec {ops:Array Oper} {k:Nat} (hk:k≤ops.size) (h:preOK ops.toList k=true):PreF ops k:=by
 unfold preOK at h
 rw [Bool.and_eq_true] at h
 replace h:=h.1
 simp only [Bool.and_eq_true,List.all_eq_true] at h
 obtain ⟨h1,h2⟩:=h
 have hmem:∀ (j:Nat) (o:Oper),j < k→ops[j]?=some o→(o,j)∈(ops.toList.take k).zipIdx:=fun j o hj ho=>by
  obtain ⟨q1,q2⟩:=Array.getElem?_eq_some_iff.1 ho
  refine List.mem_iff_getElem.2 ⟨j,by simp;omega,?_⟩
  simp [q2]
 refine ⟨fun j o hj ho=>?_,fun j o hj ho t ht i hi=>?_,fun j o hj ho g want d hg hd i hi=>?_,fun j o ho e he hbi=>?_⟩
 ·have:=(h1 _ (hmem j o hj ho)).1.1
  simp only at this
  cases hd:o.dst with
  | none=>simp [hd] at this
  | some d=>simp only [hd] at this;exact ⟨d,rfl,by simpa using this⟩
 ·have:=(h1 _ (hmem j o hj ho)).1.2 t ht
  unfold looksOK at this
  rw [hi] at this
  exact this
 ·have:=(h1 _ (hmem j o hj ho)).2
  simp only [hg,Array.getElem?_toList,hd] at this
  unfold looksOK at this
  rw [hi] at this
  exact this
 ·obtain ⟨q1,q2⟩:=Array.getElem?_eq_some_iff.1 ho
  have hm:(o,j)∈ops.toList.zipIdx:=List.mem_iff_getElem.2 ⟨j,by simpa using q1,by simp [q2]⟩
  have:=h2 _ hm e (by simpa using he)
  simpa [hbi] using this
theorem after_of {o:Oper} {i:Nat} {listed:Array Bool} (h:afterB o i=true) (hall:∀ e∈o.after,Region.binds .any e=true→listed.getD e.on false=true):listed.getD i false=true:=by
 unfold afterB at h
 rw [List.any_eq_true] at h
 obtain ⟨e,h1,h2⟩:=h
 simp only [Bool.and_eq_true,beq_iff_eq] at h2
 exact h2.2 ▸ hall e (by simpa using h1) h2.1
def gS (pre:List Oper) (rs:List (AV × Option AO)) (listed:Array Bool) (g:Nat→Option AV) (t:Nat):Option AV :=
 match dstIdx pre t with
 | some i=>if listed.getD i false=true then (rs[i]?).map (·.1) else none
 | none=>g t
def oS (rs:List (AV × Option AO)) (n:Nat) (listed:Array Bool) (ob:Nat→Option AO) (id:Nat):Option AO :=
 if n≤id∧listed.getD (id - n) false=true then (match (rs[id - n]?).bind (·.2) with | some o=>some o | none=>ob id) else ob id
def aS (n:Nat) (listed:Array Bool) (id:Nat):Prop:=id < n∨(n≤id∧listed.getD (id - n) false=true)
theorem Rel.weakA {m:Nat} {V:VV} {g:Nat→Option AV} {ob:Nat→Option AO} {A A':Nat→Prop} {a:Act} {w:World} (h:Rel N0 base w0 m V g ob A a w) (hA:∀ i,A i→A' i):Rel N0 base w0 m V g ob A' a w :=
 { h with
  bdt:=fun t x hx=>bd_mono hA x (h.bdt t x hx)
  bdo:=fun i o ho=>⟨hA i (h.bdo i o ho).1,bdO_mono hA o (h.bdo i o ho).2⟩
  par:=fun i hi=>⟨hA i (h.par i hi).1,(h.par i hi).2⟩ }
theorem Gen.par_eq {P:Program} {all:Array Oper} {ob:Vis}:∀ {ops:List Oper} {n:Nat} {σ σ':St} {rs:List (AV × Option AO)},Gen P all ob ops n σ rs σ'→σ'.par=σ.par:=by
 intro ops n σ σ' rs h
 induction h with
 | nil=>rfl
 | cons hs _ _ ih=>exact ih.trans hs.2.2.2.2
theorem Rel.less {m:Nat} {V:VV} {g g':Nat→Option AV} {ob:Nat→Option AO} {A:Nat→Prop} {a:Act} {w:World} (h:Rel N0 base w0 m V g ob A a w) (hg:∀ t x,g' t=some x→g t=some x):Rel N0 base w0 m V g' ob A a w :=
 { h with
  tm:=fun t x hx=>h.tm t x (hg t x hx)
  bdt:=fun t x hx=>h.bdt t x (hg t x hx) }
theorem drawn_rel {σ:St} {a:Act} {w:World} (h:RS N0 base w0 σ a w):RS N0 base w0 σ a { w with drawn:=w.drawn+1 }:=by
 obtain ⟨hp,V,hV⟩:=h
 exact ⟨hp,V,hV.grow (w':={ w with drawn:=w.drawn+1 }) ⟨rfl,rfl,⟨rfl,Nat.le_succ _⟩,Nat.le_refl _,fun _ _=>rfl⟩⟩
end
end Go.Sk
