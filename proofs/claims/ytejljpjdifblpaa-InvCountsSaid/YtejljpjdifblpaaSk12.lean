/- A checker of Go functions by conditions over small pure states: part 13. -/
import Derived.Test.YtejljpjdifblpaaSk11
set_option linter.unusedVariables false
set_option linter.unusedSimpArgs false
namespace Go.Sk
open Go.RowKit
section
variable {P:Program} {T:TypeId→Option TI} {N0:Nat→Prop} {base:Nat} {w0:W0}
theorem range_core {σ:St} {Q:Exit→St→Prop} {g:Operand} {ps:Array Tmp} {x y:Code} {r0:Option Nat} {n:Nat} {a:Act} {w:World} {ids is:List Nat} {kept:List (Nat × AV)} {keptO:List (Nat × AO)} {α:Type} {oc:Nat→α→List (Nat × AO)} {next:Nat} {inv:Nat→α→Prop} {x0:α}
  {os:List AO} {fs cs fs0 cs0:List AV} {xs:List (List AV)} {gf:FuncId} {gv:AV} {V:VV}
  (hV:Rel N0 base w0 σ.size V (look kept) (look (oc 0 x0++keptO)) (fun i=>i < next) a w) (hmp:w0.m=σ.par) (hir:InR r0 base w0)
  (hg:evalA (look kept) g=some gv) (hcal:calleeOf gv=some (gf,fs0,cs0)) (hio:is.map (look keptO)=os.map (fun o=>some (renO (rn is next) o))) (hfs:fs.map (ren (rn is next))=fs0) (hcs:cs.map (ren (rn is next))=cs0)
  (hnum:numsOK next is=true) (hno:noneIn is (numsO (oc 0 x0))=true) {ends:Bool} (hit:IterC P gf os fs cs xs ends) (hends:ends=false→∀ z,¬ inv xs.length z) (hinv:inv 0 x0)
  (hids:∀ i,i∈ids→i < next) (hpar:∀ i,i∈σ.par→i∈ids)
  (hY:∀ (l:Nat) (Dm:Option Nat) (fn dn:Nat) (i:Nat) (hi:i < xs.length),YCall P l (rangeG l Dm (fun p=>{ state:=if p.isNone then .ready else .done,pending:=p,fn:=fn,tmps:=a.tmps,params:=ps,assign:=x,body:=y,defers:=dn }) a.tmps σ.par w0.v (rangeT σ oc next inv kept (delL is keptO) Q i false)) xs[i]
   fun b=>rangeG l Dm (fun p=>{ state:=if p.isNone then .ready else .done,pending:=p,fn:=fn,tmps:=a.tmps,params:=ps,assign:=x,body:=y,defers:=dn }) a.tmps σ.par w0.v (rangeT σ oc next inv kept (delL is keptO) Q (i+1) (!b)))
  (hdone:∀ z,inv xs.length z→Q .normal (headSt σ [] kept (oc xs.length z++delL is keptO) next)) :
  (Code.rangeFunc g ps x y).wpIn (WR r0) n P (fun e a' w'=>∃ σ',Q e σ'∧RSX N0 base w0 σ' a' w') a w:=by
 refine wpIn_rangeFunc fun fn _=>?_
 obtain ⟨l,Dm,mark,dn,wR,henter,hl,hlr,hDr,hbel,hmark,hlg,hDg⟩:∃ (l:Nat) (Dm:Option Nat) (mark:List Deferred) (dn:Nat) (wR:World),
   (Instr.enterLoop fn a.tmps ps x y (WR r0).round).run P w=.ok (l,mark) wR∧w.heap.size≤l∧wR.heap[l]?=some (.loop { state:=.ready,pending:=none,fn:=fn,tmps:=a.tmps,params:=ps,assign:=x,body:=y,defers:=dn }) ∧
   (∀ D,Dm=some D→w.heap.size≤D∧wR.heap[D]?=some (.deferred (some [])))∧Blw w.heap.size w wR∧mark=(Dm.toList.map markOf)∧l < wR.heap.size∧(∀ D,Dm=some D→D < wR.heap.size):=by
  cases r0 with
  | none =>
   refine ⟨_,some w.heap.size,_,w.heap.size,_,run_enterLoop_outer _ _ _ _ _,by omega,?_,fun D hD=>?_,?_,rfl,?_,fun D hD=>?_⟩
   ·have:=World.alloc_heap_new (w.alloc (.deferred (some []))) (.loop { state:=.ready,pending:=none,fn:=fn,tmps:=a.tmps,params:=ps,assign:=x,body:=y,defers:=w.heap.size })
    rwa [World.size_alloc] at this
   ·injection hD with hD
    subst hD
    exact ⟨Nat.le_refl _,(Below.heap_alloc _ _ _ (by rw [World.size_alloc];omega)).trans (World.alloc_heap_new _ _)⟩
   ·exact ((Blw.refl _ _).alloc (Nat.le_refl _) _).alloc (by rw [World.size_alloc];omega) _
   ·rw [World.size_alloc,World.size_alloc];omega
   ·injection hD with hD
    rw [World.size_alloc,World.size_alloc];omega
  | some l0 =>
   obtain ⟨q1,q2,r,q3⟩:=hir l0 rfl
   have hr:w.heap[l0]?=some (.loop r):=(hV.bel.block l0 q1 q2).trans q3
   have hrun:(Instr.enterLoop fn a.tmps ps x y (some l0)).run P w=.ok (w.heap.size,[]) (w.alloc (.loop { state:=.ready,pending:=none,fn:=fn,tmps:=a.tmps,params:=ps,assign:=x,body:=y,defers:=r.defers })):=by
    unfold Instr.enterLoop
    simp only [Sem.run_bind,run_getLoop hr,run_newObj_alloc,Result.andThen,Sem.run_pure]
   exact ⟨_,none,_,r.defers,_,hrun,Nat.le_refl _,World.alloc_heap_new _ _,(fun D hD=>by cases hD),(Blw.refl _ _).alloc (Nat.le_refl _) _,rfl,by rw [World.size_alloc];omega,(fun D hD=>by cases hD)⟩
 have hgv:=eval_rep hV hg
 obtain ⟨us,vs,hev,r1,r2,r3,r4⟩:∃ us vs:Array Value,a.eval g=.func (.func gf) us vs∧us.size=fs0.length∧vs.size=cs0.length∧(∀ (j:Nat) (h1:j < fs0.length) (h2:j < us.size),RepT (Nf N0 base V (look (oc 0 x0++keptO))) w V fs0[j] us[j]∧bd (fun i=>i < next) fs0[j]) ∧
   (∀ (j:Nat) (h1:j < cs0.length) (h2:j < vs.size),RepT (Nf N0 base V (look (oc 0 x0++keptO))) w V cs0[j] vs[j]∧bd (fun i=>i < next) cs0[j]):=by
  obtain ⟨hfr,hbd⟩:=hgv
  unfold calleeOf at hcal
  split at hcal
  ·split at hcal
   ·rename_i hz
    injection hcal with hcal
    simp only [Prod.mk.injEq] at hcal
    obtain ⟨rfl,rfl,rfl⟩:=hcal
    exact ⟨_,_,eval_v hfr,by simpa using hz.1,by simpa using hz.2,fun j h1=>by simp at h1,fun j h1=>by simp at h1⟩
   ·cases hcal
  ·injection hcal with hcal
   simp only [Prod.mk.injEq] at hcal
   obtain ⟨rfl,rfl,rfl⟩:=hcal
   unfold bd at hbd
   generalize a.eval g=v at hfr
   cases hfr with
   | im h=>cases h
   | fn _ _ _ us vs q1 q2 q3 q4=>exact ⟨us,vs,rfl,q1,q2,fun j h1 h2=>⟨q3 j h1 h2,bdL_iff.1 hbd.1 _ (List.getElem_mem h1)⟩,fun j h1 h2=>⟨q4 j h1 h2,bdL_iff.1 hbd.2 _ (List.getElem_mem h1)⟩⟩
  ·cases hcal
 have hlen:is.length=os.length:=by have:=congrArg List.length hio;simpa using this
 obtain ⟨hndi,hlti⟩:=numsOK_spec hnum
 have hlk:∀ j,j < is.length→∃ o,look keptO (rn is next j)=some (renO (rn is next) o)∧os[j]?=some o:=fun j hj=>by
  have h1:os[j]?=some os[j]:=List.getElem?_eq_getElem (by omega)
  have:=congrArg (·[j]?) hio
  simp only [List.getElem?_map,h1,Option.map_some,List.getElem?_eq_getElem hj] at this
  rw [rn_in _ hj]
  injection this with this
  exact ⟨os[j],this,h1⟩
 have hlk':∀ j,j∈is→look (oc 0 x0++keptO) j=look keptO j:=fun j hj=>by
  rw [look_append]
  cases h:look (oc 0 x0) j with
  | none=>rfl
  | some o=>exact (noneIn_spec hno j o h hj).elim
 have hrest:∀ i o,look (oc 0 x0++delL is keptO) i=some o→look (oc 0 x0++keptO) i=some o∧i ∉ is:=fun i o h=>by
  rw [look_append] at h ⊢
  cases hq:look (oc 0 x0) i with
  | some u=>rw [hq] at h;exact ⟨h,noneIn_spec hno i u hq⟩
  | none=>rw [hq] at h;exact look_delL h
 have hlrest:∀ i,live (look (oc 0 x0++delL is keptO)) i→live (look (oc 0 x0++keptO)) i∧i ∉ is:=fun i ⟨o,h1,h2⟩=>⟨⟨o,(hrest i o h1).1,h2⟩,(hrest i o h1).2⟩
 have hsub:∀ b,foot V (look (oc 0 x0++delL is keptO)) b→foot V (look (oc 0 x0++keptO)) b:=fun b ⟨i,h1,h2⟩=>⟨i,(hlrest i h1).1,h2⟩
 have hlw:∀ b,foot V (look (oc 0 x0++keptO)) b→(base≤b∨(w0.f b∧N0 b))∧b < w.heap.size:=fun b ⟨i,h1,h2⟩=>hV.low i b h1 h2
 obtain ⟨N1,hN1⟩:∃ N1:Nat→Prop,N1=fun b=>Nf N0 base V (look (oc 0 x0++keptO)) b∧b < w.heap.size:=⟨_,rfl⟩
 obtain ⟨X,hX⟩:∃ X:Nat→Prop,X=fun b=>b=l∨Dm=some b:=⟨_,rfl⟩
 have hXw:∀ b,X b→w.heap.size≤b:=fun b hb=>by
  rw [hX] at hb
  rcases hb with rfl | hb
  ·exact hl
  ·exact (hDr b hb).1
 have hXf:∀ b,X b→¬ foot V (look (oc 0 x0++delL is keptO)) b:=fun b hb hf=>by
  have:=(hlw b (hsub b hf)).2
  have:=hXw b hb
  omega
 obtain ⟨τ0,hτ0⟩:∃ τ0:St,τ0=headSt σ [] kept (oc 0 x0++delL is keptO) next:=⟨_,rfl⟩
 have t1:τ0.obj=look (oc 0 x0++delL is keptO):=by rw [hτ0];rfl
 have t2:τ0.next=next:=by rw [hτ0];rfl
 have t3:τ0.tmps=kept:=by rw [hτ0];rfl
 obtain ⟨rec,hrecd⟩:∃ rec:Option Code→Loop,rec=fun p=>{ state:=if p.isNone then .ready else .done,pending:=p,fn:=fn,tmps:=a.tmps,params:=ps,assign:=x,body:=y,defers:=dn }:=⟨_,rfl⟩
 obtain ⟨Gh,hGh⟩:∃ Gh:Nat→Bool→Ghost,Gh=fun i s=>rangeG l Dm rec a.tmps σ.par w0.v (rangeT σ oc next inv kept (delL is keptO) Q i s):=⟨_,rfl⟩
 obtain ⟨Vi,hVi⟩:∃ Vi:VV,Vi=⟨fun j=>if j < is.length then V (rn is next j) else .nilFunc,fun j b=>if j < is.length then V.f (rn is next j) b else foot V (look (oc 0 x0++delL is keptO)) b∨X b⟩:=⟨_,rfl⟩
 have hobs:∀ j o,obL (os++[AO.gh (Gh 0 false)]) j=some o→(j < is.length∧os[j]?=some o)∨(j=is.length∧o=.gh (Gh 0 false)):=fun j o h=>by
  unfold obL at h
  rcases Nat.lt_or_ge j os.length with hj | hj
  ·rw [List.getElem?_append_left hj] at h
   exact .inl ⟨by omega,h⟩
  ·rw [List.getElem?_append_right hj] at h
   right
   have:j - os.length=0:=by
    rcases Nat.eq_zero_or_pos (j - os.length) with q | q
    ·exact q
    ·rw [List.getElem?_eq_none (by simp;omega)] at h;cases h
   rw [this] at h
   injection h with h
   exact ⟨by omega,h.symm⟩
 have hVin:∀ j,j < is.length→Vi j=V (rn is next j)∧Vi.f j=V.f (rn is next j):=fun j hj=>by
  rw [hVi]
  exact ⟨if_pos hj,by funext b;exact if_pos hj⟩
 have hVout:Vi.f is.length=fun b=>foot V (look (oc 0 x0++delL is keptO)) b∨X b:=by
  rw [hVi]
  funext b
  exact if_neg (Nat.lt_irrefl _)
 have hisin:∀ j,j < is.length→rn is next j∈is:=fun j hj=>by rw [rn_in _ hj];exact List.getElem_mem hj
 have hlive:∀ j,live (obL (os++[AO.gh (Gh 0 false)])) j→(j < is.length∧live (look (oc 0 x0++keptO)) (rn is next j))∨j=is.length:=fun j ⟨o,h1,h2⟩=>by
  rcases hobs j o h1 with ⟨hj,ho⟩ | ⟨hj,_⟩
  ·obtain ⟨o',h3,h4⟩:=hlk j hj
   rw [ho] at h4
   injection h4 with h4
   subst h4
   exact .inl ⟨hj,_,(hlk' _ (hisin j hj)).trans h3,by rw [renO_live];exact h2⟩
  ·exact .inr hj
 have hfoot:∀ b,foot Vi (obL (os++[AO.gh (Gh 0 false)])) b→foot V (look (oc 0 x0++keptO)) b∨X b:=fun b ⟨j,hl,hb⟩=>by
  rcases hlive j hl with ⟨hj,hlv⟩ | hj
  ·rw [(hVin j hj).2] at hb
   exact .inl ⟨_,hlv,hb⟩
  ·rw [hj,hVout] at hb
   exact hb.imp (hsub b) id
 have hfbase:∀ b,foot Vi (obL (os++[AO.gh (Gh 0 false)])) b→base≤b∨(w0.f b∧N0 b):=fun b hb=>by
  rcases hfoot b hb with q | q
  ·exact (hlw b q).1
  ·exact .inl (Nat.le_trans hV.bas (hXw b q))
 have hmo:∀ b,Nf N0 base V (look (oc 0 x0++keptO)) b→b < w.heap.size→N1 b∧wR.heap[b]?=w.heap[b]?:=fun b hb hs=>⟨by rw [hN1];exact ⟨hb,hs⟩,hbel.block b hs⟩
 have hinvn:∀ i,rn is next i < next→ltA os.length i:=fun i hi=>by
  unfold ltA
  rcases Nat.lt_or_ge i is.length with h | h
  ·omega
  ·rw [rn_out _ h] at hi;omega
 have hlt1:∀ i,ltA os.length i→ltA (os++[AO.gh (Gh 0 false)]).length i:=fun i hi=>by unfold ltA at *;rw [List.length_append];omega
 have hown:Own N1 Vi (obL (os++[AO.gh (Gh 0 false)])) (ltA (os++[AO.gh (Gh 0 false)]).length) wR:=by
  refine ⟨fun j o ho=>?_,fun i j b hi hj hbi hbj=>?_,fun j b hlv hb=>?_,fun j o ho=>?_⟩
  ·rcases hobs j o ho with ⟨hj,ho'⟩ | ⟨hj,rfl⟩
   ·obtain ⟨o',h3,h4⟩:=hlk j hj
    rw [ho'] at h4
    injection h4 with h4
    subst h4
    have h5:=(hlk' _ (hisin j hj)).trans h3
    have h6:=(hV.obs _ _ h5).mono (A:=fun i=>i < next) (N':=N1) (w':=wR) (V':=V) hmo hbel.size (fun _ _=>rfl) (fun _=>Iff.rfl) (hV.bdo _ _ h5).1 (fun hlv b hb=>hbel.block b (hV.low _ b ⟨_,h5,hlv⟩ hb).2) (hV.bdo _ _ h5).2
    have h7:RepO N1 wR (V.at (rn is next)) j o:=renO_inv (V:=V.at (rn is next)) (V':=V) (f:=rn is next) (fun _=>rfl) (fun _=>Iff.rfl) h6
    have hfin:∀ i,ltA os.length i→Vi i=(V.at (rn is next)) i:=fun i hi=>(hVin i (by unfold ltA at hi;omega)).1
    exact h7.mono (A:=ltA os.length) (fun b hb _=>⟨hb,rfl⟩) (Nat.le_refl _) hfin (fun b=>by rw [(hVin j hj).2];exact Iff.rfl) (by unfold ltA;omega) (fun _ _ _=>rfl) (renO_bd_inv hinvn _ (hV.bdo _ _ h5).2)
   ·subst hj
    show (Gh 0 false).R N1 wR (Vi.f is.length)
    rw [hVout,hGh]
    refine ⟨τ0,none,⟨rfl,x0,hinv,hτ0⟩,?_,by rw [hlr,hrecd];rfl,fun D hD=>(hDr D hD).2⟩
    refine ⟨V,fun i o ho=>?_,fun i j b hi hj hbi hbj=>?_,fun i b hi hb=>?_,fun b=>by rw [t1,hX],fun b hb=>by rw [t1];exact hXf b (by rw [hX];exact hb),fun t u hu=>?_,fun i hi=>?_⟩
    ·rw [t1] at ho
     have h5:=(hrest i o ho).1
     rw [t2]
     exact ⟨(hV.obs _ _ h5).mono (A:=fun i=>i < next) hmo hbel.size (fun _ _=>rfl) (fun _=>Iff.rfl) (hV.bdo _ _ h5).1 (fun hlv b hb=>hbel.block b (hV.low _ b ⟨_,h5,hlv⟩ hb).2) (hV.bdo _ _ h5).2,hV.bdo _ _ h5⟩
    ·rw [t1] at hi hj
     exact hV.inj i j b (hlrest i hi).1 (hlrest j hj).1 hbi hbj
    ·rw [t1] at hi
     exact Nat.lt_of_lt_of_le (hV.low i b (hlrest i hi).1 hb).2 hbel.size
    ·rw [t3] at hu
     rw [t2]
     exact ⟨(hV.tm t u hu).mono hmo (fun _ _=>rfl) (hV.bdt t u hu),hV.bdt t u hu⟩
    ·rw [t2]
     exact ⟨hids i (hpar i hi),(hV.par i (by rw [hmp];exact hi)).2⟩
  ·rcases hlive i hi with ⟨q1,q2⟩ | q1 <;> rcases hlive j hj with ⟨p1,p2⟩ | p1
   ·rw [(hVin i q1).2] at hbi
    rw [(hVin j p1).2] at hbj
    exact rn_inj hnum i j (hV.inj _ _ b q2 p2 hbi hbj)
   ·rw [(hVin i q1).2] at hbi
    rw [p1,hVout] at hbj
    rcases hbj with ⟨k,k1,k2⟩ | hbj
    ·have:=hV.inj _ _ b q2 (hlrest k k1).1 hbi k2
     exact ((hlrest k k1).2 (this ▸ hisin i q1)).elim
    ·have:=(hV.low _ b q2 hbi).2
     have:=hXw b hbj
     omega
   ·rw [(hVin j p1).2] at hbj
    rw [q1,hVout] at hbi
    rcases hbi with ⟨k,k1,k2⟩ | hbi
    ·have:=hV.inj _ _ b p2 (hlrest k k1).1 hbj k2
     exact ((hlrest k k1).2 (this ▸ hisin j p1)).elim
    ·have:=(hV.low _ b p2 hbj).2
     have:=hXw b hbi
     omega
   ·omega
  ·refine ⟨?_,fun hn=>?_⟩
   ·rcases hfoot b ⟨j,hlv,hb⟩ with q | q
    ·exact Nat.lt_of_lt_of_le (hlw b q).2 hbel.size
    ·rw [hX] at q
     rcases q with rfl | q
     ·exact hlg
     ·exact hDg b q
   ·rw [hN1] at hn
    rcases hfoot b ⟨j,hlv,hb⟩ with ⟨i,q1,q2⟩ | q
    ·exact hn.1.2 i q1 q2
    ·have:=hXw b q
     have:=hn.2
     omega
  ·rcases hobs j o ho with ⟨hj,ho'⟩ | ⟨hj,rfl⟩
   ·refine ⟨by unfold ltA;rw [List.length_append];omega,?_⟩
    obtain ⟨o',h3,h4⟩:=hlk j hj
    rw [ho'] at h4
    injection h4 with h4
    subst h4
    exact bdO_mono hlt1 _ (renO_bd_inv hinvn _ (hV.bdo _ _ ((hlk' _ (hisin j hj)).trans h3)).2)
   ·exact ⟨by unfold ltA;rw [List.length_append,hj];simp;omega,trivial⟩
 have hflen:fs.length=fs0.length:=by rw [← hfs,List.length_map]
 have hclen:cs.length=cs0.length:=by rw [← hcs,List.length_map]
 have hren:∀ (zs zs0:List AV),zs.map (ren (rn is next))=zs0→∀ (j:Nat) (h1:j < zs.length) (h2:j < zs0.length),zs0[j]=ren (rn is next) zs[j]:=fun zs zs0 e j h1 h2=>by subst e;simp
 have harg:∀ (z z0:AV) (v:Value),z0=ren (rn is next) z→RepT (Nf N0 base V (look (oc 0 x0++keptO))) w V z0 v→bd (fun i=>i < next) z0→RepT N1 wR Vi z v∧bd (ltA (os++[AO.gh (Gh 0 false)]).length) z:=fun z z0 v e h hb=>by
  subst e
  have hb':bd (ltA os.length) z:=ren_bd_inv (A':=fun i=>i < next) hinvn z hb
  have h1:RepT (Nf N0 base V (look (oc 0 x0++keptO))) w (V.at (rn is next)) z v:=ren_inv (V:=V.at (rn is next)) (V':=V) (f:=rn is next) (fun _=>rfl) h rfl
  exact ⟨h1.mono (A:=ltA os.length) hmo (fun i hi=>(hVin i (by unfold ltA at hi;omega)).1) hb',bd_mono hlt1 z hb'⟩
 have hY':∀ i (h:i < xs.length),YCall P l (Gh i false) xs[i] fun b=>Gh (i+1) (!b):=fun i h=>by
  rw [hGh,hrecd]
  exact hY l Dm fn dn i h
 obtain ⟨hen,hfun⟩:=hit l Gh hY' fun he N w f hR=>by
  rw [hGh] at hR
  obtain ⟨_,_,⟨_,z,hz,_⟩,_⟩:=hR
  exact hends he z hz
 obtain ⟨L,hL⟩:∃ L,L=(os++[AO.gh (Gh 0 false)]).length:=⟨_,rfl⟩
 rw [← hL] at hown hlt1 harg
 have hall:∀ (j:Nat) (h1:j < (fs++[AV.v (.func (.yield l) #[] #[])]++cs).length) (h2:j < (us++#[Value.func (.yield l) #[] #[]]++vs).size),
   RepT N1 wR Vi (fs++[AV.v (.func (.yield l) #[] #[])]++cs)[j] (us++#[Value.func (.yield l) #[] #[]]++vs)[j]∧bd (ltA L) (fs++[AV.v (.func (.yield l) #[] #[])]++cs)[j]:=fun j h1 h2=>by
  simp only [Array.getElem_append,List.getElem_append,Array.size_append,List.length_append,r1,← hflen,List.length_cons,List.length_nil,List.size_toArray]
  split
  ·split
   ·rename_i q1 q2
    exact harg _ _ _ (hren fs fs0 hfs j q2 (by omega)) (r3 j (by omega) (by omega)).1 (r3 j (by omega) (by omega)).2
   ·rename_i q1 q2
    obtain rfl:j=fs.length:=by omega
    simp only [Nat.sub_self,List.getElem_cons_zero,List.getElem_toArray]
    exact ⟨.im (.v _ rfl),by unfold bd;trivial⟩
  ·rename_i q1
   simp only [List.length_append,List.length_cons,List.length_nil] at h1
   have q2:j - (fs.length+(0+1)) < cs.length:=by omega
   exact harg _ _ _ (hren cs cs0 hcs _ q2 (by omega)) (r4 _ (by omega) (by omega)).1 (r4 _ (by omega) (by omega)).2
 have hcalls:=hfun N1 wR Vi (us++#[.func (.yield l) #[] #[]]++vs) (by simp [r1,r2,hflen,hclen];omega) (hL ▸ hown) (fun j h1 h2=>?_) ?_
 ·refine ⟨l,mark,wR,{ target:=.fn (.func gf) vs,args:=us++#[.func (.yield l) #[] #[]] },wR,gf,us++#[.func (.yield l) #[] #[]]++vs,wR,henter,?_,fun _ _=>trivial,?_,(fun q=>by cases q),?_⟩
  ·simp only [rangeCall,resolve,hev,Deferred.ofValue,Sem.run_pure];simp [Act.eval]
  ·show (callFunc gf _).run P wR=_
   exact run_callFunc hen
  ·refine calls_WR.2 (hcalls.mono ?_)
   rintro e w3 ⟨v,xo,os',⟨i,s,hi,hs,rfl⟩,hle,rfl,hfr,V3,hVeq,-,-,hobs3,hinj3,hlow3⟩
   have hgid:obL (os++[AO.gh (Gh i s)]) is.length=some (.gh (Gh i s)):=by unfold obL;rw [hlen,List.getElem?_append_right (Nat.le_refl _),Nat.sub_self];rfl
   have hlgid:live (obL (os++[AO.gh (Gh i s)])) is.length:=⟨_,hgid,rfl⟩
   have hR:=(hobs3 is.length _ hgid).1
   obtain ⟨N3,hN3⟩:∃ N3:Nat→Prop,N3=fun b=>Nf (fun b=>N1 b∨foot Vi (obL (os++[AO.gh (Gh 0 false)])) b) wR.heap.size V3 (obL (os++[AO.gh (Gh i s)])) b:=⟨_,rfl⟩
   have hR':(Gh i s).R N3 w3 (V3.f is.length):=by rw [hN3];exact hR
   rw [hGh] at hR'
   obtain ⟨τ,p,hT,⟨V4,g1,g2,g3,g4,g5,g6,g7⟩,hrec3,hD3⟩:=hR'
   have hl3:l < w3.heap.size:=(Array.getElem?_eq_some_iff.1 hrec3).1
   have hXl:X l:=by rw [hX];exact .inl rfl
   have hrs:(rec p).state≠.busy:=by rw [hrecd];simp only;split <;> simp
   have hend:(Instr.endLoop l).run P w3=.ok p (w3.putObj l (.loop { rec p with state:=.exhausted })):=by
    have:=run_endLoop (P:=P) hrec3 hrs
    rw [this,hrecd]
   have hV4:∀ b,foot V4 τ.obj b→(base≤b∨(w0.f b∧N0 b))∧b < w3.heap.size:=fun b hb=>by
    have q:=hlow3 is.length b hlgid ((g4 b).2 (.inl hb))
    refine ⟨?_,q.2⟩
    rcases q.1 with q | q
    ·exact .inl (Nat.le_trans hV.bas (Nat.le_trans hbel.size q))
    ·exact hfbase b q
   obtain ⟨w4,hw4⟩:∃ w4,w4=w3.putObj l (.loop { rec p with state:=.exhausted }):=⟨_,rfl⟩
   have h4s:w4.heap.size=w3.heap.size:=by rw [hw4];exact World.putObj_size
   have h4b:∀ b,b≠l→w4.heap[b]?=w3.heap[b]?:=fun b hb=>by rw [hw4];exact World.putObj_heap_other hb
   have hN3f:∀ b,N3 b→¬ foot V4 τ.obj b∧¬ X b:=fun b hb=>by
    rw [hN3] at hb
    exact ⟨fun q=>hb.2 is.length hlgid ((g4 b).2 (.inl q)),fun q=>hb.2 is.length hlgid ((g4 b).2 (.inr (by rw [hX] at q;exact q)))⟩
   have hm4:∀ b,N3 b→b < w3.heap.size→N3 b∧w4.heap[b]?=w3.heap[b]?:=fun b hb _=>⟨hb,h4b b fun e=>(hN3f b hb).2 (e ▸ hXl)⟩
   have hbl:∀ k,k < base→¬ w0.f k→w4.heap[k]?=w0.w.heap[k]?:=fun k hk hf=>by
    have q1:k < w.heap.size:=Nat.lt_of_lt_of_le hk hV.bas
    have q2:k≠l:=by omega
    have q3:¬ foot Vi (obL (os++[AO.gh (Gh 0 false)])) k:=fun q=>by
     rcases hfbase k q with q | ⟨q,_⟩
     ·omega
     ·exact hf q
    exact (h4b k q2).trans ((hfr.block k (Nat.lt_of_lt_of_le q1 hbel.size) q3).trans ((hbel.block k q1).trans (hV.bel.block k hk hf)))
   have hpush:a.defers=w0.ds:=hV.dfr
   have hts:a.tmps.size=σ.size:=hV.siz
   have hext:∀ Dd:List Deferred,Dd=mark++a.defers→Ext N0 base w0 (fun b=>N3 b∨foot V4 τ.obj b) w4.heap.size { w:=w4,f:=foot V4 τ.obj,m:=σ.par,v:=w0.v,ds:=Dd }:=fun Dd hDd=>by
    refine ⟨?_,fun b hb hn=>?_,fun b hb=>(hV4 b hb).1,?_,fun k hk hf q=>?_,hmp.symm,rfl,Nat.le_refl _,Dm.toList,by rw [hDd,hmark,hpush],?_,fun D hD=>?_⟩
    ·rw [h4s];exact Nat.le_trans hV.bas (Nat.le_trans hbel.size hfr.size)
    ·rcases hn with hn | hn
     ·rw [hN3] at hn
      have q1:b < w.heap.size:=Nat.lt_of_lt_of_le hb hV.bas
      rcases hn.1 (Nat.lt_of_lt_of_le q1 hbel.size) with q | q
      ·rw [hN1] at q;exact q.1.1 hb
      ·rcases hfbase b q with q | ⟨_,q⟩
       ·omega
       ·exact q
     ·rcases (hV4 b hn).1 with q | ⟨_,q⟩
      ·omega
      ·exact q
    ·refine ⟨?_,?_,?_,?_,hbl⟩
     ·show w4.os=w0.w.os
      rw [hw4];exact (hfr.os.trans hbel.os).trans hV.bel.os
     ·show w4.tape=w0.w.tape
      rw [hw4];exact (hfr.tape.trans hbel.tape).trans hV.bel.tape
     ·show Outp w0.w w4
      rw [hw4];exact ⟨((hfr.output.trans hbel.output).trans hV.bel.output).eq,((hfr.output.trans hbel.output).trans hV.bel.output).le⟩
     ·rw [h4s];exact Nat.le_trans hV.bel.size (Nat.le_trans hbel.size hfr.size)
    ·rcases (hV4 k q).1 with q | ⟨q,_⟩
     ·omega
     ·exact hf q
    ·cases Dm <;> simp
    ·have hD':Dm=some D:=by
      cases hq:Dm with
      | none=>rw [hq] at hD;cases hD
      | some D'=>rw [hq] at hD;simp at hD;rw [hD]
     have hXD:X D:=by rw [hX];exact .inr hD'
     have hDl:D≠l:=fun e=>by
      subst e
      have h1:=hD3 D hD'
      rw [hrec3] at h1
      cases h1
     refine ⟨Nat.le_trans hV.bas (hXw D hXD),by rw [h4s];exact (Array.getElem?_eq_some_iff.1 (hD3 D hD')).1,fun q=>?_,fun q=>g5 D (.inr hD') q,(h4b D hDl).trans (hD3 D hD')⟩
     rcases q with q | q
     ·exact (hN3f D q).2 hXD
     ·exact g5 D (.inr hD') q
   have hrsx:τ.size=σ.size∧τ.par=σ.par→RSX N0 base w0 τ { a with defers:=mark++a.defers } w4:=fun hτ=>by
    refine ⟨_,_,_,hext _ rfl,hτ.2.symm,V4,?_⟩
    have h1':∀ i o,τ.obj i=some o→RepO N3 w4 V4 i o∧i < τ.next∧bdO (fun i=>i < τ.next) o:=fun i o ho =>
     ⟨(g1 i o ho).1.mono (A:=fun i=>i < τ.next) (N':=N3) hm4 (by rw [h4s];exact Nat.le_refl _) (fun _ _=>rfl) (fun _=>Iff.rfl) (g1 i o ho).2.1 (fun hlv b hb=>h4b b fun e=>g5 l (.inl rfl) (e ▸ ⟨i,⟨o,ho,hlv⟩,hb⟩)) (g1 i o ho).2.2,(g1 i o ho).2⟩
    have:=Susp.rel (N:=N3) (w:=w4) (f:=foot V4 τ.obj) (X:=fun _=>False) (tm:=a.tmps) (pins:=[]) (pv:=w0.v) (τ:=τ) (V:=V4) (m:=σ.par) (ds:=mark++a.defers) (size:=τ.size) h1' g2 (fun i b h q=>by rw [h4s];exact g3 i b h q)
     (fun t u hu=>⟨(g6 t u hu).1.mono hm4 (fun _ _=>rfl) (g6 t u hu).2,(g6 t u hu).2⟩) (fun b hb=>(hN3f b hb).1) (fun i hi=>(g7 i hi).1) (by rw [hts,hτ.1])
    refine { this with par:=fun i hi=>⟨(g7 i hi).1,(g7 i hi).2⟩,bel:=⟨rfl,rfl,.refl _,Nat.le_refl _,fun _ _ _=>rfl⟩ }
   refine ⟨p,_,hend,?_⟩
   rw [← hw4]
   cases s with
   | false =>
    obtain ⟨rfl,z,hz,hτ⟩:=hT
    have:=hs rfl
    subst this
    exact ⟨τ,by rw [hτ];exact hdone z hz,hrsx (by rw [hτ];exact ⟨rfl,rfl⟩)⟩
   | true =>
    obtain ⟨e,he,hps,hQ,hsp⟩:=hT
    simp only [Prod.mk.injEq] at hsp
    have hx:=hrsx hsp
    cases e with
    | exit id =>
     obtain rfl:p=some (.exit id):=he.symm
     exact wpIn_exit ⟨τ,hQ,hx⟩
    | ret =>
     obtain rfl:p=some .ret:=he.symm
     exact wpIn_ret ⟨τ,hQ,hx⟩
    | normal=>rw [← he] at hps;cases hps
    | goto t=>rw [← he] at hps;cases hps
    | panic c=>rw [← he] at hps;cases hps
    | outgrown=>rw [← he] at hps;cases hps
 ·exact (hall j h1 h2).1
 ·refine bdL_iff.2 fun z hz=>?_
  obtain ⟨j,hj,rfl⟩:=List.mem_iff_getElem.1 hz
  exact hL ▸ (hall j hj (by simp [r1,r2,← hflen,← hclen] at hj ⊢;omega)).2
theorem dstsO_acc:∀ {l:List Oper} {acc:List Nat} {x:Nat},x∈acc→x∈dstsO l acc
 | [],_,_,h=>h
 | o :: r,acc,x,h=>by
  unfold dstsO
  split
  ·exact dstsO_acc (List.mem_cons_of_mem _ h)
  ·exact dstsO_acc h
theorem dstsC_acc:∀ (c:Code) {acc:List Nat} {x:Nat},x∈acc→x∈dstsC c acc
 | .region _ ops _,acc,x,h=>by unfold dstsC;exact dstsO_acc h
 | .seq a b,acc,x,h=>by unfold dstsC;exact dstsC_acc b (dstsC_acc a h)
 | .cond _ a b,acc,x,h=>by unfold dstsC;exact dstsC_acc b (dstsC_acc a h)
 | .block _ c,acc,x,h=>by unfold dstsC;exact dstsC_acc c h
 | .loop c,acc,x,h=>by unfold dstsC;exact dstsC_acc c h
 | .skip,acc,x,h=>h
 | .label _,acc,x,h=>h
 | .rangeFunc _ _ _ _,acc,x,h=>h
 | .exit _,acc,x,h=>h
 | .scope _,acc,x,h=>h
 | .goto _,acc,x,h=>h
 | .ret,acc,x,h=>h
 | .refuse _,acc,x,h=>h
theorem stayOs_delL {ids is:List Nat}:∀ {l:List (Nat × AO)},stayOs ids l=true→stayOs ids (delL is l)=true
 | [],h=>h
 | (i,o) :: r,h=>by
  simp only [stayOs,Bool.and_eq_true] at h
  simp only [delL]
  split
  ·exact stayOs_delL h.2
  ·simp only [stayOs,Bool.and_eq_true]
   exact ⟨h.1,stayOs_delL h.2⟩
theorem range_sound {σ:St} {Q:Exit→St→Prop} {g:Operand} {ps:Array Tmp} {x y:Code} {BA BB:St→(Exit→St→Prop)→Prop} {r0:Option Nat} {n:Nat} {a:Act} {w:World}
  (h:RangeOK P g ps.toList (dstsC y (dstsC x ps.toList)) BA BB σ Q) (hir:InR r0 base w0) (hr:RSX N0 base w0 σ a w)
  (IA:∀ {N0:Nat→Prop} {base:Nat} {w0:W0} {r0:Option Nat} {n:Nat} {σ:St} {Q:Exit→St→Prop} {a:Act} {w:World},BA σ Q→InR r0 base w0→RSX N0 base w0 σ a w→x.wpIn (WR r0) n P (fun e a' w'=>∃ σ',Q e σ'∧RSX N0 base w0 σ' a' w') a w)
  (IB:∀ {N0:Nat→Prop} {base:Nat} {w0:W0} {r0:Option Nat} {n:Nat} {σ:St} {Q:Exit→St→Prop} {a:Act} {w:World},BB σ Q→InR r0 base w0→RSX N0 base w0 σ a w→y.wpIn (WR r0) n P (fun e a' w'=>∃ σ',Q e σ'∧RSX N0 base w0 σ' a' w') a w) :
  (Code.rangeFunc g ps x y).wpIn (WR r0) n P (fun e a' w'=>∃ σ',Q e σ'∧RSX N0 base w0 σ' a' w') a w:=by
 obtain @⟨α,oc,next,inv,x0,is,os,fs,cs,xs,ends,h⟩:=h
 obtain ⟨ids,h⟩:=idsK_elim h
 obtain ⟨kept,h,hk,hkd⟩:=keepK_elim2 h rfl
 obtain ⟨keptO,⟨⟨bs,h1⟩,h2⟩,hkO⟩:=keepO_elim h rfl
 obtain ⟨gv,hg,h2⟩:=kx_iff h2
 split at h2
 ·exact h2.elim
 ·rename_i gf fs0 cs0 hcal
  obtain ⟨⟨⟨e1,e2,e3⟩,eb⟩,⟨hit,hends⟩,hxs,hinv,hround,hdone⟩:=h2
  simp only [Bool.and_eq_true] at eb
  obtain ⟨⟨⟨⟨b1',b2⟩,b3⟩,b4⟩,b5⟩:=eb
  obtain ⟨N1,b1,w1,hx,hr⟩:=hr
  obtain ⟨σ2,q1,q2,q3,q4⟩:=backK_elim h1 hr
  obtain ⟨hmp,V,hV⟩:=(q1.leH hkO).sound hk q2
  have hids:∀ i,i∈ids→i < next:=fun i hi=>by
   have hq:=q1.1
   simp only [Bool.and_eq_true] at hq
   have:=fixB_spec hq.2 i hi
   have:=(List.getElem?_eq_some_iff.1 this).1
   rwa [← findS_len] at this
  have hmp':w1.m=σ.par:=hmp.trans q4
  have hsz:(headSt σ2 [] kept (oc 0 x0++keptO) next).size=σ.size:=q3
  rw [hsz] at hV
  have hpar:=subB_spec b2
  have hir1:InR r0 b1 w1:=fun l hl=>by
   obtain ⟨p1,p2,r,p3⟩:=hir l hl
   exact ⟨Nat.lt_of_lt_of_le p1 hx.le,hx.keep l p1 p2,r,(hx.frm.block l p1 p2).trans p3⟩
  refine wpIn_mono (range_core (ps:=ps) (ids:=ids) hV hmp' hir1 hg hcal e1 e2 e3 b1' b3 hit hends hinv hids hpar (fun l Dm fn dn i hi=>?_) hdone) fun e a' w' ⟨σ',p1,p2⟩=>⟨σ',p1,p2.up hx⟩
  exact round_sound (pvA:=#[]) IA IB hk (stayOs_delL hkO) (fun p hp=>fun q=>by
    rcases hkd p hp with h | h
    ·cases h
    ·exact h (dstsC_acc y (dstsC_acc x q))) hids hpar (nodupB_spec b4) (fun p hp=>by
    have:=List.all_eq_true.1 b5 p hp
    exact Nat.le_of_ble_eq_true this) hV.siz hi (hxs i hi).1 (hxs i hi).2 (fun z hz=>hround i z hi hz)
def DOK (P:Program) (D:Draw):Prop:=∀ {N0:Nat→Prop} {base:Nat} {w0:W0} {r0:Option Nat} {n:Nat} {id:Nat} {ops:Array Oper} {σ:St} {K:St→Prop} {a:Act} {w:World} {Q:Exit→Act→World→Prop},D ops σ K→RS N0 base w0 σ a w →
 (∀ σ' a' w',K σ'→RS N0 base w0 σ' a' w'→Q .normal a' w')→(Code.region id ops true).wpIn (WR r0) n P Q a w
theorem Ck_eq (K:St→Prop):Ck K=K:=by funext σ;exact propext ⟨fun h=>h.run,fun h=>⟨h⟩⟩
theorem vcOps_append {all:Array Oper} {b:List Oper} {K:St→Prop}:∀ {a:List Oper} {σ:St},vcOps P T all (a++b) σ K=vcOps P T all a σ fun σ'=>vcOps P T all b σ' K
 | [],σ=>rfl
 | o :: r,σ=>by
  have ih:∀ σ',vcOps P T all (r++b) σ' K=vcOps P T all r σ' fun σ'=>vcOps P T all b σ' K:=fun σ'=>vcOps_append
  rw [List.cons_append]
  simp only [vcOps,ih]
theorem vcOpsK_eq {all:Array Oper} {K:St→Prop}:∀ (f:Nat) {r:List Oper} {σ:St},vcOpsK P T all f r σ K=vcOps P T all r σ K
 | 0,r,σ=>rfl
 | f+1,r,σ=>by
  have ih:∀ σ',vcOpsK P T all f (r.drop 12) σ' K=vcOps P T all (r.drop 12) σ' K:=fun σ'=>vcOpsK_eq f
  unfold vcOpsK
  split
  ·rfl
  ·rw [Ck_eq]
   simp only [ih]
   rw [← vcOps_append,List.take_append_drop]
theorem vcC_sound (hT:TOK P T) {D:Draw} (hD:DOK P D):∀ (c:Code) {N0:Nat→Prop} {base:Nat} {w0:W0} {r0:Option Nat} {n:Nat} {σ:St} {Q:Exit→St→Prop} {a:Act} {w:World},vcC P T D c σ Q→InR r0 base w0→RSX N0 base w0 σ a w →
  c.wpIn (WR r0) n P (fun e a' w'=>∃ σ',Q e σ'∧RSX N0 base w0 σ' a' w') a w:=by
 intro c
 induction c with
 | skip=>intro N0 base w0 r0 n σ Q a w h hi hr;exact wpIn_skip ⟨σ,h,hr⟩
 | label l=>intro N0 base w0 r0 n σ Q a w h hi hr;exact wpIn_label ⟨σ,h,hr⟩
 | region id ops draw =>
  intro N0 base w0 r0 n σ Q a w h hi hr
  cases draw with
  | false=>exact wpIn_region_list (vcOps_sound hT (vcOpsK_eq 30 ▸ h) hr fun σ' a' w' h1 h2=>⟨σ',h1,h2⟩)
  | true =>
   obtain ⟨N1,b1,w1,e,hr⟩:=hr
   exact hD h hr fun σ' a' w' h1 h2=>⟨σ',h1,N1,b1,w1,e,h2⟩
 | seq x y ihx ihy =>
  intro N0 base w0 r0 n σ Q a w h hi hr
  refine wpIn_seq (wpIn_mono (ihx h hi hr) fun e a' w' ⟨σ',h1,h2⟩=>?_)
  cases e <;> first | exact ihy h1 hi h2 | exact ⟨σ',h1,h2⟩
 | cond c x y ihx ihy =>
  intro N0 base w0 r0 n σ Q a w h hi hr
  obtain ⟨cv,h1,h2⟩:=kx_iff h
  split at h2
  ·rename_i b
   replace h2:=ifB_elim h2
   have hv:a.eval c=.bool b:=by
    obtain ⟨_,_,_,_,hp,V,hV⟩:=hr
    exact eval_v (eval_rep hV h1).1
   exact wpIn_cond_split hv (fun hb=>ihx (h2.1 hb) hi hr) (fun hb=>ihy (h2.2 hb) hi hr)
  ·exact h2.elim
 | block id c ih =>
  intro N0 base w0 r0 n σ Q a w h hi hr
  refine wpIn_block (wpIn_mono (ih h hi hr) fun e a' w' ⟨σ',h1,h2⟩=>?_)
  cases e with
  | exit i =>
   simp only at h1
   simp only [Exit.inBlock]
   split
   ·rename_i hi;rw [if_pos hi] at h1;exact ⟨σ',h1,h2⟩
   ·rename_i hi;rw [if_neg hi] at h1;exact ⟨σ',h1,h2⟩
  | _=>exact ⟨σ',h1,h2⟩
 | loop c ih =>
  intro N0 base w0 r0 n σ Q a w h hi hr
  cases h with
  | mk h =>
   obtain ⟨ids,h⟩:=h
   obtain ⟨kept,⟨α,new,objs,next,inv,μ,x0,⟨bs,h1⟩,h2,h3⟩,hk⟩:=keepK_elim h rfl
   have enter:∀ {σ1:St} {x:α} {bs:List (Nat × Nat × Nat)} {a1:Act} {w1:World},(backK bs σ1 fun σ'=>LeH ids σ' (new x) kept (objs x) next)→(σ1.size,σ1.par)=(σ.size,σ.par)→RSX N0 base w0 σ1 a1 w1→RSX N0 base w0 (headSt σ (new x) kept (objs x) next) a1 w1:=fun {σ1 x bs a1 w1} hb hs hr1=>by
    obtain ⟨N1,b1,w1',e,hr1⟩:=hr1
    refine ⟨N1,b1,w1',e,?_⟩
    obtain ⟨σ2,q1,q2,q3,q4⟩:=backK_elim hb hr1
    have:=q1.sound hk q2
    simp only [Prod.mk.injEq] at hs
    have e:headSt σ2 (new x) kept (objs x) next=headSt σ (new x) kept (objs x) next:=by unfold headSt;rw [q3,q4,hs.1,hs.2]
    rwa [e] at this
   refine Go.wpIn_loop_ghost (fun n a w=>∃ x,μ x=n∧inv x∧RSX N0 base w0 (headSt σ (new x) kept (objs x) next) a w) (μ x0) ⟨x0,rfl,h2,enter h1 rfl hr⟩ fun n a w ⟨x,hn,h4,h5⟩=>?_
   refine wpIn_mono (ih (h3 x h4) hi h5) fun e a' w' ⟨σ',h6,h7⟩=>?_
   cases e with
   | normal =>
    obtain ⟨x',⟨bs',h8⟩,h9,h10,h11⟩:=h6
    exact ⟨μ x',by omega,x',rfl,h9,enter h8 h11 h7⟩
   | _=>exact ⟨σ',h6,h7⟩
  | @of α tc oc next inv μ x0 h =>
   obtain ⟨ids,h⟩:=idsK_elim h
   obtain ⟨kept,h,hk⟩:=keepK_elim h rfl
   obtain ⟨keptO,⟨⟨bs,h1⟩,h2,h3⟩,hkO⟩:=keepO_elim h rfl
   have enter:∀ {σ1:St} {x:α} {bs:List (Nat × Nat × Nat)} {a1:Act} {w1:World},(backK bs σ1 fun σ'=>Shows ids kept keptO next σ' (tc x) (oc x))→(σ1.size,σ1.par)=(σ.size,σ.par)→RSX N0 base w0 σ1 a1 w1→RSX N0 base w0 (headSt σ (tc x) kept (oc x++keptO) next) a1 w1:=fun {σ1 x bs a1 w1} hb hs hr1=>by
    obtain ⟨N1,b1,w1',e,hr1⟩:=hr1
    refine ⟨N1,b1,w1',e,?_⟩
    obtain ⟨σ2,q1,q2,q3,q4⟩:=backK_elim hb hr1
    have:=(q1.leH hkO).sound hk q2
    simp only [Prod.mk.injEq] at hs
    have e:headSt σ2 (tc x) kept (oc x++keptO) next=headSt σ (tc x) kept (oc x++keptO) next:=by unfold headSt;rw [q3,q4,hs.1,hs.2]
    rwa [e] at this
   refine Go.wpIn_loop_ghost (fun n a w=>∃ x,μ x=n∧inv x∧RSX N0 base w0 (headSt σ (tc x) kept (oc x++keptO) next) a w) (μ x0) ⟨x0,rfl,h2,enter h1 rfl hr⟩ fun n a w ⟨x,hn,h4,h5⟩=>?_
   refine wpIn_mono (ih (h3 x h4) hi h5) fun e a' w' ⟨σ',h6,h7⟩=>?_
   cases e with
   | normal =>
    obtain ⟨x',⟨bs',h8⟩,h9,h10,h11⟩:=h6
    exact ⟨μ x',by omega,x',rfl,h9,enter h8 h11 h7⟩
   | _=>exact ⟨σ',h6,h7⟩
 | rangeFunc g ps x y ihx ihy=>intro N0 base w0 r0 n σ Q a w h hi hr;exact range_sound h hi hr ihx ihy
 | exit id=>intro N0 base w0 r0 n σ Q a w h hi hr;exact wpIn_exit ⟨σ,h,hr⟩
 | ret=>intro N0 base w0 r0 n σ Q a w h hi hr;exact wpIn_ret ⟨σ,h,hr⟩
 | _=>intro N0 base w0 r0 n σ Q a w h hi hr;exact h.elim
end
end Go.Sk
