/- A checker of Go functions by conditions over small pure states: part 8. -/
import Derived.Test.YtejljpjdifblpaaSk6
set_option linter.unusedVariables false
set_option linter.unusedSimpArgs false
namespace Go.Sk
open Go.RowKit
section
variable {P:Program} {T:TypeId→Option TI} {N0:Nat→Prop} {base:Nat} {w0:W0} {σ:St} {a:Act} {w:World}
def St.kill (σ:St):List Nat→St
 | []=>σ
 | i :: r=>(σ.setObj i .dead).kill r
theorem kill_spec:∀ (ks:List Nat) (σ:St),(∀ i,(σ.kill ks).obj i=if i∈ks then some .dead else σ.obj i)∧(σ.kill ks).get=σ.get∧(σ.kill ks).next=σ.next∧(σ.kill ks).size=σ.size∧(σ.kill ks).par=σ.par
 | [],σ=>⟨fun i=>by simp [St.kill],rfl,rfl,rfl,rfl⟩
 | k :: r,σ=>by
  obtain ⟨h1,h2,h3,h4,h5⟩:=kill_spec r (σ.setObj k .dead)
  refine ⟨fun i=>?_,h2,h3,h4,h5⟩
  show ((σ.setObj k .dead).kill r).obj i=_
  rw [h1 i,St.obj_setObj]
  by_cases hr:i∈r
  ·simp [hr]
  ·by_cases hk:i=k
   ·simp [hk,updO]
   ·simp [hr,hk,updO]
theorem takeL_step {o:Oper} {ks:List Nat} {o':AO} {K:St→Prop} (hks:∀ i,i∈ks→live σ.obj i) (hd:dstOk σ o=true) (hKσ:K ((σ.kill ks).after o.dst (.ref σ.next) (some o')))
  (hr:RS N0 base w0 σ a w) {next:Act→World→Prop} {Q:Exit→Act→World→Prop} (hK:∀ σ' a' w',K σ'→RS N0 base w0 σ' a' w'→next a' w')
  (h:∀ V,Rel N0 base w0 σ.size V σ.get σ.obj (fun i=>i < σ.next) a w→∃ (v:Value) (w':World) (f:Nat→Prop),(execOp a.eval o).run P w=.ok (.value v) w'∧v.oneCell'=true∧w.heap.size≤w'.heap.size ∧
   (∀ b,b < w.heap.size→(∀ id,id∈ks→¬ V.f id b)→w'.heap[b]?=w.heap[b]?)∧w'.os=w.os∧w'.tape=w.tape∧Outp w w'∧(∀ b,f b→(∃ id,id∈ks∧V.f id b)∨(w.heap.size≤b∧b < w'.heap.size)) ∧
   ((∀ b,Nf N0 base V σ.obj b→b < w.heap.size→Nf N0 base (setF (updV V σ.next v) σ.next f) (updK σ.obj ks σ.next o') b∧w'.heap[b]?=w.heap[b]?) →
    RepO (Nf N0 base (setF (updV V σ.next v) σ.next f) (updK σ.obj ks σ.next o')) w' (setF (updV V σ.next v) σ.next f) σ.next o')∧bdO (addA (fun i=>i < σ.next) σ.next) o'):o.wp P a w next Q:=by
 obtain ⟨hp,V,hV⟩:=hr
 obtain ⟨v,w',f,h1,h2,h3,h4,h5,h6,h7,h8,h9,h10⟩:=h V hV
 unfold Oper.wp
 rw [h1]
 obtain ⟨k1,k2,k3,k4,k5⟩:=kill_spec ks σ
 have e1:((σ.kill ks).after o.dst (.ref σ.next) (some o')).obj=updK σ.obj ks σ.next o':=by
  rw [St.obj_after,k3]
  funext i
  show (if i=σ.next then some o' else (σ.kill ks).obj i)=_
  rw [k1 i];rfl
 have e2:((σ.kill ks).after o.dst (.ref σ.next) (some o')).get=upd σ.get o.dst (.ref σ.next):=by rw [St.get_after,k2]
 have e3:(fun i=>i < ((σ.kill ks).after o.dst (.ref σ.next) (some o')).next)=addA (fun i=>i < σ.next) σ.next:=by rw [St.next_after,k3];rfl
 refine hK _ _ _ hKσ ⟨?_,setF (updV V σ.next v) σ.next f,?_⟩
 ·show w0.m=(σ.kill ks).par
  rw [k5];exact hp
 rw [e1,e2,e3,show ((σ.kill ks).after o.dst (.ref σ.next) (some o')).size=σ.size from k4]
 have:=hV.replaceL (n:=σ.next) (o':=o') hks (by simp) h3 h4 h5 h6 h7 h8 h9 h10
 refine this.put (dstOk_spec hd) ?_ (by unfold bd;exact .inr rfl)
 have hrf:=RepT.ref (N:=Nf N0 base (setF (updV V σ.next v) σ.next f) (updK σ.obj ks σ.next o')) (w:=w') (V:=setF (updV V σ.next v) σ.next f) σ.next (by rw [setF_v,updV_same];exact h2)
 rwa [setF_v,updV_same] at hrf
def sbuildT (T:TypeId→Option TI) (σ:St) (o:Oper) (t:TypeId) (p k2:Nat) (ys:List AV) (K:St→Prop):Prop :=
 match (T t).map TI.desc with
 | some (TypeDesc.slice e)=>match T e with
  | some ie=>if ie.size=1 then K ((σ.kill [p]).after o.dst (.ref σ.next) (some (.tre 1 [.own k2 ys]))) else False
  | none=>False
 | _=>False
theorem sbuildT_step (hT:TOK P T) {o:Oper} {t:TypeId} {parts:Array (Nat × Operand)} {x:Operand} {p k2:Nat} {ys:List AV} {K:St→Prop} (ho:o.op=.buildSlice t 1 parts) (hps:parts.toList=[(0,x)]) (hd:dstOk σ o=true)
  (hx:σ.eval x=some (.ref p)) (hob:σ.obj p=some (.arr k2 ys)) (h:sbuildT T σ o t p k2 ys K)
  (hr:RS N0 base w0 σ a w) {next:Act→World→Prop} {Q:Exit→Act→World→Prop} (hK:∀ σ' a' w',K σ'→RS N0 base w0 σ' a' w'→next a' w'):o.wp P a w next Q:=by
 unfold sbuildT at h
 split at h
 ·rename_i e hdsc
  split at h
  ·rename_i ie hie
   by_cases hs:ie.size=1
   ·rw [if_pos hs] at h
    refine takeL_step (ks:=[p]) (fun i hi=>by simp at hi;subst hi;exact ⟨_,hob,rfl⟩) hd h hr hK fun V hV=>?_
    obtain ⟨hrx,_⟩:=eval_rep hV hx
    obtain ⟨hxv,hxo⟩:a.eval x=V p∧(V p).oneCell'=true:=by
     generalize a.eval x=v at hrx
     cases hrx with
     | im h=>cases h
     | ref _ h=>exact ⟨rfl,h⟩
    have hpe:parts=#[(0,x)]:=by
     cases parts;simp at hps;rw [hps]
    subst hpe
    obtain ⟨cells,r1,r2,r3,r4⟩:=buildSlice_run (P:=P) (w:=w) (N:=NT) (V:=V0) (ob:=fun _=>none) (ev:=a.eval) (ys:=[.v (V p)]) (es:=[.v (V p)]) (parts:=#[(0,x)]) (len:=1) hT (under_of hT hdsc) hie
     (by rfl) (by rfl) (by omega) (by rfl) (fun j h1 h2=>by
      have h1:j < 1:=by simpa using h1
      obtain rfl:j=0:=by omega
      simp only [List.getElem_cons_zero,List.getElem_toArray]
      show RepT NT w V0 (.v (V p)) (a.eval x)
      rw [hxv]
      exact .im (.v _ hxo)) (by simp [immAll,immA,immC,hxo,cellsA,hs]) (fun i u hu=>by cases hu)
    obtain ⟨u0,hu0,hru⟩:=r3.2 0 _ 0 _ rfl rfl
    have hu:cells[0]?=some (V p):=by
     rw [hs] at hu0
     cases hru with
     | v=>simpa using hu0
    obtain ⟨hF,hA⟩:=hV.obs p _ hob
    have hplt:∀ b,V.f p b→b < w.heap.size:=fun b hb=>(hV.low p b ⟨_,hob,rfl⟩ hb).2
    refine ⟨.slice (some ⟨w.heap.size,0,none⟩) 1 1,w.alloc (.cells cells e),fun b=>b=w.heap.size∨V.f p b,?_,rfl,by simp,fun b hb _=>heap_alloc_old w _ b hb,rfl,rfl,.same rfl rfl,fun b hb=>?_,fun hN=>?_,?_⟩
    ·simp only [execOp,ho,Sem.run_bind]
     rw [r1];rfl
    ·rcases hb with rfl | hb
     ·exact .inr ⟨Nat.le_refl _,by simp⟩
     ·exact .inl ⟨p,by simp,hb⟩
    ·refine .inr ⟨w.heap.size,0,1,cells,e,fun q b'=>q=0∧V.f p b',by rw [setF_v,updV_same];rfl,heap_new w _,by omega,by simp,by rw [r2,hs];simp,fun y hy=>by simp at hy;subst hy;rfl,fun i y j c h1 h2=>?_,fun q q' b' g1 g2=>by rw [g1.1,g2.1],fun q b' g1=>⟨fun e=>?_,?_⟩,fun b'=>?_⟩
     ·cases i with
      | succ i=>simp at h1
      | zero =>
       simp at h1;subst h1
       cases j with
       | succ j=>simp [cellsA] at h2
       | zero =>
        simp [cellsA] at h2;subst h2
        refine ⟨V p,by simpa using hu,hxo,?_,fun b'=>by simp [hF]⟩
        exact hA.mono hN fun b' hb'=>heap_alloc_old w _ b' (hplt b' ((hF b').2 hb'))
     ·have:=hplt b' g1.2
      omega
     ·have:=hplt b' g1.2
      simp;omega
     ·rw [setF_f]
      constructor
      ·rintro (h | h)
       ·exact .inl h
       ·exact .inr ⟨0,by simp,rfl,h⟩
      ·rintro (h | ⟨q,_,_,h⟩)
       ·exact .inl h
       ·exact .inr h
    ·intro y hy
     simp at hy;subst hy
     simp [cellsA,bdL,bd]
   ·rw [if_neg hs] at h;exact h.elim
  ·exact h.elim
 ·exact h.elim
def TreV (N:Nat→Prop) (w:World) (V:VV) (f:Nat→Prop) (xs:List AV) (v:Value):Prop :=
 (∃ a:Option Addr,v=.slice a 0 0∧xs=[]∧∀ b,¬ f b)∨∃ (b o cap:Nat) (arr:Array Value) (T:TypeId) (G:Nat→Nat→Prop),v=.slice (some ⟨b,o,none⟩) xs.length cap∧w.heap[b]?=some (.cells arr T (0,0))∧0 < cap∧xs.length≤cap∧o+cap * 1≤arr.size ∧
   (∀ e,e∈xs→(cellsA e).length=1) ∧
   (∀ (i:Nat) (e:AV) (j:Nat) (c:AV),xs[i]?=some e→(cellsA e)[j]?=some c→∃ u:Value,arr[o+(i * 1+j)]?=some u∧u.oneCell'=true∧RepW N w V (G (i * 1+j)) c u) ∧
   (∀ q q' b',G q b'→G q' b'→q=q')∧(∀ q b',G q b'→b'≠b∧b' < w.heap.size)∧(∀ b',f b'↔b'=b∨∃ q,q < xs.length * 1∧G q b')
theorem TreV.obj {N:Nat→Prop} {V:VV} {id:Nat} {xs:List AV}:RepO N w V id (.tre 1 xs)↔TreV N w V (V.f id) xs (V id):=Iff.rfl
theorem tre_values {N:Nat→Prop} {V:VV} {xs:List AV} {arr:Array Value} {o cap:Nat} {G:Nat→Nat→Prop} (h4:xs.length≤cap) (h5:o+cap * 1≤arr.size) (h6:∀ e,e∈xs→(cellsA e).length=1)
  (h7:∀ (i:Nat) (e:AV) (j:Nat) (c:AV),xs[i]?=some e→(cellsA e)[j]?=some c→∃ u:Value,arr[o+(i * 1+j)]?=some u∧u.oneCell'=true∧RepW N w V (G (i * 1+j)) c u) :
  ∃ vs:List Value,vs.length=xs.length∧(∀ j v,vs[j]?=some v→arr[o+j]?=some v)∧(∀ v∈vs,v.oneCell'=true) ∧
   ∀ (i:Nat) (e:AV) (j:Nat) (c:AV),xs[i]?=some e→(cellsA e)[j]?=some c→j=0∧∃ u:Value,vs[i]?=some u∧u.oneCell'=true∧RepW N w V (G i) c u:=by
 have hlen:((arr.toList.drop o).take xs.length).length=xs.length:=by simp;omega
 have hget:∀ p,p < xs.length→((arr.toList.drop o).take xs.length)[p]?=arr[o+p]?:=fun p hp=>by
  rw [List.getElem?_take,if_pos hp,List.getElem?_drop];simp
 refine ⟨(arr.toList.drop o).take xs.length,hlen,fun j v hv=>?_,fun v hv=>?_,fun i e j c h1 h2=>?_⟩
 ·have hj:j < xs.length:=by rw [← hlen];exact (List.getElem?_eq_some_iff.1 hv).1
  rw [← hget j hj];exact hv
 ·obtain ⟨j,hj⟩:=List.mem_iff_getElem?.1 hv
  have hj':j < xs.length:=by rw [← hlen];exact (List.getElem?_eq_some_iff.1 hj).1
  have hc:0 < (cellsA xs[j]).length:=by rw [h6 _ (List.getElem_mem hj')];omega
  obtain ⟨u,hu,hu1,_⟩:=h7 j _ 0 _ (List.getElem?_eq_getElem hj') (List.getElem?_eq_getElem hc)
  rw [hget j hj'] at hj
  rw [show o+(j * 1+0)=o+j by omega,hj] at hu
  injection hu with hu
  exact hu ▸ hu1
 ·have hi:i < xs.length:=(List.getElem?_eq_some_iff.1 h1).1
  have hj:j < 1:=by rw [← h6 e (List.mem_of_getElem? h1)];exact (List.getElem?_eq_some_iff.1 h2).1
  obtain rfl:j=0:=by omega
  obtain ⟨u,hu,hu1,hr⟩:=h7 i e 0 c h1 h2
  refine ⟨rfl,u,?_,hu1,?_⟩
  ·rw [hget i hi,← hu];congr 1;omega
  ·rw [show i * 1+0=i by omega] at hr;exact hr
theorem TreV.join {N':Nat→Prop} {w':World} {V':VV} {xs ys:List AV} {G1 G2:Nat→Nat→Prop} {b o cap n:Nat} {arr:Array Value} {Ty:TypeId} (hn:n=xs.length+ys.length) (hb:w'.heap[b]?=some (.cells arr Ty (0,0))) (hc:0 < cap) (hle:n≤cap) (hfit:o+cap * 1≤arr.size)
  (c1:∀ e,e∈xs→(cellsA e).length=1) (c2:∀ e,e∈ys→(cellsA e).length=1)
  (v1:∀ (i:Nat) (e:AV) (j:Nat) (c:AV),xs[i]?=some e→(cellsA e)[j]?=some c→j=0∧∃ u:Value,arr[o+i]?=some u∧u.oneCell'=true∧RepW N' w' V' (G1 i) c u)
  (v2:∀ (i:Nat) (e:AV) (j:Nat) (c:AV),ys[i]?=some e→(cellsA e)[j]?=some c→j=0∧∃ u:Value,arr[o+(xs.length+i)]?=some u∧u.oneCell'=true∧RepW N' w' V' (G2 i) c u)
  (g1:∀ q q' b',G1 q b'→G1 q' b'→q=q') (g2:∀ q q' b',G2 q b'→G2 q' b'→q=q') (g12:∀ q q' b',q < xs.length→q' < ys.length→G1 q b'→G2 q' b'→False)
  (l1:∀ q b',q < xs.length→G1 q b'→b'≠b∧b' < w'.heap.size) (l2:∀ q b',q < ys.length→G2 q b'→b'≠b∧b' < w'.heap.size) :
  TreV N' w' V' (fun b'=>b'=b∨(∃ q,q < xs.length∧G1 q b')∨∃ q,q < ys.length∧G2 q b') (xs++ys) (.slice (some ⟨b,o,none⟩) n cap):=by
 subst hn
 have hG1:∀ i,i < xs.length→(fun b'=>(i < xs.length∧G1 i b')∨(xs.length≤i∧i - xs.length < ys.length∧G2 (i - xs.length) b'))=G1 i:=fun i hi=>by
  funext b';exact propext ⟨fun h=>h.elim (·.2) fun h=>absurd h.1 (by omega),fun h=>.inl ⟨hi,h⟩⟩
 have hG2:∀ i,i < ys.length→(fun b'=>(xs.length+i < xs.length∧G1 (xs.length+i) b')∨(xs.length≤xs.length+i∧xs.length+i - xs.length < ys.length∧G2 (xs.length+i - xs.length) b'))=G2 i:=fun i hi=>by
  funext b'
  rw [show xs.length+i - xs.length=i by omega]
  exact propext ⟨fun h=>h.elim (fun h=>absurd h.1 (by omega)) (·.2.2),fun h=>.inr ⟨by omega,hi,h⟩⟩
 refine .inr ⟨b,o,cap,arr,Ty,fun i b'=>(i < xs.length∧G1 i b')∨(xs.length≤i∧i - xs.length < ys.length∧G2 (i - xs.length) b'),by simp,hb,hc,by simpa using hle,hfit,fun e he=>?_,fun i e j c h1 h2=>?_,fun q q' b' h h'=>?_,fun q b' h=>?_,fun b'=>?_⟩
 ·rcases List.mem_append.1 he with h | h
  ·exact c1 e h
  ·exact c2 e h
 ·rw [List.getElem?_append] at h1
  split at h1
  ·rename_i hi
   obtain ⟨rfl,u,q1,q2,q3⟩:=v1 i e j c h1 h2
   refine ⟨u,by rw [show i * 1+0=i by omega];exact q1,q2,?_⟩
   rw [show i * 1+0=i by omega];rw [← hG1 i hi] at q3;exact q3
  ·rename_i hi
   have hil:i - xs.length < ys.length:=(List.getElem?_eq_some_iff.1 h1).1
   obtain ⟨rfl,u,q1,q2,q3⟩:=v2 _ e j c h1 h2
   refine ⟨u,by rw [show i * 1+0=xs.length+(i - xs.length) by omega];exact q1,q2,?_⟩
   rw [show i * 1+0=xs.length+(i - xs.length) by omega];rw [← hG2 _ hil] at q3;exact q3
 ·rcases h with ⟨a1,a2⟩ | ⟨a1,a2,a3⟩ <;> rcases h' with ⟨b1,b2⟩ | ⟨b1,b2,b3⟩
  ·exact g1 _ _ _ a2 b2
  ·exact (g12 _ _ _ a1 b2 a2 b3).elim
  ·exact (g12 _ _ _ b1 a2 b2 a3).elim
  ·have:=g2 _ _ _ a3 b3;omega
 ·rcases h with ⟨a1,a2⟩ | ⟨a1,a2,a3⟩
  ·exact l1 _ _ a1 a2
  ·exact l2 _ _ a2 a3
 ·constructor
  ·rintro (h | ⟨q,h1,h2⟩ | ⟨q,h1,h2⟩)
   ·exact .inl h
   ·exact .inr ⟨q,by simp;omega,.inl ⟨h1,h2⟩⟩
   ·exact .inr ⟨xs.length+q,by simp;omega,.inr ⟨by omega,by omega,by rw [show xs.length+q - xs.length=q by omega];exact h2⟩⟩
  ·rintro (h | ⟨q,h0,h1 | ⟨h1,h2,h3⟩⟩)
   ·exact .inl h
   ·exact .inr (.inl ⟨q,h1.1,h1.2⟩)
   ·exact .inr (.inr ⟨_,h2,h3⟩)
theorem TreV.mono {N N':Nat→Prop} {w w':World} {V V':VV} {A:Nat→Prop} {f:Nat→Prop} {xs:List AV} {v:Value} (h:TreV N w V f xs v) (hb:∀ b,N b→b < w.heap.size→N' b∧w'.heap[b]?=w.heap[b]?) (hsz:w.heap.size≤w'.heap.size)
  (hV:∀ i,A i→V' i=V i) (hown:∀ b,f b→w'.heap[b]?=w.heap[b]?) (hx:∀ e,e∈xs→bdL A (cellsA e)):TreV N' w' V' f xs v:=by
 rcases h with h | ⟨b,o,cap,arr,T,G,h1,h2,h3,h4,h5,h6,h7,h8,h9,h10⟩
 ·exact .inl h
 ·refine .inr ⟨b,o,cap,arr,T,G,h1,by rw [hown b ((h10 b).2 (.inl rfl))];exact h2,h3,h4,h5,h6,fun i e j c q1 q2=>?_,h8,fun q b' hg=>⟨(h9 q b' hg).1,Nat.lt_of_lt_of_le (h9 q b' hg).2 hsz⟩,h10⟩
  obtain ⟨u,hu,hr,hw⟩:=h7 i e j c q1 q2
  have hjk:j < 1:=by rw [← h6 e (List.mem_of_getElem? q1)];exact (List.getElem?_eq_some_iff.1 q2).1
  have hil:i < xs.length:=(List.getElem?_eq_some_iff.1 q1).1
  exact ⟨u,hu,hr,hw.mono hb hV (fun b' hg=>hown b' ((h10 b').2 (.inr ⟨_,by omega,hg⟩))) (bdL_iff.1 (hx e (List.mem_of_getElem? q1)) _ (List.mem_of_getElem? q2))⟩
theorem tre_append (hT:TOK P T) {t ty e:TypeId} {ie:TI} (hu:P.underlying t=some (.slice e)) (he:T e=some ie) (hs:ie.size=1) {N:Nat→Prop} {V:VV} {f1 f2:Nat→Prop} {xs ys:List AV} {v1 v2:Value}
  (h1:TreV N w V f1 xs v1) (h2:TreV N w V f2 ys v2) (hdis:∀ b,f1 b→f2 b→False) (lt1:∀ b,f1 b→b < w.heap.size) (lt2:∀ b,f2 b→b < w.heap.size)
  (hbytes:(xs.length+ys.length) * ie.bytes≤140737488355328) (h62:xs.length+ys.length≤4611686018427387904) :
  ∃ (v:Value) (w':World) (f:Nat→Prop),(Builtin.append_ #[t,t] ty #[v1,v2]).run P w=.ok v w'∧v.oneCell'=true∧w.heap.size≤w'.heap.size∧(∀ b,b < w.heap.size→¬ f1 b→w'.heap[b]?=w.heap[b]?)∧w'.os=w.os∧w'.tape=w.tape∧Outp w w' ∧
   (∀ b,f b→f1 b∨f2 b∨(w.heap.size≤b∧b < w'.heap.size)) ∧
   ∀ (N':Nat→Prop) (V':VV) (A:Nat→Prop),(∀ b,N b→b < w.heap.size→N' b∧w'.heap[b]?=w.heap[b]?)→(∀ i,A i→V' i=V i)→(∀ e,e∈xs→bdL A (cellsA e))→(∀ e,e∈ys→bdL A (cellsA e))→TreV N' w' V' f (xs++ys) v:=by
 have hzs:ie.zero.cells.size=ie.size:=by
  obtain ⟨info,_,_,_,_,_,h⟩:=hT e ie he
  exact h
 rcases h2 with ⟨a2,rfl,rfl,h2⟩ | ⟨b2,o2,cap2,arr2,T2,G2,rfl,p2,p3,p4,p5,p6,p7,p8,p9,p10⟩
 ·obtain ⟨b,n,c,hv,hnc⟩:∃ b n c,v1=.slice b n c∧n≤c:=by
   rcases h1 with ⟨a',h1,_⟩ | ⟨b,o',cap,arr,Ty,G,h1,_,_,h4,_⟩
   ·exact ⟨a',0,0,h1,Nat.le_refl _⟩
   ·exact ⟨_,_,_,h1,h4⟩
  subst hv
  refine ⟨_,w,f1,append_none hT hu he hnc,rfl,Nat.le_refl _,fun _ _ _=>rfl,rfl,rfl,.refl _,fun b hb=>.inl hb,fun N' V' A hN hV hx hy=>?_⟩
  rw [List.append_nil]
  exact h1.mono hN (Nat.le_refl _) hV (fun _ _=>rfl) hx
 ·by_cases hne:ys=[]
  ·subst hne
   obtain ⟨b,n,c,hv,hnc⟩:∃ b n c,v1=.slice b n c∧n≤c:=by
    rcases h1 with ⟨a',h1,_⟩ | ⟨b,o',cap,arr,Ty,G,h1,_,_,h4,_⟩
    ·exact ⟨a',0,0,h1,Nat.le_refl _⟩
    ·exact ⟨_,_,_,h1,h4⟩
   subst hv
   refine ⟨_,w,f1,append_none hT hu he hnc,rfl,Nat.le_refl _,fun _ _ _=>rfl,rfl,rfl,.refl _,fun b hb=>.inl hb,fun N' V' A hN hV hx hy=>?_⟩
   rw [List.append_nil]
   exact h1.mono hN (Nat.le_refl _) hV (fun _ _=>rfl) hx
  have hpos:0 < ys.length:=by cases ys with | nil=>exact absurd rfl hne | cons _ _=>simp
  obtain ⟨news,n1,n2,n3,n4⟩:=tre_values p4 p5 p6 p7
  have hn2:∀ j v,news[j]?=some v→w.cell? ((⟨b2,o2,none⟩:Addr).add j)=some v:=fun j v hj=>by rw [Addr.add_lit,cell_of_row w b2 _ arr2 T2 (0,0) p2];exact n2 j v hj
  have f2b:f2 b2:=(p10 b2).2 (.inl rfl)
  have f2g:∀ q b',q < ys.length→G2 q b'→f2 b':=fun q b' hq hg=>(p10 b').2 (.inr ⟨q,by omega,hg⟩)
  rcases h1 with ⟨a1,rfl,rfl,h1⟩ | ⟨b1,o1,cap1,arr1,T1,G1,rfl,q2,q3,q4,q5,q6,q7,q8,q9,q10⟩
  ·obtain ⟨cap,z,r1,r2,r3⟩:=append_grows (w:=w) (ty:=ty) hT hu he (base:=a1) (sLen:=0) (sCap:=0) (xc:=cap2) (xa:=⟨b2,o2,none⟩) (n:=ys.length) (olds:=[]) (news:=news) (by simp) (by rw [n1,hs];omega) (fun _ _ j v hj=>by simp at hj) (fun _=>⟨rfl,rfl⟩) hn2 (Nat.le_refl 0) (by omega) (by simpa using hbytes) (by simpa using h62)
   refine ⟨_,_,_,r1,rfl,by simp,fun b hb _=>heap_alloc_old w.drew _ b hb,rfl,rfl,⟨rfl,Nat.le_succ _⟩,?_,fun N' V' A hN hV hx hy=>TreV.join (xs:=[]) (G1:=fun _ _=>False) (G2:=G2) (arr:=([]:List Value).toArray++news.toArray++z) (Ty:=e) (by simp) (heap_new w.drew _) (by omega) (by omega) ?_ (by simp) p6 (fun i e j c h1 h2=>by simp at h1) (fun i x j c h1 h2=>?_) (fun _ _ _ h=>h.elim) p8 (fun _ _ _ _ _ h=>h.elim) (fun _ _ _ h=>h.elim) (fun q b' hq hg=>?_)⟩
   ·rintro b (rfl | ⟨q,_,h⟩ | ⟨q,hq,h⟩)
    ·exact .inr (.inr ⟨Nat.le_refl _,by simp⟩)
    ·exact h.elim
    ·exact .inr (.inl (f2g q b hq h))
   ·simp only [Array.size_append,List.size_toArray,n1,r3,hzs,hs,List.length_nil]
    omega
   ·obtain ⟨rfl,u,s1,s2,s3⟩:=n4 i x j c h1 h2
    refine ⟨rfl,u,?_,s2,?_⟩
    ·have hlt:=(List.getElem?_eq_some_iff.1 s1).1
     rw [Array.getElem?_append_left (by simpa using hlt)]
     simpa using s1
    ·have hi:=(List.getElem?_eq_some_iff.1 h1).1
     exact s3.mono hN hV (fun b' hg=>heap_alloc_old w.drew _ b' (lt2 b' (f2g i b' hi hg))) (bdL_iff.1 (hy x (List.mem_of_getElem? h1)) _ (List.mem_of_getElem? h2))
   ·have:=lt2 b' (f2g q b' hq hg)
    exact ⟨fun e=>absurd (show b'=w.heap.size from e) (by omega),by simp;omega⟩
  ·obtain ⟨olds,m1,m2,m3,m4⟩:=tre_values q4 q5 q6 q7
   have f1b:f1 b1:=(q10 b1).2 (.inl rfl)
   have f1g:∀ q b',q < xs.length→G1 q b'→f1 b':=fun q b' hq hg=>(q10 b').2 (.inr ⟨q,by omega,hg⟩)
   by_cases hroom:xs.length+ys.length≤cap1
   ·have r1:=append_room (w:=w) (ty:=ty) (P:=P) hT hu he (g:=b1) (o:=o1) (sLen:=xs.length) (sCap:=cap1) (xc:=cap2) (n:=ys.length) (xa:=⟨b2,o2,none⟩) (news:=news) (cur:=arr1) (Ty:=T1) (by rw [n1,hs];omega) hn2 n3 q2 hroom (by rw [hs];omega)
    rw [hs] at r1
    refine ⟨_,_,_,r1,rfl,by rw [setRow_size];exact Nat.le_refl _,fun b' _ hb=>setRow_other w b1 b' _ (fun e=>hb (e ▸ f1b)),rfl,rfl,.same rfl rfl,?_,fun N' V' A hN hV hx hy=>TreV.join (G1:=G1) (G2:=G2) (Ty:=T1) rfl (setRow_heap w b1 arr1 _ T1 _ q2) q3 hroom (by simp [n1];omega) q6 p6 (fun i x j c h1 h2=>?_) (fun i x j c h1 h2=>?_) q8 p8 (fun q q' b' c1 c2 g1 g2=>hdis b' (f1g q b' c1 g1) (f2g q' b' c2 g2)) (fun q b' hq hg=>?_) (fun q b' hq hg=>?_)⟩
    ·rintro b (rfl | ⟨q,hq,h⟩ | ⟨q,hq,h⟩)
     ·exact .inl f1b
     ·exact .inl (f1g q b hq h)
     ·exact .inr (.inl (f2g q b hq h))
    ·have hi:=(List.getElem?_eq_some_iff.1 h1).1
     obtain ⟨rfl,u,s1,s2,s3⟩:=m4 i x j c h1 h2
     refine ⟨rfl,u,?_,s2,s3.mono hN hV (fun b' hg=>setRow_other w b1 b' _ (fun e=>(q9 i b' hg).1 e)) (bdL_iff.1 (hx x (List.mem_of_getElem? h1)) _ (List.mem_of_getElem? h2))⟩
     simp only [List.getElem?_toArray]
     rw [splice_get (by simp [n1];omega),if_neg (by omega)]
     have:=m2 i u s1
     simpa using this
    ·have hi:=(List.getElem?_eq_some_iff.1 h1).1
     obtain ⟨rfl,u,s1,s2,s3⟩:=n4 i x j c h1 h2
     refine ⟨rfl,u,?_,s2,s3.mono hN hV (fun b' hg=>setRow_other w b1 b' _ (fun e=>hdis b' (e ▸ f1b) (f2g i b' hi hg))) (bdL_iff.1 (hy x (List.mem_of_getElem? h1)) _ (List.mem_of_getElem? h2))⟩
     simp only [List.getElem?_toArray]
     rw [splice_get (by simp [n1];omega),if_pos ⟨by omega,by rw [n1];omega⟩,show o1+(xs.length+i) - (o1+xs.length * 1)=i by omega]
     exact s1
    ·exact ⟨(q9 q b' hg).1,by rw [setRow_size];exact lt1 b' (f1g q b' hq hg)⟩
    ·exact ⟨fun e=>hdis b' (e ▸ f1b) (f2g q b' hq hg),by rw [setRow_size];exact lt2 b' (f2g q b' hq hg)⟩
   ·obtain ⟨cap,z,r1,r2,r3⟩:=append_grows (w:=w) (ty:=ty) hT hu he (base:=some ⟨b1,o1,none⟩) (sLen:=xs.length) (sCap:=cap1) (xc:=cap2) (xa:=⟨b2,o2,none⟩) (n:=ys.length) (olds:=olds) (news:=news) (by rw [m1,hs];omega) (by rw [n1,hs];omega)
     (fun b' hb j v hj=>by
      injection hb with hb;subst hb
      rw [Addr.add_lit,cell_of_row w b1 _ arr1 T1 (0,0) q2];exact m2 j v hj) (fun h=>by cases h) hn2 q4 (by omega) hbytes h62
    refine ⟨_,_,_,r1,rfl,by simp,fun b hb _=>heap_alloc_old w.drew _ b hb,rfl,rfl,⟨rfl,Nat.le_succ _⟩,?_,fun N' V' A hN hV hx hy=>TreV.join (G1:=G1) (G2:=G2) (Ty:=e) rfl (heap_new w.drew _) (by omega) r2 ?_ q6 p6 (fun i x j c h1 h2=>?_) (fun i x j c h1 h2=>?_) q8 p8 (fun q q' b' c1 c2 g1 g2=>hdis b' (f1g q b' c1 g1) (f2g q' b' c2 g2)) (fun q b' hq hg=>?_) (fun q b' hq hg=>?_)⟩
    ·rintro b (rfl | ⟨q,hq,h⟩ | ⟨q,hq,h⟩)
     ·exact .inr (.inr ⟨Nat.le_refl _,by simp⟩)
     ·exact .inl (f1g q b hq h)
     ·exact .inr (.inl (f2g q b hq h))
    ·simp only [Array.size_append,List.size_toArray,m1,n1,r3,hzs,hs]
     omega
    ·have hi:=(List.getElem?_eq_some_iff.1 h1).1
     obtain ⟨rfl,u,s1,s2,s3⟩:=m4 i x j c h1 h2
     refine ⟨rfl,u,?_,s2,s3.mono hN hV (fun b' hg=>heap_alloc_old w.drew _ b' (lt1 b' (f1g i b' hi hg))) (bdL_iff.1 (hx x (List.mem_of_getElem? h1)) _ (List.mem_of_getElem? h2))⟩
     have hlt:=(List.getElem?_eq_some_iff.1 s1).1
     rw [Nat.zero_add,Array.getElem?_append_left (by simp;omega),Array.getElem?_append_left (by simpa using hlt)]
     simpa using s1
    ·have hi:=(List.getElem?_eq_some_iff.1 h1).1
     obtain ⟨rfl,u,s1,s2,s3⟩:=n4 i x j c h1 h2
     refine ⟨rfl,u,?_,s2,s3.mono hN hV (fun b' hg=>heap_alloc_old w.drew _ b' (lt2 b' (f2g i b' hi hg))) (bdL_iff.1 (hy x (List.mem_of_getElem? h1)) _ (List.mem_of_getElem? h2))⟩
     have hlt:=(List.getElem?_eq_some_iff.1 s1).1
     rw [Nat.zero_add,Array.getElem?_append_left (by simp;omega),Array.getElem?_append_right (by simp;omega)]
     simp only [List.size_toArray,m1,List.getElem?_toArray]
     rw [show xs.length+i - xs.length=i by omega]
     exact s1
    ·have:=lt1 b' (f1g q b' hq hg)
     exact ⟨fun e=>absurd (show b'=w.heap.size from e) (by omega),by simp;omega⟩
    ·have:=lt2 b' (f2g q b' hq hg)
     exact ⟨fun e=>absurd (show b'=w.heap.size from e) (by omega),by simp;omega⟩
def tappend (T:TypeId→Option TI) (σ:St) (o:Oper) (t t':TypeId) (ks:List Nat) (xs ys:List AV) (K:St→Prop):Prop :=
 match (T t).map TI.desc with
 | some (TypeDesc.slice e)=>match T e with
  | none=>False
  | some ie=>if t=t'∧ie.size=1 then (xs.length+ys.length) * ie.bytes≤140737488355328∧xs.length+ys.length≤4611686018427387904 ∧
    CalcL (xs++ys) fun zs=>K ((σ.kill ks).after o.dst (.ref σ.next) (some (.tre 1 zs))) else False
 | _=>False
theorem tappend_step (hT:TOK P T) {o:Oper} {t t':TypeId} {x y:Operand} {xv:AV} {id2:Nat} {xs ys:List AV} {ks:List Nat} {K:St→Prop} (ho:o.op=.call { callee:=.builtin .append,args:=#[x,y],argTypes:=#[t,t'] })
  (hd:dstOk σ o=true) (hx:σ.eval x=some xv) (hy:σ.eval y=some (.ref id2)) (hxs:(xv=.nils∧xs=[]∧ks=[id2])∨∃ id1,xv=.ref id1∧id1≠id2∧σ.obj id1=some (.tre 1 xs)∧ks=[id1,id2]) (hob2:σ.obj id2=some (.tre 1 ys)) (h:tappend T σ o t t' ks xs ys K)
  (hr:RS N0 base w0 σ a w) {next:Act→World→Prop} {Q:Exit→Act→World→Prop} (hK:∀ σ' a' w',K σ'→RS N0 base w0 σ' a' w'→next a' w'):o.wp P a w next Q:=by
 unfold tappend at h
 split at h
 ·rename_i e hdsc
  split at h
  ·exact h.elim
  ·rename_i ie hie
   by_cases hc:t=t'∧ie.size=1
   ·rw [if_pos hc] at h
    obtain ⟨rfl,hs⟩:=hc
    obtain ⟨hbytes,h62,hKσ⟩:=h
    replace hKσ:=hKσ.elim
    have hlive:∀ i,i∈ks→live σ.obj i:=by
     rcases hxs with ⟨_,_,rfl⟩ | ⟨id1,_,_,hob1,rfl⟩
     ·intro i hi;simp at hi;subst hi;exact ⟨_,hob2,rfl⟩
     ·intro i hi;simp at hi
      rcases hi with rfl | rfl
      ·exact ⟨_,hob1,rfl⟩
      ·exact ⟨_,hob2,rfl⟩
    refine takeL_step hlive hd hKσ hr hK fun V hV=>?_
    obtain ⟨hrx,_⟩:=eval_rep hV hx
    obtain ⟨hry,_⟩:=eval_rep hV hy
    have hyv:a.eval y=V id2:=by
     generalize a.eval y=v at hry
     cases hry with
     | im h=>cases h
     | ref _ h=>rfl
    have h2:TreV (Nf N0 base V σ.obj) w V (V.f id2) ys (V id2):=hV.obs id2 _ hob2
    have bd2:∀ e,e∈ys→bdL (fun i=>i < σ.next) (cellsA e):=(hV.bdo id2 _ hob2).2
    have lt2:∀ b,V.f id2 b→b < w.heap.size:=fun b hb=>(hV.low id2 b ⟨_,hob2,rfl⟩ hb).2
    obtain ⟨f1,h1,hdis,lt1,hf1,bd1⟩:∃ f1,TreV (Nf N0 base V σ.obj) w V f1 xs (a.eval x)∧(∀ b,f1 b→V.f id2 b→False)∧(∀ b,f1 b→b < w.heap.size)∧(∀ b,f1 b→∃ id,id∈ks∧V.f id b)∧∀ e,e∈xs→bdL (fun i=>i < σ.next) (cellsA e):=by
     rcases hxs with ⟨rfl,rfl,_⟩ | ⟨id1,rfl,hne,hob1,rfl⟩
     ·refine ⟨fun _=>False,.inl ?_,fun _ h=>h.elim,fun _ h=>h.elim,fun _ h=>h.elim,by simp⟩
      generalize a.eval x=v at hrx
      cases hrx with
      | im h=>cases h
      | nils a'=>exact ⟨a',rfl,rfl,fun _ h=>h⟩
     ·have hxv:a.eval x=V id1:=by
       generalize a.eval x=v at hrx
       cases hrx with
       | im h=>cases h
       | ref _ h=>rfl
      exact ⟨V.f id1,by rw [hxv];exact hV.obs id1 _ hob1,fun b c1 c2=>hne (hV.inj id1 id2 b ⟨_,hob1,rfl⟩ ⟨_,hob2,rfl⟩ c1 c2),fun b hb=>(hV.low id1 b ⟨_,hob1,rfl⟩ hb).2,fun b hb=>⟨id1,by simp,hb⟩,(hV.bdo id1 _ hob1).2⟩
    have hid2:id2∈ks:=by
     rcases hxs with ⟨_,_,rfl⟩ | ⟨id1,_,_,hob1,rfl⟩ <;> simp
    obtain ⟨v,w',f,r1,r2,r3,r4,r5,r6,r7,r8,r9⟩:=tre_append (P:=P) (ty:=o.type) hT (under_of hT hdsc) hie hs h1 h2 hdis lt1 lt2 hbytes h62
    refine ⟨v,w',f,?_,r2,r3,fun b hb hno=>r4 b hb (fun hf=>let ⟨id,q1,q2⟩:=hf1 b hf;hno id q1 q2),r5,r6,r7,fun b hb=>?_,fun hN=>?_,?_⟩
    ·simp [execOp,ho,resolve,invoke,builtin,hyv,r1]
    ·rcases r8 b hb with h | h | h
     ·exact .inl (hf1 b h)
     ·exact .inl ⟨id2,hid2,h⟩
     ·exact .inr h
    ·have:=r9 _ (setF (updV V σ.next v) σ.next f) (fun i=>i < σ.next) hN (fun i hi=>by rw [setF_v];exact updV_ne V _ v (by have:i < σ.next:=hi;omega)) bd1 bd2
     show TreV _ w' _ ((setF (updV V σ.next v) σ.next f).f σ.next) (xs++ys) (setF (updV V σ.next v) σ.next f σ.next)
     rw [setF_f,setF_v,updV_same]
     exact this
    ·intro z hz
     refine bdL_iff.2 fun c hc=>bd_mono (A:=fun i=>i < σ.next) (fun _=>.inl) c ?_
     rcases List.mem_append.1 hz with h | h
     ·exact bdL_iff.1 (bd1 z h) c hc
     ·exact bdL_iff.1 (bd2 z h) c hc
   ·rw [if_neg hc] at h;exact h.elim
 ·exact h.elim
def rowA:AV→AV
 | .own _ ys=>.sl ys
 | .nils=>.sl []
 | x=>x
def rowOK:AV→Prop
 | .own _ _ | .nils | .sl _ | .v _=>True
 | _=>False
theorem ArrAt.rep {N N':Nat→Prop} {v:Value} {k:Nat} {xs:List AV} (h:ArrAt N w v k xs) (hv:∀ b,bl v b→N' b) (hN:∀ b,N b→b < w.heap.size→N' b):Rep N' w (.sl xs) v:=by
 rcases h with ⟨a',h1,h2⟩ | ⟨b,o,cap,arr,Ty,h1,h2,h3,h4,h5,h6,h7⟩
 ·rw [h1,h2];exact .nil _ _
 ·have hb:N' b:=hv b (by rw [h1];simp [bl,blk];omega)
  rw [h1]
  exact Laid.rep (k:=k) (arr:=arr) ⟨h6,fun i e j c h8 h9=>let ⟨u,hu,hr⟩:=h7 i e j c h8 h9;⟨u,hu,hr.mono fun b h q=>⟨hN b h q,rfl⟩⟩⟩ h2 hb h4
theorem tre_rep {N N':Nat→Prop} {V:VV} {id:Nat} {xs:List AV} (h:RepO N w V id (.tre 1 xs)) (hr:∀ e,e∈xs→rowOK e) (hf:∀ b,V.f id b→N' b) (hN:∀ b,N b→b < w.heap.size→N' b):Rep N' w (.sl (xs.map rowA)) (V id):=by
 rcases h with ⟨a,h1,h2,h3⟩ | ⟨b,o,cap,arr,Ty,G,h1,h2,h3,h4,h5,h6,h7,h8,h9,h10⟩
 ·rw [h1,h2];exact .nil _ _
 ·rw [h1]
  have hone:∀ e,e∈xs→cellsA e=[e]∧cellsA (rowA e)=[rowA e]:=fun e he=>by
   have:=hr e he
   cases e <;> first | exact this.elim | exact ⟨rfl,rfl⟩
  have:=Laid.rep (N:=N') (w:=w) (k:=1) (xs:=xs.map rowA) (o:=o) (arr:=arr) (b:=b) (cap:=cap) (Ty:=Ty) ⟨fun e he=>?_,fun i e j c q1 q2=>?_⟩ h2 (hf b ((h10 b).2 (.inl rfl))) (by simpa using h4)
  ·simpa using this
  ·obtain ⟨e',he',rfl⟩:=List.mem_map.1 he
   rw [(hone e' he').2];rfl
  ·rw [List.getElem?_map] at q1
   cases hxs:xs[i]? with
   | none=>simp [hxs] at q1
   | some e' =>
    simp [hxs] at q1;subst q1
    have hm:=List.mem_of_getElem? hxs
    have hil:i < xs.length:=(List.getElem?_eq_some_iff.1 hxs).1
    rw [(hone e' hm).2] at q2
    cases j with
    | succ j=>simp at q2
    | zero =>
     simp at q2;subst q2
     obtain ⟨u,hu,ho,hw⟩:=h7 i e' 0 e' hxs (by rw [(hone e' hm).1];rfl)
     refine ⟨u,hu,?_⟩
     have hok:=hr e' hm
     cases e' with
     | own k2 ys=>exact hw.1.rep (fun b' hb'=>hf b' ((h10 b').2 (.inr ⟨_,by omega,(hw.2 b').2 hb'⟩))) hN
     | nils =>
      obtain ⟨hw,_⟩:=hw
      cases hw with
      | im h=>cases h
      | nils a=>exact .nil _ _
     | sl ys =>
      obtain ⟨hw,_⟩:=hw
      cases hw with
      | im h=>exact h.mono fun b h q=>⟨hN b h q,rfl⟩
     | v x =>
      obtain ⟨hw,_⟩:=hw
      cases hw with
      | im h=>exact h.mono fun b h q=>⟨hN b h q,rfl⟩
     | _=>exact hok.elim
theorem Rel.publishT {m:Nat} {V:VV} {g:Nat→Option AV} {ob:Nat→Option AO} {A:Nat→Prop} (h:Rel N0 base w0 m V g ob A a w) {id:Nat} {xs:List AV} (hon:ob id=some (.tre 1 xs)) (hr:∀ e,e∈xs→rowOK e):Rel N0 base w0 m V g (updO ob id (.pub (xs.map rowA))) A a w:=by
 have hln:live ob id:=⟨_,hon,rfl⟩
 refine h.turn (o':=.pub (xs.map rowA)) hon rfl (Nat.le_refl _) (fun _ _ _=>rfl) rfl rfl (.refl _) ?_ trivial
 have hsub:∀ i,live (updO ob id (.pub (xs.map rowA))) i→i≠id∧live ob i:=fun i hl=>by
  rcases live_updO hl with ⟨_,hd⟩ | h
  ·cases hd
  ·exact h
 show Rep _ w (.sl (xs.map rowA)) (V id)
 refine tre_rep (h.obs id _ hon) hr (fun b hb=>⟨fun hlt=>?_,fun i hl e=>?_⟩) fun b hN _=>⟨hN.1,fun i hl=>hN.2 i (hsub i hl).2⟩
 ·rcases (h.low id b hln hb).1 with q | ⟨_,q⟩
  ·omega
  ·exact q
 ·exact (hsub i hl).1 (h.inj i id b (hsub i hl).2 hln e hb)
def treC (ob:Nat→Option AO):AV→List Nat
 | .ref id=>match ob id with
  | some (.tre _ _)=>[id]
  | _=>[]
 | _=>[]
def treL (ob:Nat→Option AO):List AV→List Nat
 | []=>[]
 | x :: r=>treC ob x++treL ob r
def treA (ob:Nat→Option AO):AV→List Nat
 | .ag cs=>treL ob cs
 | x=>treC ob x
def treAs (ob:Nat→Option AO):List AV→List Nat
 | []=>[]
 | x :: r=>treA ob x++treAs ob r
def pubT:List Nat→St→(St→Prop)→Prop
 | [],σ,K=>K σ
 | i :: r,σ,K=>match σ.obj i with
  | some (.tre k xs)=>match k.beq 1 with
   | true=>(∀ e,e∈xs→rowOK e)∧CalcL (xs.map rowA) fun zs=>pubT r (σ.setObj i (.pub zs)) K
   | false=>False
  | some (.pub _)=>pubT r σ K
  | _=>False
theorem pubT_elim:∀ {is:List Nat} {σ:St} {K:St→Prop} {a:Act} {w:World},pubT is σ K→RS N0 base w0 σ a w→∃ σ',K σ'∧RS N0 base w0 σ' a w∧σ'.size=σ.size
 | [],σ,K,a,w,h,hr=>⟨σ,h,hr,rfl⟩
 | i :: r,σ,K,a,w,h,hr=>by
  unfold pubT at h
  split at h
  ·rename_i k xs hob
   split at h
   ·rename_i hk
    have hk:=Nat.eq_of_beq_eq_true hk
    subst hk
    obtain ⟨hok,h⟩:=h
    replace h:=h.elim
    obtain ⟨σ',q1,q2,q3⟩:=pubT_elim h (a:=a) (w:=w) (by
     obtain ⟨hp,V,hV⟩:=hr
     refine ⟨hp,V,?_⟩
     rw [St.obj_setObj]
     exact hV.publishT hob hok)
    exact ⟨σ',q1,q2,q3⟩
   ·exact h.elim
  ·exact pubT_elim h hr
  ·exact h.elim
structure TreHint:Prop where
inductive AltT (A B:Prop):Prop
 | own (h:TreHint) (a:A)
 | im (b:B)
theorem AltT.el {A B C:Prop} (h:AltT A B) (f:A→C) (g:B→C):C:=by
 cases h with
 | own _ a=>exact f a
 | im b=>exact g b
def sbuild1 (T:TypeId→Option TI) (σ:St) (o:Oper) (t:TypeId) (len:Nat) (parts:List (Nat × Operand)) (ys:List AV) (K:St→Prop):Prop :=
 match len.beq 1,parts,ys with
 | true,[(0,_)],[.ref p]=>match σ.obj p with
  | some (.arr k2 xs)=>sbuildT T σ o t p k2 xs K
  | _=>False
 | _,_,_=>False
def cell1:AV→Bool
 | .ref _ | .sl _ | .nils=>true
 | _=>false
theorem cell1_rep {N:Nat→Prop} {V:VV} {y:AV} {v:Value} (h:cell1 y=true) (hr:RepT N w V y v):v.oneCell'=true∧cellsA y=[y]:=by
 cases hr with
 | im h'=>cases h' <;> first | exact ⟨rfl,rfl⟩ | cases h
 | nils a=>exact ⟨rfl,rfl⟩
 | ref id h'=>exact ⟨h',rfl⟩
 | _=>cases h
theorem immAll_v {ob:Nat→Option AO}:∀ us:List Value,(∀ u,u∈us→u.oneCell'=true)→immAll ob 1 (us.map AV.v)=some (us.map AV.v)
 | [],_=>rfl
 | u :: r,h=>by
  have h1:=h u (by simp)
  have h2:=immAll_v (ob:=ob) r fun x hx=>h x (by simp [hx])
  simp [immAll,immA,immC,h1,h2,cellsA]
def sbuildR (T:TypeId→Option TI) (σ:St) (o:Oper) (t:TypeId) (len:Nat) (parts:List (Nat × Operand)) (ys:List AV) (K:St→Prop):Prop :=
 match (T t).map TI.desc with
 | some (TypeDesc.slice e)=>match T e with
  | some ie=>if (ie.size.beq 1 && (idxs 0 parts && (parts.length.beq len && (Nat.blt 0 len && (Nat.ble len 16777216 && ys.all cell1)))))=true then K (σ.after o.dst (.ref σ.next) (some (.tre 1 ys))) else False
  | none=>False
 | _=>False
theorem sbuildR_step (hT:TOK P T) {o:Oper} {t:TypeId} {len:Nat} {parts:Array (Nat × Operand)} {ys:List AV} {K:St→Prop} (ho:o.op=.buildSlice t len parts) (hd:dstOk σ o=true)
  (hyl:ys.length=(parts.toList.map (·.2)).length) (hy:∀ (j:Nat) (h1:j < (parts.toList.map (·.2)).length) (h2:j < ys.length),σ.eval (parts.toList.map (·.2))[j]=some ys[j]) (h:sbuildR T σ o t len parts.toList ys K)
  (hr:RS N0 base w0 σ a w) {next:Act→World→Prop} {Q:Exit→Act→World→Prop} (hK:∀ σ' a' w',K σ'→RS N0 base w0 σ' a' w'→next a' w'):o.wp P a w next Q:=by
 unfold sbuildR at h
 split at h
 ·rename_i e hdsc
  split at h
  ·rename_i ie hie
   split at h
   ·rename_i hc
    simp only [Bool.and_eq_true] at hc
    obtain ⟨hs,hix,hpl,hl0,hl1,hcs⟩:=hc
    have hs:=Nat.eq_of_beq_eq_true hs
    have hpl:parts.size=len:=by simpa using Nat.eq_of_beq_eq_true hpl
    have hl0:0 < len:=by simp [Nat.blt] at hl0;omega
    have hl1:len≤16777216:=Nat.le_of_ble_eq_true hl1
    rw [List.all_eq_true] at hcs
    have hyl':ys.length=parts.size:=by simpa using hyl
    refine takeL_step (σ:=σ) (ks:=[]) (fun i hi=>by cases hi) hd h hr hK fun V hV=>?_
    have hrx:∀ (j:Nat) (h1:j < parts.size) (h2:j < ys.length),RepT (Nf N0 base V σ.obj) w V ys[j] (a.eval parts[j].2)∧bd (fun i=>i < σ.next) ys[j]:=fun j h1 h2=>by
     have:=hy j (by simpa using h1) h2
     simp only [List.getElem_map,Array.getElem_toList] at this
     exact eval_rep hV this
    have hone:∀ (j:Nat) (h1:j < parts.size),(a.eval parts[j].2).oneCell'=true:=fun j h1=>(cell1_rep (hcs _ (List.getElem_mem (by omega))) (hrx j h1 (by omega)).1).1
    let us:List Value:=parts.toList.map fun p=>a.eval p.2
    have hul:us.length=parts.size:=by simp [us]
    have hug:∀ (j:Nat) (h1:j < parts.size) (h2:j < us.length),us[j]=a.eval parts[j].2:=fun j h1 h2=>by simp [us]
    obtain ⟨cells,r1,r2,r3,r4⟩:=buildSlice_run (P:=P) (w:=w) (N:=NT) (V:=V0) (ob:=fun _=>none) (ev:=a.eval) (ys:=us.map AV.v) (es:=us.map AV.v) (parts:=parts) (len:=len) hT (under_of hT hdsc) hie
     hix hpl (by rw [hs];omega) (by simp [us]) (fun j h1 h2=>by
      rw [List.getElem_map,hug j h1 (by omega)]
      exact .im (.v _ (hone j h1))) (by
      rw [hs]
      exact immAll_v us fun u hu=>by
       obtain ⟨j,hj,rfl⟩:=List.mem_iff_getElem.1 hu
       rw [hug j (by omega) hj]
       exact hone j (by omega)) (fun i u hu=>by cases hu)
    have hcell:∀ (j:Nat) (h1:j < parts.size),cells[j]?=some (a.eval parts[j].2):=fun j h1=>by
     have h2:(us.map AV.v)[j]?=some (.v (a.eval parts[j].2)):=by
      rw [List.getElem?_eq_getElem (by simp;omega),List.getElem_map,hug j h1 (by omega)]
     obtain ⟨u0,hu0,hru⟩:=r3.2 j _ 0 _ h2 rfl
     rw [hs] at hu0
     cases hru with
     | v=>simpa using hu0
    refine ⟨.slice (some ⟨w.heap.size,0,none⟩) len len,w.alloc (.cells cells e),fun b=>b=w.heap.size,?_,rfl,by simp,fun b hb _=>heap_alloc_old w _ b hb,rfl,rfl,.same rfl rfl,fun b hb=>?_,fun hN=>?_,?_⟩
    ·simp only [execOp,ho,Sem.run_bind]
     rw [r1];rfl
    ·subst hb;exact .inr ⟨Nat.le_refl _,by simp⟩
    ·refine .inr ⟨w.heap.size,0,len,cells,e,fun _ _=>False,by rw [setF_v,updV_same,hyl',hpl],heap_new w _,hl0,by omega,by rw [r2,hs];omega,fun y hy=>by
      obtain ⟨j,hj,rfl⟩:=List.mem_iff_getElem.1 hy
      rw [(cell1_rep (hcs _ (List.getElem_mem hj)) (hrx j (by omega) hj).1).2];try rfl,fun i y j c h1 h2=>?_,fun q q' b' g1=>g1.elim,fun q b' g1=>g1.elim,fun b'=>?_⟩
     ·obtain ⟨hi,rfl⟩:=List.getElem?_eq_some_iff.1 h1
      have hk:=hrx i (by omega) hi
      rw [(cell1_rep (hcs _ (List.getElem_mem hi)) hk.1).2] at h2
      cases j with
      | succ j=>simp at h2
      | zero =>
       simp at h2;subst h2
       have hip:i < parts.size:=by omega
       refine ⟨_,by simpa using hcell i hip,hone i hip,?_⟩
       exact (repW_of hk.1).mono (A:=fun i=>i < σ.next) hN (fun i hi'=>by rw [setF_v];exact updV_ne _ _ _ (by omega)) (fun b' hg=>hg.elim) hk.2
     ·rw [setF_f]
      constructor
      ·intro h;exact .inl h
      ·rintro (h | ⟨q,_,h⟩)
       ·exact h
       ·exact h.elim
    ·intro y hy'
     obtain ⟨j,hj,rfl⟩:=List.mem_iff_getElem.1 hy'
     have hk:=hrx j (by omega) hj
     rw [(cell1_rep (hcs _ (List.getElem_mem hj)) hk.1).2]
     exact ⟨bd_mono (fun i hi=>.inl hi) _ hk.2,trivial⟩
   ·exact h.elim
  ·exact h.elim
 ·exact h.elim
end
end Go.Sk
namespace Go.Sk
open Go.RowKit
section
variable {P:Program} {T:TypeId→Option TI} {N0:Nat→Prop} {base:Nat} {w0:W0} {σ:St} {a:Act} {w:World}
structure SubHint:Prop where
inductive AltV (A B:Prop):Prop
 | own (h:SubHint) (a:A)
 | im (b:B)
theorem AltV.el {A B C:Prop} (h:AltV A B) (f:A→C) (g:B→C):C:=by
 cases h with
 | own _ a=>exact f a
 | im b=>exact g b
def ssub (T:TypeId→Option TI) (σ:St) (o:Oper) (t:TypeId) (lo hi:Option Operand) (id k:Nat) (xs:List AV) (K:St→Prop):Prop :=
 match (T t).map TI.desc with
 | some (TypeDesc.slice e)=>match T e with
  | none=>False
  | some ie=>if k=ie.size then optK σ.eval lo 0 fun l=>optK σ.eval hi xs.length fun h=>(0≤l∧l < xs.length∧l≤h∧h≤xs.length) ∧
    K (σ.after o.dst (.sub id k l.toNat (h.toNat - l.toNat)) none) else False
 | _=>False
theorem ssub_step (hT:TOK P T) {o:Oper} {t:TypeId} {x:Operand} {lo hi:Option Operand} {id k:Nat} {xs:List AV} {K:St→Prop} (ho:o.op=.slice t x lo hi none) (hd:dstOk σ o=true) (hx:σ.eval x=some (.ref id)) (hob:σ.obj id=some (.arr k xs))
  (h:ssub T σ o t lo hi id k xs K) (hr:RS N0 base w0 σ a w) {next:Act→World→Prop} {Q:Exit→Act→World→Prop} (hK:∀ σ' a' w',K σ'→RS N0 base w0 σ' a' w'→next a' w'):o.wp P a w next Q:=by
 unfold ssub at h
 split at h
 ·rename_i e hdsc
  split at h
  ·exact h.elim
  ·rename_i ie hie
   by_cases hk:k=ie.size
   ·rw [if_pos hk] at h
    obtain ⟨l,h3,hlo⟩:=optK_get h
    obtain ⟨r,h4,hhi⟩:=optK_get h3
    obtain ⟨⟨l0,l1,l2,l3⟩,hKσ⟩:=h4
    obtain ⟨hp,V,hV⟩:=hr
    obtain ⟨hrx,hbx⟩:=eval_rep hV hx
    have hxv:a.eval x=V id:=by
     generalize a.eval x=v at hrx
     cases hrx with
     | im h=>cases h
     | ref _ h=>rfl
    have hlo':(lo.map a.eval=none∧l=0)∨∃ k,lo.map a.eval=some (.int k l):=by
     rcases hlo with ⟨rfl,hq⟩ | ⟨y,k,rfl,hy⟩
     ·exact .inl ⟨rfl,hq⟩
     ·exact .inr ⟨k,by rw [Option.map_some,eval_v (eval_rep hV hy).1]⟩
    have hhi':(hi.map a.eval=none∧r=xs.length)∨∃ k,hi.map a.eval=some (.int k r):=by
     rcases hhi with ⟨rfl,hq⟩ | ⟨y,k,rfl,hy⟩
     ·exact .inl ⟨rfl,hq⟩
     ·exact .inr ⟨k,by rw [Option.map_some,eval_v (eval_rep hV hy).1]⟩
    rcases (hV.obs id _ hob).2 with ⟨a',_,h2⟩ | ⟨b,o',cap,arr,Ty,q1,q2,q3,q4,q5,q6,q7⟩
    ·subst h2;simp at l1;omega
    have hb:=sliceBounds_run (P:=P) (w:=w) (isS:=true) (len:=xs.length) (cap:=cap) hlo' hhi' l0 l2 l3 q4
    unfold Oper.wp
    have hrun:(execOp a.eval o).run P w=.ok (.value (.slice (some ⟨b,o'+l.toNat * k,none⟩) (r.toNat - l.toNat) (cap - l.toNat))) w:=by
     simp only [execOp,ho,hxv,q1,Option.map_none,Instr.sliceAt,Sem.run_bind,run_underlying (under_of hT hdsc),Result.andThen_ok,Instr.slice,hb,run_sizeOf hT hie,Sem.run_pure]
     rw [if_neg (by omega),hk]
     simp [Addr.add_lit]
    rw [hrun]
    refine hK _ _ _ hKσ ⟨hp,V,?_⟩
    rw [St.get_after,St.obj_after,St.next_after]
    exact hV.put (dstOk_spec hd) (.sub id k l.toNat (r.toNat - l.toNat) b o' xs.length cap q1 (by omega)) (by unfold bd;exact (hV.bdo id _ hob).1)
   ·rw [if_neg hk] at h;exact h.elim
 ·exact h.elim
def sclear (T:TypeId→Option TI) (σ:St) (o:Oper) (t:TypeId) (id k q m k':Nat) (xs:List AV) (K:St→Prop):Prop :=
 match (T t).map TI.desc with
 | some (TypeDesc.slice e)=>match T e with
  | none=>False
  | some ie=>match constA ie.zero with
   | none=>False
   | some z0=>match immA σ.obj z0 with
    | none=>False
    | some z=>if k=ie.size∧k'=k∧ie.size=(cellsA z).length∧0 < ie.size then (0 < m∧q+m=xs.length)∧CalcL (xs.take q++List.replicate m z) fun zs=>K ((σ.setObj id (.arr k zs)).after o.dst (.tup []) none) else False
 | _=>False
theorem sclear_step (hT:TOK P T) {o:Oper} {t:TypeId} {x:Operand} {id k q m k':Nat} {xs:List AV} {K:St→Prop} (ho:o.op=.call { callee:=.builtin .clear,args:=#[x],argTypes:=#[t] }) (hd:dstOk σ o=true) (hx:σ.eval x=some (.sub id k q m)) (hob:σ.obj id=some (.arr k' xs))
  (h:sclear T σ o t id k q m k' xs K) (hr:RS N0 base w0 σ a w) {next:Act→World→Prop} {Q:Exit→Act→World→Prop} (hK:∀ σ' a' w',K σ'→RS N0 base w0 σ' a' w'→next a' w'):o.wp P a w next Q:=by
 unfold sclear at h
 split at h
 ·rename_i e hdsc
  split at h
  ·exact h.elim
  ·rename_i ie hie
   split at h
   ·exact h.elim
   ·rename_i z0 hz0
    split at h
    ·exact h.elim
    ·rename_i z hz
     by_cases hc:k=ie.size∧k'=k∧ie.size=(cellsA z).length∧0 < ie.size
     ·rw [if_pos hc] at h
      obtain ⟨hk,rfl,hzl,hpos⟩:=hc
      obtain ⟨⟨hm,hqm⟩,hKσ⟩:=h
      replace hKσ:=hKσ.elim
      obtain ⟨hp,V,hV⟩:=hr
      obtain ⟨hrx,hbx⟩:=eval_rep hV hx
      obtain ⟨h0,h00⟩:=hV.obs id _ hob
      rcases h00 with ⟨a',_,h2⟩ | ⟨b,o',cap,arr,Ty,q1,q2,q3,q4,q5,q6,q7⟩
      ·subst h2;simp at hqm;omega
      have hxv:a.eval x=.slice (some ⟨b,o'+q * k',none⟩) m (cap - q):=by
       generalize a.eval x=v at hrx
       cases hrx with
       | im h=>cases h
       | sub _ _ _ _ b' o'' n c h' hi =>
        rw [q1] at h'
        simp only [Value.slice.injEq,Option.some.injEq,Addr.mk.injEq] at h'
        obtain ⟨⟨rfl,rfl,_⟩,_,rfl⟩:=h'
        rfl
      have hzs:ie.zero.cells.size=ie.size:=by
       obtain ⟨info,_,_,_,_,_,h⟩:=hT e ie hie
       exact h
      obtain ⟨z1,z2⟩:=constA_rep (N:=Nf N0 base V σ.obj) (w:=w) (V:=V) hz0
      obtain ⟨_,y2,y3,_⟩:=immA_rep hz z1 (fun i u hu=>hV.obs i u hu)
      have hL:Laid (Nf N0 base V σ.obj) w k' (List.replicate m z) 0 (Builtin.zeroCells ie.zero.cells m):=by
       unfold Builtin.zeroCells
       have:=zero_laid (N:=Nf N0 base V σ.obj) (w:=w) (c:=m) (k:=ie.size) hzs hzl.symm y3
       rw [hk]
       rw [hzs] at this ⊢
       exact this
      obtain ⟨vs,hvs⟩:∃ vs,vs=(Builtin.zeroCells ie.zero.cells m).toList:=⟨_,rfl⟩
      have hvl:vs.length=m * k':=by rw [hvs];simp [Builtin.zeroCells,hzs,hk]
      have hv1:∀ v,v∈vs→v.oneCell'=true:=fun v hv=>by
       obtain ⟨us,u1,u2,u3,_⟩:=hL.values (.inl (by omega))
       rw [List.length_replicate] at u1
       have:vs=us:=by
        apply List.ext_getElem (by omega)
        intro i i1 i2
        have:=u2 i _ (List.getElem?_eq_getElem i2)
        rw [Nat.zero_add] at this
        have h3:vs[i]?=(Builtin.zeroCells ie.zero.cells m)[i]?:=by rw [hvs];simp
        rw [this,List.getElem?_eq_getElem i1] at h3
        injection h3
       exact u3 v (this ▸ hv)
      have hbnd:(q+m) * k'≤cap * k':=Nat.mul_le_mul_right _ (by omega)
      rw [Nat.add_mul] at hbnd
      have hst:=run_storeCells_at P b (o'+q * k') Ty vs 0 arr w q2 (by rw [hvl];omega) hv1
      simp only [Nat.add_zero] at hst
      have hrun:(execOp a.eval o).run P w=.ok (.value (.tuple #[])) (w.setRow b (arr.toList.take (o'+q * k')++vs++arr.toList.drop (o'+q * k'+vs.length)).toArray):=by
       obtain ⟨m',rfl⟩:∃ m',m=m'+1:=⟨m - 1,by omega⟩
       have hzv:=run_zeroValue (P:=P) (w:=w) hT hie
       simp [execOp,ho,resolve,invoke,builtin,hxv,Builtin.clear_,run_underlying (under_of hT hdsc),hzv,← hvs,hst]
      unfold Oper.wp
      rw [hrun]
      have hlive:live σ.obj id:=⟨_,hob,rfl⟩
      have hbk:V.f id b:=(h0 b).2 (by rw [q1];simp [bl,blk];omega)
      generalize hzs':xs.take q++List.replicate m z=zs at hKσ
      have hzlen:zs.length=xs.length:=by rw [← hzs'];simp;omega
      have hNf:∀ b',Nf N0 base V σ.obj b'→b' < w.heap.size→Nf N0 base V (updO σ.obj id (.arr k' zs)) b' ∧
        (w.setRow b (arr.toList.take (o'+q * k')++vs++arr.toList.drop (o'+q * k'+vs.length)).toArray).heap[b']?=w.heap[b']?:=fun b' hN _ =>
       ⟨⟨hN.1,fun i' hl=>by
        rcases live_updO hl with ⟨rfl,_⟩ | ⟨_,hl⟩
        ·exact hN.2 _ hlive
        ·exact hN.2 i' hl⟩,setRow_other w b b' _ (fun e=>hN.2 id hlive (e ▸ hbk))⟩
      have hnew:Rel N0 base w0 σ.size V σ.get (updO σ.obj id (.arr k' zs)) (fun i=>i < σ.next) a (w.setRow b (arr.toList.take (o'+q * k')++vs++arr.toList.drop (o'+q * k'+vs.length)).toArray):=by
       refine hV.turn (o':=.arr k' zs) hob rfl (by rw [setRow_size];exact Nat.le_refl _) (fun b' _ hne=>setRow_other w b b' _ (fun e=>hne (e ▸ hbk))) rfl rfl (.same rfl rfl) ?_ trivial
       refine ⟨h0,.inr ⟨b,o',cap,_,Ty,by rw [hzlen];exact q1,setRow_heap w b arr _ Ty _ q2,q3,by rw [hzlen];exact q4,by simp [hvl];omega,fun y hy=>?_,fun i y j c hi hj=>?_⟩⟩
       ·rw [← hzs'] at hy
        rcases List.mem_append.1 hy with h | h
        ·exact q6 y (List.mem_of_mem_take h)
        ·rw [(List.mem_replicate.1 h).2,hk];exact hzl.symm
       ·have hjk:j < k':=by
         have:(cellsA y).length=k':=by
          rw [← hzs'] at hi
          rcases List.mem_append.1 (List.mem_of_getElem? hi) with h | h
          ·exact q6 y (List.mem_of_mem_take h)
          ·rw [(List.mem_replicate.1 h).2,hk];exact hzl.symm
         rw [← this];exact (List.getElem?_eq_some_iff.1 hj).1
        simp only [List.getElem?_toArray]
        have hspl:=splice_get (l:=arr.toList) (vs:=vs) (off:=o'+q * k') (by simp [hvl];omega) (o'+(i * k'+j))
        rw [hspl,show vs.length=m * k' from hvl]
        rw [← hzs',List.getElem?_append] at hi
        split at hi
        ·rename_i hlt
         have hq:i < q:=by simp at hlt;omega
         have hle:=Nat.mul_le_mul_right k' (show i+1≤q by omega)
         rw [Nat.add_mul,Nat.one_mul] at hle
         rw [if_neg (by omega)]
         rw [List.getElem?_take,if_pos hq] at hi
         obtain ⟨u,hu,hr⟩:=q7 i y j c hi hj
         exact ⟨u,by simpa using hu,hr.mono (hvl ▸ hNf)⟩
        ·rename_i hlt
         have hq:q≤i:=by simp at hlt;omega
         have hlen:(xs.take q).length=q:=by simp;omega
         rw [hlen] at hi
         have him:i - q < m:=by have:=(List.getElem?_eq_some_iff.1 hi).1;simpa using this
         obtain ⟨u,hu,hr⟩:=hL.2 (i - q) y j c hi hj
         have e1:i * k'=q * k'+(i - q) * k':=by rw [← Nat.add_mul];congr 1;omega
         have e3:=Nat.mul_le_mul_right k' (show (i - q)+1≤m by omega)
         rw [Nat.add_mul,Nat.one_mul] at e3
         rw [if_pos ⟨by omega,by omega⟩,show o'+(i * k'+j) - (o'+q * k')=(i - q) * k'+j by omega]
         refine ⟨u,?_,hr.mono (hvl ▸ hNf)⟩
         rw [hvs]
         rw [Nat.zero_add] at hu
         simpa using hu
      refine hK _ _ _ hKσ ⟨hp,V,?_⟩
      rw [St.get_after,St.obj_after,St.next_after,St.obj_setObj]
      exact hnew.put (dstOk_spec hd) (.tup [] #[] rfl (fun j j1=>by simp at j1)) (by simp [bd,bdL])
     ·rw [if_neg hc] at h;exact h.elim
 ·exact h.elim
end
end Go.Sk
