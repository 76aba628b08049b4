/- A checker of Go functions by conditions over small pure states: part 4. -/
import Derived.Test.YtejljpjdifblpaaSk2
import Derived.IntWalk
set_option linter.unusedVariables false
set_option linter.unusedSimpArgs false
namespace Go.Sk
open Go.RowKit
section
variable {P:Program} {T:TypeId→Option TI} {N:Nat→Prop} {w:World} {V:VV}
def CRep (N:Nat→Prop) (w:World) (V:VV) (cs:List AV) (arr:Array Value):Prop :=
 arr.size=cs.length∧∀ (j:Nat) (c:AV),cs[j]?=some c→∃ u,arr[j]?=some u∧RepT N w V c u∧u.oneCell'=true
theorem setC_get {cs ds:List AV} {off:Nat} (h:off+ds.length≤cs.length) (j:Nat):(setC cs off ds)[j]?=if off≤j∧j < off+ds.length then ds[j - off]? else cs[j]?:=by
 unfold setC
 rw [List.getElem?_append,List.getElem?_append]
 simp only [List.length_append,List.length_take,List.getElem?_take,List.getElem?_drop]
 have hm:min off cs.length=off:=by omega
 rw [hm]
 by_cases h1:j < off
 ·rw [if_pos (by omega),if_pos h1,if_pos h1,if_neg (by omega)]
 ·by_cases h2:j < off+ds.length
  ·rw [if_pos h2,if_neg h1,if_pos ⟨by omega,h2⟩]
  ·rw [if_neg h2,if_neg (by omega),show off+ds.length+(j - (off+ds.length))=j by omega]
theorem setC_len {cs ds:List AV} {off:Nat} (h:off+ds.length≤cs.length):(setC cs off ds).length=cs.length:=by
 simp [setC];omega
theorem CRep.set {cs ds:List AV} {arr vs:Array Value} {off:Nat} (h1:CRep N w V cs arr) (h2:CRep N w V ds vs) (h:off+ds.length≤cs.length) :
  CRep N w V (setC cs off ds) (vs.zipIdx.foldl (fun cs (p:Value × Nat)=>cs.setIfInBounds (off+p.2) p.1) arr):=by
 obtain ⟨f1,f2⟩:=foldSetA off vs arr
 refine ⟨by rw [f1,setC_len h,h1.1],fun j c hc=>?_⟩
 rw [setC_get h] at hc
 rw [f2]
 split at hc
 ·rename_i hj
  rw [if_pos ⟨hj.1,by rw [h2.1];exact hj.2,by rw [h1.1];omega⟩]
  exact h2.2 _ _ hc
 ·rename_i hj
  rw [if_neg (by rw [h2.1];omega)]
  exact h1.2 _ _ hc
theorem fillA_rep {place:Nat→Option (Nat × Nat)}:∀ {parts:List (Nat × AV)} {vs:List (Nat × Value)} {cs cs':List AV} {arr:Array Value},fillA place cs parts=some cs'→CRep N w V cs arr→vs.length=parts.length →
  (∀ (j:Nat) (h1:j < parts.length) (h2:j < vs.length),vs[j].1=parts[j].1∧RepT N w V parts[j].2 vs[j].2)→∃ arr',Instr.fill place arr vs=some arr'∧CRep N w V cs' arr'
 | [],vs,cs,cs',arr,h,hc,hl,_=>by
  have:vs=[]:=List.eq_nil_of_length_eq_zero hl
  subst this
  simp [fillA] at h;subst h
  exact ⟨arr,rfl,hc⟩
 | (i,y) :: r,[],cs,cs',arr,h,hc,hl,_=>by simp at hl
 | (i,y) :: r,(i',v) :: vs,cs,cs',arr,h,hc,hl,hr=>by
  unfold fillA at h
  obtain ⟨e1,e2⟩:=hr 0 (by simp) (by simp)
  simp only [List.getElem_cons_zero] at e1 e2
  subst e1
  split at h
  ·cases h
  ·rename_i off size hp
   split at h
   ·rename_i hh
    obtain ⟨h1,h2,h3⟩:=hh
    obtain ⟨c1,c2⟩:=cells_rep h2 e2
    have hset:=hc.set (ds:=cellsA y) (vs:=v.cells) (off:=off) ⟨c1,c2⟩ (by omega)
    obtain ⟨arr',q1,q2⟩:=fillA_rep h hset (by simpa using hl) (fun j h4 h5=>hr (j+1) (Nat.succ_lt_succ h4) (Nat.succ_lt_succ h5))
    refine ⟨arr',?_,q2⟩
    simp only [Instr.fill,hp]
    rw [if_neg (by rw [c1,hc.1];simp;omega)]
    exact q1
   ·cases h
theorem run_mapM {α β:Type} {f:α→Sem β} {g:α→β} {w:World}:∀ {l:List α},(∀ x,x∈l→(f x).run P w=.ok (g x) w)→(l.mapM f).run P w=.ok (l.map g) w
 | [],_=>rfl
 | x :: r,h=>by
  rw [List.mapM_cons,Sem.run_bind,h x (by simp)]
  simp only [Result.andThen_ok,Sem.run_bind,run_mapM (l:=r) fun y hy=>h y (by simp [hy]),Sem.run_pure,List.map_cons]
theorem run_mapMA {α β:Type} {f:α→Sem β} {g:α→β} {w:World} {l:Array α} (h:∀ x,x∈l.toList→(f x).run P w=.ok (g x) w):(l.mapM f).run P w=.ok (l.map g) w:=by
 rw [Array.mapM_eq_mapM_toList]
 simp only [Sem.run_map,run_mapM h,Result.andThen_ok]
 congr 1
 apply Array.ext'
 simp
theorem zero_rep {i:TI} {zs:List AV} (hz:constL i.zero.cells.toList=some zs):CRep N w V zs i.zero.cells:=by
 obtain ⟨h1,h2,_⟩:=constL_rep (N:=N) (w:=w) (V:=V) hz
 refine ⟨by simpa using h1,fun j c hj=>?_⟩
 obtain ⟨h3,h4⟩:=List.getElem?_eq_some_iff.1 hj
 have h6:j < i.zero.cells.size:=by simp at h1;omega
 have h7:=h2 j h3 (by simpa using h6)
 rw [h4,Array.getElem_toList] at h7
 exact ⟨i.zero.cells[j],by simp [h6],h7.1,h7.2⟩
theorem CRep.agg {cs:List AV} {arr:Array Value} (h:CRep N w V cs arr):RepT N w V (.ag cs) (.agg arr):=by
 refine .ag cs arr h.1 (fun j h1 h2=>?_) (fun j h2=>?_)
 ·obtain ⟨u,q1,q2,_⟩:=h.2 j _ (List.getElem?_eq_getElem h1)
  rw [Array.getElem?_eq_getElem h2] at q1
  injection q1 with q1
  exact q1 ▸ q2
 ·obtain ⟨u,q1,_,q3⟩:=h.2 j _ (List.getElem?_eq_getElem (by rw [← h.1];exact h2))
  rw [Array.getElem?_eq_getElem h2] at q1
  injection q1 with q1
  exact q1 ▸ q3
theorem build_runW (hT:TOK P T) {t:TypeId} {i:TI} (hi:T t=some i) {zs cs:List AV} (hz:constL i.zero.cells.toList=some zs) (hb:buildOK T t=true) {parts:Array (Nat × Operand)} {ev:Operand→Value} {ys:List AV}
  (hys:ys.length=parts.size) (hr:∀ (j:Nat) (h1:j < parts.size) (h2:j < ys.length),RepT N w V ys[j] (ev parts[j].2)) (hf:fillA (placeOf T t) zs ((parts.toList.map (·.1)).zip ys)=some cs) :
  ∃ arr,(∀ w':World,(Instr.build t (parts.map fun (i,x)=>(i,ev x))).run P w'=.ok (.agg arr) w')∧RepT N w V (.ag cs) (.agg arr):=by
 have hfill:∀ {place:Nat→Option (Nat × Nat)},place=placeOf T t→∃ arr,Instr.fill place i.zero.cells (parts.map fun (i,x)=>(i,ev x)).toList=some arr∧CRep N w V cs arr:=by
  intro place hp
  subst hp
  refine fillA_rep hf (zero_rep hz) (by simp;omega) fun j h1 h2=>?_
  simp only [List.length_zip,List.length_map,Array.length_toList] at h1
  simp only [Array.getElem_toList,Array.getElem_map,List.getElem_zip,List.getElem_map]
  exact ⟨trivial,hr j (by omega) (by omega)⟩
 unfold buildOK at hb
 split at hb
 ·rename_i fs hd
  have hu:=under_of hT hd
  have hall:∀ (w':World) (f:Field),f∈fs.toList→((do pure (f.offset,← sizeOf f.type):Sem (Nat × Nat))).run P w'=.ok (f.offset,((T f.type).map TI.size).getD 0) w':=fun w' f hf'=>by
   have:=List.all_eq_true.1 hb f hf'
   cases ht:T f.type with
   | none=>simp [ht] at this
   | some ti=>rw [Sem.run_bind,run_sizeOf hT ht];rfl
  obtain ⟨arr,h1,h2⟩:=hfill (place:=((fs.map fun f=>(f.offset,((T f.type).map TI.size).getD 0))[·]?)) (by
   funext i'
   unfold placeOf
   rw [hd]
   simp only [Array.getElem?_map]
   cases hf':fs[i']? with
   | none=>rfl
   | some f =>
    have hmem:f∈fs.toList:=by
     obtain ⟨q1,q2⟩:=Array.getElem?_eq_some_iff.1 hf'
     rw [← q2];simp
    have:=List.all_eq_true.1 hb f hmem
    cases ht:T f.type with
    | none=>simp [ht] at this
    | some ti=>simp [ht])
  refine ⟨arr,fun w'=>?_,h2.agg⟩
  simp only [Instr.build,Sem.run_bind,run_zeroValue hT hi,Result.andThen_ok,run_underlying hu]
  rw [run_mapMA (hall w')]
  simp only [Result.andThen_ok,h1,Sem.run_pure]
 ·rename_i len e hd
  have hu:=under_of hT hd
  cases he:T e with
  | none=>simp [he] at hb
  | some ie =>
   obtain ⟨arr,h1,h2⟩:=hfill (place:=fun i=>some (i * ie.size,ie.size)) (by
    funext i'
    unfold placeOf
    rw [hd]
    simp [he])
   refine ⟨arr,fun w'=>?_,h2.agg⟩
   simp only [Instr.build,Sem.run_bind,run_zeroValue hT hi,Result.andThen_ok,run_underlying hu,Sem.run_pure,run_sizeOf hT he,h1]
 ·cases hb
theorem build_run (hT:TOK P T) {t:TypeId} {i:TI} (hi:T t=some i) {zs cs:List AV} (hz:constL i.zero.cells.toList=some zs) (hb:buildOK T t=true) {parts:Array (Nat × Operand)} {ev:Operand→Value} {ys:List AV}
  (hys:ys.length=parts.size) (hr:∀ (j:Nat) (h1:j < parts.size) (h2:j < ys.length),RepT N w V ys[j] (ev parts[j].2)) (hf:fillA (placeOf T t) zs ((parts.toList.map (·.1)).zip ys)=some cs) :
  ∃ arr,(Instr.build t (parts.map fun (i,x)=>(i,ev x))).run P w=.ok (.agg arr) w∧RepT N w V (.ag cs) (.agg arr) :=
 let ⟨arr,h1,h2⟩:=build_runW (N:=N) (w:=w) (V:=V) hT hi hz hb hys hr hf
 ⟨arr,h1 w,h2⟩
theorem makeSlice_run (hT:TOK P T) {t e:TypeId} {ie:TI} (hu:P.underlying t=some (.slice e)) (he:T e=some ie) {k k':IntKind} {a:Int} (h0:0≤a) (h1:a≤4611686018427387904) (h2:ie.bytes * a≤140737488355328) (hs:0 < ie.size) :
  ∃ arr,(Instr.makeSlice t (.int k a) (.int k' a)).run P w=.ok (.slice (some ⟨w.heap.size,0,none⟩) a.toNat a.toNat) (w.alloc (.cells arr e)) ∧
   (a=0∨arr=(Array.range (a.toNat * ie.size)).map (ie.zero.cells[· % ie.zero.cells.size]!)):=by
 obtain ⟨info,i1,i2,i3,i4,i5,_⟩:=hT e ie he
 have hw:IntKind.i64.wrap a=a:=IntWalk.i64_in a (by omega)
 by_cases ha:a=0
 ·subst ha
  refine ⟨#[],?_,.inl rfl⟩
  have hr:∀ f:Nat→Value,Array.map f (Array.range 0)=#[]:=fun f=>Array.eq_empty_of_size_eq_zero (by simp)
  simp [Instr.makeSlice,run_underlying hu,asInt,asIntOf,typeInfo,i1,hw,sizeOf,newRow,hr]
 ·have hn:¬ (a.toNat * info.size=0):=by
   rw [i3]
   intro h
   rcases Nat.mul_eq_zero.1 h with h | h <;> omega
  refine ⟨(Array.range (a.toNat * ie.size)).map (ie.zero.cells[· % ie.zero.cells.size]!),?_,.inr rfl⟩
  have hlt:¬ (a < 0):=by omega
  have hb2:¬ ((281474976710656:Int) < (info.bytes:Int) * a):=by rw [i4];omega
  rw [i3] at hn
  simp [Instr.makeSlice,run_underlying hu,asInt,asIntOf,typeInfo,i1,hw,hb2,hlt,sizeOf,zeroValue,i5,newRow,i3,hn]
theorem makeCap_run (hT:TOK P T) {t e:TypeId} {ie:TI} (hu:P.underlying t=some (.slice e)) (he:T e=some ie) {k k':IntKind} {a:Int} (h0:0≤a) (h1:a≤4611686018427387904) (h2:ie.bytes * a≤140737488355328) (hs:0 < ie.size) :
  ∃ arr,(Instr.makeSlice t (.int k 0) (.int k' a)).run P w=.ok (.slice (some ⟨w.heap.size,0,none⟩) 0 a.toNat) (w.alloc (.cells arr e))∧a.toNat * ie.size≤arr.size:=by
 obtain ⟨info,i1,i2,i3,i4,i5,_⟩:=hT e ie he
 have hw:IntKind.i64.wrap a=a:=IntWalk.i64_in a (by omega)
 have hw0:IntKind.i64.wrap 0=0:=IntWalk.i64_in 0 (by omega)
 by_cases ha:a=0
 ·subst ha
  refine ⟨#[],?_,by simp⟩
  have hr:∀ f:Nat→Value,Array.map f (Array.range 0)=#[]:=fun f=>Array.eq_empty_of_size_eq_zero (by simp)
  simp [Instr.makeSlice,run_underlying hu,asInt,asIntOf,typeInfo,i1,hw,sizeOf,newRow,hr]
 ·have hn:¬ (a.toNat * info.size=0):=by
   rw [i3]
   intro h
   rcases Nat.mul_eq_zero.1 h with h | h <;> omega
  refine ⟨(Array.range (a.toNat * ie.size)).map (ie.zero.cells[· % ie.zero.cells.size]!),?_,by simp⟩
  have hlt:¬ (a < 0):=by omega
  have hb2:¬ ((281474976710656:Int) < (info.bytes:Int) * a):=by rw [i4];omega
  rw [i3] at hn
  simp [Instr.makeSlice,run_underlying hu,asInt,asIntOf,typeInfo,i1,hw,hw0,hb2,hlt,sizeOf,zeroValue,i5,newRow,i3,hn]
end
end Go.Sk
namespace Go.Sk
open Go.RowKit
section
variable {P:Program} {T:TypeId→Option TI} {o:Oper} {ρ:Operand→Option AV} {ob:Nat→Option AO} {n:Nat}
theorem ev_kl {N:Nat→Prop} {V:VV} {A:Nat→Prop} {a:Act} {w:World} {xs:Array Operand} {ys:List AV} (hsub:∀ y,y∈xs→y∈o.op.operands)
  (hop:∀ y z,y∈o.op.operands→ρ y=some z→RepT N w V z (a.eval y)∧bd A z) (hl:ys.length=xs.toList.length)
  (h:∀ (j:Nat) (h1:j < xs.toList.length) (h2:j < ys.length),ρ xs.toList[j]=some ys[j]) :
  (xs.map a.eval).size=ys.length∧∀ (j:Nat) (h1:j < ys.length) (h2:j < (xs.map a.eval).size),RepT N w V ys[j] (xs.map a.eval)[j]∧bd A ys[j]:=by
 refine ⟨by simp;simpa using hl.symm,fun j h1 h2=>?_⟩
 have h3:j < xs.size:=by simpa using h2
 rw [Array.getElem_map]
 have:=h j (by simpa using h3) h1
 rw [Array.getElem_toList] at this
 exact hop _ _ (hsub _ (Array.getElem_mem h3)) this
theorem arr_new {N0:Nat→Prop} {base:Nat} {V:VV} {ob':Nat→Option AO} {w:World} {o':Obj} {arr:Array Value} {Ty:TypeId} {n k cap:Nat} {xs:List AV} {w1:World}
  (hw1:w1.heap=w.heap) (ho':o'=.cells arr Ty)
  (hL:Laid (Nf N0 base V ob') w k xs 0 arr) (hcap:xs.length≤cap) (hsz:cap * k≤arr.size)
  (hN:∀ b,Nf N0 base V ob' b→b < w.heap.size→Nf N0 base (updV V n (.slice (some ⟨w.heap.size,0,none⟩) xs.length cap)) (updO ob' n (.arr k xs)) b∧(w1.alloc o').heap[b]?=w.heap[b]?) :
  RepO (Nf N0 base (updV V n (.slice (some ⟨w.heap.size,0,none⟩) xs.length cap)) (updO ob' n (.arr k xs))) (w1.alloc o') (updV V n (.slice (some ⟨w.heap.size,0,none⟩) xs.length cap)) n (.arr k xs):=by
 refine ⟨fun b=>by rw [updV_same,updV_f],?_⟩
 by_cases hc:cap=0
 ·left
  have:xs=[]:=List.eq_nil_of_length_eq_zero (by omega)
  subst this;subst hc
  exact ⟨_,updV_same _ _ _,rfl⟩
 ·right
  refine ⟨w.heap.size,0,cap,arr,Ty,updV_same _ _ _,by subst ho';rw [← hw1];exact heap_new w1 _,by omega,hcap,by omega,hL.1,fun i e j c h1 h2=>?_⟩
  obtain ⟨u,hu,hr⟩:=hL.2 i e j c h1 h2
  exact ⟨u,hu,hr.mono hN⟩
theorem blk_new {w:World} {n cap:Nat} {w':World} (h:w.heap.size < w'.heap.size):∀ b,blk (.slice (some ⟨w.heap.size,0,none⟩) n cap)=some b→w.heap.size≤b∧b < w'.heap.size:=by
 intro b hb
 simp only [blk] at hb
 split at hb
 ·cases hb
 ·injection hb with hb;subst hb;exact ⟨Nat.le_refl _,h⟩
theorem OKs.grown {x:AV}
  (h:∀ {N0:Nat→Prop} {base:Nat} {V:VV} {g:Nat→Option AV} {ob':Nat→Option AO} {A:Nat→Prop} {a:Act} {w:World},
   base≤w.heap.size→(∀ y∈o.op.operands,evalA g y=ρ y)→(∀ y z,y∈o.op.operands→ρ y=some z→RepT (Nf N0 base V ob') w V z (a.eval y)∧bd A z) →
   (∀ i u,ob i=some u→RepO (Nf N0 base V ob') w V i u∧A i∧bdO A u)→(∀ i b,live ob' i→V.f i b→b < w.heap.size) →
   ∃ v w',(execOp a.eval o).run P w=.ok (.value v) w'∧Blw w.heap.size w w'∧bd A x∧RepT (Nf N0 base V ob') w' V x v):OKs P o ρ ob n x none:=by
 intro N0 base w0 m V g ob' A a w hr hρ hob hn hd next Q hK
 obtain ⟨v,w',h1,h2,h3,h4⟩:=h (N0:=N0) (base:=base) (V:=V) (g:=g) (ob':=ob') (A:=A) (a:=a) (w:=w) hr.bas hρ
  (fun y z hy hz=>by
   rw [← hρ y hy] at hz
   cases y with
   | tmp t=>exact ⟨hr.tm t z hz,hr.bdt t z hz⟩
   | const v=>have:=constA_rep (N:=Nf N0 base V ob') (w:=w) (V:=V) hz;exact ⟨this.1,this.2 A⟩
   | func f=>simp only [evalA,Option.some.injEq] at hz;subst hz;exact ⟨.im (.v _ rfl),by simp [bd]⟩
   | global i=>simp [evalA] at hz)
  (fun i u hu=>⟨hr.obs i u (hob i u hu),hr.bdo i u (hob i u hu)⟩) (fun i b hl hb=>(hr.low i b hl hb).2)
 unfold Oper.wp
 rw [h1]
 exact hK _ _ _ ((hr.grow h2).put hd h4 h3)
theorem Nf_new {N0:Nat→Prop} {base:Nat} {V:VV} {ob':Nat→Option AO} {w:World} (hb:base≤w.heap.size) (hl:∀ i b,live ob' i→V.f i b→b < w.heap.size):Nf N0 base V ob' w.heap.size :=
 ⟨fun h=>by omega,fun i hi hc=>by have:=hl i _ hi hc;omega⟩
def SrcV (N:Nat→Prop) (w:World) (k:Nat) (ys:List AV) (a:Option Addr):Prop :=
 ys=[]∨∃ (b:Addr) (news:List Value),a=some b∧news.length=ys.length * k∧(∀ j u,news[j]?=some u→w.cell? (b.add j)=some u)∧(∀ u∈news,u.oneCell'=true) ∧
   ∀ (i:Nat) (e:AV) (j:Nat) (c:AV),ys[i]?=some e→(cellsA e)[j]?=some c→∃ u:Value,news[i * k+j]?=some u∧Rep N w c u
theorem src_values {N:Nat→Prop} {w:World} {V:VV} {y:AV} {ys:List AV} {k:Nat} {v:Value} (hy:elemsA ob y=some ys) (hr:RepT N w V y v) (ho:∀ i u,ob i=some u→RepO N w V i u) (hk:0 < k) (hks:∀ e,e∈ys→(cellsA e).length=k) :
  ∃ a c,v=.slice a ys.length c∧SrcV N w k ys a:=by
 have fromLaid:∀ {b o cap:Nat} {arr:Array Value} {Ty:TypeId} {fr:Nat × Nat},w.heap[b]?=some (.cells arr Ty fr)→Laid N w k ys o arr→∃ a c,Value.slice (some ⟨b,o,none⟩) ys.length cap=.slice a ys.length c∧SrcV N w k ys a:=by
  intro b o cap arr Ty fr hb hL
  obtain ⟨news,q1,q2,q3,q4⟩:=hL.values (.inl hk)
  exact ⟨_,_,rfl,.inr ⟨_,news,rfl,q1,fun j u hj=>by rw [Addr.add_lit,cell_of_row w b _ arr Ty fr hb];exact q2 j u hj,q3,q4⟩⟩
 have fromRep:∀ {v:Value},Rep N w (.sl ys) v→∃ a c,v=.slice a ys.length c∧SrcV N w k ys a:=by
  intro v h
  cases h with
  | nil a c=>exact ⟨a,c,rfl,.inl rfl⟩
  | sl _ k' b off cap f hN hb hcap hk' hc hr' =>
   by_cases hne:ys=[]
   ·exact ⟨_,_,rfl,.inl hne⟩
   ·have hkk:k'=k:=by
     cases ys with
     | nil=>exact absurd rfl hne
     | cons e r=>rw [← hk' e (by simp),hks e (by simp)]
    subst hkk
    have hb':∃ arr Ty fr,w.heap[b]?=some (.cells arr Ty fr):=by
     cases ys with
     | nil=>exact absurd rfl hne
     | cons e r =>
      have hl:0 < (cellsA e).length:=by rw [hk' e (by simp)];exact hk
      have:=hc 0 e 0 _ (by simp) (List.getElem?_eq_getElem hl)
      unfold World.cell? at this
      split at this
      ·exact ⟨_,_,_,by assumption⟩
      ·cases this
    obtain ⟨arr,Ty,fr,hb'⟩:=hb'
    refine fromLaid hb' ⟨hk',fun i e j c h1 h2=>⟨f i j,?_,hr' i e j c h1 h2⟩⟩
    rw [← cell_of_row w b _ arr Ty fr hb']
    exact hc i e j c h1 h2
 unfold elemsA at hy
 split at hy
 ·injection hy with hy;subst hy
  cases hr with
  | im h=>exact fromRep h
 ·injection hy with hy;subst hy
  cases hr with
  | im h=>cases h
  | nils a=>exact ⟨a,0,rfl,.inl rfl⟩
 ·rename_i id
  split at hy
  ·rename_i k' zs hob
   injection hy with hy;subst hy
   cases hr with
   | im h=>cases h
   | ref _ h =>
    rcases (ho id _ hob).2 with ⟨a,h1,h2⟩ | ⟨b,o',cap,arr,Ty,h1,h2,h3,h4,h5,h6,h7⟩
    ·subst h2;exact ⟨a,0,h1,.inl rfl⟩
    ·rw [h1]
     by_cases hne:zs=[]
     ·exact ⟨_,_,rfl,.inl hne⟩
     ·have hkk:k'=k:=by
       cases zs with
       | nil=>exact absurd rfl hne
       | cons e r=>rw [← h6 e (by simp),hks e (by simp)]
      subst hkk
      exact fromLaid h2 ⟨h6,h7⟩
  ·rename_i zs hob
   injection hy with hy;subst hy
   cases hr with
   | im h=>cases h
   | ref _ h=>exact fromRep (ho id _ hob)
  ·cases hy
 ·cases hy
end
end Go.Sk
namespace Go.Sk
open Go.RowKit
section
variable {P:Program} {T:TypeId→Option TI} {o:Oper} {ρ:Operand→Option AV} {ob:Nat→Option AO} {n:Nat}
theorem blk_zero (b:Option Addr) (k:Nat):blk (.slice b k 0)=none:=by cases b <;> rfl
theorem append_nils_OK (hT:TOK P T) {t e:TypeId} {ie:TI} {x y:Operand} {ys:List AV} {own:Bool} {yv:AV} {K:AV→Option AO→Prop} (ho:o.op=.call { callee:=.builtin .append,args:=#[x,y],argTypes:=#[t,t] })
  (hu:P.underlying t=some (.slice e)) (he:T e=some ie) (hk:0 < ie.size) (hx:ρ x=some .nils) (hy:ρ y=some yv) (hys:elemsA ob yv=some ys) (hks:∀ e,e∈ys→(cellsA e).length=ie.size)
  (hbytes:ys.length * ie.bytes≤140737488355328) (h62:ys.length≤4611686018427387904)
  (hK:match own with | true=>K (.ref n) (some (.arr ie.size ys)) | false=>K (.sl ys) none):∃ x no,K x no∧OKs P o ρ ob n x no:=by
 have hmx:x∈o.op.operands:=by rw [ho];simp [Op.operands,Call.operands]
 have hmy:y∈o.op.operands:=by rw [ho];simp [Op.operands,Call.operands]
 have hrun:∀ {N:Nat→Prop} {V:VV} {a:Act} {w:World},RepT N w V .nils (a.eval x)→RepT N w V yv (a.eval y)→(∀ i u,ob i=some u→RepO N w V i u) →
   (ys=[]∧∃ b,(execOp a.eval o).run P w=.ok (.value (.slice b 0 0)) w)∨∃ cap arr,(execOp a.eval o).run P w=.ok (.value (.slice (some ⟨w.heap.size,0,none⟩) ys.length cap)) (w.drew.alloc (.cells arr e))∧ys.length≤cap∧cap * ie.size≤arr.size∧Laid N w ie.size ys 0 arr:=by
  intro N V a w h1 h2 h3
  obtain ⟨b,hb⟩:∃ b,a.eval x=.slice b 0 0:=by
   generalize a.eval x=v at h1
   cases h1 with
   | im h=>cases h
   | nils b=>exact ⟨b,rfl⟩
  obtain ⟨a2,c2,e2,hsrc⟩:=src_values hys h2 h3 hk hks
  have hex:(execOp a.eval o).run P w=((Builtin.append_ #[t,t] o.type #[.slice b 0 0,.slice a2 ys.length c2]).run P w).andThen fun v w=>.ok (.value v) w:=by
   simp [execOp,ho,resolve,invoke,builtin,hb,e2]
  by_cases hne:ys=[]
  ·left
   refine ⟨hne,b,?_⟩
   rw [hex,hne]
   simp only [List.length_nil]
   rw [append_none hT hu he (Nat.le_refl 0)]
   rfl
  ·right
   have hpos:0 < ys.length:=by cases ys with | nil=>exact absurd rfl hne | cons _ _=>simp
   rcases hsrc with h | ⟨a3,news,rfl,q1,q2,q3,q4⟩
   ·exact absurd h hne
   ·obtain ⟨cap,z,r1,r2,r3⟩:=append_grows (w:=w) (ty:=o.type) hT hu he (base:=b) (sLen:=0) (sCap:=0) (xc:=c2) (xa:=a3) (olds:=[]) (news:=news) (by simp) q1 (fun _ _ j v hj=>by simp at hj) (fun _=>⟨rfl,rfl⟩) q2 (Nat.le_refl 0) (by omega) (by simpa using hbytes) (by omega)
    have hzs:ie.zero.cells.size=ie.size:=by
     obtain ⟨info,_,_,_,_,_,h⟩:=hT e ie he
     exact h
    refine ⟨cap,news.toArray++z,by rw [hex,r1];simp,by omega,?_,hks,fun i e j c h4 h5=>?_⟩
    ·simp only [Array.size_append,List.size_toArray,q1,r3,hzs,Nat.zero_add]
     rw [← Nat.add_mul]
     exact Nat.mul_le_mul_right _ (by omega)
    ·obtain ⟨u,hu',hr⟩:=q4 i e j c h4 h5
     refine ⟨u,?_,hr⟩
     have hlt:=(List.getElem?_eq_some_iff.1 hu').1
     rw [Nat.zero_add]
     rw [Array.getElem?_append_left (by simpa using hlt)]
     simpa using hu'
 cases own with
 | true =>
  refine ⟨_,_,hK,OKs.newObj (fun A h=>by simpa [bd] using h) fun {N0 base V g ob' A a w} hbas hn hρ hop hobs hlow hne=>?_⟩
  rcases hrun (hop x _ hmx hx).1 (hop y _ hmy hy).1 (fun i u hu=>(hobs i u hu).1) with ⟨h0,b,h1⟩ | ⟨cap,arr,h1,h2,h3,h4⟩
  ·refine ⟨_,.slice b 0 0,w,h1,Blw.refl _ _,(fun b' hb=>by rw [blk_zero] at hb;cases hb),trivial,fun hN=>⟨⟨fun b=>by rw [updV_same,updV_f],.inl ⟨b,updV_same _ _ _,h0⟩⟩,?_⟩⟩
   have:=RepT.ref (N:=Nf N0 base (updV V n (.slice b 0 0)) (updO ob' n (.arr ie.size ys))) (w:=w) (V:=updV V n (.slice b 0 0)) n (by rw [updV_same];rfl)
   rwa [updV_same] at this
  ·refine ⟨_,.slice (some ⟨w.heap.size,0,none⟩) ys.length cap,_,h1,below_drew_alloc _ _,blk_new (by simp),trivial,fun hN=>⟨arr_new (w1:=w.drew) rfl rfl h4 h2 h3 hN,?_⟩⟩
   have:=RepT.ref (N:=Nf N0 base (updV V n (.slice (some ⟨w.heap.size,0,none⟩) ys.length cap)) (updO ob' n (.arr ie.size ys))) (w:=w.drew.alloc (.cells arr e)) (V:=updV V n (.slice (some ⟨w.heap.size,0,none⟩) ys.length cap)) n (by rw [updV_same];rfl)
   rwa [updV_same] at this
 | false =>
  refine ⟨_,_,hK,OKs.grown fun {N0 base V g ob' A a w} hbas hρ hop hobs hlow=>?_⟩
  rcases hrun (hop x _ hmx hx).1 (hop y _ hmy hy).1 (fun i u hu=>(hobs i u hu).1) with ⟨h0,b,h1⟩ | ⟨cap,arr,h1,h2,h3,h4⟩
  ·subst h0
   exact ⟨_,w,h1,Blw.refl _ _,by simp [bd],.im (.nil b 0)⟩
  ·refine ⟨_,_,h1,below_drew_alloc _ _,by simp [bd],.im ?_⟩
   exact (h4.mono fun b hN hlt=>⟨hN,(below_drew_alloc w _).block b hlt⟩).rep (heap_new w.drew _) (Nf_new hbas hlow) h2
theorem append_make_run (hT:TOK P T) {w:World} {t t' ty e:TypeId} {ie:TI} {k k':IntKind} {a:Int} (base:Option Addr) (hu:P.underlying t=some (.slice e)) (hu':P.underlying t'=some (.int k')) (he:T e=some ie) (h0:0≤a) (h1:a≤4611686018427387904) (h2:ie.bytes * a≤140737488355328) (hs:0 < ie.size) :
  (a=0∧(Builtin.append_ #[t,t'] ty #[.slice base 0 0,.int k a]).run P w=.ok (.slice base 0 0) w)∨∃ cap z,(Builtin.append_ #[t,t'] ty #[.slice base 0 0,.int k a]).run P w=.ok (.slice (some ⟨w.heap.size,0,none⟩) a.toNat cap) (w.drew.alloc (.cells ((Array.range (a.toNat * ie.size)).map (ie.zero.cells[· % ie.zero.cells.size]!)++z) e))∧a.toNat≤cap∧z.size=(cap - a.toNat) * ie.size:=by
 obtain ⟨info,i1,i2,i3,i4,i5,i6⟩:=hT e ie he
 have hw:IntKind.i64.wrap a=a:=IntWalk.i64_in a (by omega)
 by_cases ha:a=0
 ·left
  subst ha
  have hw0:IntKind.i64.wrap 0=0:=IntWalk.i64_in 0 (by omega)
  refine ⟨rfl,?_⟩
  cases base <;> simp [Builtin.append_,run_underlying hu,run_underlying hu',asInt,asIntOf,typeInfo,i1,hw0,sizeOf,storeCells]
 ·right
  have hn:¬ (a.toNat * info.size=0):=by
   rw [i3]
   intro h
   rcases Nat.mul_eq_zero.1 h with h | h <;> omega
  have hlt:¬ (a < 0):=by omega
  have hb2:¬ ((281474976710656:Int) < a * (info.bytes:Int)):=by rw [i4,Int.mul_comm];omega
  have hpos:¬ (a.toNat=0):=by omega
  have ha0:¬ (a≤0):=by omega
  have h63:¬ ((9223372036854775807:Int) < max a 0):=by omega
  have h48:¬ (281474976710656 < Builtin.nextslicecap a.toNat 0 * info.bytes):=by
   rw [nextslicecap_zero (by omega),i4]
   have:((a.toNat * ie.bytes:Nat):Int)=ie.bytes * a:=by rw [Int.natCast_mul,Int.toNat_of_nonneg h0,Int.mul_comm]
   omega
  have h48':¬ (281474976710656 < Builtin.nextslicecap a.toNat 0 * ie.bytes):=by rw [← i4];exact h48
  refine ⟨grownCap w a.toNat 0 e,Builtin.zeroCells ie.zero.cells (grownCap w a.toNat 0 e - a.toNat),?_,by simpa using grownCap_ge w a.toNat 0 e,by simp [Builtin.zeroCells,i6]⟩
  rw [i3] at hn
  have hold:∀ w:World,(Builtin.firstCells ie.size 0 (.slice base 0 0)).run P w=.ok #[] w:=fun w=>by
   cases base <;> simp [Builtin.firstCells,loadCells,loadCellsFrom]
  simp [Builtin.append_,run_underlying hu,run_underlying hu',asInt,asIntOf,typeInfo,i1,hw,hb2,hlt,sizeOf,zeroValue,i5,newRow,i3,hn,hpos,ha0,h63,h48,h48',Question.forced,grownCap,hold,Builtin.zeroCells]
  rw [i6]
theorem append_make_OK (hT:TOK P T) {t t' e:TypeId} {ie:TI} {x y:Operand} {k k':IntKind} {a:Int} {z0 z:AV} (ho:o.op=.call { callee:=.builtin .append,args:=#[x,y],argTypes:=#[t,t'] })
  (hu:P.underlying t=some (.slice e)) (hu':P.underlying t'=some (.int k')) (he:T e=some ie) (hx:ρ x=some .nils) (hy:ρ y=some (.v (.int k a))) (hz0:constA ie.zero=some z0) (hz:immA ob z0=some z) (hs:ie.size=(cellsA z).length) (hpos:0 < ie.size) (h0:0≤a) (h1:a≤4611686018427387904) (h2:ie.bytes * a≤140737488355328) :
  OKs P o ρ ob n (.ref n) (some (.arr ie.size (List.replicate a.toNat z))):=by
 have hmx:x∈o.op.operands:=by rw [ho];simp [Op.operands,Call.operands]
 have hmy:y∈o.op.operands:=by rw [ho];simp [Op.operands,Call.operands]
 refine @OKs.newObj P o ρ ob n (.ref n) (.arr ie.size (List.replicate a.toNat z)) (fun A h=>by simpa [bd] using h) fun {N0 base V g ob' A a' w} hbas hn hρ hop hobs hlow hne=>?_
 have e2:=eval_v (hop y _ hmy hy).1
 obtain ⟨b,hb⟩:∃ b,a'.eval x=.slice b 0 0:=by
  have h1:=(hop x _ hmx hx).1
  generalize a'.eval x=v at h1
  cases h1 with
  | im h=>cases h
  | nils b=>exact ⟨b,rfl⟩
 have hex:(execOp a'.eval o).run P w=((Builtin.append_ #[t,t'] o.type #[.slice b 0 0,.int k a]).run P w).andThen fun v w=>.ok (.value v) w:=by
  simp [execOp,ho,resolve,invoke,builtin,hb,e2]
 have hlen:(List.replicate a.toNat z).length=a.toNat:=List.length_replicate
 rcases append_make_run (w:=w) (ty:=o.type) (k:=k) hT b hu hu' he h0 h1 h2 hpos with ⟨rfl,q1⟩ | ⟨cap,zs,q1,q2,q3⟩
 ·refine ⟨_,.slice b 0 0,w,by rw [hex,q1];rfl,Blw.refl _ _,(fun b' hb=>by rw [blk_zero] at hb;cases hb),trivial,fun hN=>⟨⟨fun b=>by rw [updV_same,updV_f],.inl ⟨b,updV_same _ _ _,rfl⟩⟩,?_⟩⟩
  have:=RepT.ref (N:=Nf N0 base (updV V n (.slice b 0 0)) (updO ob' n (.arr ie.size (List.replicate (0:Int).toNat z)))) (w:=w) (V:=updV V n (.slice b 0 0)) n (by rw [updV_same];rfl)
  rwa [updV_same] at this
 ·have hL:Laid (Nf N0 base V ob') w ie.size (List.replicate a.toNat z) 0 ((Array.range (a.toNat * ie.size)).map (ie.zero.cells[· % ie.zero.cells.size]!)++zs):=by
   obtain ⟨r1,r2,r3,_⟩:=immA_rep hz (constA_rep (N:=Nf N0 base V ob') (w:=w) (V:=V) hz0).1 (fun i u hu=>(hobs i u hu).1)
   obtain ⟨l1,l2⟩:=zero_laid (k:=ie.size) (c:=a.toNat) (by rw [r2,hs]) hs.symm r3
   refine ⟨l1,fun i e j c h3 h4=>?_⟩
   obtain ⟨u,hu,hr⟩:=l2 i e j c h3 h4
   refine ⟨u,?_,hr⟩
   rw [Array.getElem?_append_left (Array.getElem?_eq_some_iff.1 hu).1]
   exact hu
  refine ⟨_,.slice (some ⟨w.heap.size,0,none⟩) (List.replicate a.toNat z).length cap,_,by rw [hex,q1];rfl,below_drew_alloc _ _,blk_new (by simp),trivial,fun hN=>⟨arr_new (w1:=w.drew) rfl rfl hL (by rw [hlen];exact q2) ?_ hN,?_⟩⟩
  ·simp only [Array.size_append,Array.size_map,Array.size_range,q3]
   rw [← Nat.add_mul]
   exact Nat.mul_le_mul_right _ (by omega)
  ·have:=RepT.ref (N:=Nf N0 base (updV V n (.slice (some ⟨w.heap.size,0,none⟩) (List.replicate a.toNat z).length cap)) (updO ob' n (.arr ie.size (List.replicate a.toNat z)))) (w:=w.drew.alloc (.cells ((Array.range (a.toNat * ie.size)).map (ie.zero.cells[· % ie.zero.cells.size]!)++zs) e)) (V:=updV V n (.slice (some ⟨w.heap.size,0,none⟩) (List.replicate a.toNat z).length cap)) n (by rw [updV_same];rfl)
   rw [updV_same] at this
   rw [hlen] at this ⊢
   exact this
theorem optK_get {x:Option Operand} {d:Int} {K:Int→Prop} (h:optK ρ x d K):∃ i,K i∧((x=none∧i=d)∨∃ y k,x=some y∧ρ y=some (.v (.int k i))):=by
 unfold optK at h
 split at h
 ·exact ⟨d,h,.inl ⟨rfl,rfl⟩⟩
 ·obtain ⟨y,h1,h2⟩:=kx_iff h
  split at h2
  ·exact ⟨_,h2,.inr ⟨_,_,rfl,h1⟩⟩
  ·exact h2.elim
theorem sliceBounds_run {w:World} {isS:Bool} {len cap:Nat} {lo hi:Option Value} {l h:Int} (hlo:(lo=none∧l=0)∨∃ k,lo=some (.int k l)) (hhi:(hi=none∧h=len)∨∃ k,hi=some (.int k h))
  (h0:0≤l) (h1:l≤h) (h2:h≤len) (hc:len≤cap):(Instr.sliceBounds isS len cap lo hi none).run P w=.ok (l.toNat,h.toNat,cap) w:=by
 have hb:∀ {k:IntKind} {i:Int} {y:Nat} {c:BoundsCode},0≤i→i≤y→(Instr.sliceBound (.int k i) y c).run P w=.ok i.toNat w:=fun h0 h1=>by
  simp [Instr.sliceBound,asIntOf,h0,h1]
 rcases hlo with ⟨rfl,rfl⟩ | ⟨k,rfl⟩ <;> rcases hhi with ⟨rfl,rfl⟩ | ⟨k',rfl⟩
 ·simp [Instr.sliceBounds]
 ·have h3:=hb (k:=k') (i:=h) (y:=cap) (c:=if isS=true then BoundsCode.sliceAcap else BoundsCode.sliceAlen) (by omega) (by omega)
  simp [Instr.sliceBounds,h3]
 ·have h3:=hb (k:=k) (i:=l) (y:=len) (c:=BoundsCode.sliceB) h0 (by omega)
  simp [Instr.sliceBounds,h3]
 ·have h3:=hb (k:=k') (i:=h) (y:=cap) (c:=if isS=true then BoundsCode.sliceAcap else BoundsCode.sliceAlen) (by omega) (by omega)
  have h4:=hb (k:=k) (i:=l) (y:=h.toNat) (c:=BoundsCode.sliceB) h0 (by omega)
  simp [Instr.sliceBounds,h3,h4]
theorem rep_slice {N:Nat→Prop} {w:World} {xs:List AV} {v:Value} (h:Rep N w (.sl xs) v) {ie:TI} (hks:∀ e,e∈xs→(cellsA e).length=ie.size) {l r:Nat} (h1:l≤r) (h2:r≤xs.length) :
  ∃ a n c,v=.slice a n c∧n=xs.length∧n≤c∧Rep N w (.sl ((xs.take r).drop l)) (.slice (if c=l then a else a.map (·.add (l * ie.size))) (r - l) (c - l)):=by
 cases h with
 | nil a c =>
  refine ⟨a,0,c,rfl,rfl,Nat.zero_le _,?_⟩
  simp only [List.length_nil,Nat.le_zero] at h2
  subst h2
  obtain rfl:l=0:=by omega
  simp only [List.take_nil,List.drop_nil,Nat.sub_self]
  exact .nil _ _
 | sl _ k b off cap f hN hb hcap hk hc hr =>
  refine ⟨_,_,cap,rfl,rfl,hcap,?_⟩
  have hlen:((xs.take r).drop l).length=r - l:=by simp;omega
  by_cases hrl:r=l
  ·subst hrl
   have:(xs.take r).drop r=[]:=List.eq_nil_of_length_eq_zero (by rw [List.length_drop,List.length_take];omega)
   rw [this,Nat.sub_self]
   exact .nil _ _
  ·have hne:cap≠l:=by omega
   rw [if_neg hne]
   have hkk:k=ie.size:=by
    cases xs with
    | nil=>simp only [List.length_nil] at h2;omega
    | cons e t=>rw [← hk e (by simp),hks e (by simp)]
   subst hkk
   simp only [Option.map_some,Addr.add_lit]
   rw [← hlen]
   have hget:∀ i e,((xs.take r).drop l)[i]?=some e→xs[l+i]?=some e:=fun i e h=>by
    rw [List.getElem?_drop,List.getElem?_take] at h
    split at h
    ·exact h
    ·cases h
   refine .sl _ ie.size b (off+l * ie.size) (cap - l) (fun i j=>f (l+i) j) hN hb (by rw [hlen];omega) (fun e he=>hk e (List.mem_of_mem_take (List.mem_of_mem_drop he))) (fun i e j c h3 h4=>?_) (fun i e j c h3 h4=>hr _ _ _ _ (hget i e h3) h4)
   have:=hc _ _ _ _ (hget i e h3) h4
   rw [show off+l * ie.size+(i * ie.size+j)=off+((l+i) * ie.size+j) by rw [Nat.add_mul];omega]
   exact this
end
end Go.Sk
namespace Go.Sk
open Go.RowKit
section
variable {P:Program} {T:TypeId→Option TI} {o:Oper} {ρ:Operand→Option AV} {ob:Nat→Option AO} {n:Nat}
theorem elems_rep {N:Nat→Prop} {w:World} {V:VV} {x:AV} {xs:List AV} {v:Value} (h:elemsA ob x=some xs) (hl:noLive ob x=true) (hr:RepT N w V x v) (ho:∀ i u,ob i=some u→RepO N w V i u):Rep N w (.sl xs) v:=by
 unfold elemsA at h
 split at h
 ·injection h with h;subst h
  cases hr with
  | im h=>exact h
 ·injection h with h;subst h
  cases hr with
  | im h=>cases h
  | nils a=>exact .nil a 0
 ·rename_i id
  simp only [noLive] at hl
  split at h
  ·rename_i hob;rw [hob] at hl;cases hl
  ·rename_i ys hob
   injection h with h;subst h
   cases hr with
   | im h=>cases h
   | ref _ h=>exact ho id _ hob
  ·cases h
 ·cases h
theorem slice_OK (hT:TOK P T) {t e:TypeId} {ie:TI} {x:Operand} {lo hi:Option Operand} {xv:AV} {xs:List AV} {l h:Int} (ho:o.op=.slice t x lo hi none) (hu:P.underlying t=some (.slice e)) (he:T e=some ie)
  (hx:ρ x=some xv) (hxs:elemsA ob xv=some xs) (hl:noLive ob xv=true) (hks:∀ y,y∈xs→(cellsA y).length=ie.size)
  (hlo:(lo=none∧l=0)∨∃ y k,lo=some y∧ρ y=some (.v (.int k l))) (hhi:(hi=none∧h=xs.length)∨∃ y k,hi=some y∧ρ y=some (.v (.int k h))) (h0:0≤l) (h1:l≤h) (h2:h≤xs.length) :
  OKs P o ρ ob n (.sl ((xs.take h.toNat).drop l.toNat)) none:=by
 refine OKs.value fun {N V g A a w} hρ hop hobs=>?_
 have hr:=elems_rep hxs hl (hop x _ (by rw [ho];simp [Op.operands]) hx).1 (fun i u hu=>(hobs i u hu).1)
 obtain ⟨b,m,c,hv,hm,hc,hrep⟩:=rep_slice hr hks (l:=l.toNat) (r:=h.toNat) (by omega) (by omega)
 have hlo':(lo.map a.eval=none∧l=0)∨∃ k,lo.map a.eval=some (.int k l):=by
  rcases hlo with ⟨rfl,h⟩ | ⟨y,k,rfl,hy⟩
  ·exact .inl ⟨rfl,h⟩
  ·exact .inr ⟨k,by rw [Option.map_some,eval_v (hop y _ (by rw [ho];simp [Op.operands]) hy).1]⟩
 have hhi':(hi.map a.eval=none∧h=m)∨∃ k,hi.map a.eval=some (.int k h):=by
  rcases hhi with ⟨rfl,h⟩ | ⟨y,k,rfl,hy⟩
  ·exact .inl ⟨rfl,by rw [hm];exact h⟩
  ·exact .inr ⟨k,by rw [Option.map_some,eval_v (hop y _ (by rw [ho];simp [Op.operands]) hy).1]⟩
 have hb:=sliceBounds_run (P:=P) (w:=w) (isS:=true) (len:=m) (cap:=c) hlo' hhi' h0 h1 (by omega) hc
 refine ⟨_,?_,.im hrep,by simp [bd]⟩
 simp only [execOp,ho,hv,Option.map_none,Instr.sliceAt,Sem.run_bind,run_underlying hu,Result.andThen_ok,Instr.slice,hb,run_sizeOf hT he,Sem.run_pure]
theorem len_OK {t e:TypeId} {x:Operand} {xv:AV} {m:Nat} (ho:o.op=.call { callee:=.builtin .len,args:=#[x],argTypes:=#[t] }) (hu:P.underlying t=some (.slice e)) (hx:ρ x=some xv) (hxs:lenA ob xv=some m) :
  OKs P o ρ ob n (.v (.int .i64 m)) none:=by
 refine OKs.value fun {N V g A a w} hρ hop hobs=>?_
 obtain ⟨b,c,hv⟩:=lenA_run hxs (hop x _ (by rw [ho];simp [Op.operands,Call.operands]) hx).1 (fun i u hu=>(hobs i u hu).1)
 refine ⟨.int .i64 m,?_,.im (.v _ rfl),by simp [bd]⟩
 simp [execOp,ho,resolve,invoke,builtin,hv,Builtin.len_,run_underlying hu,goInt]
theorem strlen_OK {t:TypeId} {x:Operand} {s:ByteArray} (ho:o.op=.call { callee:=.builtin .len,args:=#[x],argTypes:=#[t] }) (hu:P.underlying t=some .string) (hx:ρ x=some (.v (.string s))) :
  OKs P o ρ ob n (.v (.int .i64 s.size)) none:=by
 refine OKs.value fun {N V g A a w} hρ hop hobs=>?_
 have hv:=eval_v (hop x _ (by rw [ho];simp [Op.operands,Call.operands]) hx).1
 refine ⟨.int .i64 s.size,?_,.im (.v _ rfl),by simp [bd]⟩
 simp [execOp,ho,resolve,invoke,builtin,hv,Builtin.len_,run_underlying hu,goInt]
theorem call_eta {c:Call} {b:Builtin} {xs:List Operand} {ts:List TypeId} (h1:c.callee=.builtin b) (h2:c.args.toList=xs) (h3:c.argTypes.toList=ts):c={ callee:=.builtin b,args:=xs.toArray,argTypes:=ts.toArray }:=by
 cases c;simp_all [← h2,← h3]
theorem pbuiltin_sound (hT:TOK P T) {own:Bool} {c:Call} {b:Builtin} {ys:List AV} {K:AV→Option AO→Prop} (ho:o.op=.call c) (hc:c.callee=.builtin b)
  (hl:ys.length=c.args.toList.length) (hys:∀ (j:Nat) (h1:j < c.args.toList.length) (h2:j < ys.length),ρ c.args.toList[j]=some ys[j]) (h:pbuiltin T ob n own b c.argTypes.toList ys K):∃ x no,K x no∧OKs P o ρ ob n x no:=by
 unfold pbuiltin at h
 split at h
 ·rename_i t x hts
  obtain ⟨x0,hx0⟩:∃ x0,c.args.toList=[x0]:=by
   simp at hl
   exact List.length_eq_one_iff.1 (by simpa using hl.symm)
  have hceta:=call_eta hc hx0 hts
  have hx:ρ x0=some x:=by
   have:=hys 0 (by rw [hx0];simp) (by simp)
   simpa [hx0] using this
  split at h
  ·rename_i xs hlo hxs
   unfold lenOK at hlo
   split at hlo
   ·rename_i e hd
    exact ⟨_,_,h,len_OK (by rw [ho,hceta]) (under_of hT hd) hx hxs⟩
   ·cases hlo
  ·split at h
   ·rename_i s hst _
    unfold strOK at hst
    split at hst
    ·rename_i hd
     exact ⟨_,_,h,strlen_OK (by rw [ho,hceta]) (under_of hT hd) hx⟩
    ·cases hst
   ·exact h.elim
 ·rename_i t hts
  obtain ⟨x0,hx0⟩:∃ x0,c.args.toList=[x0]:=by
   simp at hl
   exact List.length_eq_one_iff.1 (by simpa using hl.symm)
  have hceta:=call_eta hc hx0 hts
  have hx:ρ x0=some .nils:=by
   have:=hys 0 (by rw [hx0];simp) (by simp)
   simpa [hx0] using this
  split at h
  ·rename_i hlo
   unfold lenOK at hlo
   split at hlo
   ·rename_i e hd
    refine ⟨_,_,h,OKs.value fun {N V g A a w} hρ hop hobs=>?_⟩
    obtain ⟨b,hv⟩:∃ b,a.eval x0=.slice b 0 0:=by
     have hr:=(hop x0 _ (by rw [ho,hceta];simp [Op.operands,Call.operands]) hx).1
     generalize a.eval x0=v at hr
     cases hr with
     | im h=>cases h
     | nils b=>exact ⟨b,rfl⟩
    refine ⟨.int .i64 0,?_,.im (.v _ rfl),by simp [bd]⟩
    rw [hceta] at ho
    simp [execOp,ho,resolve,invoke,builtin,hv,Builtin.cap_,run_underlying (under_of hT hd),goInt]
   ·cases hlo
  ·exact h.elim
 ·rename_i k x r
  split at h
  ·rename_i y hy
   refine ⟨_,_,h,OKs.value fun {N V g A a w} hρ hop hobs=>?_⟩
   obtain ⟨e1,e2⟩:=ev_kl (xs:=c.args) (fun y hy=>by rw [ho];simp [Op.operands,Call.operands,hc,hy]) hop hl hys
   refine ⟨.int k y,?_,.im (.v _ rfl),by simp [bd]⟩
   obtain ⟨v0,vs,hvs⟩:∃ v0 vs,(c.args.map a.eval).toList=v0 :: vs:=by
    cases hh:(c.args.map a.eval).toList with
    | nil=>have:=congrArg List.length hh;rw [Array.length_toList,e1] at this;simp at this
    | cons v0 vs=>exact ⟨v0,vs,rfl⟩
   have hget:∀ (j:Nat) (h1:j < (.v (.int k x) :: r:List AV).length) (h2:j < (v0 :: vs).length),RepT N w V (.v (.int k x) :: r:List AV)[j] (v0 :: vs)[j]:=fun j h1 h2=>by
    have h3:j < (c.args.map a.eval).size:=by rw [e1];exact h1
    have h4:(c.args.map a.eval).toList[j]'(by rw [Array.length_toList];exact h3)=(v0 :: vs)[j]:=by simp only [hvs]
    rw [← h4,Array.getElem_toList]
    exact (e2 j h1 h3).1
   have hv0:=eval_v (hget 0 (by simp) (by simp))
   simp only [List.getElem_cons_zero] at hv0
   subst hv0
   have hrun:=minL_run (P:=P) (w:=w) (N:=N) (V:=V) hy (vs:=vs) (by have:=congrArg List.length hvs;rw [Array.length_toList,e1] at this;simp at this;omega) (fun j h1 h2=>hget (j+1) (Nat.succ_lt_succ h1) (Nat.succ_lt_succ h2))
   simp only [execOp,ho,resolve,hc,invoke,builtin,Builtin.min_,Sem.run_bind,Sem.run_pure,Result.andThen_ok,hvs,hrun]
  ·exact h.elim
 ·rename_i k x r
  split at h
  ·rename_i y hy
   refine ⟨_,_,h,OKs.value fun {N V g A a w} hρ hop hobs=>?_⟩
   obtain ⟨e1,e2⟩:=ev_kl (xs:=c.args) (fun y hy=>by rw [ho];simp [Op.operands,Call.operands,hc,hy]) hop hl hys
   refine ⟨.int k y,?_,.im (.v _ rfl),by simp [bd]⟩
   obtain ⟨v0,vs,hvs⟩:∃ v0 vs,(c.args.map a.eval).toList=v0 :: vs:=by
    cases hh:(c.args.map a.eval).toList with
    | nil=>have:=congrArg List.length hh;rw [Array.length_toList,e1] at this;simp at this
    | cons v0 vs=>exact ⟨v0,vs,rfl⟩
   have hget:∀ (j:Nat) (h1:j < (.v (.int k x) :: r:List AV).length) (h2:j < (v0 :: vs).length),RepT N w V (.v (.int k x) :: r:List AV)[j] (v0 :: vs)[j]:=fun j h1 h2=>by
    have h3:j < (c.args.map a.eval).size:=by rw [e1];exact h1
    have h4:(c.args.map a.eval).toList[j]'(by rw [Array.length_toList];exact h3)=(v0 :: vs)[j]:=by simp only [hvs]
    rw [← h4,Array.getElem_toList]
    exact (e2 j h1 h3).1
   have hv0:=eval_v (hget 0 (by simp) (by simp))
   simp only [List.getElem_cons_zero] at hv0
   subst hv0
   have hrun:=maxL_run (P:=P) (w:=w) (N:=N) (V:=V) hy (vs:=vs) (by have:=congrArg List.length hvs;rw [Array.length_toList,e1] at this;simp at this;omega) (fun j h1 h2=>hget (j+1) (Nat.succ_lt_succ h1) (Nat.succ_lt_succ h2))
   simp only [execOp,ho,resolve,hc,invoke,builtin,Builtin.max_,Sem.run_bind,Sem.run_pure,Result.andThen_ok,hvs,hrun]
  ·exact h.elim
 ·rename_i t t' y hts
  split at h
  ·rename_i e ys' hd hys'
   split at h
   ·exact h.elim
   ·rename_i ie he
    split at h
    ·rename_i hh
     obtain ⟨rfl,hk⟩:=hh
     obtain ⟨h1,h2,h3,h4⟩:=h
     obtain ⟨x0,x1,hx0⟩:∃ x0 x1,c.args.toList=[x0,x1]:=by
      cases hh:c.args.toList with
      | nil=>rw [hh] at hl;cases hl
      | cons x0 r=>cases r with
       | nil=>rw [hh] at hl;cases hl
       | cons x1 r=>cases r with
        | nil=>exact ⟨x0,x1,rfl⟩
        | cons x2 r=>rw [hh] at hl;simp at hl
     have hceta:=call_eta hc hx0 hts
     have hxa:ρ x0=some .nils:=by have:=hys 0 (by rw [hx0];simp) (by simp);simpa [hx0] using this
     have hxb:ρ x1=some y:=by have:=hys 1 (by rw [hx0];simp) (by simp);simpa [hx0] using this
     cases own with
     | true=>exact append_nils_OK hT (own:=true) (by rw [ho,hceta]) (under_of hT hd) he hk hxa hxb hys' h1 h2 h3 h4
     | false=>exact h4.el (fun h4=>append_nils_OK hT (own:=true) (by rw [ho,hceta]) (under_of hT hd) he hk hxa hxb hys' h1 h2 h3 h4) (fun h4=>append_nils_OK hT (own:=false) (by rw [ho,hceta]) (under_of hT hd) he hk hxa hxb hys' h1 h2 h3 h4)
    ·exact h.elim
  ·rename_i e hd hys'
   unfold mkApp at h
   split at h
   ·rename_i k a k' ie hd' he
    split at h
    ·rename_i z0 hz0
     split at h
     ·rename_i z hz
      split at h
      ·rename_i hh
       obtain ⟨h1,h2,h3,h4⟩:=h
       obtain ⟨x0,x1,hx0⟩:∃ x0 x1,c.args.toList=[x0,x1]:=by
        cases hh:c.args.toList with
        | nil=>rw [hh] at hl;cases hl
        | cons x0 r=>cases r with
         | nil=>rw [hh] at hl;cases hl
         | cons x1 r=>cases r with
          | nil=>exact ⟨x0,x1,rfl⟩
          | cons x2 r=>rw [hh] at hl;simp at hl
       have hceta:=call_eta hc hx0 hts
       have hxa:ρ x0=some .nils:=by have:=hys 0 (by rw [hx0];simp) (by simp);simpa [hx0] using this
       have hxb:ρ x1=some (.v (.int k a)):=by have:=hys 1 (by rw [hx0];simp) (by simp);simpa [hx0] using this
       exact ⟨_,_,h4,append_make_OK hT (by rw [ho,hceta]) (under_of hT hd) (under_of hT hd') he hxa hxb hz0 hz hh.1 hh.2 h1 h2 h3⟩
      ·exact h.elim
     ·exact h.elim
    ·exact h.elim
   ·exact h.elim
  ·exact h.elim
 ·exact h.elim
end
end Go.Sk
