/- A checker of Go functions by conditions over small pure states: part 3. -/
import Derived.Test.YtejljpjdifblpaaSk1
import Derived.Laws.BytesArg
set_option linter.unusedVariables false
set_option linter.unusedSimpArgs false
namespace Go.Sk
open Go.RowKit
section
variable {N:Nat→Prop} {w:World} {V:VV} {P:Program} {T:TypeId→Option TI}
theorem OKs.newObj {o:Oper} {ρ:Operand→Option AV} {ob:Nat→Option AO} {n:Nat} {x:AV} {u:AO} (hbx:∀ A:Nat→Prop,A n→bd A x)
  (h:∀ {N0:Nat→Prop} {base:Nat} {V:VV} {g:Nat→Option AV} {ob':Nat→Option AO} {A:Nat→Prop} {a:Act} {w:World},
   base≤w.heap.size→¬ A n→(∀ y∈o.op.operands,evalA g y=ρ y)→(∀ y z,y∈o.op.operands→ρ y=some z→RepT (Nf N0 base V ob') w V z (a.eval y)∧bd A z) →
   (∀ i u,ob i=some u→RepO (Nf N0 base V ob') w V i u∧A i∧bdO A u)→(∀ i b,live ob' i→V.f i b→b < w.heap.size)→(∀ i,live ob' i→i≠n) →
   ∃ v vo w',(execOp a.eval o).run P w=.ok (.value v) w'∧Blw w.heap.size w w'∧(∀ b,blk vo=some b→w.heap.size≤b∧b < w'.heap.size)∧bdO (addA A n) u ∧
    ((∀ b,Nf N0 base V ob' b→b < w.heap.size→Nf N0 base (updV V n vo) (updO ob' n u) b∧w'.heap[b]?=w.heap[b]?) →
     RepO (Nf N0 base (updV V n vo) (updO ob' n u)) w' (updV V n vo) n u∧RepT (Nf N0 base (updV V n vo) (updO ob' n u)) w' (updV V n vo) x v)) :
  OKs P o ρ ob n x (some u):=by
 intro N0 base w0 m V g ob' A a w hr hρ hob hn hd next Q hK
 obtain ⟨v,vo,w',h1,h2,h3,h4,h5⟩:=h (N0:=N0) (base:=base) (V:=V) (g:=g) (ob':=ob') (A:=A) (a:=a) (w:=w) hr.bas hn hρ
  (fun y z hy hz=>by
   rw [← hρ y hy] at hz
   cases y with
   | tmp t=>exact ⟨hr.tm t z hz,hr.bdt t z hz⟩
   | const v=>have:=constA_rep (N:=Nf N0 base V ob') (w:=w) (V:=V) hz;exact ⟨this.1,this.2 A⟩
   | func f=>simp only [evalA,Option.some.injEq] at hz;subst hz;exact ⟨.im (.v _ rfl),by simp [bd]⟩
   | global i=>simp [evalA] at hz)
  (fun i u hu=>⟨hr.obs i u (hob i u hu),hr.bdo i u (hob i u hu)⟩) (fun i b hl hb=>(hr.low i b hl hb).2)
  (fun i hl e=>by obtain ⟨o,ho,_⟩:=hl;exact hn (e ▸ (hr.bdo i o ho).1))
 obtain ⟨h6,h7⟩:=h5 (fun b hN hlt=>by
  refine ⟨⟨hN.1,fun i hl=>?_⟩,h2.block b hlt⟩
  rcases live_updO hl with ⟨rfl,_⟩ | ⟨hi,hl⟩
  ·rw [updV_f];intro hc;have:=(h3 b hc).1;omega
  ·rw [updV_fne V n vo hi];exact hN.2 i hl)
 unfold Oper.wp
 rw [h1]
 exact hK _ _ _ ((hr.new h2 hn h3 h6 h4).put hd h7 (hbx _ (.inr rfl)))
theorem run_box {t:TypeId} {v:Value}:(Instr.box t v).run P w=.ok (.pointer (some ⟨w.heap.size,0,none⟩)) (w.alloc (.cells v.cells t)):=by
 simp [Instr.box,newVar,newRow]
theorem boxNew {N:Nat→Prop} {w:World} {V:VV} {n:Nat} {t:TypeId} {v:Value} {cs:List AV} (hv:V n=.pointer (some ⟨w.heap.size,0,none⟩)) (hf:V.f n=bl (V n))
  (hs:v.cells.size=cs.length) (hc:∀ (j:Nat) (c:AV),cs[j]?=some c→∃ u,v.cells[j]?=some u∧RepT N (w.alloc (.cells v.cells t)) V c u∧u.oneCell'=true) :
  RepO N (w.alloc (.cells v.cells t)) V n (.box cs) :=
 ⟨fun b=>by rw [hf],w.heap.size,v.cells,t,hv,heap_new w _,hs,hc⟩
theorem box_OK {o:Oper} {ρ:Operand→Option AV} {ob:Nat→Option AO} {n:Nat} {t:TypeId} {x:Operand} {y:AV} (ho:o.op=.box t x) (hy:ρ x=some y) (hok:okA y=true) :
  OKs P o ρ ob n (.ptr n 0) (some (.box (cellsA y))):=by
 refine OKs.newObj (fun A h=>by simpa [bd] using h) fun {N0 base V g ob' A a w} hbas hn hρ hop hobs hlow hne=>?_
 obtain ⟨hr,hbd⟩:=hop x y (by rw [ho];simp [Op.operands]) hy
 obtain ⟨hs,hc⟩:=cells_rep hok hr
 refine ⟨.pointer (some ⟨w.heap.size,0,none⟩),.pointer (some ⟨w.heap.size,0,none⟩),w.alloc (.cells (a.eval x).cells t),by simp only [execOp,ho,Sem.run_bind,run_box,Result.andThen_ok,Sem.run_pure],below_alloc _ _,fun b hb=>by simp [blk] at hb;subst hb;simp,?_,fun hN=>⟨?_,?_⟩⟩
 ·exact bdL_mono (fun _=>.inl) _ (bd_cells hbd)
 ·refine boxNew (updV_same _ _ _) (by rw [updV_same,updV_f]) hs fun j c hj=>?_
  obtain ⟨u,h1,h2,h3⟩:=hc j c hj
  exact ⟨u,h1,h2.mono (A:=A) hN (fun i hi=>updV_ne _ _ _ (fun e=>hn (e ▸ hi))) (bdL_get (bd_cells hbd) hj),h3⟩
 ·exact .ptr n 0 w.heap.size 0 (updV_same _ _ _)
theorem alloc_OK (hT:TOK P T) {o:Oper} {ρ:Operand→Option AV} {ob:Nat→Option AO} {n:Nat} {t:TypeId} {i:TI} {cs:List AV} (ho:o.op=.alloc t) (hi:T t=some i) (hz:constL i.zero.cells.toList=some cs) :
  OKs P o ρ ob n (.ptr n 0) (some (.box cs)):=by
 refine OKs.newObj (fun A h=>by simpa [bd] using h) fun {N0 base V g ob' A a w} hbas hn hρ hop hobs hlow hne=>?_
 refine ⟨.pointer (some ⟨w.heap.size,0,none⟩),.pointer (some ⟨w.heap.size,0,none⟩),w.alloc (.cells i.zero.cells t),?_,below_alloc _ _,fun b hb=>by simp [blk] at hb;subst hb;simp,?_,fun hN=>⟨?_,?_⟩⟩
 ·simp only [execOp,ho,Instr.alloc,Sem.run_bind,run_zeroValue hT hi,Result.andThen_ok,newVar,newRow,run_newObj,Sem.run_pure];rfl
 ·exact (constL_rep (N:=N0) (w:=w) (V:=V) hz).2.2 _
 ·obtain ⟨h1,h2,h3⟩:=constL_rep (N:=Nf N0 base (updV V n (.pointer (some ⟨w.heap.size,0,none⟩))) (updO ob' n (.box cs))) (w:=w.alloc (.cells i.zero.cells t)) (V:=updV V n (.pointer (some ⟨w.heap.size,0,none⟩))) hz
  refine boxNew (updV_same _ _ _) (by rw [updV_same,updV_f]) (by simpa using h1) fun j c hj=>?_
  obtain ⟨h4,h5⟩:=List.getElem?_eq_some_iff.1 hj
  have h6:j < i.zero.cells.size:=by simp at h1;omega
  have h7:=h2 j h4 (by simpa using h6)
  rw [h5,Array.getElem_toList] at h7
  exact ⟨i.zero.cells[j],by simp [h6],h7.1,h7.2⟩
 ·exact .ptr n 0 w.heap.size 0 (updV_same _ _ _)
end
end Go.Sk
namespace Go.Sk
open Go.RowKit
theorem foldSet (off:Nat):∀ (l:List Value) (k:Nat) (cs:Array Value),
  ((l.zipIdx k).foldl (fun cs (p:Value × Nat)=>cs.setIfInBounds (off+p.2) p.1) cs).size=cs.size ∧
  ∀ p,((l.zipIdx k).foldl (fun cs (p:Value × Nat)=>cs.setIfInBounds (off+p.2) p.1) cs)[p]?=if off+k≤p∧p < off+k+l.length∧p < cs.size then l[p - (off+k)]? else cs[p]?
 | [],k,cs=>by
  refine ⟨rfl,fun p=>?_⟩
  rw [if_neg (by simp;omega)]
  rfl
 | v :: r,k,cs=>by
  obtain ⟨h1,h2⟩:=foldSet off r (k+1) (cs.setIfInBounds (off+k) v)
  simp only [List.zipIdx_cons,List.foldl_cons]
  refine ⟨by rw [h1];simp,fun p=>?_⟩
  rw [h2,Array.size_setIfInBounds]
  by_cases hp:p=off+k
  ·subst hp
   rw [if_neg (by omega)]
   by_cases hs:off+k < cs.size
   ·rw [if_pos ⟨by omega,by simp,hs⟩];simp [hs]
   ·rw [if_neg (by omega)];simp [hs]
  ·by_cases hc:off+(k+1)≤p∧p < off+(k+1)+r.length∧p < cs.size
   ·rw [if_pos hc,if_pos ⟨by omega,by simp;omega,hc.2.2⟩]
    rw [show p - (off+k)=(p - (off+(k+1)))+1 by omega,List.getElem?_cons_succ]
   ·rw [if_neg hc,if_neg (by simp;omega),Array.getElem?_setIfInBounds_ne (by omega)]
theorem foldSetA (off:Nat) (vs cs:Array Value) :
  (vs.zipIdx.foldl (fun cs (p:Value × Nat)=>cs.setIfInBounds (off+p.2) p.1) cs).size=cs.size ∧
  ∀ p,(vs.zipIdx.foldl (fun cs (p:Value × Nat)=>cs.setIfInBounds (off+p.2) p.1) cs)[p]?=if off≤p∧p < off+vs.size∧p < cs.size then vs[p - off]? else cs[p]?:=by
 have:=foldSet off vs.toList 0 cs
 rw [← Array.foldl_toList,Array.toList_zipIdx]
 simpa using this
section
variable {N:Nat→Prop} {w:World} {V:VV} {P:Program} {T:TypeId→Option TI}
def idxs:Nat→List (Nat × Operand)→Bool
 | _,[]=>true
 | k,(i,_) :: r=>i == k && idxs (k+1) r
theorem fill_laid (k:Nat):∀ (parts:List (Nat × Value)) (i0:Nat) (cs:Array Value) (es:List AV),parts.length=es.length →
  (∀ (j:Nat) (h1:j < parts.length) (h2:j < es.length),parts[j].1=i0+j∧parts[j].2.cells.size=k∧(cellsA es[j]).length=k∧∀ (q:Nat) (c:AV),(cellsA es[j])[q]?=some c→∃ u,parts[j].2.cells[q]?=some u∧Rep N w c u) →
  (i0+parts.length) * k≤cs.size →
  ∃ cs',Instr.fill (fun i=>some (i * k,k)) cs parts=some cs'∧cs'.size=cs.size∧(∀ p,p < i0 * k→cs'[p]?=cs[p]?) ∧
   ∀ (i:Nat) (e:AV) (q:Nat) (c:AV),es[i]?=some e→(cellsA e)[q]?=some c→∃ u,cs'[(i0+i) * k+q]?=some u∧Rep N w c u
 | [],i0,cs,es,hl,_,_=>by
  have:es=[]:=List.eq_nil_of_length_eq_zero hl.symm
  subst this
  exact ⟨cs,rfl,rfl,fun _ _=>rfl,fun i e q c h=>by simp at h⟩
 | (i,v) :: r,i0,cs,[],hl,_,_=>by simp at hl
 | (i,v) :: r,i0,cs,e :: es,hl,hp,hs=>by
  obtain ⟨h1,h2,h3,h4⟩:=hp 0 (by simp) (by simp)
  simp only [List.getElem_cons_zero,Nat.add_zero] at h1 h2 h3 h4
  subst h1
  have hs':(i+(r.length+1)) * k≤cs.size:=by simpa using hs
  have hbound:(i+1) * k≤cs.size:=Nat.le_trans (Nat.mul_le_mul_right k (by omega)) hs'
  rw [Nat.add_mul,Nat.one_mul] at hbound
  obtain ⟨f1,f2⟩:=foldSetA (i * k) v.cells cs
  obtain ⟨cs',g1,g2,g3,g4⟩:=fill_laid k r (i+1) (v.cells.zipIdx.foldl (fun cs (p:Value × Nat)=>cs.setIfInBounds (i * k+p.2) p.1) cs) es (by simpa using hl)
   (fun j q1 q2=>by
    have:=hp (j+1) (by simpa using q1) (by simpa using q2)
    simp only [List.getElem_cons_succ] at this
    exact ⟨by rw [this.1];omega,this.2⟩)
   (by rw [f1];rw [show i+1+r.length=i+(r.length+1) by omega];exact hs')
  refine ⟨cs',?_,by rw [g2,f1],fun p hpk=>?_,fun i' e' q c he hc=>?_⟩
  ·simp only [Instr.fill,h2]
   rw [if_neg (by simp;omega)]
   exact g1
  ·rw [g3 p (by rw [Nat.add_mul];omega),f2,if_neg (by omega)]
  ·cases i' with
   | zero =>
    simp at he;subst he
    obtain ⟨u,hu,hr⟩:=h4 q c hc
    have hq:q < k:=by rw [← h3];exact (List.getElem?_eq_some_iff.1 hc).1
    refine ⟨u,?_,hr⟩
    rw [Nat.add_zero,g3 _ (by rw [Nat.add_mul];omega),f2,if_pos ⟨by omega,by omega,by omega⟩,show i * k+q - i * k=q by omega]
    exact hu
   | succ i' =>
    obtain ⟨u,hu,hr⟩:=g4 i' e' q c (by simpa using he) hc
    exact ⟨u,by rw [show i+(i'+1)=i+1+i' by omega];exact hu,hr⟩
theorem zero_laid {k c:Nat} {z:AV} {zero:Array Value} (hs:zero.size=k) (hz:(cellsA z).length=k) (hr:∀ (q:Nat) (x:AV),(cellsA z)[q]?=some x→∃ u,zero[q]?=some u∧Rep N w x u) :
  Laid N w k (List.replicate c z) 0 ((Array.range (c * k)).map (zero[· % zero.size]!)):=by
 refine ⟨fun e he=>by rw [(List.mem_replicate.1 he).2];exact hz,fun i e j x h1 h2=>?_⟩
 obtain ⟨h3,h4⟩:=List.getElem?_eq_some_iff.1 h1
 simp at h3 h4
 subst h4
 have hj:j < k:=by rw [← hz];exact (List.getElem?_eq_some_iff.1 h2).1
 obtain ⟨u,hu,hr'⟩:=hr j x h2
 refine ⟨u,?_,hr'⟩
 have hlt:i * k+j < c * k:=by
  have:(i+1) * k≤c * k:=Nat.mul_le_mul_right k h3
  rw [Nat.add_mul,Nat.one_mul] at this
  omega
 have hm:(i * k+j) % k=j:=by rw [Nat.add_comm,Nat.add_mul_mod_self_right];exact Nat.mod_eq_of_lt hj
 rw [Nat.zero_add]
 simp only [Array.getElem?_map]
 rw [Array.getElem?_eq_getElem (by simpa using hlt)]
 simp [hs,hm]
 obtain ⟨q1,q2⟩:=Array.getElem?_eq_some_iff.1 hu
 rw [getElem!_pos zero j q1,q2]
theorem append_none (hT:TOK P T) {t ty e:TypeId} {ie:TI} (ht:P.underlying t=some (.slice e)) (he:T e=some ie) {base xa:Option Addr} {sLen sCap xc:Nat} (hle:sLen≤sCap) :
  (Builtin.append_ #[t,t] ty #[.slice base sLen sCap,.slice xa 0 xc]).run P w=.ok (.slice base sLen sCap) w:=by
 have hx:(Builtin.firstCells ie.size 0 (.slice xa 0 xc)).run P w=.ok #[] w:=by
  cases xa <;> simp [Builtin.firstCells,loadCells,loadCellsFrom]
 cases base <;> simp [Builtin.append_,run_underlying ht,run_sizeOf hT he,Builtin.lenOf,hle,hx,storeCells]
theorem run_firstCells_at {k n:Nat} {xa:Addr} {xc:Nat} {news:List Value} (hl:news.length=n * k) (h:∀ j v,news[j]?=some v→w.cell? (xa.add j)=some v) :
  (Builtin.firstCells k n (.slice (some xa) n xc)).run P w=.ok news.toArray w:=run_firstCells_some w k n xa n xc news hl h
theorem append_room (hT:TOK P T) {t ty e:TypeId} {ie:TI} (ht:P.underlying t=some (.slice e)) (he:T e=some ie) {g o sLen sCap xc n:Nat} {xa:Addr} {news:List Value} {cur:Array Value} {Ty:TypeId}
  (hln:news.length=n * ie.size) (hn:∀ j v,news[j]?=some v→w.cell? (xa.add j)=some v) (h1:∀ v∈news,v.oneCell'=true) (hg:w.heap[g]?=some (.cells cur Ty (0,0)))
  (hroom:sLen+n≤sCap) (hfit:o+sCap * ie.size≤cur.size) :
  (Builtin.append_ #[t,t] ty #[.slice (some ⟨g,o,none⟩) sLen sCap,.slice (some xa) n xc]).run P w =
   .ok (.slice (some ⟨g,o,none⟩) (sLen+n) sCap) (w.setRow g (cur.toList.take (o+sLen * ie.size)++news++cur.toList.drop (o+sLen * ie.size+news.length)).toArray):=by
 have hf:=run_firstCells_at (P:=P) (w:=w) (k:=ie.size) (n:=n) (xa:=xa) (xc:=xc) hln hn
 have hsz:(sLen+n) * ie.size≤sCap * ie.size:=Nat.mul_le_mul_right _ hroom
 rw [Nat.add_mul] at hsz
 have hst:=run_storeCells_at P g (o+sLen * ie.size) Ty news 0 cur w hg (by rw [hln];omega) h1
 simp only [Nat.add_zero] at hst
 simp [Builtin.append_,run_underlying ht,run_sizeOf hT he,Builtin.lenOf,hroom,hf,Addr.add_lit,hst]
theorem append_grows (hT:TOK P T) {t ty e:TypeId} {ie:TI} (ht:P.underlying t=some (.slice e)) (he:T e=some ie) {base:Option Addr} {sLen sCap xc n:Nat} {xa:Addr} {olds news:List Value}
  (hlo:olds.length=sLen * ie.size) (hln:news.length=n * ie.size) (ho:∀ b,base=some b→∀ j v,olds[j]?=some v→w.cell? (b.add j)=some v) (hb:base=none→sLen=0∧sCap=0)
  (hn:∀ j v,news[j]?=some v→w.cell? (xa.add j)=some v) (hle:sLen≤sCap)
  (hgr:sCap < sLen+n) (hbytes:(sLen+n) * ie.bytes≤140737488355328) (h63:sLen+n≤4611686018427387904) :
  ∃ cap z,(Builtin.append_ #[t,t] ty #[.slice base sLen sCap,.slice (some xa) n xc]).run P w =
   .ok (.slice (some ⟨w.heap.size,0,none⟩) (sLen+n) cap) (w.drew.alloc (.cells (olds.toArray++news.toArray++z) e))∧sLen+n≤cap∧z.size=(cap - (sLen+n)) * ie.zero.cells.size:=by
 obtain ⟨info,h1,h2,h3,h4,h5,_⟩:=hT e ie he
 cases base with
 | none =>
  obtain ⟨rfl,rfl⟩:=hb rfl
  have:olds=[]:=List.eq_nil_of_length_eq_zero (by simpa using hlo)
  subst this
  have:=run_append_nil (P:=P) w t ty e info ie.zero ht h1 h5 xa n xc news (by rw [h3];exact hln) hn (by omega) (by omega) (by rw [h4];simp at hbytes;omega)
  refine ⟨_,_,by simpa using this,by simpa using grownCap_ge w n 0 e,by simp [Builtin.zeroCells]⟩
 | some b =>
  have:=run_append_grow (P:=P) w t ty e info ie.zero ht h1 h5 b sLen sCap olds (by rw [h3];exact hlo) (ho b rfl) xa n xc news (by rw [h3];exact hln) hn hgr (by omega) (by rw [h4];exact growslice_fits hgr hbytes)
  exact ⟨_,_,this,grownCap_ge w _ _ e,by simp [Builtin.zeroCells]⟩
theorem Laid.values {k:Nat} {xs:List AV} {o:Nat} {arr:Array Value} (h:Laid N w k xs o arr) (hk:0 < k∨xs=[]):∃ vs:List Value,vs.length=xs.length * k∧(∀ j v,vs[j]?=some v→arr[o+j]?=some v)∧(∀ v∈vs,v.oneCell'=true) ∧
  ∀ (i:Nat) (e:AV) (j:Nat) (c:AV),xs[i]?=some e→(cellsA e)[j]?=some c→∃ u:Value,vs[i * k+j]?=some u∧Rep N w c u:=by
 have hall:∀ p,p < xs.length * k→∃ u c,arr[o+p]?=some u∧Rep N w c u:=by
  intro p hp
  have hk0:0 < k:=by
   rcases hk with h | rfl
   ·exact h
   ·simp at hp
  have h1:p / k < xs.length:=(Nat.div_lt_iff_lt_mul hk0).2 hp
  have h2:p % k < k:=Nat.mod_lt _ hk0
  have h3:p % k < (cellsA xs[p / k]).length:=by rw [h.1 _ (List.getElem_mem h1)];exact h2
  obtain ⟨u,hu,hr⟩:=h.2 (p / k) _ (p % k) _ (List.getElem?_eq_getElem h1) (List.getElem?_eq_getElem h3)
  refine ⟨u,_,?_,hr⟩
  rw [← hu,Nat.mul_comm,Nat.div_add_mod]
 have hsz:o+xs.length * k≤arr.size∨xs.length * k=0:=by
  by_cases h0:xs.length * k=0
  ·exact .inr h0
  ·left
   obtain ⟨u,c,hu,_⟩:=hall (xs.length * k - 1) (by omega)
   have:=(Array.getElem?_eq_some_iff.1 hu).1
   omega
 have hlen:((arr.toList.drop o).take (xs.length * k)).length=xs.length * k:=by
  rcases hsz with h | h
  ·simp;omega
  ·rw [h];simp
 have hget:∀ p,p < xs.length * k→((arr.toList.drop o).take (xs.length * k))[p]?=arr[o+p]?:=fun p hp=>by
  rw [List.getElem?_take,if_pos hp,List.getElem?_drop];simp
 refine ⟨(arr.toList.drop o).take (xs.length * k),hlen,fun j v hv=>?_,fun v hv=>?_,fun i e j c h1 h2=>?_⟩
 ·have hj:j < xs.length * k:=by rw [← hlen];exact (List.getElem?_eq_some_iff.1 hv).1
  rw [← hget j hj];exact hv
 ·obtain ⟨j,hj⟩:=List.mem_iff_getElem?.1 hv
  have hj':j < xs.length * k:=by rw [← hlen];exact (List.getElem?_eq_some_iff.1 hj).1
  obtain ⟨u,c,hu,hr⟩:=hall j hj'
  rw [hget j hj',hu] at hj
  injection hj with hj
  exact hj ▸ hr.oneCell
 ·obtain ⟨u,hu,hr⟩:=h.2 i e j c h1 h2
  have h3:i < xs.length:=(List.getElem?_eq_some_iff.1 h1).1
  have h4:j < k:=by rw [← h.1 e (List.mem_of_getElem? h1)];exact (List.getElem?_eq_some_iff.1 h2).1
  have h5:i * k+j < xs.length * k:=by
   have:(i+1) * k≤xs.length * k:=Nat.mul_le_mul_right k h3
   rw [Nat.add_mul,Nat.one_mul] at this
   omega
  exact ⟨u,by rw [hget _ h5];exact hu,hr⟩
end
end Go.Sk
namespace Go.Sk
open Go.RowKit
def Enters (P:Program) (f:FuncId):Prop:=∃ fn,P.funcs[f]?=some fn∧fn.body.isNone=false∧(fn.name == "runtime.NumGoroutine")=false
structure Fun (P:Program) (f:FuncId) (os:List AO) (args:List AV) (x:AV) (os':List AO):Prop where
 en:Enters P f
 le:os.length≤os'.length
 run:FunCall P f os args x os'
def Pure (P:Program) (f:FuncId) (args:List AV) (x:AV) (no:Option AO):Prop:=Fun P f [] args x no.toList
def ifB (b:Bool) (p q:Prop):Prop:=@Bool.rec (fun _=>Prop) q p b
theorem ifB_intro {b:Bool} {p q:Prop} (ht:b=true→p) (hf:b=false→q):ifB b p q:=by cases b <;> simp_all [ifB]
theorem ifB_elim {b:Bool} {p q:Prop} (h:ifB b p q):(b=true→p)∧(b=false→q):=by cases b <;> simp_all [ifB]
def kl (ρ:Operand→Option AV):List Operand→(List AV→Prop)→Prop
 | [],K=>K []
 | x :: r,K=>kx ρ x fun y=>kl ρ r fun ys=>K (y :: ys)
theorem kl_iff {ρ:Operand→Option AV}:∀ {xs:List Operand} {K:List AV→Prop},kl ρ xs K→∃ ys:List AV,ys.length=xs.length∧(∀ (j:Nat) (h1:j < xs.length) (h2:j < ys.length),ρ xs[j]=some ys[j])∧K ys
 | [],K,h=>⟨[],rfl,fun j h1=>by simp at h1,h⟩
 | x :: r,K,h=>by
  obtain ⟨y,h1,h2⟩:=kx_iff h
  obtain ⟨ys,h3,h4,h5⟩:=kl_iff h2
  refine ⟨y :: ys,by simp [h3],fun j h6 h7=>?_,h5⟩
  cases j with
  | zero=>exact h1
  | succ j=>simpa using h4 j (by simpa using h6) (by simpa using h7)
def calleeOf:AV→Option (FuncId × List AV × List AV)
 | .v (.func (.func f) fs cs)=>if fs.size=0∧cs.size=0 then some (f,[],[]) else none
 | .fn (.func f) fs cs=>some (f,fs,cs)
 | _=>none
def snapAll (ob:Nat→Option AO):List AV→Option (List AV)
 | []=>some []
 | x :: r=>match snap ob x,snapAll ob r with | some y,some s=>some (y :: s) | _,_=>none
def pcall (P:Program) (ob:Nat→Option AO) (n:Nat) (f:FuncId) (args:List AV) (K:AV→Option AO→Prop):Prop :=
 match snapAll ob args with
 | none=>False
 | some as=>match args.all (noLives ob) with
  | true=>∃ x no,Pure P f as x no∧K (ren (fun _=>n) x) (no.map (renO fun _=>n))
  | false=>∃ x,Pure P f as x none∧scalA x=true∧K x none
def minL:IntKind→Int→List AV→Option Int
 | _,x,[]=>some x
 | k,x,.v (.int k' y) :: r=>if k=k' then minL k (if y < x then y else x) r else none
 | _,_,_=>none
def maxL:IntKind→Int→List AV→Option Int
 | _,x,[]=>some x
 | k,x,.v (.int k' y) :: r=>if k=k' then maxL k (if y > x then y else x) r else none
 | _,_,_=>none
def immAll (ob:Nat→Option AO) (k:Nat):List AV→Option (List AV)
 | []=>some []
 | x :: r=>match immA ob x,immAll ob k r with
  | some y,some s=>if (cellsA y).length=k then some (y :: s) else none
  | _,_=>none
structure RefHint:Prop where
inductive AltR (A B:Prop):Prop
 | own (h:RefHint) (a:A)
 | im (b:B)
theorem AltR.el {A B C:Prop} (h:AltR A B) (f:A→C) (g:B→C):C:=by
 cases h with
 | own _ a=>exact f a
 | im b=>exact g b
structure OwnHint:Prop where
inductive AltS (A B:Prop):Prop
 | own (h:OwnHint) (a:A)
 | im (b:B)
theorem AltS.el {A B C:Prop} (h:AltS A B) (f:A→C) (g:B→C):C:=by
 cases h with
 | own _ a=>exact f a
 | im b=>exact g b
inductive CalcL (v:List AV) (K:List AV→Prop):Prop
 | mk (z:List AV) (hz:v=z) (h:K z)
theorem CalcL.elim {v:List AV} {K:List AV→Prop} (h:CalcL v K):K v:=by
 obtain ⟨z,rfl,h⟩:=h
 exact h
def setC (cs:List AV) (off:Nat) (ds:List AV):List AV:=cs.take off++ds++cs.drop (off+ds.length)
def fillA (place:Nat→Option (Nat × Nat)) (cs:List AV):List (Nat × AV)→Option (List AV)
 | []=>some cs
 | (i,y) :: r=>match place i with
  | none=>none
  | some (off,size)=>if (cellsA y).length=size∧okA y=true∧off+size≤cs.length then fillA place (setC cs off (cellsA y)) r else none
def placeOf (T:TypeId→Option TI) (t:TypeId) (i:Nat):Option (Nat × Nat) :=
 match (T t).map TI.desc with
 | some (TypeDesc.struct fs)=>match fs[i]? with
  | some f=>match T f.type with
   | some ti=>some (f.offset,ti.size)
   | none=>none
  | none=>none
 | some (TypeDesc.array _ e)=>match T e with
  | some ti=>some (i * ti.size,ti.size)
  | none=>none
 | _=>none
def buildOK (T:TypeId→Option TI) (t:TypeId):Bool :=
 match (T t).map TI.desc with
 | some (TypeDesc.struct fs)=>fs.toList.all fun f=>(T f.type).isSome
 | some (TypeDesc.array _ e)=>(T e).isSome
 | _=>false
def lenOK (T:TypeId→Option TI) (t:TypeId):Bool :=
 match (T t).map TI.desc with
 | some (TypeDesc.slice _)=>true
 | _=>false
def strOK (T:TypeId→Option TI) (t:TypeId):Bool :=
 match (T t).map TI.desc with
 | some TypeDesc.string=>true
 | _=>false
def mkApp (T:TypeId→Option TI) (ob:Nat→Option AO) (n:Nat) (t' e:TypeId) (y:AV) (K:AV→Option AO→Prop):Prop:=match y,(T t').map TI.desc,T e with
 | .v (.int _ a),some (TypeDesc.int _),some ie=>match constA ie.zero with
  | some z0=>match immA ob z0 with
   | some z=>if ie.size=(cellsA z).length∧0 < ie.size then 0≤a∧a≤4611686018427387904∧ie.bytes * a≤140737488355328∧K (.ref n) (some (.arr ie.size (List.replicate a.toNat z))) else False
   | none=>False
  | none=>False
 | _,_,_=>False
def pbuiltin (T:TypeId→Option TI) (ob:Nat→Option AO) (n:Nat) (own:Bool) (b:Builtin) (ts:List TypeId) (args:List AV) (K:AV→Option AO→Prop):Prop :=
 match b,ts,args with
 | .len,[t],[x]=>match lenOK T t,lenA ob x with
  | true,some n=>K (.v (.int .i64 n)) none
  | _,_=>match strOK T t,x with
   | true,.v (.string s)=>K (.v (.int .i64 s.size)) none
   | _,_=>False
 | .cap,[t],[.nils]=>match lenOK T t with
  | true=>K (.v (.int .i64 0)) none
  | false=>False
 | .min,_,.v (.int k x) :: r=>match minL k x r with | some y=>K (.v (.int k y)) none | none=>False
 | .max,_,.v (.int k x) :: r=>match maxL k x r with | some y=>K (.v (.int k y)) none | none=>False
 | .append,[t,t'],[.nils,y]=>match (T t).map TI.desc,elemsA ob y with
  | some (TypeDesc.slice e),some ys=>match T e with
   | none=>False
   | some ie=>if t=t'∧0 < ie.size then (∀ e,e∈ys→(cellsA e).length=ie.size)∧ys.length * ie.bytes≤140737488355328∧ys.length≤4611686018427387904 ∧
     (match own with
      | true=>K (.ref n) (some (.arr ie.size ys))
      | false=>AltS (K (.ref n) (some (.arr ie.size ys))) (K (.sl ys) none)) else False
  | some (TypeDesc.slice e),none=>mkApp T ob n t' e y K
  | _,_=>False
 | _,_,_=>False
def optK (ρ:Operand→Option AV) (x:Option Operand) (d:Int) (K:Int→Prop):Prop :=
 match x with
 | none=>K d
 | some x=>kx ρ x fun y=>match y with
  | .v (.int _ i)=>K i
  | _=>False
def makeK (T:TypeId→Option TI) (ie:TI) (own:Bool) (a:Nat) (z:AV) (n:Nat) (K:AV→Option AO→Prop):Prop :=
 match own,ie.desc,ie.zero with
 | true,TypeDesc.slice e,.slice none 0 0=>match T e with
  | some i2=>K (.ref n) (some (.arr ie.size (List.replicate a z)))∨K (.ref n) (some (.tre 1 (List.replicate a (.own i2.size []))))
  | none=>K (.ref n) (some (.arr ie.size (List.replicate a z)))
 | _,_,_=>K (.ref n) (some (.arr ie.size (List.replicate a z)))
def capOnly (l c:Operand):Bool:=match l,c with
 | .const (.int _ (.ofNat 0)),.tmp _=>true
 | _,_=>false
inductive BytesK (k:Nat) (ys:List AV) (K:List Int→Prop):Prop
 | mk (ns:List Int) (hk:k=1) (h:ys=ns.map fun n=>.v (.int .u8 n)) (h1:K ns)
def pstep (P:Program) (T:TypeId→Option TI) (own:Bool) (ρ:Operand→Option AV) (ob:Nat→Option AO) (n:Nat) (o:Oper) (K:AV→Option AO→Prop):Prop :=
 match o.op with
 | .move x=>kx ρ x fun y=>K y none
 | .assign x=>kx ρ x fun y=>K y none
 | .pick c a b=>kx ρ c fun c=>match c with
  | .v (.bool t)=>ifB t (kx ρ a fun y=>K y none) (kx ρ b fun y=>K y none)
  | _=>False
 | .binOp op t x y _=>kx ρ x fun x=>kx ρ y fun y=>match x,y with
  | .v a,.v b=>abin T op t a b fun r=>K (.v r) none
  | _,_=>False
 | .unOp op _ x=>kx ρ x fun x=>match op,x with
  | .not,.v (.bool b)=>K (.v (.bool (!b))) none
  | .neg,.v (.int k i)=>Calc (k.wrap (0 - i)) fun z=>K (.v (.int k z)) none
  | _,_=>False
 | .convert src dst x=>kx ρ x fun x=>match (T src).map TI.desc,(T dst).map TI.desc,x with
  | some (TypeDesc.int _),some (TypeDesc.int k),.v (.int _ i)=>Calc (k.wrap i) fun z=>K (.v (.int k z)) none
  | some TypeDesc.string,some TypeDesc.string,.v (.string s)=>K (.v (.string s)) none
  | some (TypeDesc.slice e),some TypeDesc.string,x=>match T e,elemsA ob x with
   | some ie,some ys=>match ie.desc with
    | TypeDesc.int .u8=>BytesK ie.size ys fun ns=>K (.v (.string (strOfNums ns))) none
    | _=>False
   | _,_=>False
  | _,_,_=>False
 | .nilCheck x=>kx ρ x fun x=>match x with
  | .ptr id j=>K (.ptr id j) none
  | .pea id k i j=>K (.pea id k i j) none
  | .pel cs=>K (.pel cs) none
  | _=>False
 | .fieldAddr s x f=>kx ρ x fun x=>match fieldOf T s f with
  | none=>False
  | some fd=>match T fd.type with
   | none=>False
   | some ti=>match addOff x fd.offset with
    | none=>False
    | some p=>if ti.size≠0 then ptrL p fun p=>K p none else False
 | .field s x f=>kx ρ x fun x=>match fieldOf T s f,x with
  | some fd,.ag cs=>match T fd.type with
   | none=>False
   | some ti=>match partA cs ti fd.offset with
    | some y=>ldL ti.agg y fun y=>K y none
    | none=>False
  | _,_=>False
 | .indexAddr t x i=>kx ρ x fun x=>kx ρ i fun i=>match i with
  | .v (.int _ i)=>idxAddr T ob t x i fun p=>K p none
  | _=>False
 | .index t x i=>kx ρ x fun x=>kx ρ i fun i=>match (T t).map TI.desc,x,i with
  | some TypeDesc.string,.v (.string s),.v (.int _ i)=>0≤i∧∃ b,s[i.toNat]?=some b∧K (.v (.int .u8 b.toNat)) none
  | some (TypeDesc.array len e),.ag cs,.v (.int _ i)=>match T e with
   | none=>False
   | some ie=>0≤i∧i < len∧(match partA cs ie (i.toNat * ie.size) with
    | some y=>K y none
    | none=>False)
  | _,_,_=>False
 | .load t p=>kx ρ p fun p=>match T t with
  | none=>False
  | some i=>atPtr ob p fun cs=>match partA cs i 0 with
   | some x=>ldL i.agg x fun x=>K x none
   | none=>False
 | .extract x i=>kx ρ x fun x=>match x with
  | .tup cs=>match cs[i]? with
   | some c=>K c none
   | none=>False
  | _=>False
 | .makeFunc f fs cs=>kl ρ fs.toList fun fs=>kl ρ cs.toList fun cs=>K (.fn f fs cs) none
 | .box _ x=>kx ρ x fun x=>if okA x=true then K (.ptr n 0) (some (.box (cellsA x))) else False
 | .alloc t=>match T t with
  | none=>False
  | some i=>match constL i.zero.cells.toList with
   | none=>False
   | some cs=>K (.ptr n 0) (some (.box cs))
 | .build t parts=>match T t with
  | none=>False
  | some i=>match constL i.zero.cells.toList with
   | none=>False
   | some zs=>if buildOK T t=true then kl ρ (parts.toList.map (·.2)) fun ys=>match fillA (placeOf T t) zs ((parts.toList.map (·.1)).zip ys) with
    | some cs=>litL cs fun cs=>K (.ag cs) none
    | none=>False
    else False
 | .buildSlice t len parts=>match (T t).map TI.desc with
  | some (TypeDesc.slice e)=>match T e with
   | none=>False
   | some ie=>if idxs 0 parts.toList=true∧parts.size=len∧len * ie.size≤16777216∧0 < ie.size then
     kl ρ (parts.toList.map (·.2)) fun ys=>match immAll ob ie.size ys with
      | none=>False
      | some es=>match len,own with
       | 0,_=>K .nils none
       | _,true=>K (.ref n) (some (.arr ie.size es))
       | _,false=>AltS (K (.ref n) (some (.arr ie.size es))) (K (.sl es) none)
    else False
  | _=>False
 | .makeSlice t l c=>match capOnly l c with
  | true=>kx ρ c fun c=>match (T t).map TI.desc,c with
   | some (TypeDesc.slice e),.v (.int _ b)=>match T e with
    | none=>False
    | some ie=>if 0 < ie.size then 0≤b∧b≤4611686018427387904∧ie.bytes * b≤140737488355328∧K (.ref n) (some (.arr ie.size [])) else False
   | _,_=>False
  | false=>kx ρ l fun l=>kx ρ c fun c=>match (T t).map TI.desc,l,c with
  | some (TypeDesc.slice e),.v (.int _ a),.v (.int _ b)=>match T e with
   | none=>False
   | some ie=>match constA ie.zero with
    | none=>False
    | some z0=>match immA ob z0 with
     | none=>False
     | some z=>if ie.size=(cellsA z).length∧0 < ie.size then a=b∧0≤a∧a≤4611686018427387904∧ie.bytes * a≤140737488355328∧makeK T ie own a.toNat z n K else False
  | _,_,_=>False
 | .slice t x lo hi mx=>match mx with
  | some m=>match lo,hi,m with
   | none,some (.const (.int _ (.ofNat 0))),.const (.int _ (.ofNat 0))=>kx ρ x fun x=>match (T t).map TI.desc,elemsA ob x with
    | some (TypeDesc.slice e),some _=>match T e with
     | some _=>K .nils none
     | none=>False
    | _,_=>False
   | _,_,_=>False
  | none=>kx ρ x fun x=>match (T t).map TI.desc,x with
   | some TypeDesc.string,.v (.string s)=>optK ρ lo 0 fun l=>optK ρ hi s.size fun h=>0≤l∧l≤h∧h≤s.size∧K (.v (.string (s.extract l.toNat h.toNat))) none
   | some (TypeDesc.slice e),.nils=>match T e with
    | some _=>optK ρ lo 0 fun l=>optK ρ hi 0 fun h=>0≤l∧l≤h∧h≤0∧K .nils none
    | none=>False
   | some (TypeDesc.slice e),x=>match T e,elemsA ob x,noLive ob x with
    | some ie,some xs,true=>(∀ y,y∈xs→(cellsA y).length=ie.size)∧optK ρ lo 0 fun l=>optK ρ hi xs.length fun h=>0≤l∧l≤h∧h≤xs.length∧CalcL ((xs.take h.toNat).drop l.toNat) fun zs=>K (.sl zs) none
    | _,_,_=>False
   | _,_=>False
 | .call c=>match c.callee with
  | .builtin b=>kl ρ c.args.toList fun args=>pbuiltin T ob n own b c.argTypes.toList args K
  | .value f=>kx ρ f fun f=>kl ρ c.args.toList fun args=>match calleeOf f with
   | some (fid,fs,cs)=>pcall P ob n fid (fs++args++cs) K
   | none=>False
  | _=>False
 | _=>False
end Go.Sk
namespace Go.Sk
open Go.RowKit
section
variable {P:Program} {T:TypeId→Option TI} {o:Oper} {ρ:Operand→Option AV} {ob:Nat→Option AO} {n:Nat}
theorem move_OK {x:Operand} {y:AV} (ho:o.op=.move x∨o.op=.assign x) (hy:ρ x=some y):OKs P o ρ ob n y none:=by
 refine OKs.value fun {N V g A a w} hρ hop hobs=>?_
 obtain ⟨h1,h2⟩:=hop x y (by rcases ho with h | h <;> rw [h] <;> simp [Op.operands]) hy
 exact ⟨a.eval x,by rcases ho with h | h <;> simp [execOp,h],h1,h2⟩
theorem pick_OK {c x y:Operand} {t:Bool} {z:AV} (ho:o.op=.pick c x y) (hc:ρ c=some (.v (.bool t))) (hz:ρ (if t then x else y)=some z):OKs P o ρ ob n z none:=by
 refine OKs.value fun {N V g A a w} hρ hop hobs=>?_
 have hm:∀ u,u=c∨u=x∨u=y→u∈o.op.operands:=by rw [ho];simp [Op.operands]
 obtain ⟨h1,_⟩:=hop c _ (hm c (.inl rfl)) hc
 obtain ⟨h3,h4⟩:=hop (if t then x else y) z (hm _ (by cases t <;> simp)) hz
 refine ⟨a.eval (if t then x else y),?_,h3,h4⟩
 cases h1 with
 | im h =>
  generalize hv:a.eval c=v at h
  cases h with
  | v _ h=>cases t <;> simp [execOp,ho,hv,asBool]
theorem eval_v {N:Nat→Prop} {w:World} {V:VV} {x v:Value} (h:RepT N w V (.v x) v):v=x:=by
 cases h with
 | im h=>cases h;rfl
theorem binOp_OK {op:BinOp} {t t':TypeId} {x y:Operand} {u v r:Value} (ho:o.op=.binOp op t x y t') (hx:ρ x=some (.v u)) (hy:ρ y=some (.v v))
  (h:∀ (x y:Operand) (w:World),(do eqGuard op t x y u v;binOp op t u v:Sem Value).run P w=.ok r w) (hr:r.oneCell'=true):OKs P o ρ ob n (.v r) none:=by
 refine OKs.value fun {N V g A a w} hρ hop hobs=>?_
 have h1:=eval_v (hop x _ (by rw [ho];simp [Op.operands]) hx).1
 have h2:=eval_v (hop y _ (by rw [ho];simp [Op.operands]) hy).1
 refine ⟨r,?_,.im (.v r hr),by simp [bd]⟩
 have:=h x y w
 simp only [execOp,ho,h1,h2]
 rw [Sem.run_bind,this]
 rfl
theorem plain1_OK {x:Operand} {u r:Value} (hm:x∈o.op.operands) (hx:ρ x=some (.v u)) (hr:r.oneCell'=true)
  (h:∀ (e:Operand→Value) (w:World),e x=u→(execOp e o).run P w=.ok (.value r) w):OKs P o ρ ob n (.v r) none:=by
 refine OKs.value fun {N V g A a w} hρ hop hobs=>?_
 have h1:=eval_v (hop x _ hm hx).1
 exact ⟨r,h _ w h1,.im (.v r hr),by simp [bd]⟩
theorem snapAll_get {ob:Nat→Option AO}:∀ {xs ys:List AV},snapAll ob xs=some ys→xs.length=ys.length∧∀ (j:Nat) (h1:j < xs.length) (h2:j < ys.length),snap ob xs[j]=some ys[j]
 | [],ys,h=>by simp [snapAll] at h;subst h;exact ⟨rfl,fun j h1=>by simp at h1⟩
 | x :: r,ys,h=>by
  simp only [snapAll] at h
  split at h
  ·rename_i y s h1 h2
   injection h with h;subst h
   obtain ⟨i1,i2⟩:=snapAll_get h2
   refine ⟨by simp [i1],fun j h3 h4=>?_⟩
   cases j with
   | zero=>exact h1
   | succ j=>simpa using i2 j (by simpa using h3) (by simpa using h4)
  ·cases h
theorem snapC_bd {ob:Nat→Option AO} {A:Nat→Prop} {x y:AV} (h:snapC ob x=some y):bd A y:=by
 unfold snapC at h
 split at h <;> (try split at h) <;> first | (cases h;done) | (cases h;simp [bd])
theorem snap_bd {ob:Nat→Option AO} {A:Nat→Prop} {x y:AV} (h:snap ob x=some y):bd A y:=by
 unfold snap at h
 split at h
 ·rename_i cs
  cases hl:snapL ob cs with
  | none=>simp [hl] at h
  | some ys =>
   simp [hl] at h;subst h
   obtain ⟨i1,i2⟩:=snapL_get hl
   unfold bd
   refine bdL_iff.2 fun z hz=>?_
   obtain ⟨j,hj,rfl⟩:=List.mem_iff_getElem.1 hz
   exact snapC_bd (i2 j (by omega) hj)
 ·injection h with h;subst h
  simp [bd]
 ·exact snapC_bd h
theorem snapAll_bd {ob:Nat→Option AO} {A:Nat→Prop} {xs ys:List AV} (h:∀ (j:Nat) (h1:j < xs.length) (h2:j < ys.length),snap ob xs[j]=some ys[j]) (hl:ys.length=xs.length):bdL A ys:=by
 refine bdL_iff.2 fun z hz=>?_
 obtain ⟨j,hj,rfl⟩:=List.mem_iff_getElem.1 hz
 exact snap_bd (h j (by omega) hj)
theorem scal_rep {N N':Nat→Prop} {w w':World} {V V':VV} {x:AV} {v:Value} (hs:scalA x=true) (h:RepT N w V x v):RepT N' w' V' x v∧∀ A,bd A x:=by
 have one:∀ {x:AV} {v:Value},scal x=true→RepT N w V x v→RepT N' w' V' x v∧∀ A,bd A x:=fun {x v} hs h=>by
  cases x <;> simp [scal] at hs
  cases h with
  | im h=>cases h with
   | v _ h=>exact ⟨.im (.v _ h),fun A=>by simp [bd]⟩
 unfold scalA at hs
 split at hs
 ·rename_i cs
  simp only [List.all_eq_true] at hs
  cases h with
  | im h=>cases h
  | tup _ vs hl hr =>
   refine ⟨.tup cs vs hl fun j h1 h2=>(one (hs _ (List.getElem_mem h1)) (hr j h1 h2)).1,fun A=>?_⟩
   unfold bd
   refine bdL_iff.2 fun x hx=>?_
   obtain ⟨j,h1,h2⟩:=List.mem_iff_getElem.1 hx
   exact h2 ▸ (one (hs _ (List.getElem_mem h1)) (hr j h1 (by omega))).2 A
 ·rename_i cs
  simp only [List.all_eq_true] at hs
  cases h with
  | im h=>cases h
  | ag _ vs hl hr ho =>
   refine ⟨.ag cs vs hl (fun j h1 h2=>(one (hs _ (List.getElem_mem h1)) (hr j h1 h2)).1) ho,fun A=>?_⟩
   unfold bd
   refine bdL_iff.2 fun x hx=>?_
   obtain ⟨j,h1,h2⟩:=List.mem_iff_getElem.1 hx
   exact h2 ▸ (one (hs _ (List.getElem_mem h1)) (hr j h1 (by omega))).2 A
 ·exact one hs h
theorem run_callFunc {f:FuncId} {args:Array Value} {w:World} (h:Enters P f):(callFunc f args).run P w=.ok (.enter f args) w:=by
 obtain ⟨fn,h1,h2,h3⟩:=h
 unfold callFunc
 rw [Sem.run_bind]
 simp only [run_program,Result.andThen_ok,h1,h3,h2,Bool.false_eq_true,if_false,Sem.run_pure]
theorem below_of {w w':World} {V:VV} (h:Frm w.heap.size { w:=w,f:=foot V (obL []) } w'):Blw w.heap.size w w' :=
 ⟨h.os,h.tape,h.output,h.size,fun k hk=>h.block k hk fun ⟨i,⟨o,ho,_⟩,_⟩=>by simp [obL] at ho⟩
theorem own_nil (N:Nat→Prop) (V:VV) (w:World):Own N V (obL []) (ltA 0) w :=
 ⟨fun i o ho=>by simp [obL] at ho,fun i j b ⟨o,ho,_⟩=>by simp [obL] at ho,fun i b ⟨o,ho,_⟩=>by simp [obL] at ho,fun i o ho=>by simp [obL] at ho⟩
theorem pcall_OK {fid:FuncId} {args:List AV} {K:AV→Option AO→Prop} (h:pcall P ob n fid args K)
  (hex:∀ (N:Nat→Prop) (V:VV) (A:Nat→Prop) (a:Act) (w:World),(∀ y z,y∈o.op.operands→ρ y=some z→RepT N w V z (a.eval y)∧bd A z) →
   ∃ vs:Array Value,vs.size=args.length∧(execOp a.eval o).run P w=(callFunc fid vs).run P w∧∀ (j:Nat) (h1:j < args.length) (h2:j < vs.size),RepT N w V args[j] vs[j]) :
  ∃ x no,K x no∧OKs P o ρ ob n x no:=by
 unfold pcall at h
 split at h
 ·exact h.elim
 ·rename_i as has
  obtain ⟨i1,i2⟩:=snapAll_get has
  split at h
  ·rename_i hnl
   obtain ⟨x,no,⟨hen,hp1,hp2⟩,hK⟩:=h
   refine ⟨_,_,hK,?_⟩
   intro N0 base w0 m V g ob' A a w hr hρ hob hn hd next Q hKK
   obtain ⟨vs,h1,h2,h3⟩:=hex (Nf N0 base V ob') V A a w (fun y z hy hz=>by
    rw [← hρ y hy] at hz
    cases y with
    | tmp t=>exact ⟨hr.tm t z hz,hr.bdt t z hz⟩
    | const v=>have:=constA_rep (N:=Nf N0 base V ob') (w:=w) (V:=V) hz;exact ⟨this.1,this.2 A⟩
    | func f=>simp only [evalA,Option.some.injEq] at hz;subst hz;exact ⟨.im (.v _ rfl),by simp [bd]⟩
    | global i=>simp [evalA] at hz)
   unfold Oper.wp
   rw [h2,run_callFunc hen]
   simp only [Oper.upon]
   refine (hp2 (Nf N0 base V ob') w (V.at fun _=>n) vs (by omega) (own_nil _ _ _) (fun j h4 h5=>?_) (snapAll_bd i2 (by omega))).mono ?_
   ·simp only [List.all_eq_true] at hnl
    exact snap_rep (i2 j (by omega) h4) (hnl _ (List.getElem_mem _)) (h3 j (by omega) h5) (fun i u hu=>hr.obs i u (hob i u hu))
   ·rintro e w' ⟨v,rfl,hb,hout⟩
    have hle1:no.toList.length≤1:=by cases no <;> simp
    obtain ⟨V',hV'⟩:=hr.called (f:=fun _=>n) (os:=[]) (dst:=o.dst) (A2:=addN A n (no.map (renO fun _=>n))) hd (fun i hi=>by cases no <;> first | exact hi | exact .inl hi) (by simp) (fun a b ha hb _=>by omega) (fun j o ho=>by simp at ho) (fun j _ hj=>by
     cases no with
     | none=>simp at hj
     | some o1=>exact ⟨.inr rfl,hn⟩) hb hout
    have hob2:addL ob' (prs (fun _=>n) 0 no.toList)=updN ob' n (no.map (renO fun _=>n)):=by
     funext c
     cases no with
     | none=>rfl
     | some o1=>unfold addL;simp only [Option.toList,prs,look,updN,updO,Option.map_some];by_cases hc:n=c <;> simp [hc,eq_comm]
    rw [hob2] at hV'
    exact hKK _ _ _ hV'
  ·obtain ⟨x,⟨hen,hp1,hp2⟩,hsc,hK⟩:=h
   refine ⟨_,_,hK,?_⟩
   intro N0 base w0 m V g ob' A a w hr hρ hob hn hd next Q hKK
   obtain ⟨vs,h1,h2,h3⟩:=hex (Nf N0 base V ob') V A a w (fun y z hy hz=>by
    rw [← hρ y hy] at hz
    cases y with
    | tmp t=>exact ⟨hr.tm t z hz,hr.bdt t z hz⟩
    | const v=>have:=constA_rep (N:=Nf N0 base V ob') (w:=w) (V:=V) hz;exact ⟨this.1,this.2 A⟩
    | func f=>simp only [evalA,Option.some.injEq] at hz;subst hz;exact ⟨.im (.v _ rfl),by simp [bd]⟩
    | global i=>simp [evalA] at hz)
   unfold Oper.wp
   rw [h2,run_callFunc hen]
   simp only [Oper.upon]
   refine (hp2 NT w V0 vs (by omega) (own_nil _ _ _) (fun j h4 h5=>?_) (snapAll_bd i2 (by omega))).mono ?_
   ·exact snap_repT (i2 j (by omega) h4) (h3 j (by omega) h5) (fun i u hu=>hr.obs i u (hob i u hu))
   ·rintro e w' ⟨v,rfl,hfr,Vc,_,hout,_⟩
    have hb:=below_of hfr
    obtain ⟨q1,q2⟩:=scal_rep (N':=Nf N0 base V ob') (w':=w') (V':=V) hsc hout
    exact hKK _ _ _ ((hr.grow hb).put hd q1 (q2 A))
end
end Go.Sk
namespace Go.Sk
open Go.RowKit
section
variable {P:Program} {T:TypeId→Option TI} {o:Oper} {ρ:Operand→Option AV} {ob:Nat→Option AO} {n:Nat}
theorem addr_OK {x:Operand} {y p:AV} (hm:x∈o.op.operands) (hx:ρ x=some y)
  (h:∀ {N:Nat→Prop} {V:VV} {A:Nat→Prop} {e:Operand→Value} {w:World} ,RepT N w V y (e x)→bd A y→(∀ i u,ob i=some u→RepO N w V i u∧A i∧bdO A u) →
   ∃ u,(execOp e o).run P w=.ok (.value u) w∧RepT N w V p u∧bd A p):OKs P o ρ ob n p none:=by
 refine OKs.value fun {N V g A a w} hρ hop hobs=>?_
 obtain ⟨h1,h2⟩:=hop x _ hm hx
 exact h h1 h2 hobs
theorem minL_run {k:IntKind} {w:World} {N:Nat→Prop} {V:VV}:∀ {r:List AV} {vs:List Value} {x y:Int},minL k x r=some y→vs.length=r.length→(∀ (j:Nat) (h1:j < r.length) (h2:j < vs.length),RepT N w V r[j] vs[j]) →
  (vs.foldlM Builtin.min2 (.int k x)).run P w=.ok (.int k y) w
 | [],vs,x,y,h,hl,_=>by
  have:vs=[]:=List.eq_nil_of_length_eq_zero hl
  subst this
  simp [minL] at h;subst h
  rfl
 | z :: r,vs,x,y,h,hl,hr=>by
  cases vs with
  | nil=>simp at hl
  | cons v vs =>
   unfold minL at h
   split at h
   ·cases ‹_ :: _=[]›
   ·rename_i heq
    injection heq with e1 e2
    subst e1;subst e2
    split at h
    ·rename_i hk
     subst hk
     have hv:=eval_v (hr 0 (by simp) (by simp))
     simp only [List.getElem_cons_zero] at hv
     subst hv
     simp only [List.foldlM_cons,Builtin.min2,pure_bind]
     exact minL_run h (by simpa using hl) fun j h1 h2=>hr (j+1) (Nat.succ_lt_succ h1) (Nat.succ_lt_succ h2)
    ·cases h
   ·cases h
theorem maxL_run {k:IntKind} {w:World} {N:Nat→Prop} {V:VV}:∀ {r:List AV} {vs:List Value} {x y:Int},maxL k x r=some y→vs.length=r.length→(∀ (j:Nat) (h1:j < r.length) (h2:j < vs.length),RepT N w V r[j] vs[j]) →
  (vs.foldlM Builtin.max2 (.int k x)).run P w=.ok (.int k y) w
 | [],vs,x,y,h,hl,_=>by
  have:vs=[]:=List.eq_nil_of_length_eq_zero hl
  subst this
  simp [maxL] at h;subst h
  rfl
 | z :: r,vs,x,y,h,hl,hr=>by
  cases vs with
  | nil=>simp at hl
  | cons v vs =>
   unfold maxL at h
   split at h
   ·cases ‹_ :: _=[]›
   ·rename_i heq
    injection heq with e1 e2
    subst e1;subst e2
    split at h
    ·rename_i hk
     subst hk
     have hv:=eval_v (hr 0 (by simp) (by simp))
     simp only [List.getElem_cons_zero] at hv
     subst hv
     simp only [List.foldlM_cons,Builtin.max2,pure_bind]
     exact maxL_run h (by simpa using hl) fun j h1 h2=>hr (j+1) (Nat.succ_lt_succ h1) (Nat.succ_lt_succ h2)
    ·cases h
   ·cases h
theorem immAll_get {k:Nat}:∀ {xs ys:List AV},immAll ob k xs=some ys→xs.length=ys.length∧∀ (j:Nat) (h1:j < xs.length) (h2:j < ys.length),immA ob xs[j]=some ys[j]∧(cellsA ys[j]).length=k
 | [],ys,h=>by simp [immAll] at h;subst h;exact ⟨rfl,fun j h1=>by simp at h1⟩
 | x :: r,ys,h=>by
  simp only [immAll] at h
  split at h
  ·rename_i y s h1 h2
   split at h
   ·rename_i hk
    injection h with h;subst h
    obtain ⟨i1,i2⟩:=immAll_get h2
    refine ⟨by simp [i1],fun j h3 h4=>?_⟩
    cases j with
    | zero=>exact ⟨h1,hk⟩
    | succ j=>simpa using i2 j (by simpa using h3) (by simpa using h4)
   ·cases h
  ·cases h
theorem idxs_get:∀ {l:List (Nat × Operand)} {k:Nat},idxs k l=true→∀ (j:Nat) (h:j < l.length),l[j].1=k+j
 | [],k,_,j,h=>by simp at h
 | (i,x) :: r,k,hi,j,h=>by
  simp only [idxs,Bool.and_eq_true,beq_iff_eq] at hi
  cases j with
  | zero=>simpa using hi.1
  | succ j =>
   have:=idxs_get hi.2 j (by simpa using h)
   simp only [List.getElem_cons_succ,this]
   omega
theorem buildSlice_run {w:World} {N:Nat→Prop} {V:VV} (hT:TOK P T) {t e:TypeId} {ie:TI} (hu:P.underlying t=some (.slice e)) (he:T e=some ie) {len:Nat} {parts:Array (Nat × Operand)} {ev:Operand→Value} {ys es:List AV}
  (hi:idxs 0 parts.toList=true) (hl:parts.size=len) (hsz:len * ie.size≤16777216)
  (hys:ys.length=parts.size) (hr:∀ (j:Nat) (h1:j < parts.size) (h2:j < ys.length),RepT N w V ys[j] (ev parts[j].2)) (himm:immAll ob ie.size ys=some es)
  (hobs:∀ i u,ob i=some u→RepO N w V i u) :
  ∃ cells,(Instr.buildSlice t len (parts.map fun (i,x)=>(i,ev x))).run P w=.ok (.slice (some ⟨w.heap.size,0,none⟩) len len) (w.alloc (.cells cells e))∧cells.size=len * ie.size∧Laid N w ie.size es 0 cells∧es.length=len:=by
 obtain ⟨i1,i2⟩:=immAll_get himm
 let zs:Array Value:=if len * ie.size=0 then #[] else ie.zero.cells
 have hfill:=fill_laid (N:=N) (w:=w) ie.size (parts.map fun (i,x)=>(i,ev x)).toList 0 ((Array.range (len * ie.size)).map (zs[· % zs.size]!)) es (by simp;omega)
  (fun j h1 h2=>by
   have h3:j < parts.size:=by simpa using h1
   obtain ⟨q1,q2⟩:=i2 j (by omega) h2
   obtain ⟨r1,r2,r3,_⟩:=immA_rep q1 (hr j h3 (by omega)) hobs
   refine ⟨?_,?_,q2,?_⟩
   ·simp only [Array.getElem_toList,Array.getElem_map]
    have:=idxs_get hi j (by simpa using h3)
    simpa using this
   ·simp only [Array.getElem_toList,Array.getElem_map]
    rw [r2,q2]
   ·simp only [Array.getElem_toList,Array.getElem_map]
    exact r3) (by simp [hl])
 obtain ⟨cs',g1,g2,_,g4⟩:=hfill
 refine ⟨cs',?_,by rw [g2];simp,⟨fun x hx=>?_,fun i x j c h1 h2=>?_⟩,by omega⟩
 ·simp only [Instr.buildSlice,Sem.run_bind,run_underlying hu,Result.andThen_ok,run_sizeOf hT he]
  rw [if_neg (by omega)]
  by_cases h0:len * ie.size=0
  ·simp only [zs,if_pos h0] at g1
   rw [if_pos h0]
   simp only [pure_bind]
   rw [g1]
   simp [newRow]
  ·simp only [zs,if_neg h0] at g1
   rw [if_neg h0,Sem.run_bind,run_zeroValue hT he]
   simp only [Result.andThen_ok,pure_bind]
   rw [g1]
   simp [newRow]
 ·obtain ⟨j,h1,h2⟩:=List.mem_iff_getElem.1 hx
  exact h2 ▸ (i2 j (by omega) h1).2
 ·obtain ⟨u,hu',hr'⟩:=g4 i x j c h1 h2
  exact ⟨u,by simpa using hu',hr'⟩
end
end Go.Sk
