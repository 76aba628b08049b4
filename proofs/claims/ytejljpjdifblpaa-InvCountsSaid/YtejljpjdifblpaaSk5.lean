/- A checker of Go functions by conditions over small pure states: part 6. -/
import Derived.Test.YtejljpjdifblpaaSk4
set_option linter.unusedVariables false
set_option linter.unusedSimpArgs false
namespace Go.Sk
open Go.RowKit
theorem splice_get {α:Type} {l vs:List α} {off:Nat} (h:off+vs.length≤l.length) (j:Nat) :
  (l.take off++vs++l.drop (off+vs.length))[j]?=if off≤j∧j < off+vs.length then vs[j - off]? else l[j]?:=by
 rw [List.getElem?_append,List.getElem?_append]
 simp only [List.length_append,List.length_take,List.getElem?_take,List.getElem?_drop]
 have hm:min off l.length=off:=by omega
 rw [hm]
 by_cases h1:j < off
 ·rw [if_pos (by omega),if_pos h1,if_pos h1,if_neg (by omega)]
 ·by_cases h2:j < off+vs.length
  ·rw [if_pos h2,if_neg h1,if_pos ⟨by omega,h2⟩]
  ·rw [if_neg h2,if_neg (by omega),show off+vs.length+(j - (off+vs.length))=j by omega]
section
variable {P:Program} {T:TypeId→Option TI} {N0:Nat→Prop} {base:Nat} {w0:W0} {σ:St} {a:Act} {w:World}
theorem run_storeAt (hT:TOK P T) {t:TypeId} {i:TI} (hi:T t=some i) {g o:Nat} {v:Value} {cur:Array Value} {Ty:TypeId} (hg:w.heap[g]?=some (.cells cur Ty (0,0))) (hs:v.cells.size=i.size) (hfit:o+i.size≤cur.size)
  (h1:∀ u,u∈v.cells.toList→u.oneCell'=true) :
  (Instr.storeAt t (.pointer (some ⟨g,o,none⟩)) v).run P w=.ok () (w.setRow g (cur.toList.take o++v.cells.toList++cur.toList.drop (o+v.cells.toList.length)).toArray):=by
 have hst:=run_storeCells_at P g o Ty v.cells.toList 0 cur w hg (by simp;omega) h1
 simp only [Nat.add_zero] at hst
 simp only [Instr.storeAt,Instr.sureAddr,Sem.run_bind,Sem.run_pure,Result.andThen_ok,storeVar,run_sizeOf hT hi,hs,ne_eq,not_true,if_false,hst]
def newElem (e:AV) (j:Nat) (ds:List AV) (y:AV):AV :=
 match e with
 | .ag cs=>.ag (setC cs j ds)
 | _=>y
def sstore (T:TypeId→Option TI) (σ:St) (t:TypeId) (p x:AV) (K:St→Prop):Prop :=
 match T t with
 | none=>False
 | some ti=>match p with
  | .ptr id j=>match σ.obj id with
   | some (.box cs)=>if okA x=true∧(cellsA x).length=ti.size∧j+ti.size≤cs.length then litL (setC cs j (cellsA x)) fun zs=>K (σ.setObj id (.box zs)) else False
   | _=>False
  | .pea id k i j=>match σ.obj id,immA σ.obj x with
   | some (.arr k' xs),some y=>if k'=k∧0 < ti.size∧(cellsA y).length=ti.size∧j+ti.size≤k then ∃ e,xs[i]?=some e∧CalcL (xs.set i (newElem e j (cellsA y) y)) fun zs=>K (σ.setObj id (.arr k zs)) else False
   | _,_=>False
  | _=>False
theorem cells_oneCell {N:Nat→Prop} {V:VV} {x:AV} {v:Value} (hok:okA x=true) (hr:RepT N w V x v):∀ u,u∈v.cells.toList→u.oneCell'=true:=fun u hu=>by
 obtain ⟨h1,h2⟩:=cells_rep hok hr
 obtain ⟨j,q1,q2⟩:=List.mem_iff_getElem.1 hu
 obtain ⟨u',q3,_,q4⟩:=h2 j _ (List.getElem?_eq_getElem (by rw [← h1];simpa using q1))
 rw [Array.getElem_toList] at q2
 rw [Array.getElem?_eq_getElem (by simpa using q1),q2] at q3
 injection q3 with q3
 exact q3 ▸ q4
theorem imm_ok {ob:Nat→Option AO} {x y:AV} (h:immA ob x=some y):okA x=true:=by
 cases x <;> simp_all [immA,immC,okA]
theorem eval_rep {V:VV} {g:Nat→Option AV} {ob:Nat→Option AO} {A:Nat→Prop} {m:Nat} (hr:Rel N0 base w0 m V g ob A a w) {x:Operand} {y:AV} (h:evalA g x=some y):RepT (Nf N0 base V ob) w V y (a.eval x)∧bd A y:=by
 cases x with
 | tmp t=>exact ⟨hr.tm t y h,hr.bdt t y h⟩
 | const v=>have:=constA_rep (N:=Nf N0 base V ob) (w:=w) (V:=V) h;exact ⟨this.1,this.2 A⟩
 | func f=>simp only [evalA,Option.some.injEq] at h;subst h;exact ⟨.im (.v _ rfl),by simp [bd]⟩
 | global i=>simp [evalA] at h
theorem setRow_size (w:World) (g:Nat) (cs:Array Value):(w.setRow g cs).heap.size=w.heap.size:=size_setRow w g cs
theorem store_step (hT:TOK P T) {o:Oper} {t:TypeId} {p x:Operand} {pv xv:AV} {K:St→Prop} (ho:o.op=.store t p x) (hdst:o.dst=none) (hp:σ.eval p=some pv) (hx:σ.eval x=some xv) (h:sstore T σ t pv xv K) (hr:RS N0 base w0 σ a w)
  {next:Act→World→Prop} {Q:Exit→Act→World→Prop} (hK:∀ σ' a' w',K σ'→RS N0 base w0 σ' a' w'→next a' w'):o.wp P a w next Q:=by
 obtain ⟨hpar,V,hV⟩:=hr
 obtain ⟨hrp,hbp⟩:=eval_rep hV hp
 obtain ⟨hrx,hbx⟩:=eval_rep hV hx
 unfold sstore at h
 split at h
 ·exact h.elim
 ·rename_i ti hti
  have fin:∀ {w':World} {σ':St},(Instr.storeAt t (a.eval p) (a.eval x)).run P w=.ok () w'→K σ'→RS N0 base w0 σ' a w'→o.wp P a w next Q:=fun {w' σ'} h1 h2 h3=>by
   unfold Oper.wp
   simp only [execOp,ho,Sem.run_bind,h1,Result.andThen_ok,Sem.run_pure,Oper.upon,hdst,Act.put]
   exact hK _ _ _ h2 h3
  split at h
  ·rename_i id j
   split at h
   ·rename_i cs hob
    by_cases hc:okA xv=true∧(cellsA xv).length=ti.size∧j+ti.size≤cs.length
    ·rw [if_pos hc,litL_eq] at h
     obtain ⟨hok,hl,hfit⟩:=hc
     obtain ⟨h0,b,arr,Ty,h1,h2,h3,h4⟩:=hV.obs id _ hob
     generalize hv:a.eval p=pvv at hrp
     cases hrp with
     | im h=>cases h
     | ptr _ _ b' o' h' =>
      rw [h1] at h'
      simp only [Value.pointer.injEq,Option.some.injEq,Addr.mk.injEq] at h'
      obtain ⟨rfl,rfl,_⟩:=h'
      rw [Nat.zero_add] at hv
      obtain ⟨c1,c2⟩:=cells_rep hok hrx
      refine fin (by rw [hv];exact run_storeAt hT hti h2 (by rw [c1,hl]) (by omega) (cells_oneCell hok hrx)) h ⟨hpar,V,?_⟩
      rw [St.obj_setObj]
      have hlive:live σ.obj id:=⟨_,hob,rfl⟩
      have hsubl:∀ i,live (updO σ.obj id (.box (setC cs j (cellsA xv)))) i→live σ.obj i:=fun i hl=>by
       rcases live_updO hl with ⟨rfl,_⟩ | ⟨_,hl⟩
       ·exact hlive
       ·exact hl
      have hNf:∀ b',Nf N0 base V σ.obj b'→b' < w.heap.size→Nf N0 base V (updO σ.obj id (.box (setC cs j (cellsA xv)))) b' ∧
        (w.setRow b (arr.toList.take j++(a.eval x).cells.toList++arr.toList.drop (j+(a.eval x).cells.toList.length)).toArray).heap[b']?=w.heap[b']?:=fun b' hN _ =>
       ⟨⟨hN.1,fun i hl=>hN.2 i (hsubl i hl)⟩,setRow_other w b b' _ (fun e=>hN.2 id hlive ((h0 _).2 (by rw [h1,e];rfl)))⟩
      refine hV.turn (o':=.box (setC cs j (cellsA xv))) hob rfl (by rw [setRow_size];exact Nat.le_refl _) (fun b' _ hne=>setRow_other w b b' _ (fun e=>hne ((h0 _).2 (by rw [h1,e];rfl)))) rfl rfl (.same rfl rfl) ?_ ?_
      ·have hcl:(a.eval x).cells.toList.length=(cellsA xv).length:=by simp [c1]
       have hfit':j+(cellsA xv).length≤cs.length:=by omega
       refine ⟨h0,b,_,Ty,h1,setRow_heap w b arr _ Ty _ h2,?_,fun q c hq=>?_⟩
       ·rw [setC_len hfit'];simp;omega
       ·rw [setC_get hfit'] at hq
        simp only [List.getElem?_toArray]
        rw [splice_get (by rw [hcl];simp;omega)]
        split at hq
        ·rename_i hh
         rw [if_pos (by omega)]
         obtain ⟨u,q1,q2,q3⟩:=c2 _ _ hq
         exact ⟨u,by simpa using q1,q2.mono (A:=fun i=>i < σ.next) hNf (fun _ _=>rfl) (bdL_get (bd_cells hbx) hq),q3⟩
        ·rename_i hh
         rw [if_neg (by omega)]
         obtain ⟨u,q1,q2,q3⟩:=h4 _ _ hq
         exact ⟨u,by simpa using q1,q2.mono (A:=fun i=>i < σ.next) hNf (fun _ _=>rfl) (bdL_get (hV.bdo id _ hob).2 hq),q3⟩
      ·refine bdL_iff.2 fun c hc=>?_
       unfold setC at hc
       rcases List.mem_append.1 hc with hc | hc
       ·rcases List.mem_append.1 hc with hc | hc
        ·exact bdL_iff.1 (hV.bdo id _ hob).2 c (List.mem_of_mem_take hc)
        ·exact bdL_iff.1 (bd_cells hbx) c hc
       ·exact bdL_iff.1 (hV.bdo id _ hob).2 c (List.mem_of_mem_drop hc)
    ·rw [if_neg hc] at h;exact h.elim
   ·exact h.elim
  ·rename_i id k i j
   split at h
   ·rename_i k' xs y hob himm
    by_cases hc:k'=k∧0 < ti.size∧(cellsA y).length=ti.size∧j+ti.size≤k
    ·rw [if_pos hc] at h
     obtain ⟨rfl,hpos,hl,hfit⟩:=hc
     obtain ⟨e,he,hKe⟩:=h
     replace hKe:=hKe.elim
     obtain ⟨r1,r2,r3,_⟩:=immA_rep himm hrx (fun i u hu=>hV.obs i u hu)
     have hok:=imm_ok himm
     obtain ⟨h0,h00⟩:=hV.obs id _ hob
     rcases h00 with ⟨a',_,h2⟩ | ⟨b,o',cap,arr,Ty,h1,h2,h3,h4,h5,h6,h7⟩
     ·subst h2;simp at he
     ·generalize hv:a.eval p=pvv at hrp
      cases hrp with
      | im h=>cases h
      | pea _ _ _ _ b' o'' n c h' =>
       rw [h1] at h'
       simp only [Value.slice.injEq,Option.some.injEq,Addr.mk.injEq] at h'
       obtain ⟨⟨rfl,rfl,_⟩,_,_⟩:=h'
       have hilt:i < xs.length:=(List.getElem?_eq_some_iff.1 he).1
       have hbnd:(i+1) * k'≤cap * k':=Nat.mul_le_mul_right _ (by omega)
       rw [Nat.add_mul,Nat.one_mul] at hbnd
       have hcl:(a.eval x).cells.toList.length=(cellsA y).length:=by simp [r2]
       refine fin (by rw [hv];exact run_storeAt hT hti h2 (by rw [r2,hl]) (by omega) (cells_oneCell hok hrx)) hKe ⟨hpar,V,?_⟩
       rw [St.obj_setObj]
       have hlive:live σ.obj id:=⟨_,hob,rfl⟩
       have hbk:V.f id b:=(h0 b).2 (by rw [h1];simp [bl,blk];omega)
       generalize hxs':xs.set i (newElem e j (cellsA y) y)=xs'
       have hNf:∀ b',Nf N0 base V σ.obj b'→b' < w.heap.size→Nf N0 base V (updO σ.obj id (.arr k' xs')) b' ∧
         (w.setRow b (arr.toList.take (o'+(i * k'+j))++(a.eval x).cells.toList++arr.toList.drop (o'+(i * k'+j)+(a.eval x).cells.toList.length)).toArray).heap[b']?=w.heap[b']?:=fun b' hN _ =>
        ⟨⟨hN.1,fun i' hl=>by
         rcases live_updO hl with ⟨rfl,_⟩ | ⟨_,hl⟩
         ·exact hN.2 _ hlive
         ·exact hN.2 i' hl⟩,setRow_other w b b' _ (fun e=>hN.2 id hlive (e ▸ hbk))⟩
       refine hV.turn (o':=.arr k' xs') hob rfl (by rw [setRow_size];exact Nat.le_refl _) (fun b' _ hne=>setRow_other w b b' _ (fun e=>hne (e ▸ hbk))) rfl rfl (.same rfl rfl) ?_ trivial
       have hek:(cellsA e).length=k':=h6 e (List.mem_of_getElem? he)
       have hnk:(cellsA (newElem e j (cellsA y) y)).length=k':=by
        unfold newElem
        split
        ·rename_i cs
         have hek':cs.length=k':=hek
         show (setC cs j (cellsA y)).length=k'
         rw [setC_len (by omega)];exact hek'
        ·rename_i hne
         have h1e:(cellsA e).length=1:=by
          cases e <;> first | rfl | exact absurd rfl (hne _)
         omega
       have hlenx:xs'.length=xs.length:=by rw [← hxs'];simp
       refine ⟨h0,.inr ⟨b,o',cap,_,Ty,by rw [hlenx];exact h1,setRow_heap w b arr _ Ty _ h2,h3,by rw [hlenx];exact h4,by simp;omega,fun z hz=>?_,fun i' z q c hz hq=>?_⟩⟩
       ·rw [← hxs'] at hz
        rcases List.mem_or_eq_of_mem_set hz with hz | rfl
        ·exact h6 z hz
        ·exact hnk
       ·simp only [List.getElem?_toArray]
        rw [splice_get (by rw [hcl];simp;omega)]
        have hql:q < k':=by
         rw [← hxs'] at hz
         rcases List.mem_or_eq_of_mem_set (List.mem_of_getElem? hz) with hm | rfl
         ·rw [← h6 z hm];exact (List.getElem?_eq_some_iff.1 hq).1
         ·rw [← hnk];exact (List.getElem?_eq_some_iff.1 hq).1
        by_cases hii:i'=i
        ·subst hii
         have hze:z=newElem e j (cellsA y) y:=by
          rw [← hxs',List.getElem?_set_self hilt] at hz
          injection hz with hz;exact hz.symm
         subst hze
         by_cases hin:j≤q∧q < j+(cellsA y).length
         ·rw [if_pos ⟨by omega,by omega⟩,show o'+(i' * k'+q) - (o'+(i' * k'+j))=q - j by omega]
          have hcy:(cellsA y)[q - j]?=some c:=by
           unfold newElem at hq
           split at hq
           ·rename_i cs
            have hek':cs.length=k':=hek
            have hq':(setC cs j (cellsA y))[q]?=some c:=hq
            rw [setC_get (by omega),if_pos hin] at hq'
            exact hq'
           ·rename_i hne
            have h1e:(cellsA e).length=1:=by
             cases e <;> first | rfl | exact absurd rfl (hne _)
            have:j=0:=by omega
            subst this
            exact hq
          obtain ⟨u,q1,q2⟩:=r3 _ _ hcy
          exact ⟨u,by simpa using q1,q2.mono hNf⟩
         ·rw [if_neg (by omega)]
          have hce:(cellsA e)[q]?=some c:=by
           unfold newElem at hq
           split at hq
           ·rename_i cs
            have hek':cs.length=k':=hek
            have hq':(setC cs j (cellsA y))[q]?=some c:=hq
            rw [setC_get (by omega),if_neg hin] at hq'
            exact hq'
           ·rename_i hne
            have h1e:(cellsA e).length=1:=by
             cases e <;> first | rfl | exact absurd rfl (hne _)
            omega
          obtain ⟨u,q1,q2⟩:=h7 _ _ _ _ he hce
          exact ⟨u,by simpa using q1,q2.mono hNf⟩
        ·have hz':xs[i']?=some z:=by rw [← hxs',List.getElem?_set_ne (Ne.symm hii)] at hz;exact hz
         have hoff:¬ (o'+(i * k'+j)≤o'+(i' * k'+q)∧o'+(i' * k'+q) < o'+(i * k'+j)+(cellsA y).length):=by
          intro hh
          rcases Nat.lt_or_gt_of_ne hii with hlt | hgt
          ·have:=Nat.mul_le_mul_right k' (show i'+1≤i by omega)
           rw [Nat.add_mul,Nat.one_mul] at this
           omega
          ·have:=Nat.mul_le_mul_right k' (show i+1≤i' by omega)
           rw [Nat.add_mul,Nat.one_mul] at this
           omega
         rw [if_neg (by rw [hcl];exact hoff)]
         obtain ⟨u,q1,q2⟩:=h7 _ _ _ _ hz' hq
         exact ⟨u,by simpa using q1,q2.mono hNf⟩
    ·rw [if_neg hc] at h;exact h.elim
   ·exact h.elim
  ·exact h.elim
end
end Go.Sk
namespace Go.Sk
open Go.RowKit
section
variable {P:Program} {T:TypeId→Option TI} {N0:Nat→Prop} {base:Nat} {w0:W0} {σ:St} {a:Act} {w:World}
theorem St.obj_dead (σ:St) (id:Nat) (dst:Option Nat) (x:AV) (o:AO):((σ.setObj id .dead).after dst x (some o)).obj=updP σ.obj id .dead σ.next o:=by
 rw [St.obj_after,St.obj_setObj];rfl
theorem St.get_dead (σ:St) (id:Nat) (dst:Option Nat) (x:AV) (o:AO):((σ.setObj id .dead).after dst x (some o)).get=upd σ.get dst x:=by
 rw [St.get_after];rfl
theorem St.next_dead (σ:St) (id:Nat) (dst:Option Nat) (x:AV) (o:AO):(fun i=>i < ((σ.setObj id .dead).after dst x (some o)).next)=addA (fun i=>i < σ.next) σ.next:=by
 rw [St.next_after];rfl
theorem take_step {o:Oper} {id k k':Nat} {xs xs':List AV} {K:St→Prop} (hob:σ.obj id=some (.arr k xs)) (hd:dstOk σ o=true) (hKσ:K ((σ.setObj id .dead).after o.dst (.ref σ.next) (some (.arr k' xs'))))
  (hr:RS N0 base w0 σ a w) {next:Act→World→Prop} {Q:Exit→Act→World→Prop} (hK:∀ σ' a' w',K σ'→RS N0 base w0 σ' a' w'→next a' w')
  (h:∀ V,Rel N0 base w0 σ.size V σ.get σ.obj (fun i=>i < σ.next) a w→∃ v w',(execOp a.eval o).run P w=.ok (.value v) w'∧v.oneCell'=true∧w.heap.size≤w'.heap.size ∧
   (∀ b,b < w.heap.size→¬ V.f id b→w'.heap[b]?=w.heap[b]?)∧w'.os=w.os∧w'.tape=w.tape∧Outp w w'∧(∀ b,blk v=some b→V.f id b∨(w.heap.size≤b∧b < w'.heap.size)) ∧
   ((∀ b,Nf N0 base V σ.obj b→b < w.heap.size→Nf N0 base (updV V σ.next v) (updP σ.obj id .dead σ.next (.arr k' xs')) b∧w'.heap[b]?=w.heap[b]?) →
    RepO (Nf N0 base (updV V σ.next v) (updP σ.obj id .dead σ.next (.arr k' xs'))) w' (updV V σ.next v) σ.next (.arr k' xs'))):o.wp P a w next Q:=by
 obtain ⟨hp,V,hV⟩:=hr
 obtain ⟨v,w',h1,h2,h3,h4,h5,h6,h7,h8,h9⟩:=h V hV
 unfold Oper.wp
 rw [h1]
 refine hK _ _ _ hKσ ⟨hp,updV V σ.next v,?_⟩
 rw [St.obj_dead,St.get_dead,St.next_dead]
 have:=hV.replace (n:=σ.next) (o':=.arr k' xs') hob rfl (by simp) h3 h4 h5 h6 h7 h8 h9 trivial
 refine this.put (dstOk_spec hd) ?_ (by unfold bd;exact .inr rfl)
 have hrf:=RepT.ref (N:=Nf N0 base (updV V σ.next v) (updP σ.obj id .dead σ.next (.arr k' xs'))) (w:=w') (V:=updV V σ.next v) σ.next (by rw [updV_same];exact h2)
 rwa [updV_same] at hrf
theorem append_step (hT:TOK P T) {o:Oper} {t e:TypeId} {ie:TI} {x y:Operand} {id:Nat} {xs ys:List AV} {yv:AV} {K:St→Prop} (ho:o.op=.call { callee:=.builtin .append,args:=#[x,y],argTypes:=#[t,t] })
  (hu:P.underlying t=some (.slice e)) (he:T e=some ie) (hk:0 < ie.size) (hd:dstOk σ o=true) (hx:σ.eval x=some (.ref id)) (hy:σ.eval y=some yv) (hob:σ.obj id=some (.arr ie.size xs)) (hys:elemsA σ.obj yv=some ys) (hks:∀ e,e∈ys→(cellsA e).length=ie.size)
  (hbytes:(xs.length+ys.length) * ie.bytes≤140737488355328) (h62:xs.length+ys.length≤4611686018427387904) (hKσ:K ((σ.setObj id .dead).after o.dst (.ref σ.next) (some (.arr ie.size (xs++ys)))))
  (hr:RS N0 base w0 σ a w) {next:Act→World→Prop} {Q:Exit→Act→World→Prop} (hK:∀ σ' a' w',K σ'→RS N0 base w0 σ' a' w'→next a' w'):o.wp P a w next Q:=by
 refine take_step hob hd hKσ hr hK fun V hV=>?_
 obtain ⟨hrx,_⟩:=eval_rep hV hx
 obtain ⟨hry,_⟩:=eval_rep hV hy
 have hzs:ie.zero.cells.size=ie.size:=by
  obtain ⟨info,_,_,_,_,_,h⟩:=hT e ie he
  exact h
 obtain ⟨hxv,hxo⟩:a.eval x=V id∧(V id).oneCell'=true:=by
  generalize a.eval x=v at hrx
  cases hrx with
  | im h=>cases h
  | ref _ h=>exact ⟨rfl,h⟩
 obtain ⟨a2,c2,e2,hsrc⟩:=src_values hys hry (fun i u hu=>hV.obs i u hu) hk hks
 have hex:∀ {b:Option Addr} {n c:Nat},V id=.slice b n c→(execOp a.eval o).run P w=((Builtin.append_ #[t,t] o.type #[.slice b n c,.slice a2 ys.length c2]).run P w).andThen fun v w=>.ok (.value v) w:=fun hv=>by
  simp [execOp,ho,resolve,invoke,builtin,hxv,hv,e2]
 by_cases hne:ys=[]
 ·subst hne
  obtain ⟨b,n,c,hv,hnc⟩:∃ b n c,V id=.slice b n c∧n≤c:=by
   rcases (hV.obs id _ hob).2 with ⟨a',h1,_⟩ | ⟨b,o',cap,arr,Ty,h1,_,_,h4,_⟩
   ·exact ⟨a',0,0,h1,Nat.le_refl _⟩
   ·exact ⟨_,_,_,h1,h4⟩
  refine ⟨V id,w,by rw [hex hv,hv];simp only [List.length_nil];rw [append_none hT hu he hnc];rfl,hxo,Nat.le_refl _,fun _ _ _=>rfl,rfl,rfl,.refl _,fun b hb=>.inl (((hV.obs id _ hob).1 b).2 hb),fun hN=>⟨fun b=>by rw [updV_same,updV_f],?_⟩⟩
  rw [List.append_nil] at hN ⊢
  rcases (hV.obs id _ hob).2 with ⟨a',h1,h2⟩ | ⟨b,o',cap,arr,Ty,h1,h2,h3,h4,h5,h6,h7⟩
  ·exact .inl ⟨a',by rw [updV_same];exact h1,h2⟩
  ·exact .inr ⟨b,o',cap,arr,Ty,by rw [updV_same];exact h1,h2,h3,h4,h5,h6,fun i e j c h8 h9=>let ⟨u,hu,hr⟩:=h7 i e j c h8 h9;⟨u,hu,hr.mono hN⟩⟩
 ·have hpos:0 < ys.length:=by cases ys with | nil=>exact absurd rfl hne | cons _ _=>simp
  rcases hsrc with h | ⟨a3,news,rfl,q1,q2,q3,q4⟩
  ·exact absurd h hne
  ·rcases (hV.obs id _ hob).2 with ⟨a',h1,h2⟩ | ⟨b,o',cap,arr,Ty,h1,h2,h3,h4,h5,h6,h7⟩
   ·subst h2
    obtain ⟨cap,z,r1,r2,r3⟩:=append_grows (w:=w) (ty:=o.type) hT hu he (base:=a') (sLen:=0) (sCap:=0) (xc:=c2) (xa:=a3) (olds:=[]) (news:=news) (by simp) q1 (fun _ _ j v hj=>by simp at hj) (fun _=>⟨rfl,rfl⟩) q2 (Nat.le_refl 0) (by omega) (by simpa using hbytes) (by simpa using h62)
    refine ⟨.slice (some ⟨w.heap.size,0,none⟩) ys.length cap,w.drew.alloc (.cells (news.toArray++z) e),by rw [hex h1,r1];simp,rfl,by simp,fun b hb _=>heap_alloc_old w.drew _ b hb,rfl,rfl,⟨rfl,Nat.le_succ _⟩,fun b hb=>.inr (blk_new (by simp) b hb),fun hN=>⟨fun b=>by rw [updV_same,updV_f],?_⟩⟩
    refine .inr ⟨w.heap.size,0,cap,news.toArray++z,e,by rw [updV_same];simp,heap_new w.drew _,by omega,by simp;omega,?_,by simpa using hks,fun i e' j c h8 h9=>?_⟩
    ·simp only [Array.size_append,List.size_toArray,q1,r3,hzs,Nat.zero_add]
     rw [← Nat.add_mul]
     exact Nat.mul_le_mul_right _ (by omega)
    ·obtain ⟨u,hu',hr⟩:=q4 i e' j c (by simpa using h8) h9
     refine ⟨u,?_,hr.mono hN⟩
     have hlt:=(List.getElem?_eq_some_iff.1 hu').1
     rw [Nat.zero_add,Array.getElem?_append_left (by simpa using hlt)]
     simpa using hu'
   ·have hL:Laid (Nf N0 base V σ.obj) w ie.size xs o' arr:=⟨h6,h7⟩
    have hbk:V.f id b:=((hV.obs id _ hob).1 b).2 (by rw [h1];simp [bl,blk];omega)
    by_cases hroom:xs.length+ys.length≤cap
    ·have r1:=append_room (w:=w) (ty:=o.type) (P:=P) hT hu he (g:=b) (o:=o') (sLen:=xs.length) (sCap:=cap) (xc:=c2) (n:=ys.length) (xa:=a3) (news:=news) (cur:=arr) (Ty:=Ty) q1 q2 q3 h2 hroom h5
     have hfit:xs.length * ie.size+ys.length * ie.size≤cap * ie.size:=by rw [← Nat.add_mul];exact Nat.mul_le_mul_right _ hroom
     refine ⟨.slice (some ⟨b,o',none⟩) (xs.length+ys.length) cap,_,by rw [hex h1,r1];rfl,rfl,by rw [setRow_size];exact Nat.le_refl _,fun b' _ hb=>setRow_other w b b' _ (fun e=>hb (e ▸ hbk)),rfl,rfl,.same rfl rfl,fun b' hb=>.inl (by simp [blk] at hb;exact hb.2 ▸ hbk),fun hN=>⟨fun b=>by rw [updV_same,updV_f],?_⟩⟩
     refine .inr ⟨b,o',cap,_,Ty,by rw [updV_same];simp,setRow_heap w b arr _ Ty _ h2,h3,by simpa using hroom,by simp [q1];omega,fun e' he'=>?_,fun i e' j c h8 h9=>?_⟩
     ·rcases List.mem_append.1 he' with h | h
      ·exact h6 e' h
      ·exact hks e' h
     ·simp only [List.getElem?_toArray]
      rw [splice_get (by simp [q1];omega)]
      rw [List.getElem?_append] at h8
      split at h8
      ·rename_i hi
       have hj:j < ie.size:=by rw [← h6 e' (List.mem_of_getElem? h8)];exact (List.getElem?_eq_some_iff.1 h9).1
       have:=Nat.mul_le_mul_right ie.size (show i+1≤xs.length by omega)
       rw [Nat.add_mul,Nat.one_mul] at this
       rw [if_neg (by omega)]
       obtain ⟨u,hu',hr⟩:=h7 _ _ _ _ h8 h9
       exact ⟨u,by simpa using hu',hr.mono hN⟩
      ·rename_i hi
       have hj:j < ie.size:=by rw [← hks e' (List.mem_of_getElem? h8)];exact (List.getElem?_eq_some_iff.1 h9).1
       have hi2:i - xs.length < ys.length:=(List.getElem?_eq_some_iff.1 h8).1
       obtain ⟨u,hu',hr⟩:=q4 _ _ _ _ h8 h9
       have e1:i * ie.size=xs.length * ie.size+(i - xs.length) * ie.size:=by rw [← Nat.add_mul];congr 1;omega
       have e3:=Nat.mul_le_mul_right ie.size (show (i - xs.length)+1≤ys.length by omega)
       rw [Nat.add_mul,Nat.one_mul] at e3
       rw [if_pos ⟨by omega,by rw [q1];omega⟩,show o'+(i * ie.size+j) - (o'+xs.length * ie.size)=(i - xs.length) * ie.size+j by omega]
       exact ⟨u,hu',hr.mono hN⟩
    ·obtain ⟨olds,p1,p2,p3,p4⟩:=hL.values (.inl hk)
     obtain ⟨cap',z,r1,r2,r3⟩:=append_grows (w:=w) (ty:=o.type) hT hu he (base:=some ⟨b,o',none⟩) (sLen:=xs.length) (sCap:=cap) (xc:=c2) (xa:=a3) (n:=ys.length) (olds:=olds) (news:=news) p1 q1
      (fun b' hb j v hj=>by
       injection hb with hb;subst hb
       rw [Addr.add_lit,cell_of_row w b _ arr Ty (0,0) h2];exact p2 j v hj) (fun h=>by cases h) q2 h4 (by omega) hbytes h62
     refine ⟨.slice (some ⟨w.heap.size,0,none⟩) (xs.length+ys.length) cap',w.drew.alloc (.cells (olds.toArray++news.toArray++z) e),by rw [hex h1,r1];rfl,rfl,by simp,fun b hb _=>heap_alloc_old w.drew _ b hb,rfl,rfl,⟨rfl,Nat.le_succ _⟩,fun b hb=>.inr (blk_new (by simp) b hb),fun hN=>⟨fun b=>by rw [updV_same,updV_f],?_⟩⟩
     refine .inr ⟨w.heap.size,0,cap',_,e,by rw [updV_same];simp,heap_new w.drew _,by omega,by simpa using r2,?_,fun e' he'=>?_,fun i e' j c h8 h9=>?_⟩
     ·simp only [Array.size_append,List.size_toArray,p1,q1,r3,hzs,Nat.zero_add]
      rw [← Nat.add_mul,← Nat.add_mul]
      exact Nat.mul_le_mul_right _ (by omega)
     ·rcases List.mem_append.1 he' with h | h
      ·exact h6 e' h
      ·exact hks e' h
     ·rw [Nat.zero_add]
      rw [List.getElem?_append] at h8
      split at h8
      ·obtain ⟨u,hu',hr⟩:=p4 _ _ _ _ h8 h9
       have hlt:=(List.getElem?_eq_some_iff.1 hu').1
       refine ⟨u,?_,hr.mono hN⟩
       rw [Array.getElem?_append_left (by simp;omega),Array.getElem?_append_left (by simpa using hlt)]
       simpa using hu'
      ·rename_i hi
       have hj:j < ie.size:=by rw [← hks e' (List.mem_of_getElem? h8)];exact (List.getElem?_eq_some_iff.1 h9).1
       have hi2:i - xs.length < ys.length:=(List.getElem?_eq_some_iff.1 h8).1
       obtain ⟨u,hu',hr⟩:=q4 _ _ _ _ h8 h9
       have hlt:=(List.getElem?_eq_some_iff.1 hu').1
       have e1:i * ie.size=xs.length * ie.size+(i - xs.length) * ie.size:=by rw [← Nat.add_mul];congr 1;omega
       refine ⟨u,?_,hr.mono hN⟩
       rw [Array.getElem?_append_left (by simp;omega),Array.getElem?_append_right (by simp;omega)]
       simp only [List.size_toArray,p1,List.getElem?_toArray]
       rw [show i * ie.size+j - xs.length * ie.size=(i - xs.length) * ie.size+j by omega]
       exact hu'
theorem cut_step (hT:TOK P T) {o:Oper} {t e:TypeId} {ie:TI} {x:Operand} {lo hi:Option Operand} {id:Nat} {xs:List AV} {l h:Int} {K:St→Prop} (ho:o.op=.slice t x lo hi none)
  (hu:P.underlying t=some (.slice e)) (he:T e=some ie) (hd:dstOk σ o=true) (hx:σ.eval x=some (.ref id)) (hob:σ.obj id=some (.arr ie.size xs))
  (hlo:(lo=none∧l=0)∨∃ y k,lo=some y∧σ.eval y=some (.v (.int k l))) (hhi:(hi=none∧h=xs.length)∨∃ y k,hi=some y∧σ.eval y=some (.v (.int k h))) (h0:0≤l) (h1:l≤h) (h2:h≤xs.length)
  (hKσ:K ((σ.setObj id .dead).after o.dst (.ref σ.next) (some (.arr ie.size ((xs.take h.toNat).drop l.toNat)))))
  (hr:RS N0 base w0 σ a w) {next:Act→World→Prop} {Q:Exit→Act→World→Prop} (hK:∀ σ' a' w',K σ'→RS N0 base w0 σ' a' w'→next a' w'):o.wp P a w next Q:=by
 refine take_step hob hd hKσ hr hK fun V hV=>?_
 obtain ⟨hrx,_⟩:=eval_rep hV hx
 have hxv:a.eval x=V id:=by
  generalize a.eval x=v at hrx
  cases hrx with
  | im h=>cases h
  | ref _ h=>rfl
 have hlo':(lo.map a.eval=none∧l=0)∨∃ k,lo.map a.eval=some (.int k l):=by
  rcases hlo with ⟨rfl,h⟩ | ⟨y,k,rfl,hy⟩
  ·exact .inl ⟨rfl,h⟩
  ·exact .inr ⟨k,by rw [Option.map_some,eval_v (eval_rep hV hy).1]⟩
 have hhi':∀ {m:Nat},m=xs.length→(hi.map a.eval=none∧h=m)∨∃ k,hi.map a.eval=some (.int k h):=fun hm=>by
  rcases hhi with ⟨rfl,h⟩ | ⟨y,k,rfl,hy⟩
  ·exact .inl ⟨rfl,by rw [hm];exact h⟩
  ·exact .inr ⟨k,by rw [Option.map_some,eval_v (eval_rep hV hy).1]⟩
 have hex:∀ {b:Option Addr} {n c:Nat},V id=.slice b n c→n=xs.length→n≤c→(execOp a.eval o).run P w=.ok (.value (.slice (if c=l.toNat then b else b.map (·.add (l.toNat * ie.size))) (h.toNat - l.toNat) (c - l.toNat))) w:=fun hv hn hc=>by
  have hb:=sliceBounds_run (P:=P) (w:=w) (isS:=true) hlo' (hhi' hn) h0 h1 (by omega) hc
  simp only [execOp,ho,hxv,hv,Option.map_none,Instr.sliceAt,Sem.run_bind,run_underlying hu,Result.andThen_ok,Instr.slice,hb,run_sizeOf hT he,Sem.run_pure]
 have hlen:((xs.take h.toNat).drop l.toNat).length=h.toNat - l.toNat:=by simp;omega
 rcases (hV.obs id _ hob).2 with ⟨a',q1,q2⟩ | ⟨b,o',cap,arr,Ty,q1,q2,q3,q4,q5,q6,q7⟩
 ·subst q2
  simp only [List.length_nil] at h2
  obtain rfl:l=0:=by omega
  obtain rfl:h=0:=by omega
  refine ⟨_,w,hex q1 rfl (Nat.le_refl _),rfl,Nat.le_refl _,fun _ _ _=>rfl,rfl,rfl,.refl _,fun b hb=>?_,fun hN=>⟨fun b=>by rw [updV_same,updV_f],.inl ⟨a',by rw [updV_same];rfl,by simp⟩⟩⟩
  simp [blk_zero] at hb
 ·have hbk:V.f id b:=((hV.obs id _ hob).1 b).2 (by rw [q1];simp [bl,blk];omega)
  refine ⟨_,w,hex q1 rfl q4,rfl,Nat.le_refl _,fun _ _ _=>rfl,rfl,rfl,.refl _,fun b' hb=>?_,fun hN=>⟨fun b=>by rw [updV_same,updV_f],?_⟩⟩
  ·left
   by_cases hc:cap=l.toNat
   ·rw [hc,Nat.sub_self,blk_zero] at hb;cases hb
   ·rw [if_neg hc] at hb
    simp only [Option.map_some,Addr.add_lit,blk] at hb
    rw [if_neg (by omega)] at hb
    injection hb with hb;exact hb ▸ hbk
  ·by_cases hc:cap=l.toNat
   ·left
    refine ⟨_,by rw [updV_same,hc,Nat.sub_self,show h.toNat - l.toNat=0 by omega],List.eq_nil_of_length_eq_zero (by rw [hlen];omega)⟩
   ·right
    have hm:l.toNat * ie.size+(cap - l.toNat) * ie.size=cap * ie.size:=by rw [← Nat.add_mul];congr 1;omega
    refine ⟨b,o'+l.toNat * ie.size,cap - l.toNat,arr,Ty,by rw [updV_same,if_neg hc,hlen];simp [Addr.add_lit],q2,by omega,by rw [hlen];omega,by omega,fun e he=>q6 e (List.mem_of_mem_take (List.mem_of_mem_drop he)),fun i e j c h8 h9=>?_⟩
    have h8':xs[l.toNat+i]?=some e:=by
     rw [List.getElem?_drop,List.getElem?_take] at h8
     split at h8
     ·exact h8
     ·cases h8
    obtain ⟨u,hu',hr⟩:=q7 _ _ _ _ h8' h9
    refine ⟨u,?_,hr.mono hN⟩
    rw [show o'+l.toNat * ie.size+(i * ie.size+j)=o'+((l.toNat+i) * ie.size+j) by rw [Nat.add_mul];omega]
    exact hu'
end
end Go.Sk
namespace Go.Sk
open Go.RowKit
theorem cellsA_newElem {e y:AV} {j k:Nat} {ds:List AV} (he:(cellsA e).length=k) (h0:0 < ds.length) (hfit:j+ds.length≤k) (hy:cellsA y=ds):cellsA (newElem e j ds y)=setC (cellsA e) j ds:=by
 unfold newElem
 split
 ·rfl
 ·rename_i hne
  have h1:cellsA e=[e]:=by cases e <;> first | rfl | exact absurd rfl (hne _)
  rw [h1] at he ⊢
  simp at he
  have hj:j=0:=by omega
  have hl:ds.length=1:=by omega
  subst hj
  rw [hy]
  simp [setC,hl]
theorem idx_ne {k i i' j j':Nat} (hj:j < k) (hj':j' < k) (h:i * k+j=i' * k+j'):i=i'∧j=j':=by
 have h1:(i * k+j) / k=i:=by rw [Nat.add_comm,Nat.add_mul_div_right _ _ (by omega),Nat.div_eq_of_lt hj];omega
 have h2:(i' * k+j') / k=i':=by rw [Nat.add_comm,Nat.add_mul_div_right _ _ (by omega),Nat.div_eq_of_lt hj'];omega
 have:i=i':=by rw [← h1,← h2,h]
 subst this
 exact ⟨rfl,by omega⟩
theorem idx_lt {k n i j:Nat} (hj:j < k) (hi:i < n):i * k+j < n * k:=by
 have:=Nat.mul_le_mul_right k (show i+1≤n by omega)
 rw [Nat.add_mul,Nat.one_mul] at this
 omega
variable {N0:Nat→Prop} {base:Nat} {w0:W0} {m:Nat} {V:VV} {g:Nat→Option AV} {ob:Nat→Option AO} {A:Nat→Prop} {a:Act} {w:World}
theorem bd_own {A:Nat→Prop} (k:Nat) (ys:List AV):bd A (.own k ys):=by unfold bd;trivial
theorem Rel.trePut (h:Rel N0 base w0 m V g ob A a w) {id k i j:Nat} {xs ds:List AV} {e y:AV} {b o cap:Nat} {arr vs:Array Value} {Ty:TypeId} {G:Nat→Nat→Prop} {ks:List Nat} {gg:Nat→Nat→Prop}
  (hob:ob id=some (.tre k xs)) (h1:V id=.slice (some ⟨b,o,none⟩) xs.length cap) (h2:w.heap[b]?=some (.cells arr Ty (0,0))) (h3:0 < cap) (h4:xs.length≤cap) (h5:o+cap * k≤arr.size)
  (h6:∀ e,e∈xs→(cellsA e).length=k)
  (h7:∀ (i:Nat) (e:AV) (j:Nat) (c:AV),xs[i]?=some e→(cellsA e)[j]?=some c→∃ u:Value,arr[o+(i * k+j)]?=some u∧u.oneCell'=true∧RepW (Nf N0 base V ob) w V (G (i * k+j)) c u)
  (h8:∀ q q' b',G q b'→G q' b'→q=q') (h9:∀ q b',G q b'→b'≠b∧b' < w.heap.size) (h10:∀ b',V.f id b'↔b'=b∨∃ q,q < xs.length * k∧G q b')
  (he:xs[i]?=some e) (hy:cellsA y=ds) (hL:0 < ds.length) (hfit:j+ds.length≤k) (hvs:vs.size=ds.length) (hks:∀ i,i∈ks→live ob i) (hidk:id ∉ ks)
  (hgg:∀ p b',gg p b'→∃ i,i∈ks∧V.f i b') (hgd:∀ p p' b',gg p b'→gg p' b'→p=p')
  (hds:∀ (p:Nat) (c:AV),ds[p]?=some c→∃ u,vs[p]?=some u∧u.oneCell'=true∧RepW (Nf N0 base V ob) w V (gg p) c u) (hbd:bdL A ds) :
  ∃ V',Rel N0 base w0 m V' g (updK ob ks id (.tre k (xs.set i (newElem e j ds y)))) A a (w.setRow b (arr.toList.take (o+(i * k+j))++vs.toList++arr.toList.drop (o+(i * k+j)+vs.toList.length)).toArray):=by
 have hlid:live ob id:=⟨_,hob,rfl⟩
 have hek:(cellsA e).length=k:=h6 e (List.mem_of_getElem? he)
 have hil:i < xs.length:=(List.getElem?_eq_some_iff.1 he).1
 have hce:=cellsA_newElem hek hL hfit hy
 have hfid:V.f id b:=(h10 b).2 (.inl rfl)
 let G':Nat→Nat→Prop:=fun q b'=>if i * k+j≤q∧q < i * k+j+ds.length then gg (q - (i * k+j)) b' else q < xs.length * k∧G q b'
 let f':Nat→Prop:=fun b'=>b'=b∨∃ q,q < xs.length * k∧G' q b'
 have hgk:∀ p b',gg p b'→b'≠b∧b' < w.heap.size∧¬ V.f id b':=fun p b' hp=>by
  obtain ⟨i',q1,q2⟩:=hgg p b' hp
  have hne:i'≠id:=fun e=>hidk (e ▸ q1)
  have hno:¬ V.f id b':=fun hc=>hne (h.inj i' id b' (hks i' q1) hlid q2 hc)
  exact ⟨fun e=>hno (e ▸ hfid),(h.low i' b' (hks i' q1) q2).2,hno⟩
 have hGlt:∀ q b',q < xs.length * k→G q b'→V.f id b':=fun q b' hq hb=>(h10 b').2 (.inr ⟨q,hq,hb⟩)
 refine ⟨setF V id f',h.turnL (f:=f') hob rfl hidk hks (fun b' hb'=>?_) (by rw [setRow_size];exact Nat.le_refl _) (fun b' _ hne=>setRow_other w b b' _ (fun e=>hne (e ▸ hfid))) rfl rfl (.same rfl rfl) (fun hN=>?_) (fun z hz=>?_)⟩
 ·rcases hb' with rfl | ⟨q,hq,hb'⟩
  ·exact .inl hfid
  ·by_cases hin:i * k+j≤q∧q < i * k+j+ds.length
   ·simp only [G',if_pos hin] at hb'
    exact .inr (hgg _ _ hb')
   ·simp only [G',if_neg hin] at hb'
    exact .inl (hGlt q b' hq hb'.2)
 ·have hcl:vs.toList.length=ds.length:=by simp [hvs]
  have hbnd:(i+1) * k≤cap * k:=Nat.mul_le_mul_right _ (by omega)
  rw [Nat.add_mul,Nat.one_mul] at hbnd
  have hlenx:(xs.set i (newElem e j ds y)).length=xs.length:=by simp
  refine .inr ⟨b,o,cap,_,Ty,G',by rw [setF_v,hlenx];exact h1,setRow_heap w b arr _ Ty _ h2,h3,by rw [hlenx];exact h4,by simp;omega,fun z hz=>?_,fun i' z q c hz hq=>?_,fun q q' b' r1 r2=>?_,fun q b' r1=>?_,fun b'=>by rw [setF_f,hlenx]⟩
  ·rcases List.mem_or_eq_of_mem_set hz with hz | rfl
   ·exact h6 z hz
   ·rw [hce,setC_len (by omega)];exact hek
  ·have hzk:(cellsA z).length=k:=by
    rcases List.mem_or_eq_of_mem_set (List.mem_of_getElem? hz) with hm | rfl
    ·exact h6 z hm
    ·rw [hce,setC_len (by omega)];exact hek
   have hql:q < k:=by rw [← hzk];exact (List.getElem?_eq_some_iff.1 hq).1
   simp only [List.getElem?_toArray]
   rw [splice_get (by rw [hcl];simp;omega),hcl]
   have old:∀ {c:AV} {u:Value},arr[o+(i' * k+q)]?=some u→u.oneCell'=true→RepW (Nf N0 base V ob) w V (G (i' * k+q)) c u→bd A c→i' < xs.length→¬ (i * k+j≤i' * k+q∧i' * k+q < i * k+j+ds.length) →
     ∃ u:Value,(if o+(i * k+j)≤o+(i' * k+q)∧o+(i' * k+q) < o+(i * k+j)+ds.length then vs.toList[o+(i' * k+q) - (o+(i * k+j))]? else arr.toList[o+(i' * k+q)]?)=some u∧u.oneCell'=true ∧
      RepW (Nf N0 base (setF V id f') (updK ob ks id (.tre k (xs.set i (newElem e j ds y))))) (w.setRow b (arr.toList.take (o+(i * k+j))++vs.toList++arr.toList.drop (o+(i * k+j)+ds.length)).toArray) (setF V id f') (G' (i' * k+q)) c u:=by
    intro c u r1 r2 r3 r4 r5 r6
    rw [if_neg (by omega)]
    refine ⟨u,by simpa using r1,r2,?_⟩
    have:G' (i' * k+q)=G (i' * k+q):=by
     funext b';simp only [G',if_neg r6]
     exact propext ⟨fun h=>h.2,fun h=>⟨idx_lt hql r5,h⟩⟩
    rw [this]
    rw [hcl] at hN
    exact RepW.mono (V:=V) (A:=A) hN (fun _ _=>rfl) (fun b' hb'=>setRow_other w b b' _ (h9 _ _ hb').1) r3 r4
   by_cases hii:i'=i
   ·subst hii
    have hze:z=newElem e j ds y:=by
     rw [List.getElem?_set_self hil] at hz
     injection hz with hz;exact hz.symm
    subst hze
    rw [hce,setC_get (by omega)] at hq
    by_cases hin:j≤q∧q < j+ds.length
    ·rw [if_pos hin] at hq
     obtain ⟨u,r1,r2,r3⟩:=hds _ _ hq
     rw [if_pos ⟨by omega,by omega⟩,show o+(i' * k+q) - (o+(i' * k+j))=q - j by omega]
     refine ⟨u,by simpa using r1,r2,?_⟩
     have:G' (i' * k+q)=gg (q - j):=by
      funext b'
      simp only [G']
      rw [if_pos ⟨by omega,by omega⟩,show i' * k+q - (i' * k+j)=q - j by omega]
     rw [this]
     rw [hcl] at hN
     exact RepW.mono (V:=V) (A:=A) hN (fun _ _=>rfl) (fun b' hb'=>setRow_other w b b' _ (hgk _ _ hb').1) r3 (bdL_get hbd hq)
    ·rw [if_neg hin] at hq
     obtain ⟨u,r1,r2,r3⟩:=h7 _ _ _ _ he hq
     have:=old r1 r2 r3 (bdL_get ((h.bdo id _ hob).2 e (List.mem_of_getElem? he)) hq) hil (by omega)
     exact this
   ·have hz':xs[i']?=some z:=by rw [List.getElem?_set_ne (Ne.symm hii)] at hz;exact hz
    have hi':i' < xs.length:=(List.getElem?_eq_some_iff.1 hz').1
    obtain ⟨u,r1,r2,r3⟩:=h7 _ _ _ _ hz' hq
    have:=old r1 r2 r3 (bdL_get ((h.bdo id _ hob).2 z (List.mem_of_getElem? hz')) hq) hi' (by
     intro hh
     rcases Nat.lt_or_gt_of_ne hii with hlt | hgt
     ·have:=Nat.mul_le_mul_right k (show i'+1≤i by omega)
      rw [Nat.add_mul,Nat.one_mul] at this
      omega
     ·have:=Nat.mul_le_mul_right k (show i+1≤i' by omega)
      rw [Nat.add_mul,Nat.one_mul] at this
      omega)
    exact this
  ·simp only [G'] at r1 r2
   split at r1 <;> split at r2
   ·have:=hgd _ _ _ r1 r2;omega
   ·exfalso
    obtain ⟨_,_,r3⟩:=hgk _ _ r1
    exact r3 (hGlt _ _ r2.1 r2.2)
   ·exfalso
    obtain ⟨_,_,r3⟩:=hgk _ _ r2
    exact r3 (hGlt _ _ r1.1 r1.2)
   ·exact h8 _ _ _ r1.2 r2.2
  ·simp only [G'] at r1
   split at r1
   ·have:=hgk _ _ r1
    exact ⟨this.1,by rw [setRow_size];exact this.2.1⟩
   ·have:=h9 _ _ r1.2
    exact ⟨this.1,by rw [setRow_size];exact this.2⟩
 ·rcases List.mem_or_eq_of_mem_set hz with hz | rfl
  ·exact (h.bdo id _ hob).2 z hz
  ·rw [hce]
   refine bdL_iff.2 fun c hc=>?_
   unfold setC at hc
   rcases List.mem_append.1 hc with hc | hc
   ·rcases List.mem_append.1 hc with hc | hc
    ·exact bdL_iff.1 ((h.bdo id _ hob).2 e (List.mem_of_getElem? he)) c (List.mem_of_mem_take hc)
    ·exact bdL_iff.1 hbd c hc
   ·exact bdL_iff.1 ((h.bdo id _ hob).2 e (List.mem_of_getElem? he)) c (List.mem_of_mem_drop hc)
theorem Rel.treOut (h:Rel N0 base w0 m V g ob A a w) {id n i k2:Nat} {xs ys:List AV} {dst:Option Nat} (hd:∀ d,dst=some d→d < m) (hob:ob id=some (.tre 1 xs)) (he:xs[i]?=some (.own k2 ys)) (hn:¬ A n) :
  ∃ (b o cap:Nat) (u:Value),V id=.slice (some ⟨b,o,none⟩) xs.length cap∧w.cell? ⟨b,o+i,none⟩=some u∧u.oneCell'=true ∧
   ∃ V',Rel N0 base w0 m V' (upd g dst (.ref n)) (updO (updO ob id (.tre 1 (xs.set i (.ref n)))) n (.arr k2 ys)) (addA A n) (a.put dst u) w:=by
 have hlid:live ob id:=⟨_,hob,rfl⟩
 have hidA:A id:=(h.bdo id _ hob).1
 have hne:id≠n:=fun e=>hn (e ▸ hidA)
 rcases h.obs id _ hob with ⟨a',_,rfl,_⟩ | ⟨b,o,cap,arr,Ty,G,h1,h2,h3,h4,h5,h6,h7,h8,h9,h10⟩
 ·simp at he
 have hil:i < xs.length:=(List.getElem?_eq_some_iff.1 he).1
 obtain ⟨u,q1,q2,q3,q4⟩:=h7 i _ 0 (.own k2 ys) he rfl
 simp only [Nat.mul_one,Nat.add_zero] at q1 q4
 refine ⟨b,o,cap,u,h1,by rw [cell_of_row w b _ arr Ty (0,0) h2];exact q1,q2,?_⟩
 let G':Nat→Nat→Prop:=fun q b'=>q≠i∧q < xs.length∧G q b'
 let f':Nat→Prop:=fun b'=>b'=b∨∃ q,q < xs.length∧G' q b'
 have hGi:∀ b',bl u b'→V.f id b':=fun b' hb'=>(h10 b').2 (.inr ⟨i,by omega,(q4 b').2 hb'⟩)
 have hf':∀ b',f' b'→V.f id b':=fun b' hb'=>by
  rcases hb' with rfl | ⟨q,_,r1,r2,r3⟩
  ·exact (h10 _).2 (.inl rfl)
  ·exact (h10 _).2 (.inr ⟨q,by omega,r3⟩)
 have hdis:∀ b',f' b'→bl u b'→False:=fun b' hb' hu=>by
  have hg:=(q4 b').2 hu
  rcases hb' with rfl | ⟨q,_,r1,r2,r3⟩
  ·exact (h9 _ _ hg).1 rfl
  ·exact r1 (h8 _ _ _ r3 hg)
 have hVv:∀ c,A c→setF (updV V n u) id f' c=V c:=fun c hc=>by rw [setF_v];exact updV_ne V n u (fun e=>hn (e ▸ hc))
 have hFid:(setF (updV V n u) id f').f id=f':=setF_f _ _ _
 have hFn:(setF (updV V n u) id f').f n=bl u:=by rw [setF_fne _ _ _ (Ne.symm hne),updV_f]
 have hFo:∀ c,c≠id→c≠n→(setF (updV V n u) id f').f c=V.f c:=fun c c1 c2=>by rw [setF_fne _ _ _ c1,updV_fne V n u c2]
 have hcase:∀ c o',updO (updO ob id (.tre 1 (xs.set i (.ref n)))) n (.arr k2 ys) c=some o'→(c=n∧o'=.arr k2 ys)∨(c=id∧o'=.tre 1 (xs.set i (.ref n)))∨(c≠n∧c≠id∧ob c=some o'):=fun c o' hc=>by
  unfold updO at hc
  split at hc
  ·injection hc with hc;exact .inl ⟨by assumption,hc.symm⟩
  ·split at hc
   ·injection hc with hc;exact .inr (.inl ⟨by assumption,hc.symm⟩)
   ·exact .inr (.inr ⟨by assumption,by assumption,hc⟩)
 have hlive:∀ c,live (updO (updO ob id (.tre 1 (xs.set i (.ref n)))) n (.arr k2 ys)) c→c=n∨c=id∨(c≠n∧c≠id∧live ob c):=fun c ⟨o',r1,r2⟩=>by
  rcases hcase c o' r1 with ⟨r,_⟩ | ⟨r,_⟩ | ⟨r3,r4,r5⟩
  ·exact .inl r
  ·exact .inr (.inl r)
  ·exact .inr (.inr ⟨r3,r4,o',r5,r2⟩)
 have hsub:∀ c b',live (updO (updO ob id (.tre 1 (xs.set i (.ref n)))) n (.arr k2 ys)) c→(setF (updV V n u) id f').f c b'→∃ c',live ob c'∧V.f c' b'∧(c'=c∨((c=n∨c=id)∧c'=id)):=fun c b' hl hb=>by
  rcases hlive c hl with rfl | rfl | ⟨c1,c2,hl⟩
  ·rw [hFn] at hb;exact ⟨id,hlid,hGi b' hb,.inr ⟨.inl rfl,rfl⟩⟩
  ·rw [hFid] at hb;exact ⟨_,hlid,hf' b' hb,.inl rfl⟩
  ·rw [hFo c c2 c1] at hb;exact ⟨c,hl,hb,.inl rfl⟩
 have hNf:∀ b',Nf N0 base V ob b'→b' < w.heap.size→Nf N0 base (setF (updV V n u) id f') (updO (updO ob id (.tre 1 (xs.set i (.ref n)))) n (.arr k2 ys)) b'∧w.heap[b']?=w.heap[b']?:=fun b' hN _=>⟨⟨hN.1,fun c hl hb=>by
  obtain ⟨c',r1,r2,_⟩:=hsub c b' hl hb
  exact hN.2 c' r1 r2⟩,rfl⟩
 refine ⟨setF (updV V n u) id f',Rel.put (m:=m) ⟨fun t x hx=>RepT.mono (V:=V) hNf hVv (h.tm t x hx) (h.bdt t x hx),fun c o' hc=>?_,fun c c' b' hl hl' hb hb'=>?_,fun c b' hl hb=>?_,fun t x hx=>bd_mono (fun _=>.inl) x (h.bdt t x hx),fun c o' hc=>?_,h.bel,h.bas,h.dfr,h.siz,fun c hc=>⟨.inl (h.par c hc).1,(hVv c (h.par c hc).1).trans (h.par c hc).2⟩⟩ hd ?_ (by unfold bd;exact .inr rfl)⟩
 ·rcases hcase c o' hc with ⟨rfl,rfl⟩ | ⟨rfl,rfl⟩ | ⟨r1,r2,r3⟩
  ·refine ⟨fun b'=>by rw [hFn,setF_v,updV_same],?_⟩
   rw [setF_v,updV_same]
   exact q3.mono hNf fun _ _=>rfl
  ·refine .inr ⟨b,o,cap,arr,Ty,G',by rw [setF_v,updV_ne V n u hne,List.length_set];exact h1,h2,h3,by simpa using h4,h5,fun z hz=>?_,fun i' z j c' hz hq=>?_,fun q q' b' r1 r2=>h8 q q' b' r1.2.2 r2.2.2,fun q b' r1=>h9 q b' r1.2.2,fun b'=>by rw [hFid];simp [f']⟩
   ·rcases List.mem_or_eq_of_mem_set hz with hz | rfl
    ·exact h6 z hz
    ·rfl
   ·by_cases hii:i'=i
    ·subst hii
     rw [List.getElem?_set_self hil] at hz
     injection hz with hz
     subst hz
     cases j with
     | succ j=>simp [cellsA] at hq
     | zero =>
      simp [cellsA] at hq
      subst hq
      refine ⟨u,by simpa using q1,q2,?_,fun b' hb'=>hb'.1 (by omega)⟩
      have:=RepT.ref (N:=Nf N0 base (setF (updV V n u) c f') (updO (updO ob c (.tre 1 (xs.set i' (.ref n)))) n (.arr k2 ys))) (w:=w) (V:=setF (updV V n u) c f') n (by rw [setF_v,updV_same];exact q2)
      rwa [setF_v,updV_same] at this
    ·rw [List.getElem?_set_ne (Ne.symm hii)] at hz
     have hi':i' < xs.length:=(List.getElem?_eq_some_iff.1 hz).1
     obtain ⟨u',r1,r2,r3⟩:=h7 _ _ _ _ hz hq
     have hj:j=0:=by
      have:=(List.getElem?_eq_some_iff.1 hq).1
      rw [h6 z (List.mem_of_getElem? hz)] at this
      omega
     subst hj
     refine ⟨u',r1,r2,?_⟩
     have:G' (i' * 1+0)=G (i' * 1+0):=by
      funext b'
      exact propext ⟨fun hh=>hh.2.2,fun hh=>⟨by omega,by omega,hh⟩⟩
     rw [this]
     exact RepW.mono (V:=V) (A:=A) hNf hVv (fun _ _=>rfl) r3 (bdL_get ((h.bdo _ _ hob).2 z (List.mem_of_getElem? hz)) hq)
  ·exact RepO.mono (V:=V) hNf (Nat.le_refl _) hVv (fun b'=>by rw [hFo c r2 r1]) (h.bdo c o' r3).1 (fun _ _ _=>rfl) (h.obs c o' r3) (h.bdo c o' r3).2
 ·obtain ⟨c1,r1,r2,r3⟩:=hsub c b' hl hb
  obtain ⟨c2,r4,r5,r6⟩:=hsub c' b' hl' hb'
  have hcc:=h.inj c1 c2 b' r1 r4 r2 r5
  have hmix:∀ {x y:Nat},x=n→y=id→(setF (updV V n u) id f').f x b'→(setF (updV V n u) id f').f y b'→False:=fun {x y} e1 e2 f1 f2=>by
   subst e1;subst e2
   rw [hFn] at f1;rw [hFid] at f2
   exact hdis b' f2 f1
  rcases r3 with rfl | ⟨r3 | r3,r7⟩ <;> rcases r6 with rfl | ⟨r6 | r6,r8⟩
  ·exact hcc
  ·exact (hmix r6 (hcc.trans r8) hb' hb).elim
  ·rw [r6,hcc,r8]
  ·exact (hmix r3 (hcc.symm.trans r7) hb hb').elim
  ·rw [r3,r6]
  ·exact (hmix r3 r6 hb hb').elim
  ·rw [r3,← hcc,r7]
  ·exact (hmix r6 r3 hb' hb).elim
  ·rw [r3,r6]
 ·obtain ⟨c1,r1,r2,_⟩:=hsub c b' hl hb
  exact h.low c1 b' r1 r2
 ·rcases hcase c o' hc with ⟨rfl,rfl⟩ | ⟨rfl,rfl⟩ | ⟨r1,r2,r3⟩
  ·exact ⟨.inr rfl,trivial⟩
  ·refine ⟨.inl hidA,fun z hz=>?_⟩
   rcases List.mem_or_eq_of_mem_set hz with hz | rfl
   ·exact bdL_mono (fun _=>.inl) _ ((h.bdo _ _ hob).2 z hz)
   ·simp [cellsA,bdL,bd];exact .inr rfl
  ·exact ⟨.inl (h.bdo c o' r3).1,bdO_mono (fun _=>.inl) o' (h.bdo c o' r3).2⟩
 ·have:=RepT.ref (N:=Nf N0 base (setF (updV V n u) id f') (updO (updO ob id (.tre 1 (xs.set i (.ref n)))) n (.arr k2 ys))) (w:=w) (V:=setF (updV V n u) id f') n (by rw [setF_v,updV_same];exact q2)
  rwa [setF_v,updV_same] at this
theorem Rel.treBack (h:Rel N0 base w0 m V g ob A a w) {id p i k2:Nat} {xs ys:List AV} (hob:ob id=some (.tre 1 xs)) (hp:ob p=some (.arr k2 ys)) (he:xs[i]?=some (.ref p)) :
  ∃ V',Rel N0 base w0 m V' g (updK ob [p] id (.tre 1 (xs.set i (.own k2 ys)))) A a w:=by
 have hlid:live ob id:=⟨_,hob,rfl⟩
 have hlp:live ob p:=⟨_,hp,rfl⟩
 have hne:id≠p:=fun e=>by subst e;rw [hob] at hp;cases hp
 obtain ⟨hp0,hpa⟩:=h.obs p _ hp
 rcases h.obs id _ hob with ⟨a',_,rfl,_⟩ | ⟨b,o,cap,arr,Ty,G,h1,h2,h3,h4,h5,h6,h7,h8,h9,h10⟩
 ·simp at he
 have hil:i < xs.length:=(List.getElem?_eq_some_iff.1 he).1
 obtain ⟨u,q1,q2,q3,q4⟩:=h7 i _ 0 (.ref p) he rfl
 simp only [Nat.mul_one,Nat.add_zero] at q1 q4
 have hu:u=V p:=by cases q3 with
  | im h=>cases h
  | ref _ _=>rfl
 let G':Nat→Nat→Prop:=fun q b'=>if q=i then V.f p b' else q < xs.length∧G q b'
 let f':Nat→Prop:=fun b'=>b'=b∨∃ q,q < xs.length∧G' q b'
 have hGlt:∀ q b',q < xs.length→G q b'→V.f id b':=fun q b' hq hb=>(h10 b').2 (.inr ⟨q,by omega,hb⟩)
 have hpd:∀ b',V.f p b'→¬ V.f id b':=fun b' r1 r2=>hne (h.inj id p b' hlid hlp r2 r1)
 refine ⟨setF V id f',h.turnL (f:=f') hob rfl (by simpa using hne) (fun c hc=>by simp at hc;subst hc;exact hlp) (fun b' hb'=>?_) (Nat.le_refl _) (fun _ _ _=>rfl) rfl rfl (.same rfl rfl) (fun hN=>?_) (fun z hz=>?_)⟩
 ·rcases hb' with rfl | ⟨q,hq,hb'⟩
  ·exact .inl ((h10 _).2 (.inl rfl))
  ·simp only [G'] at hb'
   split at hb'
   ·exact .inr ⟨p,by simp,hb'⟩
   ·exact .inl (hGlt q b' hb'.1 hb'.2)
 ·refine .inr ⟨b,o,cap,arr,Ty,G',by rw [setF_v,List.length_set];exact h1,h2,h3,by simpa using h4,h5,fun z hz=>?_,fun i' z j c' hz hq=>?_,fun q q' b' r1 r2=>?_,fun q b' r1=>?_,fun b'=>by rw [setF_f];simp [f']⟩
  ·rcases List.mem_or_eq_of_mem_set hz with hz | rfl
   ·exact h6 z hz
   ·rfl
  ·by_cases hii:i'=i
   ·subst hii
    rw [List.getElem?_set_self hil] at hz
    injection hz with hz
    subst hz
    cases j with
    | succ j=>simp [cellsA] at hq
    | zero =>
     simp [cellsA] at hq
     subst hq
     refine ⟨u,by simpa using q1,q2,?_,fun b'=>?_⟩
     ·rw [hu];exact hpa.mono hN fun _ _=>rfl
     ·simp [G',hu,hp0]
   ·rw [List.getElem?_set_ne (Ne.symm hii)] at hz
    have hi':i' < xs.length:=(List.getElem?_eq_some_iff.1 hz).1
    obtain ⟨u',r1,r2,r3⟩:=h7 _ _ _ _ hz hq
    have hj:j=0:=by
     have:=(List.getElem?_eq_some_iff.1 hq).1
     rw [h6 z (List.mem_of_getElem? hz)] at this
     omega
    subst hj
    refine ⟨u',r1,r2,?_⟩
    have:G' (i' * 1+0)=G (i' * 1+0):=by
     funext b'
     simp only [G',Nat.mul_one,Nat.add_zero,if_neg hii]
     exact propext ⟨fun hh=>hh.2,fun hh=>⟨hi',hh⟩⟩
    rw [this]
    exact RepW.mono (V:=V) (A:=A) hN (fun _ _=>rfl) (fun _ _=>rfl) r3 (bdL_get ((h.bdo _ _ hob).2 z (List.mem_of_getElem? hz)) hq)
  ·simp only [G'] at r1 r2
   split at r1 <;> split at r2
   ·omega
   ·exact (hpd b' r1 (hGlt _ _ r2.1 r2.2)).elim
   ·exact (hpd b' r2 (hGlt _ _ r1.1 r1.2)).elim
   ·exact h8 _ _ _ r1.2 r2.2
  ·simp only [G'] at r1
   split at r1
   ·exact ⟨fun e=>hpd b' r1 (e ▸ (h10 b).2 (.inl rfl)),(h.low p b' hlp r1).2⟩
   ·exact h9 _ _ r1.2
 ·rcases List.mem_or_eq_of_mem_set hz with hz | rfl
  ·exact (h.bdo _ _ hob).2 z hz
  ·simp [cellsA,bdL,bd]
theorem Rel.arrTre (h:Rel N0 base w0 m V g ob A a w) {id k:Nat} {xs:List AV} (hob:ob id=some (.arr k xs)):Rel N0 base w0 m V g (updO ob id (.tre k xs)) A a w:=by
 have hN:∀ b,Nf N0 base V ob b→b < w.heap.size→Nf N0 base V (updO ob id (.tre k xs)) b∧w.heap[b]?=w.heap[b]?:=fun b hb _=>⟨⟨hb.1,fun i ⟨o',r1,r2⟩=>by
  unfold updO at r1
  split at r1
  ·rename_i e;exact hb.2 i ⟨_,e ▸ hob,rfl⟩
  ·exact hb.2 i ⟨o',r1,r2⟩⟩,rfl⟩
 obtain ⟨hf,ha⟩:=h.obs id _ hob
 refine h.turn (o':=.tre k xs) hob rfl (Nat.le_refl _) (fun _ _ _=>rfl) rfl rfl (.refl _) ?_ ?_
 ·rcases ha with ⟨a',h1,h2⟩ | ⟨b,o,cap,arr,Ty,h1,h2,h3,h4,h5,h6,h7⟩
  ·exact .inl ⟨a',h1,h2,fun b hb=>by have:=(hf b).1 hb;rw [h1] at this;cases a' <;> simp [bl,blk] at this⟩
  ·refine .inr ⟨b,o,cap,arr,Ty,fun _ _=>False,h1,h2,h3,h4,h5,h6,fun i e j c he hc=>?_,fun _ _ _ h=>h.elim,fun _ _ h=>h.elim,fun b'=>?_⟩
   ·obtain ⟨u,r1,r2⟩:=h7 i e j c he hc
    have r3:=r2.mono hN
    refine ⟨u,r1,r2.oneCell,?_⟩
    cases r3 with
    | v _ h=>exact ⟨.im (.v _ h),fun _ h=>h⟩
    | nil a c=>exact ⟨.im (.nil a c),fun _ h=>h⟩
    | sl xs k b off cap f q1 q2 q3 q4 q5 q6=>exact ⟨.im (.sl xs k b off cap f q1 q2 q3 q4 q5 q6),fun _ h=>h⟩
   ·rw [hf,h1]
    simp only [bl,blk]
    constructor
    ·intro hb;first | exact .inl hb.1 | exact .inl hb | (left;simp_all)
    ·rintro (rfl | ⟨_,_,hx⟩)
     ·(simp;omega)
     ·exact hx.elim
 ·intro e he
  refine bdL_iff.2 fun c hc=>?_
  rcases ha with ⟨a',h1,h2⟩ | ⟨b,o,cap,arr,Ty,h1,h2,h3,h4,h5,h6,h7⟩
  ·subst h2;simp at he
  ·obtain ⟨i,hi⟩:=List.mem_iff_getElem?.1 he
   obtain ⟨j,hj⟩:=List.mem_iff_getElem?.1 hc
   obtain ⟨u,_,r2⟩:=h7 i e j c hi hj
   cases r2 <;> (unfold bd;trivial)
theorem setC_one {cs:List AV} {j:Nat} {x:AV} (h:j < cs.length) (q:Nat):(setC cs j [x])[q]?=if q=j then some x else cs[q]?:=by
 rw [setC_get (by simp;omega)]
 by_cases e:q=j
 ·subst e;rw [if_pos (by simp),if_pos rfl];simp
 ·rw [if_neg (by simp;omega),if_neg e]
theorem Rel.treOutK (h:Rel N0 base w0 m V g ob A a w) {id n k i j k2:Nat} {xs ys:List AV} {e:AV} {dst:Option Nat} (hd:∀ d,dst=some d→d < m) (hob:ob id=some (.tre k xs)) (he:xs[i]?=some e) (hj:(cellsA e)[j]?=some (.own k2 ys)) (hn:¬ A n) :
  ∃ (b o cap:Nat) (u:Value),V id=.slice (some ⟨b,o,none⟩) xs.length cap∧w.cell? ⟨b,o+(i * k+j),none⟩=some u∧u.oneCell'=true ∧
   ∃ V',Rel N0 base w0 m V' (upd g dst (.ref n)) (updO (updO ob id (.tre k (xs.set i (newElem e j [.ref n] (.ref n))))) n (.arr k2 ys)) (addA A n) (a.put dst u) w:=by
 have hlid:live ob id:=⟨_,hob,rfl⟩
 have hidA:A id:=(h.bdo id _ hob).1
 have hne:id≠n:=fun e=>hn (e ▸ hidA)
 rcases h.obs id _ hob with ⟨a',_,rfl,_⟩ | ⟨b,o,cap,arr,Ty,G,h1,h2,h3,h4,h5,h6,h7,h8,h9,h10⟩
 ·simp at he
 have hil:i < xs.length:=(List.getElem?_eq_some_iff.1 he).1
 have hek:(cellsA e).length=k:=h6 e (List.mem_of_getElem? he)
 have hjk:j < k:=by rw [← hek];exact (List.getElem?_eq_some_iff.1 hj).1
 have hce:cellsA (newElem e j [.ref n] (.ref n))=setC (cellsA e) j [.ref n]:=cellsA_newElem hek (by simp) (by simp;omega) rfl
 obtain ⟨u,q1,q2,q3,q4⟩:=h7 i _ j (.own k2 ys) he hj
 have hql:=idx_lt hjk hil
 refine ⟨b,o,cap,u,h1,by rw [cell_of_row w b _ arr Ty (0,0) h2];exact q1,q2,?_⟩
 let G':Nat→Nat→Prop:=fun q b'=>q≠i * k+j∧q < xs.length * k∧G q b'
 let f':Nat→Prop:=fun b'=>b'=b∨∃ q,q < xs.length * k∧G' q b'
 generalize hxs':xs.set i (newElem e j [.ref n] (.ref n))=xs'
 have hlx:xs'.length=xs.length:=by rw [← hxs',List.length_set]
 have hGi:∀ b',bl u b'→V.f id b':=fun b' hb'=>(h10 b').2 (.inr ⟨i * k+j,hql,(q4 b').2 hb'⟩)
 have hf':∀ b',f' b'→V.f id b':=fun b' hb'=>by
  rcases hb' with rfl | ⟨q,_,r1,r2,r3⟩
  ·exact (h10 _).2 (.inl rfl)
  ·exact (h10 _).2 (.inr ⟨q,r2,r3⟩)
 have hdis:∀ b',f' b'→bl u b'→False:=fun b' hb' hu=>by
  have hg:=(q4 b').2 hu
  rcases hb' with rfl | ⟨q,_,r1,r2,r3⟩
  ·exact (h9 _ _ hg).1 rfl
  ·exact r1 (h8 _ _ _ r3 hg)
 have hVv:∀ c,A c→setF (updV V n u) id f' c=V c:=fun c hc=>by rw [setF_v];exact updV_ne V n u (fun e=>hn (e ▸ hc))
 have hFid:(setF (updV V n u) id f').f id=f':=setF_f _ _ _
 have hFn:(setF (updV V n u) id f').f n=bl u:=by rw [setF_fne _ _ _ (Ne.symm hne),updV_f]
 have hFo:∀ c,c≠id→c≠n→(setF (updV V n u) id f').f c=V.f c:=fun c c1 c2=>by rw [setF_fne _ _ _ c1,updV_fne V n u c2]
 have hcase:∀ c o',updO (updO ob id (.tre k xs')) n (.arr k2 ys) c=some o'→(c=n∧o'=.arr k2 ys)∨(c=id∧o'=.tre k xs')∨(c≠n∧c≠id∧ob c=some o'):=fun c o' hc=>by
  unfold updO at hc
  split at hc
  ·injection hc with hc;exact .inl ⟨by assumption,hc.symm⟩
  ·split at hc
   ·injection hc with hc;exact .inr (.inl ⟨by assumption,hc.symm⟩)
   ·exact .inr (.inr ⟨by assumption,by assumption,hc⟩)
 have hlive:∀ c,live (updO (updO ob id (.tre k xs')) n (.arr k2 ys)) c→c=n∨c=id∨(c≠n∧c≠id∧live ob c):=fun c ⟨o',r1,r2⟩=>by
  rcases hcase c o' r1 with ⟨r,_⟩ | ⟨r,_⟩ | ⟨r3,r4,r5⟩
  ·exact .inl r
  ·exact .inr (.inl r)
  ·exact .inr (.inr ⟨r3,r4,o',r5,r2⟩)
 have hsub:∀ c b',live (updO (updO ob id (.tre k xs')) n (.arr k2 ys)) c→(setF (updV V n u) id f').f c b'→∃ c',live ob c'∧V.f c' b'∧(c'=c∨((c=n∨c=id)∧c'=id)):=fun c b' hl hb=>by
  rcases hlive c hl with rfl | rfl | ⟨c1,c2,hl⟩
  ·rw [hFn] at hb;exact ⟨id,hlid,hGi b' hb,.inr ⟨.inl rfl,rfl⟩⟩
  ·rw [hFid] at hb;exact ⟨_,hlid,hf' b' hb,.inl rfl⟩
  ·rw [hFo c c2 c1] at hb;exact ⟨c,hl,hb,.inl rfl⟩
 have hNf:∀ b',Nf N0 base V ob b'→b' < w.heap.size→Nf N0 base (setF (updV V n u) id f') (updO (updO ob id (.tre k xs')) n (.arr k2 ys)) b'∧w.heap[b']?=w.heap[b']?:=fun b' hN _=>⟨⟨hN.1,fun c hl hb=>by
  obtain ⟨c',r1,r2,_⟩:=hsub c b' hl hb
  exact hN.2 c' r1 r2⟩,rfl⟩
 have hrefn:RepT (Nf N0 base (setF (updV V n u) id f') (updO (updO ob id (.tre k xs')) n (.arr k2 ys))) w (setF (updV V n u) id f') (.ref n) u:=by
  have:=RepT.ref (N:=Nf N0 base (setF (updV V n u) id f') (updO (updO ob id (.tre k xs')) n (.arr k2 ys))) (w:=w) (V:=setF (updV V n u) id f') n (by rw [setF_v,updV_same];exact q2)
  rwa [setF_v,updV_same] at this
 refine ⟨setF (updV V n u) id f',Rel.put (m:=m) ⟨fun t x hx=>RepT.mono (V:=V) hNf hVv (h.tm t x hx) (h.bdt t x hx),fun c o' hc=>?_,fun c c' b' hl hl' hb hb'=>?_,fun c b' hl hb=>?_,fun t x hx=>bd_mono (fun _=>.inl) x (h.bdt t x hx),fun c o' hc=>?_,h.bel,h.bas,h.dfr,h.siz,fun c hc=>⟨.inl (h.par c hc).1,(hVv c (h.par c hc).1).trans (h.par c hc).2⟩⟩ hd ?_ (by unfold bd;exact .inr rfl)⟩
 ·rcases hcase c o' hc with ⟨rfl,rfl⟩ | ⟨rfl,rfl⟩ | ⟨r1,r2,r3⟩
  ·refine ⟨fun b'=>by rw [hFn,setF_v,updV_same],?_⟩
   rw [setF_v,updV_same]
   exact q3.mono hNf fun _ _=>rfl
  ·refine .inr ⟨b,o,cap,arr,Ty,G',by rw [setF_v,updV_ne V n u hne,hlx];exact h1,h2,h3,by rw [hlx];exact h4,h5,fun z hz=>?_,fun i' z q c' hz hq=>?_,fun q q' b' r1 r2=>h8 q q' b' r1.2.2 r2.2.2,fun q b' r1=>h9 q b' r1.2.2,fun b'=>by rw [hFid,hlx]⟩
   ·rw [← hxs'] at hz
    rcases List.mem_or_eq_of_mem_set hz with hz | rfl
    ·exact h6 z hz
    ·rw [hce,setC_len (by simp;omega)];exact hek
   ·have hi':i' < xs.length:=by rw [← hlx];exact (List.getElem?_eq_some_iff.1 hz).1
    have old:∀ {z:AV},xs[i']?=some z→(cellsA z)[q]?=some c'→¬ (i'=i∧q=j)→∃ u':Value,arr[o+(i' * k+q)]?=some u'∧u'.oneCell'=true∧RepW (Nf N0 base (setF (updV V n u) c f') (updO (updO ob c (.tre k xs')) n (.arr k2 ys))) w (setF (updV V n u) c f') (G' (i' * k+q)) c' u':=fun {z} hz hq hnn=>by
     have hqk:q < k:=by rw [← h6 z (List.mem_of_getElem? hz)];exact (List.getElem?_eq_some_iff.1 hq).1
     obtain ⟨u',r1,r2,r3⟩:=h7 _ _ _ _ hz hq
     refine ⟨u',r1,r2,?_⟩
     have:G' (i' * k+q)=G (i' * k+q):=by
      funext b'
      exact propext ⟨fun hh=>hh.2.2,fun hh=>⟨fun e=>hnn (idx_ne hqk hjk e),idx_lt hqk hi',hh⟩⟩
     rw [this]
     exact RepW.mono (V:=V) (A:=A) hNf hVv (fun _ _=>rfl) r3 (bdL_get ((h.bdo _ _ hob).2 z (List.mem_of_getElem? hz)) hq)
    rw [← hxs'] at hz
    by_cases hii:i'=i
    ·subst hii
     rw [List.getElem?_set_self hil] at hz
     injection hz with hz
     subst hz
     rw [hce,setC_one (by omega)] at hq
     by_cases hqj:q=j
     ·subst hqj
      rw [if_pos rfl] at hq
      injection hq with hq
      subst hq
      exact ⟨u,q1,q2,hrefn,fun b' hb'=>hb'.1 rfl⟩
     ·rw [if_neg hqj] at hq
      exact old he hq fun e=>hqj e.2
    ·rw [List.getElem?_set_ne (Ne.symm hii)] at hz
     exact old hz hq fun e=>hii e.1
  ·exact RepO.mono (V:=V) hNf (Nat.le_refl _) hVv (fun b'=>by rw [hFo c r2 r1]) (h.bdo c o' r3).1 (fun _ _ _=>rfl) (h.obs c o' r3) (h.bdo c o' r3).2
 ·obtain ⟨c1,r1,r2,r3⟩:=hsub c b' hl hb
  obtain ⟨c2,r4,r5,r6⟩:=hsub c' b' hl' hb'
  have hcc:=h.inj c1 c2 b' r1 r4 r2 r5
  have hmix:∀ {x y:Nat},x=n→y=id→(setF (updV V n u) id f').f x b'→(setF (updV V n u) id f').f y b'→False:=fun {x y} e1 e2 f1 f2=>by
   subst e1;subst e2
   rw [hFn] at f1;rw [hFid] at f2
   exact hdis b' f2 f1
  rcases r3 with rfl | ⟨r3 | r3,r7⟩ <;> rcases r6 with rfl | ⟨r6 | r6,r8⟩
  ·exact hcc
  ·exact (hmix r6 (hcc.trans r8) hb' hb).elim
  ·rw [r6,hcc,r8]
  ·exact (hmix r3 (hcc.symm.trans r7) hb hb').elim
  ·rw [r3,r6]
  ·exact (hmix r3 r6 hb hb').elim
  ·rw [r3,← hcc,r7]
  ·exact (hmix r6 r3 hb' hb).elim
  ·rw [r3,r6]
 ·obtain ⟨c1,r1,r2,_⟩:=hsub c b' hl hb
  exact h.low c1 b' r1 r2
 ·rcases hcase c o' hc with ⟨rfl,rfl⟩ | ⟨rfl,rfl⟩ | ⟨r1,r2,r3⟩
  ·exact ⟨.inr rfl,trivial⟩
  ·refine ⟨.inl hidA,fun z hz=>?_⟩
   rw [← hxs'] at hz
   rcases List.mem_or_eq_of_mem_set hz with hz | rfl
   ·exact bdL_mono (fun _=>.inl) _ ((h.bdo _ _ hob).2 z hz)
   ·rw [hce]
    refine bdL_iff.2 fun y hy=>?_
    obtain ⟨q,hq⟩:=List.mem_iff_getElem?.1 hy
    rw [setC_one (by omega)] at hq
    split at hq
    ·injection hq with hq;subst hq;unfold bd;exact .inr rfl
    ·exact bd_mono (fun _=>.inl) _ (bdL_get ((h.bdo _ _ hob).2 e (List.mem_of_getElem? he)) hq)
  ·exact ⟨.inl (h.bdo c o' r3).1,bdO_mono (fun _=>.inl) o' (h.bdo c o' r3).2⟩
 ·exact hrefn
theorem Rel.treBackK (h:Rel N0 base w0 m V g ob A a w) {id p k i j k2:Nat} {xs ys:List AV} {e:AV} (hob:ob id=some (.tre k xs)) (hp:ob p=some (.arr k2 ys)) (he:xs[i]?=some e) (hj:(cellsA e)[j]?=some (.ref p)) :
  ∃ V',Rel N0 base w0 m V' g (updK ob [p] id (.tre k (xs.set i (newElem e j [.own k2 ys] (.own k2 ys))))) A a w:=by
 have hlid:live ob id:=⟨_,hob,rfl⟩
 have hlp:live ob p:=⟨_,hp,rfl⟩
 have hne:id≠p:=fun e=>by subst e;rw [hob] at hp;cases hp
 obtain ⟨hp0,hpa⟩:=h.obs p _ hp
 rcases h.obs id _ hob with ⟨a',_,rfl,_⟩ | ⟨b,o,cap,arr,Ty,G,h1,h2,h3,h4,h5,h6,h7,h8,h9,h10⟩
 ·simp at he
 have hil:i < xs.length:=(List.getElem?_eq_some_iff.1 he).1
 have hek:(cellsA e).length=k:=h6 e (List.mem_of_getElem? he)
 have hjk:j < k:=by rw [← hek];exact (List.getElem?_eq_some_iff.1 hj).1
 have hce:cellsA (newElem e j [.own k2 ys] (.own k2 ys))=setC (cellsA e) j [.own k2 ys]:=cellsA_newElem hek (by simp) (by simp;omega) rfl
 obtain ⟨u,q1,q2,q3,q4⟩:=h7 i _ j (.ref p) he hj
 have hql:=idx_lt hjk hil
 have hu:u=V p:=by cases q3 with
  | im h=>cases h
  | ref _ _=>rfl
 let G':Nat→Nat→Prop:=fun q b'=>if q=i * k+j then V.f p b' else q < xs.length * k∧G q b'
 let f':Nat→Prop:=fun b'=>b'=b∨∃ q,q < xs.length * k∧G' q b'
 have hGlt:∀ q b',q < xs.length * k→G q b'→V.f id b':=fun q b' hq hb=>(h10 b').2 (.inr ⟨q,hq,hb⟩)
 have hpd:∀ b',V.f p b'→¬ V.f id b':=fun b' r1 r2=>hne (h.inj id p b' hlid hlp r2 r1)
 refine ⟨setF V id f',h.turnL (f:=f') hob rfl (by simpa using hne) (fun c hc=>by simp at hc;subst hc;exact hlp) (fun b' hb'=>?_) (Nat.le_refl _) (fun _ _ _=>rfl) rfl rfl (.same rfl rfl) (fun hN=>?_) (fun z hz=>?_)⟩
 ·rcases hb' with rfl | ⟨q,hq,hb'⟩
  ·exact .inl ((h10 _).2 (.inl rfl))
  ·simp only [G'] at hb'
   split at hb'
   ·exact .inr ⟨p,by simp,hb'⟩
   ·exact .inl (hGlt q b' hb'.1 hb'.2)
 ·refine .inr ⟨b,o,cap,arr,Ty,G',by rw [setF_v,List.length_set];exact h1,h2,h3,by simpa using h4,h5,fun z hz=>?_,fun i' z q c' hz hq=>?_,fun q q' b' r1 r2=>?_,fun q b' r1=>?_,fun b'=>by rw [setF_f,List.length_set]⟩
  ·rcases List.mem_or_eq_of_mem_set hz with hz | rfl
   ·exact h6 z hz
   ·rw [hce,setC_len (by simp;omega)];exact hek
  ·have hi':i' < xs.length:=by have:=(List.getElem?_eq_some_iff.1 hz).1;rwa [List.length_set] at this
   have old:∀ {z:AV},xs[i']?=some z→(cellsA z)[q]?=some c'→¬ (i'=i∧q=j)→∃ u':Value,arr[o+(i' * k+q)]?=some u'∧u'.oneCell'=true∧RepW (Nf N0 base (setF V id f') (updK ob [p] id (.tre k (xs.set i (newElem e j [.own k2 ys] (.own k2 ys)))))) w (setF V id f') (G' (i' * k+q)) c' u':=fun {z} hz hq hnn=>by
    have hqk:q < k:=by rw [← h6 z (List.mem_of_getElem? hz)];exact (List.getElem?_eq_some_iff.1 hq).1
    obtain ⟨u',r1,r2,r3⟩:=h7 _ _ _ _ hz hq
    refine ⟨u',r1,r2,?_⟩
    have:G' (i' * k+q)=G (i' * k+q):=by
     funext b'
     simp only [G',if_neg (fun e=>hnn (idx_ne hqk hjk e))]
     exact propext ⟨fun hh=>hh.2,fun hh=>⟨idx_lt hqk hi',hh⟩⟩
    rw [this]
    exact RepW.mono (V:=V) (A:=A) hN (fun _ _=>rfl) (fun _ _=>rfl) r3 (bdL_get ((h.bdo _ _ hob).2 z (List.mem_of_getElem? hz)) hq)
   by_cases hii:i'=i
   ·subst hii
    rw [List.getElem?_set_self hil] at hz
    injection hz with hz
    subst hz
    rw [hce,setC_one (by omega)] at hq
    by_cases hqj:q=j
    ·subst hqj
     rw [if_pos rfl] at hq
     injection hq with hq
     subst hq
     refine ⟨u,q1,q2,?_,fun b'=>?_⟩
     ·rw [hu];exact hpa.mono hN fun _ _=>rfl
     ·simp [G',hu,hp0]
    ·rw [if_neg hqj] at hq
     exact old he hq fun e=>hqj e.2
   ·rw [List.getElem?_set_ne (Ne.symm hii)] at hz
    exact old hz hq fun e=>hii e.1
  ·simp only [G'] at r1 r2
   split at r1 <;> split at r2
   ·omega
   ·exact (hpd b' r1 (hGlt _ _ r2.1 r2.2)).elim
   ·exact (hpd b' r2 (hGlt _ _ r1.1 r1.2)).elim
   ·exact h8 _ _ _ r1.2 r2.2
  ·simp only [G'] at r1
   split at r1
   ·exact ⟨fun e=>hpd b' r1 (e ▸ (h10 b).2 (.inl rfl)),(h.low p b' hlp r1).2⟩
   ·exact h9 _ _ r1.2
 ·rcases List.mem_or_eq_of_mem_set hz with hz | rfl
  ·exact (h.bdo _ _ hob).2 z hz
  ·rw [hce]
   refine bdL_iff.2 fun y hy=>?_
   obtain ⟨q,hq⟩:=List.mem_iff_getElem?.1 hy
   rw [setC_one (by omega)] at hq
   split at hq
   ·injection hq with hq;subst hq;exact bd_own _ _
   ·exact bdL_get ((h.bdo _ _ hob).2 e (List.mem_of_getElem? he)) hq
end Go.Sk
