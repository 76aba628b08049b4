/- A checker of Go functions by conditions over small pure states: part 7. -/
import Derived.Test.YtejljpjdifblpaaSk5
set_option linter.unusedVariables false
set_option linter.unusedSimpArgs false
namespace Go.Sk
open Go.RowKit
section
variable {P:Program} {T:TypeId→Option TI} {N0:Nat→Prop} {base:Nat} {w0:W0} {σ:St} {a:Act} {w:World}
def tput (σ:St) (ti:TI) (id k k' i j:Nat) (xs:List AV) (x:AV) (K:St→Prop):Prop :=
 if okA x=true∧(cellsA x).length=ti.size∧k'=k∧0 < ti.size∧j+ti.size≤k then ∃ e,xs[i]?=some e∧CalcL (xs.set i (newElem e j (cellsA x) x)) fun zs=>K (σ.setObj id (.tre k zs)) else False
def tstore (T:TypeId→Option TI) (σ:St) (t:TypeId) (id k i j k':Nat) (xs:List AV) (x:AV) (K:St→Prop):Prop :=
 match T t with
 | none=>False
 | some ti=>match x with
  | .ref p=>match σ.obj p with
   | some (.arr k2 ys)=>match k'.beq 1 with
    | true=>if p≠id∧k'=k∧ti.size=1∧j+1≤k then ∃ e,xs[i]?=some e∧CalcL (xs.set i (newElem e j [.own k2 ys] (.own k2 ys))) fun zs=>K ((σ.setObj p .dead).setObj id (.tre k zs)) else False
    | false=>tput σ ti id k k' i j xs x K
   | _=>tput σ ti id k k' i j xs x K
  | x=>tput σ ti id k k' i j xs x K
theorem repW_of {N:Nat→Prop} {V:VV} {c:AV} {u:Value} (h:RepT N w V c u):RepW N w V (fun _=>False) c u:=by
 cases c with
 | own k ys=>cases h with
  | im h=>cases h
 | _=>exact ⟨h,fun _ h=>h⟩
theorem setObj_updK1 (σ:St) (p id:Nat) (o:AO):((σ.setObj p .dead).setObj id o).obj=updK σ.obj [p] id o:=by
 rw [St.obj_setObj,St.obj_setObj]
 funext i
 simp [updK,updO]
theorem setObj_updK0 (σ:St) (id:Nat) (o:AO):(σ.setObj id o).obj=updK σ.obj [] id o:=by
 rw [St.obj_setObj]
 funext i
 simp [updK,updO]
theorem tstore_step (hT:TOK P T) {o:Oper} {t:TypeId} {p x:Operand} {id k i j k':Nat} {xs:List AV} {xv:AV} {K:St→Prop} (ho:o.op=.store t p x) (hdst:o.dst=none) (hp:σ.eval p=some (.pea id k i j)) (hx:σ.eval x=some xv) (hob:σ.obj id=some (.tre k' xs))
  (h:tstore T σ t id k i j k' xs xv K) (hr:RS N0 base w0 σ a w)
  {next:Act→World→Prop} {Q:Exit→Act→World→Prop} (hK:∀ σ' a' w',K σ'→RS N0 base w0 σ' a' w'→next a' w'):o.wp P a w next Q:=by
 obtain ⟨hpar,V,hV⟩:=hr
 obtain ⟨hrp,hbp⟩:=eval_rep hV hp
 obtain ⟨hrx,hbx⟩:=eval_rep hV hx
 unfold tstore at h
 split at h
 ·exact h.elim
 ·rename_i ti hti
  have fin:∀ {w':World} {σ':St},(Instr.storeAt t (a.eval p) (a.eval x)).run P w=.ok () w'→K σ'→RS N0 base w0 σ' a w'→o.wp P a w next Q:=fun {w' σ'} h1 h2 h3=>by
   unfold Oper.wp
   simp only [execOp,ho,Sem.run_bind,h1,Result.andThen_ok,Sem.run_pure,Oper.upon,hdst,Act.put]
   exact hK _ _ _ h2 h3
  have row:∀ {e:AV},xs[i]?=some e→k'=k→∀ {ds:List AV} {y:AV} {ks:List Nat} {gg:Nat→Nat→Prop} {σ':St},cellsA y=ds→0 < ds.length→ds.length=ti.size→j+ds.length≤k→(a.eval x).cells.size=ds.length→(∀ i,i∈ks→live σ.obj i)→id ∉ ks →
    (∀ p b',gg p b'→∃ i,i∈ks∧V.f i b')→(∀ p p' b',gg p b'→gg p' b'→p=p')→(∀ (p:Nat) (c:AV),ds[p]?=some c→∃ u,(a.eval x).cells[p]?=some u∧u.oneCell'=true∧RepW (Nf N0 base V σ.obj) w V (gg p) c u)→bdL (fun i=>i < σ.next) ds →
    σ'.obj=updK σ.obj ks id (.tre k (xs.set i (newElem e j ds y)))→σ'.get=σ.get→σ'.next=σ.next→σ'.size=σ.size→σ'.par=σ.par→K σ'→o.wp P a w next Q:=by
   intro e he hkk ds y ks gg σ' hy hL hsz hfit hvs hks hidk hgg hgd hds hbd e1 e2 e3 e4 e5 hKσ
   subst hkk
   rcases hV.obs id _ hob with ⟨a',_,rfl,_⟩ | ⟨b,o',cap,arr,Ty,G,h1,h2,h3,h4,h5,h6,h7,h8,h9,h10⟩
   ·simp at he
   generalize hv:a.eval p=pvv at hrp
   cases hrp with
   | im h=>cases h
   | pea _ _ _ _ b' o'' n c h' =>
    rw [h1] at h'
    simp only [Value.slice.injEq,Option.some.injEq,Addr.mk.injEq] at h'
    obtain ⟨⟨rfl,rfl,_⟩,_,_⟩:=h'
    have hil:i < xs.length:=(List.getElem?_eq_some_iff.1 he).1
    have hbnd:(i+1) * k'≤cap * k':=Nat.mul_le_mul_right _ (by omega)
    rw [Nat.add_mul,Nat.one_mul] at hbnd
    obtain ⟨V',hV'⟩:=hV.trePut hob h1 h2 h3 h4 h5 h6 h7 h8 h9 h10 he hy hL hfit hvs hks hidk hgg hgd hds hbd
    have hone:∀ u,u∈(a.eval x).cells.toList→u.oneCell'=true:=fun u hu=>by
     obtain ⟨q,q1,q2⟩:=List.mem_iff_getElem.1 hu
     have q3:q < ds.length:=by rw [← hvs];simpa using q1
     obtain ⟨u',r1,r2,_⟩:=hds q _ (List.getElem?_eq_getElem q3)
     rw [Array.getElem_toList] at q2
     rw [Array.getElem?_eq_getElem (by simpa using q1),q2] at r1
     injection r1 with r1;exact r1 ▸ r2
    refine fin (by rw [hv];exact run_storeAt hT hti h2 (by rw [hvs,hsz]) (by omega) hone) hKσ ⟨by rw [e5];exact hpar,V',?_⟩
    rw [e1,e2,e3,e4];exact hV'
  have plain:tput σ ti id k k' i j xs xv K→o.wp P a w next Q:=fun h=>by
   unfold tput at h
   by_cases hc:okA xv=true∧(cellsA xv).length=ti.size∧k'=k∧0 < ti.size∧j+ti.size≤k
   ·rw [if_pos hc] at h
    obtain ⟨hok,hl,hkk,hpos,hfit⟩:=hc
    obtain ⟨e,he,hKe⟩:=h
    replace hKe:=hKe.elim
    obtain ⟨c1,c2⟩:=cells_rep hok hrx
    exact row he hkk (ks:=[]) (gg:=fun _ _=>False) rfl (by omega) hl (by omega) c1 (by simp) (by simp) (fun _ _ h=>h.elim) (fun _ _ _ h=>h.elim)
     (fun p c hc=>let ⟨u,q1,q2,q3⟩:=c2 p c hc;⟨u,q1,q3,repW_of q2⟩) (bd_cells hbx) (setObj_updK0 _ _ _) rfl rfl rfl rfl hKe
   ·rw [if_neg hc] at h;exact h.elim
  split at h
  ·rename_i p'
   split at h
   ·rename_i k2 ys hob2
    split at h
    rotate_left 1
    ·exact plain h
    by_cases hc:p'≠id∧k'=k∧ti.size=1∧j+1≤k
    ·rw [if_pos hc] at h
     obtain ⟨hne,hkk,hs1,hfit⟩:=hc
     obtain ⟨e,he,hKe⟩:=h
     replace hKe:=hKe.elim
     obtain ⟨hF,hA⟩:=hV.obs p' _ hob2
     obtain ⟨hxv,hxo⟩:a.eval x=V p'∧(V p').oneCell'=true:=by
      generalize a.eval x=v at hrx
      cases hrx with
      | im h=>cases h
      | ref _ h=>exact ⟨rfl,h⟩
     have hcs:(a.eval x).cells=#[V p']:=by rw [hxv];exact cells_one hxo
     refine row he hkk (ds:=[.own k2 ys]) (y:=.own k2 ys) (ks:=[p']) (gg:=fun p b'=>p=0∧V.f p' b') rfl (by simp) (by simp [hs1]) (by simpa using hfit) (by rw [hcs];rfl) (fun c hc=>by simp at hc;subst hc;exact ⟨_,hob2,rfl⟩) (by simpa using Ne.symm hne)
      (fun p b' h=>⟨p',by simp,h.2⟩) (fun q q' b' h h'=>by rw [h.1,h'.1]) (fun p c hc=>?_) (by simp [bdL,bd]) (setObj_updK1 _ _ _ _) rfl rfl rfl rfl hKe
     cases p with
     | zero =>
      simp at hc;subst hc
      exact ⟨V p',by rw [hcs];rfl,hxo,hA,fun b'=>by simp [hF]⟩
     | succ p=>simp at hc
    ·rw [if_neg hc] at h;exact h.elim
   ·exact plain h
  ·exact plain h
def tload (P:Program) (T:TypeId→Option TI) (σ:St) (o:Oper) (t:TypeId) (id i:Nat) (xs:List AV) (K:St→Prop):Prop :=
 match T t with
 | none=>False
 | some ti=>match ti.agg with
  | true=>False
  | false=>∃ e,xs[i]?=some e∧(match e with
   | .own k2 ys=>K ((σ.setObj id (.tre 1 (xs.set i (.ref σ.next)))).after o.dst (.ref σ.next) (some (.arr k2 ys)))
   | _=>pstep P T true σ.eval σ.obj σ.next o fun x no=>K (σ.after o.dst x no))
theorem tload_step (hT:TOK P T) {o:Oper} {t:TypeId} {p:Operand} {id i:Nat} {xs:List AV} {K:St→Prop} (hd:dstOk σ o=true) (ho:o.op=.load t p) (hp:σ.eval p=some (.pea id 1 i 0)) (hob:σ.obj id=some (.tre 1 xs))
  (h:tload P T σ o t id i xs K) (hr:RS N0 base w0 σ a w)
  {next:Act→World→Prop} {Q:Exit→Act→World→Prop} (hK:∀ σ' a' w',K σ'→RS N0 base w0 σ' a' w'→next a' w'):o.wp P a w next Q:=by
 unfold tload at h
 split at h
 ·exact h.elim
 ·rename_i ti hti
  split at h
  ·exact h.elim
  ·rename_i hag
   obtain ⟨e,he,h⟩:=h
   split at h
   ·rename_i k2 ys
    obtain ⟨hpar,V,hV⟩:=hr
    obtain ⟨hrp,hbp⟩:=eval_rep hV hp
    obtain ⟨b,o',cap,u,h1,h2,h3,V',hV'⟩:=hV.treOut (dst:=o.dst) (n:=σ.next) (dstOk_spec hd) hob he (by simp)
    have hpr:PtrR (fun _=>True) w V [.v u] (a.eval p):=by
     generalize a.eval p=pvv at hrp
     cases hrp with
     | im h=>cases h
     | pea _ _ _ _ b' o'' n c h' =>
      rw [h1] at h'
      simp only [Value.slice.injEq,Option.some.injEq,Addr.mk.injEq] at h'
      obtain ⟨⟨rfl,rfl,_⟩,_,_⟩:=h'
      refine ⟨b,_,rfl,fun j c hc=>?_⟩
      cases j with
      | zero=>simp at hc;subst hc;exact ⟨u,by simpa using h2,.im (.v u h3),h3⟩
      | succ j=>simp at hc
    obtain ⟨u',h4,h5⟩:=hpr.load hT hti (x:=.v u) (by unfold partA;rw [hag];rfl)
    have hu:=eval_v h5
    subst hu
    unfold Oper.wp
    simp only [execOp,ho,Sem.run_bind,h4,Result.andThen_ok,Sem.run_pure]
    refine hK _ _ _ h ⟨hpar,V',?_⟩
    rw [St.get_after,St.obj_after,St.next_after,St.obj_setObj]
    exact hV'
   ·exact pure_step hT hd h hr hK
def tloadK (P:Program) (T:TypeId→Option TI) (σ:St) (o:Oper) (t:TypeId) (id k i j k':Nat) (xs:List AV) (K:St→Prop):Prop :=
 match k'.beq k with
 | false=>False
 | true=>∃ e,xs[i]?=some e∧(match (cellsA e)[j]? with
  | some (.own k2 ys)=>match T t with
   | none=>False
   | some ti=>match ti.agg with
    | true=>False
    | false=>K ((σ.setObj id (.tre k' (xs.set i (newElem e j [.ref σ.next] (.ref σ.next))))).after o.dst (.ref σ.next) (some (.arr k2 ys)))
  | _=>pstep P T true σ.eval σ.obj σ.next o fun x no=>K (σ.after o.dst x no))
theorem tloadK_step (hT:TOK P T) {o:Oper} {t:TypeId} {p:Operand} {id k i j k':Nat} {xs:List AV} {K:St→Prop} (hd:dstOk σ o=true) (ho:o.op=.load t p) (hp:σ.eval p=some (.pea id k i j)) (hob:σ.obj id=some (.tre k' xs))
  (h:tloadK P T σ o t id k i j k' xs K) (hr:RS N0 base w0 σ a w)
  {next:Act→World→Prop} {Q:Exit→Act→World→Prop} (hK:∀ σ' a' w',K σ'→RS N0 base w0 σ' a' w'→next a' w'):o.wp P a w next Q:=by
 unfold tloadK at h
 split at h
 ·exact h.elim
 ·rename_i hb
  have hkk:=Nat.eq_of_beq_eq_true hb
  subst hkk
  obtain ⟨e,he,h⟩:=h
  split at h
  ·rename_i k2 ys hj
   split at h
   ·exact h.elim
   ·rename_i ti hti
    split at h
    ·exact h.elim
    ·rename_i hag
     obtain ⟨hpar,V,hV⟩:=hr
     obtain ⟨hrp,hbp⟩:=eval_rep hV hp
     obtain ⟨b,o',cap,u,h1,h2,h3,V',hV'⟩:=hV.treOutK (dst:=o.dst) (n:=σ.next) (dstOk_spec hd) hob he hj (by simp)
     have hpr:PtrR (fun _=>True) w V [.v u] (a.eval p):=by
      generalize a.eval p=pvv at hrp
      cases hrp with
      | im h=>cases h
      | pea _ _ _ _ b' o'' n c h' =>
       rw [h1] at h'
       simp only [Value.slice.injEq,Option.some.injEq,Addr.mk.injEq] at h'
       obtain ⟨⟨rfl,rfl,_⟩,_,_⟩:=h'
       refine ⟨b,_,rfl,fun j c hc=>?_⟩
       cases j with
       | zero=>simp at hc;subst hc;exact ⟨u,by simpa using h2,.im (.v u h3),h3⟩
       | succ j=>simp at hc
     obtain ⟨u',h4,h5⟩:=hpr.load hT hti (x:=.v u) (by unfold partA;rw [hag];rfl)
     have hu:=eval_v h5
     subst hu
     unfold Oper.wp
     simp only [execOp,ho,Sem.run_bind,h4,Result.andThen_ok,Sem.run_pure]
     refine hK _ _ _ h ⟨hpar,V',?_⟩
     rw [St.get_after,St.obj_after,St.next_after,St.obj_setObj]
     exact hV'
  ·exact pure_step hT hd h hr hK
mutual
theorem ren_bd_inv {f:Nat→Nat} {A A':Nat→Prop} (h:∀ i,A' (f i)→A i):∀ (x:AV),bd A' (ren f x)→bd A x
 | .ref id,hb=>by unfold ren bd at hb;unfold bd;exact h _ hb
 | .ptr id _,hb=>by unfold ren bd at hb;unfold bd;exact h _ hb
 | .pea id _ _ _,hb=>by unfold ren bd at hb;unfold bd;exact h _ hb
 | .sub id _ _ _,hb=>by unfold ren bd at hb;unfold bd;exact h _ hb
 | .ag cs,hb=>by unfold ren bd at hb;unfold bd;exact renL_bd_inv h cs hb
 | .tup cs,hb=>by unfold ren bd at hb;unfold bd;exact renL_bd_inv h cs hb
 | .fn _ fs cs,hb=>by unfold ren bd at hb;unfold bd;exact ⟨renL_bd_inv h fs hb.1,renL_bd_inv h cs hb.2⟩
 | .v _,_ | .sl _,_ | .pel _,_ | .nils,_ | .skip,_ | .undef,_ | .own _ _,_=>by unfold bd;trivial
theorem renL_bd_inv {f:Nat→Nat} {A A':Nat→Prop} (h:∀ i,A' (f i)→A i):∀ (xs:List AV),bdL A' (renL f xs)→bdL A xs
 | [],_=>by unfold bdL;trivial
 | x :: r,hb=>by unfold renL bdL at hb;unfold bdL;exact ⟨ren_bd_inv h x hb.1,renL_bd_inv h r hb.2⟩
end
theorem renO_bd_inv {f:Nat→Nat} {A A':Nat→Prop} (h:∀ i,A' (f i)→A i):∀ (o:AO),bdO A' (renO f o)→bdO A o
 | .box cs,hb=>renL_bd_inv h cs hb
 | .tre k xs,hb=>fun e he=>by
  have:=hb (ren f e) (by rw [renL_eq];exact List.mem_map_of_mem he)
  rw [cellsA_ren] at this
  exact renL_bd_inv h _ this
 | .arr _ _,_ | .pub _,_ | .dead,_ | .gh _,_ | .mp _ _ _,_=>trivial
def pubA1 (ob:Nat→Option AO):AV→AV
 | .ref i=>match ob i with
  | some (.pub xs)=>.sl xs
  | _=>.ref i
 | .nils=>.sl []
 | x=>x
def pubA (ob:Nat→Option AO):AV→AV
 | .ag cs=>.ag (cs.map (pubA1 ob))
 | .nils=>.nils
 | x=>pubA1 ob x
theorem pubA1_rep {N:Nat→Prop} {V:VV} {ob:Nat→Option AO} {x:AV} {v:Value} (ho:∀ i u,ob i=some u→RepO N w V i u) (h:RepT N w V x v):RepT N w V (pubA1 ob x) v:=by
 unfold pubA1
 split
 ·rename_i i
  split
  ·rename_i xs hob
   cases h with
   | im h=>cases h
   | ref _ _=>exact .im (ho i _ hob)
  ·exact h
 ·cases h with
  | im h=>cases h
  | nils b=>exact .im (.nil b 0)
 ·exact h
theorem pubA1_bd {A:Nat→Prop} {ob:Nat→Option AO} {x:AV} (h:bd A x):bd A (pubA1 ob x):=by
 unfold pubA1
 split
 ·split
  ·simp [bd]
  ·exact h
 ·simp [bd]
 ·exact h
theorem pubA_rep {N:Nat→Prop} {V:VV} {ob:Nat→Option AO} {x:AV} {v:Value} (ho:∀ i u,ob i=some u→RepO N w V i u) (h:RepT N w V x v):RepT N w V (pubA ob x) v:=by
 unfold pubA
 split
 ·cases h with
  | im h=>cases h
  | ag cs vs hs hr hoc=>exact .ag _ vs (by simpa using hs) (fun j h1 h2=>by simpa using pubA1_rep ho (hr j (by simpa using h1) h2)) hoc
 ·exact h
 ·exact pubA1_rep ho h
theorem pubA_bd {A:Nat→Prop} {ob:Nat→Option AO} {x:AV} (h:bd A x):bd A (pubA ob x):=by
 unfold pubA
 split
 ·unfold bd at h ⊢
  refine bdL_iff.2 fun y hy=>?_
  obtain ⟨z,hz,rfl⟩:=List.mem_map.1 hy
  exact pubA1_bd (bdL_iff.1 h z hz)
 ·exact h
 ·exact pubA1_bd h
def numsOK (n:Nat):List Nat→Bool
 | []=>true
 | i :: r=>i.blt n && !(r.contains i) && numsOK n r
theorem numsOK_spec {n:Nat}:∀ {is:List Nat},numsOK n is=true→is.Nodup∧∀ i,i∈is→i < n
 | [],_=>⟨List.nodup_nil,fun i h=>by cases h⟩
 | i :: r,h=>by
  simp only [numsOK,Bool.and_eq_true,Bool.not_eq_true'] at h
  obtain ⟨⟨h1,h2⟩,h3⟩:=h
  obtain ⟨h4,h5⟩:=numsOK_spec h3
  refine ⟨List.nodup_cons.2 ⟨fun hm=>?_,h4⟩,fun j hj=>?_⟩
  ·have:=List.contains_iff_mem.2 hm
   rw [h2] at this;cases this
  ·rcases List.mem_cons.1 hj with rfl | hj
   ·exact by simpa [Nat.blt_eq] using h1
   ·exact h5 j hj
def gcall (P:Program) (σ:St) (o:Oper) (fid:FuncId) (ys:List AV) (K:St→Prop):Prop :=
 ∃ (is:List Nat) (os:List AO) (as:List AV) (x:AV) (os':List AO),(is.map σ.obj=os.map (fun o=>some (renO (rn is σ.next) o))∧as.map (ren (rn is σ.next))=ys.map (pubA σ.obj)∧numsOK σ.next is=true) ∧
  Fun P fid os as x os' ∧
  K { tmps:=(match o.dst with | some d=>(d,ren (rn is σ.next) x) :: σ.tmps | none=>σ.tmps),objs:=prs (rn is σ.next) 0 os'++σ.objs,next:=σ.next+(os'.length - os.length),size:=σ.size,par:=σ.par }
theorem look_append {α:Type}:∀ (l r:List (Nat × α)) (t:Nat),look (l++r) t=match look l t with | some x=>some x | none=>look r t
 | [],r,t=>rfl
 | (u,x) :: l,r,t=>by
  simp only [List.cons_append,look]
  split
  ·rfl
  ·exact look_append l r t
def afterCall (σ:St) (o:Oper) (is:List Nat) (os os':List AO) (x:AV):St :=
 { tmps:=(match o.dst with | some d=>(d,ren (rn is σ.next) x) :: σ.tmps | none=>σ.tmps),objs:=prs (rn is σ.next) 0 os'++σ.objs,next:=σ.next+(os'.length - os.length),size:=σ.size,par:=σ.par }
section
variable {is:List Nat} {os:List AO} {V:VV}
theorem rn_in (n:Nat) {j:Nat} (hj:j < is.length):rn is n j=is[j]:=by unfold rn;rw [List.getElem?_eq_getElem hj]
theorem rn_out (n:Nat) {j:Nat} (hj:is.length≤j):rn is n j=n+(j - is.length):=by unfold rn;rw [List.getElem?_eq_none hj]
theorem rn_inj {n:Nat} (e3:numsOK n is=true) (p q:Nat) (e:rn is n p=rn is n q):p=q:=by
 obtain ⟨hnd,hlt⟩:=numsOK_spec e3
 rcases Nat.lt_or_ge p is.length with h | h <;> rcases Nat.lt_or_ge q is.length with h' | h'
 ·rw [rn_in n h,rn_in n h'] at e
  exact (List.getElem_inj hnd).1 e
 ·rw [rn_in n h,rn_out n h'] at e
  have:=hlt _ (List.getElem_mem h);omega
 ·rw [rn_in n h',rn_out n h] at e
  have:=hlt _ (List.getElem_mem h');omega
 ·rw [rn_out n h,rn_out n h'] at e;omega
theorem rn_obj {ob:Nat→Option AO} {n:Nat} (e1:is.map ob=os.map fun o=>some (renO (rn is n) o)) (j:Nat) (o:AO) (hj:os[j]?=some o):ob (rn is n j)=some (renO (rn is n) o):=by
 have hlen:is.length=os.length:=by have:=congrArg List.length e1;simpa using this
 have hj':=(List.getElem?_eq_some_iff.1 hj).1
 have:=congrArg (·[j]?) e1
 simp only [List.getElem?_map,hj,Option.map_some,List.getElem?_eq_getElem (show j < is.length by omega)] at this
 rw [rn_in n (by omega)]
 injection this
theorem call_give (hV:Rel N0 base w0 σ.size V σ.get σ.obj (fun i=>i < σ.next) a w) {as ys:List AV} {vs:Array Value} (e1:is.map σ.obj=os.map fun o=>some (renO (rn is σ.next) o)) (e2:as.map (ren (rn is σ.next))=ys.map (pubA σ.obj))
  (e3:numsOK σ.next is=true) (h1:vs.size=ys.length) (h3:∀ (j:Nat) (h1:j < ys.length) (h2:j < vs.size),RepT (Nf N0 base V σ.obj) w V ys[j] vs[j]∧bd (fun i=>i < σ.next) ys[j]) :
  vs.size=as.length∧Own (Nf N0 base V σ.obj) (V.at (rn is σ.next)) (obL os) (ltA os.length) w∧(∀ (j:Nat) (h1:j < as.length) (h2:j < vs.size),RepT (Nf N0 base V σ.obj) w (V.at (rn is σ.next)) as[j] vs[j])∧bdL (ltA os.length) as:=by
 have hlen:is.length=os.length:=by have:=congrArg List.length e1;simpa using this
 have hal:as.length=ys.length:=by have:=congrArg List.length e2;simpa using this
 have hinv:∀ i,rn is σ.next i < σ.next→ltA os.length i:=fun i hi=>by
  unfold ltA
  rcases Nat.lt_or_ge i is.length with h | h
  ·omega
  ·rw [rn_out _ h] at hi;omega
 have hbdo:∀ (j:Nat) (o:AO),os[j]?=some o→bdO (ltA os.length) o:=fun j o hj=>renO_bd_inv hinv o (hV.bdo _ _ (rn_obj e1 j o hj)).2
 have hget:∀ (j:Nat) (h1:j < as.length) (h2:j < ys.length),ren (rn is σ.next) as[j]=pubA σ.obj ys[j]:=fun j q1 q2=>by
  have:=congrArg (·[j]?) e2
  simp only [List.getElem?_map,List.getElem?_eq_getElem q1,List.getElem?_eq_getElem q2,Option.map_some] at this
  injection this
 refine ⟨by omega,hV.give (fun a b _ _=>rn_inj e3 a b) (rn_obj e1) hbdo,fun j q1 q2=>ren_inv (V:=V.at (rn is σ.next)) (V':=V) (f:=rn is σ.next) (fun _=>rfl) (pubA_rep (fun i u hu=>hV.obs i u hu) (h3 j (by omega) q2).1) (hget j q1 (by omega)).symm,
  bdL_iff.2 fun z hz=>?_⟩
 obtain ⟨j,hj,rfl⟩:=List.mem_iff_getElem.1 hz
 refine ren_bd_inv (f:=rn is σ.next) (A':=fun i=>i < σ.next) hinv _ ?_
 rw [hget j hj (by omega)]
 exact pubA_bd (h3 j (by omega) (by omega)).2
theorem call_take {o:Oper} (hd:dstOk σ o=true) (hpar:w0.m=σ.par) (hV:Rel N0 base w0 σ.size V σ.get σ.obj (fun i=>i < σ.next) a w) (e1:is.map σ.obj=os.map fun o=>some (renO (rn is σ.next) o)) (e3:numsOK σ.next is=true)
  {w':World} {v:Value} {x:AV} {os':List AO} (hle:os.length≤os'.length) (hfr:Frm w.heap.size { w:=w,f:=foot (V.at (rn is σ.next)) (obL os) } w')
  (hout:Outc (Nf N0 base V σ.obj) w (V.at (rn is σ.next)) os w' x os' v):RS N0 base w0 (afterCall σ o is os os' x) (a.put o.dst v) w':=by
 have hlen:is.length=os.length:=by have:=congrArg List.length e1;simpa using this
 obtain ⟨V',hV'⟩:=hV.called (f:=rn is σ.next) (dst:=o.dst) (A2:=fun i=>i < σ.next+(os'.length - os.length)) (dstOk_spec hd) (fun i hi=>by omega) hle (fun a b _ _=>rn_inj e3 a b) (rn_obj e1)
  (fun j q1 q2=>by rw [rn_out _ (by omega)];exact ⟨by omega,by omega⟩) hfr hout
 refine ⟨hpar,V',?_⟩
 have e4:(afterCall σ o is os os' x).get=upd σ.get o.dst (ren (rn is σ.next) x):=by
  funext t
  unfold afterCall
  cases o.dst with
  | none=>rfl
  | some d=>simp [St.get,look,upd]
 have e5:(afterCall σ o is os os' x).obj=addL σ.obj (prs (rn is σ.next) 0 os'):=by
  funext c
  simp only [St.obj,afterCall,look_append,addL]
  cases look (prs (rn is σ.next) 0 os') c <;> rfl
 rw [e4,e5]
 exact hV'
end
structure FunX (P:Program) (f:FuncId) (os:List AO) (args:List AV) (Ψ:AV→List AO→Prop):Prop where
 en:Enters P f
 run:∀ (N:Nat→Prop) (w:World) (V:VV) (vs:Array Value),vs.size=args.length→Own N V (obL os) (ltA os.length) w →
  (∀ (j:Nat) (h1:j < args.length) (h2:j < vs.size),RepT N w V args[j] vs[j])→bdL (ltA os.length) args →
  Calls P f vs w fun e w'=>∃ v x os',Ψ x os'∧os.length≤os'.length∧e=.returned v∧Frm w.heap.size { w:=w,f:=foot V (obL os) } w'∧Outc N w V os w' x os' v
def gcallX (P:Program) (σ:St) (o:Oper) (fid:FuncId) (ys:List AV) (K:St→Prop):Prop :=
 ∃ (is:List Nat) (os:List AO) (as:List AV) (Ψ:AV→List AO→Prop),(is.map σ.obj=os.map (fun o=>some (renO (rn is σ.next) o))∧as.map (ren (rn is σ.next))=ys.map (pubA σ.obj)∧numsOK σ.next is=true) ∧
  FunX P fid os as Ψ∧∀ x os',Ψ x os' →
  K { tmps:=(match o.dst with | some d=>(d,ren (rn is σ.next) x) :: σ.tmps | none=>σ.tmps),objs:=prs (rn is σ.next) 0 os'++σ.objs,next:=σ.next+(os'.length - os.length),size:=σ.size,par:=σ.par }
theorem Fun.x {P:Program} {f:FuncId} {os os':List AO} {args:List AV} {x:AV} (h:Fun P f os args x os'):FunX P f os args fun y ys=>y=x∧ys=os' :=
 ⟨h.en,fun N w V vs h1 h2 h3 h4=>(h.run N w V vs h1 h2 h3 h4).mono fun e w' ⟨v,q1,q2,q3⟩=>⟨v,x,os',⟨rfl,rfl⟩,h.le,q1,q2,q3⟩⟩
theorem gcallX_step {o:Oper} {fid:FuncId} {ys:List AV} {K:St→Prop} (hd:dstOk σ o=true) (h:gcallX P σ o fid ys K) (hr:RS N0 base w0 σ a w)
  (hex:∀ V,Rel N0 base w0 σ.size V σ.get σ.obj (fun i=>i < σ.next) a w→∃ vs:Array Value,vs.size=ys.length∧(execOp a.eval o).run P w=(callFunc fid vs).run P w∧∀ (j:Nat) (h1:j < ys.length) (h2:j < vs.size),RepT (Nf N0 base V σ.obj) w V ys[j] vs[j]∧bd (fun i=>i < σ.next) ys[j])
  {next:Act→World→Prop} {Q:Exit→Act→World→Prop} (hK:∀ σ' a' w',K σ'→RS N0 base w0 σ' a' w'→next a' w'):o.wp P a w next Q:=by
 obtain ⟨is,os,as,Ψ,⟨e1,e2,e3⟩,⟨hen,hf⟩,hKK⟩:=h
 obtain ⟨hpar,V,hV⟩:=hr
 obtain ⟨vs,h1,h2,h3⟩:=hex V hV
 obtain ⟨g1,g2,g3,g4⟩:=call_give hV e1 e2 e3 h1 h3
 unfold Oper.wp
 rw [h2,run_callFunc hen]
 simp only [Oper.upon]
 refine (hf _ w _ vs g1 g2 g3 g4).mono ?_
 rintro e w' ⟨v,x,os',hΨ,hle,rfl,hfr,hout⟩
 exact hK _ _ _ (hKK x os' hΨ) (call_take hd hpar hV e1 e3 hle hfr hout)
theorem gcall_step {o:Oper} {fid:FuncId} {ys:List AV} {K:St→Prop} (hd:dstOk σ o=true) (h:gcall P σ o fid ys K) (hr:RS N0 base w0 σ a w)
  (hex:∀ V,Rel N0 base w0 σ.size V σ.get σ.obj (fun i=>i < σ.next) a w→∃ vs:Array Value,vs.size=ys.length∧(execOp a.eval o).run P w=(callFunc fid vs).run P w∧∀ (j:Nat) (h1:j < ys.length) (h2:j < vs.size),RepT (Nf N0 base V σ.obj) w V ys[j] vs[j]∧bd (fun i=>i < σ.next) ys[j])
  {next:Act→World→Prop} {Q:Exit→Act→World→Prop} (hK:∀ σ' a' w',K σ'→RS N0 base w0 σ' a' w'→next a' w'):o.wp P a w next Q:=by
 obtain ⟨is,os,as,x,os',e,hf,hKK⟩:=h
 exact gcallX_step hd ⟨is,os,as,_,e,hf.x,fun y ys h=>by rw [h.1,h.2];exact hKK⟩ hr hex hK
end
end Go.Sk
