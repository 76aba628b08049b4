/- A checker of Go functions by conditions over small pure states: part 16. -/
import Derived.Test.YtejljpjdifblpaaSk14
import Derived.OrdersHeld
set_option linter.unusedVariables false
set_option linter.unusedSimpArgs false
namespace Go.Sk
open Go.RowKit
structure Pin where
 t:TypeId
 id:Nat
 j:Nat
 c:AV
def pinAll (id:Nat):Nat→List AV→List Pin
 | _,[]=>[]
 | j,c :: r=>⟨0,id,j,c⟩ :: pinAll id (j+1) r
inductive PinE (a b:List (Option AV)) (X:Prop):Prop
 | mk (e:a=b) (x:X)
def pinAt (σ:St) (p:Pin):Option AV:=match σ.obj p.id with
 | some (.box cs)=>cs[p.j]?
 | _=>none
def pinV (p:Pin):Option AV:=some p.c
def pinK (L:List Pin) (σ:St) (X:Prop):Prop:=match L with
 | []=>X
 | p :: r=>PinE ((p :: r).map (pinAt σ)) ((p :: r).map pinV) X
def PinH (L:List Pin) (σ:St):Prop:=∀ p,p∈L→∃ cs,σ.obj p.id=some (.box cs)∧cs[p.j]?=some p.c
theorem pinK_iff {L:List Pin} {σ:St} {X:Prop}:pinK L σ X↔PinH L σ∧X:=by
 have key:L.map (pinAt σ)=L.map pinV↔PinH L σ:=by
  rw [List.map_inj_left]
  refine forall_congr' fun p=>forall_congr' fun _=>?_
  unfold pinAt pinV
  constructor
  ·intro h
   split at h
   ·rename_i cs hcs;exact ⟨cs,hcs,h⟩
   ·cases h
  ·rintro ⟨cs,h1,h2⟩
   rw [h1];exact h2
 unfold pinK
 split
 ·exact ⟨fun h=>⟨fun p hp=>by simp at hp,h⟩,fun h=>h.2⟩
 ·exact ⟨fun ⟨e,x⟩=>⟨key.1 e,x⟩,fun ⟨h1,h2⟩=>⟨key.2 h1,h2⟩⟩
def vcOpsP (P:Program) (T:TypeId→Option TI) (L:List Pin) (all:Array Oper):List Oper→St→(St→Prop)→Prop
 | [],σ,K=>K σ
 | o :: r,σ,K=>vcOps0 P T all [o] σ fun σ'=>pinK L σ' (vcOpsP P T L all r σ' K)
section
variable {P:Program} {T:TypeId→Option TI} {N0:Nat→Prop} {base:Nat} {w0:W0}
theorem oS_old {rs:List (AV × Option AO)} {n:Nat} {listed:Array Bool} {ob:Nat→Option AO} {id:Nat} (h:id < n):oS rs n listed ob id=ob id:=by unfold oS;rw [if_neg (by omega)]
theorem suf_anyH {S:World→Prop} {L:List Pin} (hT:TOK P T) {ops:Array Oper} {k:Nat} (hsuf:∀ j,j < ops.size→k≤j→∀ i,i < j→i∈(ancs ops.toList).getD j []) (hedge:∀ (j:Nat) (o:Oper),ops[j]?=some o→∀ e∈o.after,Region.binds .any e=true→e.on < j)
  {K:St→Prop} {Q:Exit→Act→World→Prop} (hS:∀ σ' a' w',PinH L σ'→RS N0 base w0 σ' a' w'→S w') (hK:∀ σ' a' w',K σ'→RS N0 base w0 σ' a' w'→Q .normal a' w') :
  ∀ (fuel i:Nat) (listed:Array Bool) (σ:St) (a:Act) (w:World),ops.size - i≤fuel→k≤i→i≤ops.size→listed.size=ops.size→Closed ops listed→(∀ q,q < ops.size→(listed.getD q false=true↔q < i)) →
   vcOpsP P T L ops (ops.toList.drop i) σ K→RS N0 base w0 σ a w→wpAnyH P .any ops Q S fuel listed a w:=by
 have hgd:∀ {listed:Array Bool} {q:Nat},listed.size=ops.size→q < ops.size→listed.getD q true=listed.getD q false:=fun h1 h2=>by
  simp [h1,h2]
 have hready:∀ {listed:Array Bool} {i:Nat},k≤i→listed.size=ops.size→Closed ops listed→(∀ q,q < ops.size→(listed.getD q false=true↔q < i))→∀ j,j∈Region.ready .any ops listed→j=i:=by
  intro listed i hki hsz hcl hl j hj
  obtain ⟨h1,o,ho,hall⟩:=mem_ready.1 hj
  have hjs:j < ops.size:=(Array.getElem?_eq_some_iff.1 ho).1
  rw [hgd hsz hjs] at h1
  have hij:¬ j < i:=fun h=>by rw [(hl j hjs).2 h] at h1;cases h1
  by_cases hji:i < j
  ·have:=ancs_listed hcl ops.toList.length (Nat.le_refl _) j o (by simpa using hjs) ho hall i (by rw [List.take_length];exact hsuf j hjs (by omega) i hji)
   have:=(hl i (by omega)).1 this
   omega
  ·omega
 intro fuel
 induction fuel with
 | zero =>
  intro i listed σ a w hf hki his hsz hcl hl hv hr
  have hie:i=ops.size:=by omega
  subst hie
  rw [show ops.toList.drop ops.size=[] from List.drop_eq_nil_of_le (by simp)] at hv
  refine ⟨?_,hK _ _ _ hv hr⟩
  refine List.eq_nil_iff_forall_not_mem.2 fun j hj=>?_
  have:=hready hki hsz hcl hl j hj
  obtain ⟨_,o,ho,_⟩:=mem_ready.1 hj
  have:=(Array.getElem?_eq_some_iff.1 ho).1
  omega
 | succ fuel ih =>
  intro i listed σ a w hf hki his hsz hcl hl hv hr
  refine ⟨fun hnil=>?_,fun j hj=>?_⟩
  ·by_cases hie:i=ops.size
   ·subst hie
    rw [show ops.toList.drop ops.size=[] from List.drop_eq_nil_of_le (by simp)] at hv
    exact hK _ _ _ hv hr
   ·have hil:i < ops.size:=by omega
    have:i∈Region.ready .any ops listed:=mem_ready.2 ⟨by
     rw [hgd hsz hil]
     cases h:listed.getD i false with
     | false=>rfl
     | true=>have:=(hl i hil).1 h;omega,_,Array.getElem?_eq_getElem hil,fun e he hbi=>(hl _ (by have:=hedge i _ (Array.getElem?_eq_getElem hil) e he hbi;omega)).2 (hedge i _ (Array.getElem?_eq_getElem hil) e he hbi)⟩
    rw [hnil] at this
    cases this
  ·obtain rfl:=hready hki hsz hcl hl j hj
   have hcl':=closed_set hcl hj
   obtain ⟨_,o,ho,_⟩:=mem_ready.1 hj
   have hjs:j < ops.size:=(Array.getElem?_eq_some_iff.1 ho).1
   have hoe:ops.toList[j]'(by simpa using hjs)=o:=by
    rw [Array.getElem_toList]
    rw [Array.getElem?_eq_getElem hjs] at ho
    injection ho
   rw [List.drop_eq_getElem_cons (by simpa using hjs),hoe] at hv
   have next:∀ {σ':St} {a':Act} {w':World},pinK L σ' (vcOpsP P T L ops (ops.toList.drop (j+1)) σ' K)→RS N0 base w0 σ' a' w'→S w'∧wpAnyH P .any ops Q S fuel (listed.setIfInBounds j true) a' w':=fun h0 h2 =>
    have h1:=(pinK_iff.1 h0).2
    ⟨hS _ _ _ (pinK_iff.1 h0).1 h2,ih (j+1) _ _ _ _ (by omega) (by omega) (by omega) (by simpa using hsz) hcl' (fun q hq=>by
     by_cases hjq:j=q
     ·subst hjq;simp [hsz,hjs]
     ·rw [getD_set_ne false hjq,hl q hq];omega) h1 h2⟩
   unfold wpOp
   rw [ho]
   have hone:=vcOps0_sound (N0:=N0) (base:=base) (w0:=w0) hT (all:=ops) (ops:=[o]) (σ:=σ) (K:=fun σ'=>pinK L σ' (vcOpsP P T L ops (ops.toList.drop (j+1)) σ' K)) (a:=a) (w:=w)
    (Q:=fun e a' w'=>match e with | .normal=>S w'∧wpAnyH P .any ops Q S fuel (listed.setIfInBounds j true) a' w' | e=>Q e a' w') hv hr (fun σ' a' w' h1 h2=>next h1 h2)
   unfold wpList at hone
   simp only
   split at hone
   ·rename_i hw
    rw [if_pos hw]
    rcases hone with hone | ⟨h1,a0,w0',h2⟩
    ·left
     unfold Oper.wp at hone ⊢
     generalize (execOp a.eval o).run P w=r at hone ⊢
     cases r with
     | ok n w' =>
      cases n <;> simp only [Oper.upon,wpList] at hone ⊢ <;> exact hone
     | halt x w'=>cases x <;> simp only [Oper.upon] at hone ⊢ <;> exact hone
    ·exact .inr ⟨h1,a0,w0',h2⟩
   ·rename_i hw
    rw [if_neg hw]
    exact hone
theorem pre_anyH {S:World→Prop} {L:List Pin} (hT:TOK P T) {ops:Array Oper} {k:Nat} (hk:k≤ops.size) (hF:PreF ops k) (hsuf:∀ j,j < ops.size→k≤j→∀ i,i < j→i∈(ancs ops.toList).getD j [])
  {σ σ0 σ1:St} (hσ0:σ0.get=σ.get∧σ0.obj=σ.obj∧σ0.size=σ.size∧σ0.next=σ.next+k) {rs:List (AV × Option AO)} (hG:Gen P ops ⟨σ.obj,σ.next⟩ (ops.toList.take k) σ.next σ0 rs σ1) (hpar:w0.m=σ1.par) (hobn:∀ i u,σ.obj i=some u→i < σ.next)
  {K:St→Prop} (hv:vcOpsP P T L ops (ops.toList.drop k) σ1 K) (hL:∀ p,p∈L→p.id < σ.next) (hS0:∀ V g ob' A a' w',Rel N0 base w0 σ.size V g ob' A a' w'→(∀ p,p∈L→ob' p.id=σ.obj p.id)→S w') (hS:∀ σ' a' w',PinH L σ'→RS N0 base w0 σ' a' w'→S w') {Q:Exit→Act→World→Prop} (hK:∀ σ' a' w',K σ'→RS N0 base w0 σ' a' w'→Q .normal a' w') :
  ∀ (fuel:Nat) (listed:Array Bool) (a:Act) (w:World),cnt listed≤fuel→listed.size=ops.size→Closed ops listed→(∀ i,k≤i→listed.getD i false=false) →
   (∃ V,Rel N0 base w0 σ.size V (gS (ops.toList.take k) rs listed σ.get) (oS rs σ.next listed σ.obj) (aS σ.next listed) a w)→wpAnyH P .any ops Q S fuel listed a w:=by
 obtain ⟨hlen,hend1,hend2,hend3,hend4⟩:=hG.end
 rw [hσ0.1] at hend1
 rw [hσ0.2.1] at hend2
 have hplen:(ops.toList.take k).length=k:=by simp;omega
 have hpre:∀ {i:Nat},i < k→(ops.toList.take k)[i]?=ops[i]?:=fun hi=>by rw [take_get hi];simp
 have huniq:∀ {t i j:Nat} {o:Oper},dstIdx (ops.toList.take k) t=some i→(ops.toList.take k)[j]?=some o→o.dst=some t→j=i:=by
  intro t i j o hi hj hd
  have hjk:j < k:=by have:=(List.getElem?_eq_some_iff.1 hj).1;omega
  obtain ⟨d,h1,h2⟩:=hF.dst j o hjk (by rw [← hpre hjk];exact hj)
  rw [hd] at h1
  injection h1 with h1
  subst h1
  rw [h2] at hi
  injection hi
 have hik:∀ {t i:Nat},dstIdx (ops.toList.take k) t=some i→i < k:=fun hi=>by
  obtain ⟨o,h1,_⟩:=dstIdx_some hi
  have:=(List.getElem?_eq_some_iff.1 h1).1
  omega
 have hgd:∀ {listed:Array Bool} {q:Nat},listed.size=ops.size→q < ops.size→listed.getD q true=listed.getD q false:=fun h1 h2=>by simp [h1,h2]
 intro fuel
 induction fuel with
 | zero =>
  intro listed a w hc hsz hcl hun hr
  have hall:∀ i,i < ops.size→listed.getD i false=true:=fun i hi=>by
   cases h:listed.getD i false with
   | true=>rfl
   | false =>
    have:=cnt_set (listed:=listed) (i:=i) (by rw [hgd hsz hi];exact h)
    omega
  have hke:k=ops.size:=by
   rcases Nat.lt_or_ge k ops.size with h | h
   ·have h1:=hall k h
    rw [hun k (Nat.le_refl _)] at h1
    cases h1
   ·omega
  refine suf_anyH hT hsuf hF.edge hS hK 0 k listed σ1 a w (by omega) (Nat.le_refl _) hk hsz hcl (fun q hq=>⟨fun _=>by omega,fun _=>hall q hq⟩) hv ?_
  obtain ⟨V,hV⟩:=hr
  refine ⟨hpar,V,?_⟩
  have hobj:σ1.obj=oS rs σ.next listed σ.obj:=by
   rw [hend2];funext id
   rw [objOf_get hlen,hplen]
   unfold oS
   by_cases hid:σ.next≤id∧id < σ.next+k
   ·rw [if_pos hid,if_pos ⟨hid.1,hall _ (by omega)⟩]
    try (cases (rs[id - σ.next]?).bind (·.2) <;> rfl)
   ·rw [if_neg hid]
    split
    ·rename_i h2
     have:rs[id - σ.next]?=none:=List.getElem?_eq_none (by omega)
     rw [this];rfl
    ·rfl
  rw [hobj,hend4,hσ0.2.2.1]
  refine (hV.weakA (A':=fun i=>i < σ1.next) fun i hi=>?_).less fun t x hx=>?_
  ·rw [hend3,hσ0.2.2.2]
   rcases hi with hi | ⟨h1,h2⟩
   ·omega
   ·rcases Nat.lt_or_ge (i - σ.next) k with h3 | h3
    ·omega
    ·rw [hun _ h3] at h2;cases h2
  ·rw [hend1] at hx
   unfold gS
   split
   ·rename_i i hi
    obtain ⟨o,h1,h2⟩:=dstIdx_some hi
    have h3:i < rs.length:=by have:=hik hi;omega
    rw [valOf_some h1 h2 (List.getElem?_eq_getElem h3) (fun j o' hj hd=>huniq hi hj hd)] at hx
    rw [if_pos (hall i (by have:=hik hi;omega)),List.getElem?_eq_getElem h3]
    exact hx
   ·rename_i hi
    rw [valOf_none (dstIdx_none hi)] at hx
    exact hx
 | succ fuel ih =>
  intro listed a w hc hsz hcl hun hr
  by_cases hall:∀ i,i < k→listed.getD i false=true
  ·refine suf_anyH hT hsuf hF.edge hS hK (fuel+1) k listed σ1 a w ?_ (Nat.le_refl _) hk hsz hcl (fun q hq=>⟨fun h=>(by
     rcases Nat.lt_or_ge q k with h' | h'
     ·exact h'
     ·rw [hun q h'] at h;cases h),fun h=>hall q h⟩) hv ?_
   ·
    have:ops.size - k≤cnt listed:=by
     unfold cnt
     rw [hsz]
     have hsub:(List.range' k (ops.size - k)).length≤((List.range ops.size).filter fun i=>!listed.getD i true).length:=by
      refine List.Sublist.length_le ?_
      have h1:(List.range' k (ops.size - k)).filter (fun i=>!listed.getD i true)=List.range' k (ops.size - k):=by
       rw [List.filter_eq_self]
       intro q hq
       have hq':=List.mem_range'_1.1 hq
       rw [hgd hsz (by omega),hun q hq'.1];rfl
      rw [← h1]
      refine List.Sublist.filter _ ?_
      rw [List.range_eq_range']
      have:List.range' 0 ops.size=List.range' 0 k++List.range' k (ops.size - k):=by
       rw [show ops.size=k+(ops.size - k) by omega,← List.range'_append_1]
       simp
      rw [this]
      exact List.sublist_append_right _ _
     simpa using hsub
    omega
   ·obtain ⟨V,hV⟩:=hr
    refine ⟨hpar,V,?_⟩
    have hobj:σ1.obj=oS rs σ.next listed σ.obj:=by
     rw [hend2];funext id
     rw [objOf_get hlen,hplen]
     unfold oS
     by_cases hid:σ.next≤id∧id < σ.next+k
     ·rw [if_pos hid,if_pos ⟨hid.1,hall _ (by omega)⟩]
      try (cases (rs[id - σ.next]?).bind (·.2) <;> rfl)
     ·rw [if_neg hid]
      split
      ·rename_i h2
       have:rs[id - σ.next]?=none:=List.getElem?_eq_none (by omega)
       rw [this];rfl
      ·rfl
    rw [hobj,hend4,hσ0.2.2.1]
    refine (hV.weakA (A':=fun i=>i < σ1.next) fun i hi=>?_).less fun t x hx=>?_
    ·rw [hend3,hσ0.2.2.2]
     rcases hi with hi | ⟨h1,h2⟩
     ·omega
     ·rcases Nat.lt_or_ge (i - σ.next) k with h3 | h3
      ·omega
      ·rw [hun _ h3] at h2;cases h2
    ·rw [hend1] at hx
     unfold gS
     split
     ·rename_i i hi
      obtain ⟨o,h1,h2⟩:=dstIdx_some hi
      have h3:i < rs.length:=by have:=hik hi;omega
      rw [valOf_some h1 h2 (List.getElem?_eq_getElem h3) (fun j o' hj hd=>huniq hi hj hd)] at hx
      rw [if_pos (hall i (hik hi)),List.getElem?_eq_getElem h3]
      exact hx
     ·rename_i hi
      rw [valOf_none (dstIdx_none hi)] at hx
      exact hx
  ·
   have hex:∃ i,i < k∧listed.getD i false=false:=by
    refine Classical.byContradiction fun hno=>hall fun i hi=>?_
    cases h:listed.getD i false with
    | true=>rfl
    | false=>exact absurd ⟨i,hi,h⟩ hno
   obtain ⟨i0,⟨hi0,hf0⟩,hmin⟩:=exists_least hex
   have hready0:i0∈Region.ready .any ops listed:=mem_ready.2 ⟨(by rw [hgd hsz (by omega)];exact hf0),_,Array.getElem?_eq_getElem (by omega),fun e he hbi=>by
    have hlt:=hF.edge i0 _ (Array.getElem?_eq_getElem (by omega)) e he hbi
    cases h:listed.getD e.on false with
    | true=>rfl
    | false=>have:=hmin e.on ⟨by omega,h⟩;omega⟩
   refine ⟨fun hnil=>(by rw [hnil] at hready0;cases hready0),fun j hj=>?_⟩
   obtain ⟨h1,o,ho,hpred⟩:=mem_ready.1 hj
   have hjs:j < ops.size:=(Array.getElem?_eq_some_iff.1 ho).1
   rw [hgd hsz hjs] at h1
   have hjk:j < k:=by
    rcases Nat.lt_or_ge j k with h | h
    ·exact h
    ·have:=ancs_listed hcl ops.toList.length (Nat.le_refl _) j o (by simpa using hjs) ho hpred i0 (by rw [List.take_length];exact hsuf j hjs h i0 (by omega))
     rw [hf0] at this;cases this
   have hcl':=closed_set hcl hj
   have hsz':(listed.setIfInBounds j true).size=ops.size:=by simpa using hsz
   have hcnt':cnt (listed.setIfInBounds j true)≤fuel:=by
    have:=cnt_set (listed:=listed) (i:=j) (by rw [hgd hsz hjs];exact h1)
    omega
   have hun':∀ i,k≤i→(listed.setIfInBounds j true).getD i false=false:=fun i hi=>by rw [getD_set_ne false (by omega)];exact hun i hi
   have hself:(listed.setIfInBounds j true).getD j false=true:=by simp [hsz,hjs]
   have hpj:(ops.toList.take k)[j]?=some o:=by rw [hpre hjk];exact ho
   have hjl:j < (ops.toList.take k).length:=by omega
   have hjr:j < rs.length:=by omega
   have hoj:(ops.toList.take k)[j]=o:=by rw [List.getElem?_eq_getElem hjl] at hpj;injection hpj
   obtain ⟨σj,hgood,hgj,hszj,hobj⟩:=hG.at j hjl hjr
   rw [hoj] at hgood
   rw [hσ0.1] at hgj
   rw [hσ0.2.2.1] at hszj
   obtain ⟨d,hd1,hd2⟩:=hF.dst j o hjk ho
   obtain ⟨V,hV⟩:=hr
   have agree:∀ t,(∀ i,dstIdx (ops.toList.take k) t=some i→afterB o i=true)→gS (ops.toList.take k) rs listed σ.get t=σj.get t:=by
    intro t ht
    rw [hgj]
    unfold gS
    split
    ·rename_i i hi
     have hab:=ht i hi
     have hli:=after_of hab hpred
     have hij:i < j:=by
      unfold afterB at hab
      rw [List.any_eq_true] at hab
      obtain ⟨e,h3,h4⟩:=hab
      simp only [Bool.and_eq_true,beq_iff_eq] at h4
      have:=hF.edge j o ho e (by simpa using h3) h4.1
      omega
     obtain ⟨oi,q1,q2⟩:=dstIdx_some hi
     have hir:i < rs.length:=by have:=hik hi;omega
     rw [if_pos hli,valOf_some (i:=i) (o:=oi) (x:=rs[i]) (by rw [take_get hij];exact q1) q2 (by rw [take_get hij];exact List.getElem?_eq_getElem hir) (fun j' o' hj' hd'=>by
      have hlt:j' < j:=by have:=(List.getElem?_eq_some_iff.1 hj').1;simp at this;omega
      rw [take_get hlt] at hj'
      exact huniq hi hj' hd')]
     rw [List.getElem?_eq_getElem hir];rfl
    ·rename_i hi
     rw [valOf_none fun o' ho'=>dstIdx_none hi o' (List.mem_of_mem_take ho')]
   have hwant:∀ b,wantA ops σj o=some b→Region.wanted o (yielded ops a.tmps)=b:=by
    intro b hb
    unfold wantA at hb
    unfold Region.wanted
    split at hb
    ·rename_i hg;rw [hg];injection hb
    ·rename_i g want hg
     rw [hg]
     simp only
     split at hb
     ·cases hb
     ·rename_i d' hd'
      obtain ⟨y1,y2⟩:=yielded_rel hV hd'
      have hag:=agree d' fun i hi=>hF.guard j o hjk ho g want d' hg hd' i hi
      split at hb
      ·rename_i b' hb'
       have hbb:=Option.some.inj hb
       subst hbb
       rw [y1 b' (by rw [hag];exact hb')]
       cases b' <;> cases want <;> rfl
      ·rename_i hb'
       have hbb:=Option.some.inj hb
       subst hbb
       rw [y2 (by rw [hag];exact hb')]
       rfl
      ·cases hb
   have hgS':∀ x,rs[j].1=x→gS (ops.toList.take k) rs (listed.setIfInBounds j true) σ.get=upd (gS (ops.toList.take k) rs listed σ.get) o.dst x:=by
    intro x hx
    funext t
    unfold upd
    rw [hd1]
    by_cases htd:d=t
    ·subst htd
     rw [if_pos rfl]
     unfold gS
     simp only [hd2,hself,if_true,List.getElem?_eq_getElem hjr,Option.map_some,hx]
    ·rw [if_neg (fun e=>htd (by injection e))]
     unfold gS
     split
     ·rename_i i hi
      have hne:j≠i:=fun e=>by
       subst e
       obtain ⟨oi,q1,q2⟩:=dstIdx_some hi
       rw [hpj] at q1
       injection q1 with q1
       subst q1
       rw [hd1] at q2
       injection q2 with q2
       exact htd q2
      rw [getD_set_ne false hne]
     ·rfl
   have hoS':∀ no,rs[j].2=no→oS rs σ.next (listed.setIfInBounds j true) σ.obj=updN (oS rs σ.next listed σ.obj) (σ.next+j) no:=by
    intro no hno
    funext id
    by_cases hid:id=σ.next+j
    ·subst hid
     have e1:σ.next+j - σ.next=j:=by omega
     have hl:oS rs σ.next (listed.setIfInBounds j true) σ.obj (σ.next+j)=match no with | some o=>some o | none=>σ.obj (σ.next+j):=by
      unfold oS
      rw [e1,if_pos ⟨by omega,hself⟩,List.getElem?_eq_getElem hjr]
      simp only [Option.bind_some,hno]
      cases no <;> rfl
     have hl2:oS rs σ.next listed σ.obj (σ.next+j)=σ.obj (σ.next+j):=by
      unfold oS
      rw [e1,if_neg (fun h=>by rw [h1] at h;cases h.2)]
     rw [hl]
     cases no with
     | none=>exact hl2.symm
     | some o'=>simp [updN,updO]
    ·have hl:oS rs σ.next (listed.setIfInBounds j true) σ.obj id=oS rs σ.next listed σ.obj id:=by
      unfold oS
      by_cases hn:σ.next≤id
      ·rw [getD_set_ne false (by omega)]
      ·rw [if_neg (fun h=>hn h.1),if_neg (fun h=>hn h.1)]
     rw [hl]
     cases no with
     | none=>rfl
     | some o'=>simp [updN,updO,hid]
   have haS':∀ i,aS σ.next listed i→aS σ.next (listed.setIfInBounds j true) i:=fun i hi=>by
    rcases hi with hi | ⟨q1,q2⟩
    ·exact .inl hi
    ·exact .inr ⟨q1,getD_set_true q2⟩
   have hdok:∀ d',o.dst=some d'→d' < σ.size:=fun d' hd'=>by rw [← hszj];exact dstOk_spec hgood.1 d' hd'
   unfold wpOp
   rw [ho]
   simp only
   rcases hgood.2 with ⟨hw,hok⟩ | ⟨hw,hskip⟩
   ·rw [if_pos (hwant true hw)]
    left
    refine hok hV (fun y hy=>?_) (fun i u hu=>?_) (fun hA=>?_) hdok _ Q fun a' w' V' hV'=>?_
    ·cases y with
     | tmp t=>exact agree t fun i hi=>hF.look j o hjk ho t (by
       unfold tmpsOf
       rw [List.mem_filterMap]
       exact ⟨.tmp t,by simpa using hy,rfl⟩) i hi
     | _=>rfl
    ·unfold Vis.of at hu
     simp only at hu
     split at hu
     ·rename_i u' hu'
      injection hu with hu
      subst hu
      have:=hobn i u' hu'
      unfold oS
      rw [if_neg (by omega)]
      exact hu'
     ·rename_i hnone
      split at hu
      ·rename_i hc
       rw [Bool.and_eq_true,decide_eq_true_eq] at hc
       have hab:=hc.2
       have hli:=after_of hab hpred
       have hij:i - σ.next < j:=by
        unfold afterB at hab
        rw [List.any_eq_true] at hab
        obtain ⟨e,h3,h4⟩:=hab
        simp only [Bool.and_eq_true,beq_iff_eq] at h4
        have:=hF.edge j o ho e (by simpa using h3) h4.1
        omega
       rw [hobj,objOf_get (by rw [List.length_take,List.length_take];omega),hσ0.2.1] at hu
       rw [if_pos ⟨hc.1,by rw [List.length_take];omega⟩,take_get hij] at hu
       unfold oS
       rw [if_pos ⟨hc.1,hli⟩]
       exact hu
      ·cases hu
    ·rcases hA with hA | ⟨_,hA⟩
     ·omega
     ·rw [show σ.next+j - σ.next=j by omega,h1] at hA;cases hA
    ·suffices hRR:Rel N0 base w0 σ.size V' (gS (ops.toList.take k) rs (listed.setIfInBounds j true) σ.get) (oS rs σ.next (listed.setIfInBounds j true) σ.obj) (aS σ.next (listed.setIfInBounds j true)) a' w' by
      exact ⟨hS0 _ _ _ _ _ _ hRR fun p hp=>oS_old (hL p hp),ih _ _ _ hcnt' hsz' hcl' hun' ⟨V',hRR⟩⟩
     rw [hgS' _ rfl,hoS' _ rfl]
     refine hV'.weakA fun i hi=>?_
     cases hno:rs[j].2 with
     | none=>rw [hno] at hi;exact haS' i hi
     | some o' =>
      rw [hno] at hi
      rcases hi with hi | rfl
      ·exact haS' i hi
      ·exact .inr ⟨by omega,by rw [show σ.next+j - σ.next=j by omega];exact hself⟩
   ·rw [if_neg (by rw [hwant false hw];simp)]
    have hRR:Rel N0 base w0 σ.size V (gS (ops.toList.take k) rs (listed.setIfInBounds j true) σ.get) (oS rs σ.next (listed.setIfInBounds j true) σ.obj) (aS σ.next (listed.setIfInBounds j true)) (a.put o.dst undef) w:=by
     rw [hgS' .skip (by rw [hskip]),hoS' none (by rw [hskip])]
     exact (hV.put hdok .skip (by simp [bd])).weakA haS'
    exact ⟨hS0 _ _ _ _ _ _ hRR fun p hp=>oS_old (hL p hp),ih _ _ _ hcnt' hsz' hcl' hun' ⟨V,hRR⟩⟩
def pinC (V:Nat→Value):AV→Option Value
 | .v x=>some x
 | .ref i=>some (V i)
 | _=>none
def pinIds:List Pin→List Nat
 | []=>[]
 | p :: r=>match p.c with
  | .ref i=>p.id :: i :: pinIds r
  | _=>p.id :: pinIds r
def pinS (V:Nat→Value) (L:List Pin) (w:World):Prop :=
 ∀ p,p∈L→∀ b o,V p.id=.pointer (some ⟨b,o,none⟩)→∀ u,pinC V p.c=some u→w.cell? ⟨b,o+p.j,none⟩=some u
theorem pinIds_id:∀ {L:List Pin} {p:Pin},p∈L→p.id∈pinIds L
 | q :: r,p,h=>by
  have ih:=fun h'=>pinIds_id (L:=r) (p:=p) h'
  unfold pinIds
  rcases List.mem_cons.1 h with rfl | h
  ·split <;> simp
  ·split <;> simp [ih h]
theorem pinIds_ref:∀ {L:List Pin} {p:Pin} {i:Nat},p∈L→p.c=.ref i→i∈pinIds L
 | q :: r,p,i,h,hc=>by
  have ih:=fun h'=>pinIds_ref (L:=r) (p:=p) h' hc
  unfold pinIds
  rcases List.mem_cons.1 h with rfl | h
  ·rw [hc];simp
  ·split <;> simp [ih h]
theorem pinIds_lt {N0:Nat→Prop} {base:Nat} {w0:W0} {m:Nat} {V:VV} {g:Nat→Option AV} {ob:Nat→Option AO} {A:Nat→Prop} {a:Act} {w:World} (hr:Rel N0 base w0 m V g ob A a w) :
  ∀ {L:List Pin},(∀ p,p∈L→∃ cs,ob p.id=some (.box cs)∧cs[p.j]?=some p.c)→∀ i,i∈pinIds L→A i
 | [],_,i,hi=>by simp [pinIds] at hi
 | q :: r,hL,i,hi=>by
  have ih:=pinIds_lt hr (L:=r) (fun p hp=>hL p (List.mem_cons_of_mem _ hp)) i
  obtain ⟨cs,h1,h2⟩:=hL q (by simp)
  have hb:=hr.bdo _ _ h1
  unfold pinIds at hi
  split at hi
  ·rename_i k hk
   rcases List.mem_cons.1 hi with rfl | hi
   ·exact hb.1
   ·rcases List.mem_cons.1 hi with rfl | hi
    ·have:=bdL_get hb.2 h2
     rw [hk] at this
     simpa [bd] using this
    ·exact ih hi
  ·rcases List.mem_cons.1 hi with rfl | hi
   ·exact hb.1
   ·exact ih hi
theorem rep_pinC {N:Nat→Prop} {w:World} {V:VV} {c:AV} {u u':Value} (h:RepT N w V c u') (hc:pinC V.v c=some u):u'=u:=by
 cases c with
 | v x=>rw [eval_v h];injection hc
 | ref i =>
  injection hc with hc
  cases h with
  | im h=>cases h
  | ref _ _=>exact hc
 | _=>cases hc
theorem pin_cell {m:Nat} {V:VV} {g:Nat→Option AV} {ob:Nat→Option AO} {A:Nat→Prop} {a:Act} {w:World} (hr:Rel N0 base w0 m V g ob A a w) {p:Pin} {cs:List AV} (h1:ob p.id=some (.box cs)) (h2:cs[p.j]?=some p.c) :
  ∃ b u,V p.id=.pointer (some ⟨b,0,none⟩)∧w.cell? ⟨b,0+p.j,none⟩=some u∧RepT (Nf N0 base V ob) w V p.c u:=by
 obtain ⟨_,b,arr,Ty,h3,h4,h5,h6⟩:=hr.obs _ _ h1
 obtain ⟨u,h7,h8,_⟩:=h6 _ _ h2
 refine ⟨b,u,h3,?_,h8⟩
 simp [World.cell?,h4,h7]
theorem pinS_of {m:Nat} {V:VV} {g:Nat→Option AV} {ob:Nat→Option AO} {A:Nat→Prop} {a:Act} {w:World} {L:List Pin} (hr:Rel N0 base w0 m V g ob A a w) (hL:∀ p,p∈L→∃ cs,ob p.id=some (.box cs)∧cs[p.j]?=some p.c)
  (hm:∀ i,i∈pinIds L→i∈w0.m):pinS w0.v L w:=by
 intro p hp b o hb u hu
 obtain ⟨cs,h1,h2⟩:=hL p hp
 obtain ⟨b',u',h3,h4,h5⟩:=pin_cell hr h1 h2
 have e1:=(hr.par _ (hm _ (pinIds_id hp))).2
 rw [e1,hb] at h3
 injection h3 with h3
 injection h3 with h3
 injection h3 with h3 h3o
 subst h3 h3o
 rw [h4]
 congr 1
 refine rep_pinC h5 ?_
 cases hc:p.c with
 | v x=>rw [hc] at hu;exact hu
 | ref i =>
  rw [hc] at hu
  have e2:=(hr.par _ (hm _ (pinIds_ref hp hc))).2
  simp only [pinC,Option.some.injEq] at hu ⊢
  rw [← hu];exact e2
 | _=>rw [hc] at hu;cases hu
def findPin (id j:Nat):List Pin→Option AV
 | []=>none
 | p :: r=>match Nat.beq p.id id && Nat.beq p.j j with
  | true=>some p.c
  | false=>findPin id j r
theorem findPin_mem {id j:Nat}:∀ {L:List Pin} {c:AV},findPin id j L=some c→∃ p,p∈L∧p.id=id∧p.j=j∧p.c=c
 | p :: r,c,h=>by
  unfold findPin at h
  split at h
  ·rename_i hb
   simp only [Bool.and_eq_true] at hb
   injection h with h
   exact ⟨p,by simp,Nat.eq_of_beq_eq_true hb.1,Nat.eq_of_beq_eq_true hb.2,h⟩
  ·obtain ⟨q,h1,h2⟩:=findPin_mem h
   exact ⟨q,List.mem_cons_of_mem _ h1,h2⟩
def pinnable:AV→Bool
 | .v _ | .ref _=>true
 | _=>false
def findPins (id:Nat) (L:List Pin):Nat→Nat→Option (List AV)
 | _,0=>some []
 | j,n+1=>match findPin id j L with
  | some c=>match pinnable c,findPins id L (j+1) n with
   | true,some r=>some (c :: r)
   | _,_=>none
  | none=>none
theorem findPins_get {id:Nat} {L:List Pin}:∀ {n j:Nat} {cs:List AV},findPins id L j n=some cs→cs.length=n∧∀ (k:Nat) (c:AV),cs[k]?=some c→findPin id (j+k) L=some c∧pinnable c=true
 | 0,j,cs,h=>by simp [findPins] at h;subst h;exact ⟨rfl,fun k c hk=>by simp at hk⟩
 | n+1,j,cs,h=>by
  unfold findPins at h
  split at h
  ·rename_i c hc
   split at h
   ·rename_i r hp hr
    injection h with h
    subst h
    obtain ⟨h1,h2⟩:=findPins_get hr
    refine ⟨by simp [h1],fun k c' hk=>?_⟩
    cases k with
    | zero=>simp at hk;subst hk;exact ⟨hc,hp⟩
    | succ k =>
     have:=h2 k c' (by simpa using hk)
     rw [show j+(k+1)=j+1+k by omega]
     exact this
   ·cases h
  ·cases h
def earlyOp (T:TypeId→Option TI) (L:List Pin) (σ:St) (op:Op) (K:AV→Prop):Prop :=
 match op with
 | .move x | .assign x=>kx σ.eval x fun y=>K y
 | .binOp op t x y _=>kx σ.eval x fun xv=>kx σ.eval y fun yv=>match xv,yv with
  | .v a,.v b=>abin T op t a b fun v=>K (.v v)
  | _,_=>False
 | .fieldAddr s x f=>kx σ.eval x fun x=>match fieldOf T s f with
  | none=>False
  | some fd=>match T fd.type with
   | none=>False
   | some ti=>match addOff x fd.offset with
    | none=>False
    | some p=>if ti.size≠0 then ptrL p fun p=>K p else False
 | .convert src dst x=>kx σ.eval x fun x=>match (T src).map TI.desc,(T dst).map TI.desc,x with
  | some (TypeDesc.int _),some (TypeDesc.int k),.v (.int _ i)=>Calc (k.wrap i) fun z=>K (.v (.int k z))
  | _,_,_=>False
 | .indexAddr t x i=>kx σ.eval x fun x=>kx σ.eval i fun i=>match i with
  | .v (.int _ i)=>idxAddr T σ.obj t x i fun p=>K p
  | _=>False
 | .load t p=>kx σ.eval p fun p=>match p with
  | .ptr id j=>match T t with
   | some i=>match i.agg with
    | false=>match findPin id j L with
     | some c=>match pinnable c with
      | true=>K c
      | false=>False
     | none=>False
    | true=>match findPins id L j i.size with
     | some cs=>K (.ag cs)
     | none=>False
   | none=>False
  | _=>False
 | .build t parts=>match T t with
  | none=>False
  | some i=>match constL i.zero.cells.toList with
   | none=>False
   | some zs=>if buildOK T t=true then kl σ.eval (parts.toList.map (·.2)) fun ys=>match fillA (placeOf T t) zs ((parts.toList.map (·.1)).zip ys) with
    | some cs=>litL cs fun cs=>K (.ag cs)
    | none=>False
    else False
 | .makeFunc f fs cs=>kl σ.eval fs.toList fun fs=>kl σ.eval cs.toList fun cs=>K (.fn f fs cs)
 | .nilCheck x=>kx σ.eval x fun x=>match x with
  | .ptr i j=>K (.ptr i j)
  | _=>False
 | _=>False
def nthO:List Oper→Nat→Option Oper
 | [],_=>none
 | o :: _,0=>some o
 | _ :: r,n+1=>nthO r n
theorem nthO_eq (ops:Array Oper) (i:Nat):nthO ops.toList i=ops[i]?:=by
 have:∀ (l:List Oper) (i:Nat),nthO l i=l[i]?:=fun l=>by
  induction l with
  | nil=>intro i;simp [nthO]
  | cons x r ih =>
   intro i
   cases i with
   | zero=>rfl
   | succ i=>simpa [nthO] using ih i
 rw [this];simp
theorem nthO_spec {ops:Array Oper} {i:Nat} {o:Oper} (h:nthO ops.toList i=some o):ops[i]?=some o:=by rwa [nthO_eq] at h
def earlyH (T:TypeId→Option TI) (L:List Pin) (ops:Array Oper) (KE:St→Prop):List Nat→St→Prop
 | [],σ=>KE σ
 | e :: r,σ=>match nthO ops.toList e with
  | none=>False
  | some o=>match o.guard,dstOk σ o with
   | none,true=>earlyOp T L σ o.op fun x=>earlyH T L ops KE r (σ.after o.dst x none)
   | _,_=>False
def earlyG (T:TypeId→Option TI) (L:List Pin) (ops:Array Oper) (KE:St→Prop) (e:Nat) (σ:St):Prop:=match nthO ops.toList e with
 | none=>False
 | some o=>match dstOk σ o with
  | false=>False
  | true=>match o.guard with
   | none=>earlyOp T L σ o.op fun x=>KE (σ.after o.dst x none)
   | some (j,want)=>match (ops[j]?).bind Oper.dst with
    | none=>False
    | some d=>match σ.get d with
     | some (.v (.bool b))=>match want with
      | true=>ifB b (earlyOp T L σ o.op fun x=>KE (σ.after o.dst x none)) (KE (σ.after o.dst .skip none))
      | false=>ifB b (KE (σ.after o.dst .skip none)) (earlyOp T L σ o.op fun x=>KE (σ.after o.dst x none))
     | some .skip=>KE (σ.after o.dst .skip none)
     | _=>False
theorem fill_bd {A:Nat→Prop} {pl:Nat→Option (Nat × Nat)}:∀ (ps:List (Nat × AV)) (cs0 cs1:List AV),bdL A cs0→(∀ p,p∈ps→bd A p.2)→fillA pl cs0 ps=some cs1→bdL A cs1
 | [],cs0,cs1,q,_,q3=>by simp [fillA] at q3;exact q3 ▸ q
 | p :: r,cs0,cs1,q,q2,q3=>by
  unfold fillA at q3
  split at q3
  ·cases q3
  ·split at q3
   ·refine fill_bd r _ _ (bdL_iff.2 fun x hx=>?_) (fun p hp=>q2 p (by simp [hp])) q3
    unfold setC at hx
    rcases List.mem_append.1 hx with hx | hx
    ·rcases List.mem_append.1 hx with hx | hx
     ·exact bdL_iff.1 q x (List.mem_of_mem_take hx)
     ·exact bdL_iff.1 (bd_cells (q2 p (by simp))) x hx
    ·exact bdL_iff.1 q x (List.mem_of_mem_drop hx)
   ·cases q3
theorem earlyOp_step (hT:TOK P T) {L:List Pin} {K:AV→Prop} {o:Oper} {σ:St} {a:Act} {w:World} (h:earlyOp T L σ o.op K) (hd:dstOk σ o=true) (hr:RS N0 base w0 σ a w) (hP:PinH L σ) (hm:∀ i,i∈pinIds L→i∈w0.m) :
  ∃ v x,(∀ w',pinS w0.v L w'→(execOp a.eval o).run P w'=.ok (.value v) w')∧RS N0 base w0 (σ.after o.dst x none) (a.put o.dst v) w∧K x:=by
 unfold earlyOp at h
 obtain ⟨hp,V,hV⟩:=hr
 have put:∀ {x:AV} {v:Value},dstOk σ o=true→RepT (Nf N0 base V σ.obj) w V x v→bd (fun i=>i < σ.next) x→RS N0 base w0 (σ.after o.dst x none) (a.put o.dst v) w:=fun hd h1 h2=>by
  refine ⟨hp,V,?_⟩
  rw [St.get_after,St.obj_after,St.next_after]
  exact hV.put (dstOk_spec hd) h1 h2
 split at h
 ·rename_i x hop
  obtain ⟨y,h1,h2⟩:=kx_iff h
  obtain ⟨q1,q2⟩:=eval_rep hV h1
  exact ⟨a.eval x,y,fun w _=>by simp [execOp,hop],put hd q1 q2,h2⟩
 ·rename_i x hop
  obtain ⟨y,h1,h2⟩:=kx_iff h
  obtain ⟨q1,q2⟩:=eval_rep hV h1
  exact ⟨a.eval x,y,fun w _=>by simp [execOp,hop],put hd q1 q2,h2⟩
 ·rename_i op t x y t' hop
  obtain ⟨xv,h1,h2⟩:=kx_iff h
  obtain ⟨yv,h3,h4⟩:=kx_iff h2
  split at h4
  ·obtain ⟨v,h5,h6,h7⟩:=abin_sound hT h4
   have e1:=eval_v (eval_rep hV h1).1
   have e2:=eval_v (eval_rep hV h3).1
   refine ⟨v,.v v,fun w _=>?_,put hd (.im (.v v h6)) (by simp [bd]),h5⟩
   have:=h7 x y w
   simp only [execOp,hop,e1,e2]
   rw [Sem.run_bind,this]
   rfl
  ·exact h4.elim
 ·rename_i s x f hop
  obtain ⟨xv,h1,h2⟩:=kx_iff h
  obtain ⟨q1,q2⟩:=eval_rep hV h1
  split at h2
  ·exact h2.elim
  ·rename_i fd hfd
   split at h2
   ·exact h2.elim
   ·rename_i ti hti
    split at h2
    ·exact h2.elim
    ·rename_i p hadd
     split at h2
     ·rename_i hsz
      rw [ptrL_eq] at h2
      obtain ⟨b,o',e1,e2,e3⟩:=addOff_rep q1 hadd
      refine ⟨_,p,fun w _=>?_,put hd e2 (e3 _ q2),h2⟩
      have:=run_fieldAt (P:=P) (w:=w) hT hfd hti hsz b o'
      simp only [execOp,hop,e1]
      rw [Sem.run_bind,this]
      rfl
     ·exact h2.elim
 ·rename_i src dst x hop
  obtain ⟨xv,h1,h2⟩:=kx_iff h
  split at h2
  ·rename_i hs hd'
   have e1:=eval_v (eval_rep hV h1).1
   refine ⟨_,_,fun w _=>?_,put hd (.im (.v _ rfl)) (by simp [bd]),h2.elim⟩
   simp [execOp,hop,e1,convert,run_underlying (under_of hT hs),run_underlying (under_of hT hd'),Conv.intToInt]
  ·exact h2.elim
 ·rename_i t x i hop
  obtain ⟨xv,h1,h2⟩:=kx_iff h
  obtain ⟨iv,h3,h4⟩:=kx_iff h2
  obtain ⟨q1,q2⟩:=eval_rep hV h1
  obtain ⟨q3,q4⟩:=eval_rep hV h3
  split at h4
  ·rename_i k i'
   have e2:=eval_v q3
   obtain ⟨p,h5,h6⟩:=idxAddr_any (k:=k) hT h4
   obtain ⟨u,h7,h8,h9⟩:=h6 q1 q2 (fun i u hu=>⟨hV.obs i u hu,hV.bdo i u hu⟩)
   refine ⟨u,p,fun w _=>?_,put hd h8 h9,h5⟩
   simp only [execOp,hop,e2]
   rw [Sem.run_bind,h7]
   rfl
  ·exact h4.elim
 ·rename_i t p hop
  obtain ⟨pv,h1,h2⟩:=kx_iff h
  obtain ⟨q1,q2⟩:=eval_rep hV h1
  split at h2
  ·rename_i id j
   split at h2
   ·rename_i i hi
    have cellOf:∀ {k:Nat} {c:AV},findPin id k L=some c→pinnable c=true→∃ b u,V id=.pointer (some ⟨b,0,none⟩)∧w.cell? ⟨b,0+k,none⟩=some u∧RepT (Nf N0 base V σ.obj) w V c u∧bd (fun i=>i < σ.next) c ∧
      ∀ w',pinS w0.v L w'→w'.cell? ⟨b,0+k,none⟩=some u:=by
     intro k c hfp hpn
     obtain ⟨pn,hp1,hp2,hp3,hp4⟩:=findPin_mem hfp
     subst hp2 hp3 hp4
     obtain ⟨cs,hc1,hc2⟩:=hP pn hp1
     obtain ⟨b,u,h3,h5,h6⟩:=pin_cell hV hc1 hc2
     have e1:=(hV.par _ (hm _ (pinIds_id hp1))).2
     obtain ⟨u',hu'⟩:∃ u',pinC w0.v pn.c=some u':=by
      cases hc:pn.c with
      | v x=>exact ⟨_,rfl⟩
      | ref i=>exact ⟨_,rfl⟩
      | _=>rw [hc] at hpn;cases hpn
     have hS:=pinS_of hV (fun p hp=>hP p hp) hm
     have hcell:=hS pn hp1 b 0 (by rw [← e1];exact h3) u' hu'
     rw [h5] at hcell
     injection hcell with hcell
     subst hcell
     exact ⟨b,u,h3,h5,h6,bdL_get (hV.bdo _ _ hc1).2 hc2,fun w' hw'=>hw' pn hp1 b 0 (by rw [← e1];exact h3) u hu'⟩
    generalize hx:a.eval p=xx at q1
    split at h2
    ·rename_i hag
     split at h2
     ·rename_i c hfp
      split at h2
      ·rename_i hpn
       obtain ⟨b,u,h3,h5,h6,h7,h8⟩:=cellOf hfp hpn
       cases q1 with
       | im h=>cases h
       | ptr _ _ b' o' hb' =>
        rw [h3] at hb'
        injection hb' with hb'
        injection hb' with hb'
        injection hb' with hb1 hb2
        subst hb1 hb2
        refine ⟨u,c,fun w' hw'=>?_,put hd h6 h7,h2⟩
        simp only [execOp,hop,hx,Instr.loadAt,Instr.sureAddr,Sem.run_bind,Sem.run_pure,Result.andThen_ok,loadVar,run_isAgg hT hi,hag,Bool.false_eq_true,if_false,run_load]
        rw [h8 w' hw']
        rfl
      ·exact h2.elim
     ·exact h2.elim
    ·rename_i hag
     split at h2
     ·rename_i cs hfp
      obtain ⟨hl,hget⟩:=findPins_get hfp
      cases q1 with
      | im h=>cases h
      | ptr _ _ b o' hb' =>
       have hall:∀ (k:Nat) (c:AV),cs[k]?=some c→∃ u,w.cell? ⟨b,o'+(j+k),none⟩=some u∧RepT (Nf N0 base V σ.obj) w V c u∧bd (fun i=>i < σ.next) c∧∀ w',pinS w0.v L w'→w'.cell? ⟨b,o'+(j+k),none⟩=some u:=by
        intro k c hk
        obtain ⟨h3,h4⟩:=hget k c hk
        obtain ⟨b2,u,h5,h6,h7,h8,h9⟩:=cellOf h3 h4
        rw [hb'] at h5
        injection h5 with h5
        injection h5 with h5
        injection h5 with hb1 hb2
        subst hb1 hb2
        exact ⟨u,h6,h7,h8,h9⟩
       let U:Nat→Value:=fun k=>(w.cell? ⟨b,o'+(j+k),none⟩).getD Go.undef
       have hU:∀ k,k < i.size→∀ w',pinS w0.v L w'→w'.cell? (Addr.add ⟨b,o'+j,none⟩ k)=some (U k):=by
        intro k hk w' hw'
        obtain ⟨u,h3,h4,h5,h6⟩:=hall k _ (List.getElem?_eq_getElem (by omega))
        rw [Addr.add_lit,Nat.add_assoc,h6 w' hw']
        show some u=some (U k)
        simp only [U,h3,Option.getD_some]
       refine ⟨.agg ((List.range i.size).map U).toArray,.ag cs,fun w' hw'=>?_,put hd (.ag cs _ (by simp [hl]) (fun k h3 h4=>?_) (fun k h4=>?_)) (bdL_iff.2 fun x hx=>?_),h2⟩
       ·have hlc:=run_loadCells (P:=P) w' ⟨b,o'+j,none⟩ i.size U (fun k hk=>hU k hk w' hw')
        simp only [execOp,hop,hx,Instr.loadAt,Instr.sureAddr,Sem.run_bind,Sem.run_pure,Result.andThen_ok,loadVar,run_isAgg hT hi,hag,if_true,run_sizeOf hT hi,hlc]
       ·obtain ⟨u,h5,h6,h7,h8⟩:=hall k _ (List.getElem?_eq_getElem h3)
        simp only [List.getElem_toArray,List.getElem_map,List.getElem_range,U,h5,Option.getD_some]
        exact h6
       ·have hk:k < i.size:=by simpa using h4
        obtain ⟨u,h5,h6,h7,h8⟩:=hall k _ (List.getElem?_eq_getElem (by omega))
        simp only [List.getElem_toArray,List.getElem_map,List.getElem_range,U,h5,Option.getD_some]
        have hpn:=(hget k _ (List.getElem?_eq_getElem (by omega))).2
        generalize cs[k]=c at hpn h6
        cases c with
        | v x=>cases h6 with | im h=>exact h.oneCell
        | ref i=>cases h6 with
         | im h=>cases h
         | ref _ h=>exact h
        | _=>cases hpn
       ·obtain ⟨k,h3,h4⟩:=List.mem_iff_getElem.1 hx
        obtain ⟨u,h5,h6,h7,h8⟩:=hall k _ (List.getElem?_eq_getElem h3)
        exact h4 ▸ h7
     ·exact h2.elim
   ·exact h2.elim
  ·exact h2.elim
 ·rename_i t parts hop
  split at h
  ·exact h.elim
  ·rename_i i hi
   split at h
   ·exact h.elim
   ·rename_i zs hzs
    split at h
    ·rename_i hb
     obtain ⟨ys,h1,h2,h3⟩:=kl_iff h
     split at h3
     ·rename_i cs hcs
      rw [litL_eq] at h3
      have hall:∀ (j:Nat) (q1:j < parts.size) (q2:j < ys.length),RepT (Nf N0 base V σ.obj) w V ys[j] (a.eval parts[j].2)∧bd (fun i=>i < σ.next) ys[j]:=fun j q1 q2=>by
       have:=h2 j (by simpa using q1) q2
       simp only [List.getElem_map,Array.getElem_toList] at this
       exact eval_rep hV this
      obtain ⟨arr,h4,h5⟩:=build_runW (P:=P) (w:=w) (N:=Nf N0 base V σ.obj) (V:=V) (ev:=a.eval) hT hi hzs hb (by simpa using h1) (fun j q1 q2=>(hall j q1 q2).1) hcs
      refine ⟨.agg arr,.ag cs,fun w' _=>by simp only [execOp,hop,Sem.run_bind,h4 w',Result.andThen_ok,Sem.run_pure],put hd h5 ?_,h3⟩
      unfold bd
      have hlen:ys.length=parts.size:=by simpa using h1
      refine fill_bd _ _ _ ((constL_rep (N:=Nf N0 base V σ.obj) (w:=w) (V:=V) hzs).2.2 _) (fun p hp=>?_) hcs
      obtain ⟨j,q1,q2⟩:=List.mem_iff_getElem.1 (List.of_mem_zip hp).2
      rw [← q2]
      exact (hall j (by omega) q1).2
     ·exact h3.elim
    ·exact h.elim
 ·rename_i f fs cs hop
  obtain ⟨us,h1,h2,h3⟩:=kl_iff h
  obtain ⟨vs,h4,h5,h6⟩:=kl_iff h3
  have e2:∀ (j:Nat) (q1:j < fs.toList.length) (q2:j < us.length),RepT (Nf N0 base V σ.obj) w V us[j] (a.eval fs.toList[j])∧bd (fun i=>i < σ.next) us[j]:=fun j q1 q2=>eval_rep hV (h2 j q1 q2)
  have e4:∀ (j:Nat) (q1:j < cs.toList.length) (q2:j < vs.length),RepT (Nf N0 base V σ.obj) w V vs[j] (a.eval cs.toList[j])∧bd (fun i=>i < σ.next) vs[j]:=fun j q1 q2=>eval_rep hV (h5 j q1 q2)
  have s1:us.length=fs.size:=by simpa using h1
  have s2:vs.length=cs.size:=by simpa using h4
  refine ⟨.func f (fs.map a.eval) (cs.map a.eval),.fn f us vs,fun w' _=>by simp [execOp,hop,Instr.makeFunc],put hd (.fn f us vs _ _ (by simp [s1]) (by simp [s2]) (fun j q1 q2=>?_) (fun j q1 q2=>?_)) ?_,h6⟩
  ·have:=(e2 j (by simpa using (show j < fs.size by omega)) q1).1
   simpa using this
  ·have:=(e4 j (by simpa using (show j < cs.size by omega)) q1).1
   simpa using this
  unfold bd
  refine ⟨bdL_iff.2 fun x hx=>?_,bdL_iff.2 fun x hx=>?_⟩
  ·obtain ⟨j,q1,q2⟩:=List.mem_iff_getElem.1 hx
   exact q2 ▸ (e2 j (by simpa using (show j < fs.size by omega)) q1).2
  ·obtain ⟨j,q1,q2⟩:=List.mem_iff_getElem.1 hx
   exact q2 ▸ (e4 j (by simpa using (show j < cs.size by omega)) q1).2
 ·rename_i x hop
  obtain ⟨xv,h1,h2⟩:=kx_iff h
  obtain ⟨q1,q2⟩:=eval_rep hV h1
  split at h2
  ·rename_i id j
   obtain ⟨b,o',e⟩:∃ b o',a.eval x=.pointer (some ⟨b,o',none⟩):=by
    generalize a.eval x=v at q1
    cases q1 with
    | im h=>cases h
    | ptr _ j b o h=>exact ⟨_,_,rfl⟩
   refine ⟨_,_,fun w' _=>?_,put hd q1 q2,h2⟩
   simp only [execOp,hop,e]
   rfl
  ·exact h2.elim
 ·exact h.elim
theorem earlyH_step (hT:TOK P T) {L:List Pin} {ops:Array Oper} {KE:St→Prop} {e:Nat} {r:List Nat} {σ:St} {a:Act} {w:World} (h:earlyH T L ops KE (e :: r) σ) (hr:RS N0 base w0 σ a w) (hP:PinH L σ) (hm:∀ i,i∈pinIds L→i∈w0.m) :
  ∃ o v x,ops[e]?=some o∧o.guard=none∧(∀ w',pinS w0.v L w'→(execOp a.eval o).run P w'=.ok (.value v) w')∧RS N0 base w0 (σ.after o.dst x none) (a.put o.dst v) w∧earlyH T L ops KE r (σ.after o.dst x none):=by
 unfold earlyH at h
 split at h
 ·exact h.elim
 ·rename_i o ho
  split at h
  ·rename_i hg hd
   obtain ⟨v,x,h1,h2,h3⟩:=earlyOp_step hT h hd hr hP hm
   exact ⟨o,v,x,nthO_spec ho,hg,h1,h2,h3⟩
  ·exact h.elim
theorem earlyG_step (hT:TOK P T) {L:List Pin} {ops:Array Oper} {KE:St→Prop} {e:Nat} {σ:St} {a:Act} {w:World} (h:earlyG T L ops KE e σ) (hr:RS N0 base w0 σ a w) (hP:PinH L σ) (hm:∀ i,i∈pinIds L→i∈w0.m) :
  ∃ o v x,ops[e]?=some o∧YieldsIf P ops (pinS w0.v L) o v a∧RS N0 base w0 (σ.after o.dst x none) (a.put o.dst v) w∧KE (σ.after o.dst x none):=by
 have skip:∀ {o:Oper},dstOk σ o=true→RS N0 base w0 (σ.after o.dst .skip none) (a.put o.dst undef) w:=fun {o} hd=>by
  obtain ⟨hp,V,hV⟩:=hr
  refine ⟨hp,V,?_⟩
  rw [St.get_after,St.obj_after,St.next_after]
  exact hV.put (dstOk_spec hd) .skip (by simp [bd])
 unfold earlyG at h
 split at h
 ·exact h.elim
 ·rename_i o ho
  split at h
  ·exact h.elim
  ·rename_i hd
   split at h
   ·rename_i hg
    obtain ⟨v,x,h1,h2,h3⟩:=earlyOp_step hT h hd hr hP hm
    exact ⟨o,v,x,nthO_spec ho,.inl ⟨by unfold Region.wanted;rw [hg],h1⟩,h2,h3⟩
   ·rename_i j want hg
    split at h
    ·exact h.elim
    ·rename_i d hj
     obtain ⟨y1,y2⟩:=yielded_of hr hj
     split at h
     ·rename_i b hb
      have hy:=y1 b hb
      split at h
      ·cases b with
       | true =>
        obtain ⟨v,x,h1,h2,h3⟩:=earlyOp_step hT ((ifB_elim h).1 rfl) hd hr hP hm
        exact ⟨o,v,x,nthO_spec ho,.inl ⟨by unfold Region.wanted;rw [hg];simp [hy],h1⟩,h2,h3⟩
       | false=>exact ⟨o,undef,.skip,nthO_spec ho,.inr ⟨by unfold Region.wanted;rw [hg];simp [hy],rfl⟩,skip hd,(ifB_elim h).2 rfl⟩
      ·cases b with
       | true=>exact ⟨o,undef,.skip,nthO_spec ho,.inr ⟨by unfold Region.wanted;rw [hg];simp [hy],rfl⟩,skip hd,(ifB_elim h).1 rfl⟩
       | false =>
        obtain ⟨v,x,h1,h2,h3⟩:=earlyOp_step hT ((ifB_elim h).2 rfl) hd hr hP hm
        exact ⟨o,v,x,nthO_spec ho,.inl ⟨by unfold Region.wanted;rw [hg];simp [hy],h1⟩,h2,h3⟩
     ·rename_i hb
      have hy:=y2 hb
      exact ⟨o,undef,.skip,nthO_spec ho,.inr ⟨by unfold Region.wanted;rw [hg];simp [hy],rfl⟩,skip hd,h⟩
     ·exact h.elim
theorem wpAnyH_all_addE {ops:Array Oper} {es:List Nat} {S:World→Prop} {Q:Exit→Act→World→Prop}:∀ (fuel:Nat) (l:Array Bool) (a:Act) (w:World),(∀ e,e∈es→l.getD e false=true)→wpAnyH P .any (addE es ops) Q S fuel l a w→wpAnyH P .any ops Q S fuel l a w
 | 0,l,a,w,hall,h=>⟨List.eq_nil_iff_forall_not_mem.2 (fun j hj=>(by
   have:=(ready_addE hall j).2 hj
   rw [h.1] at this
   cases this)),h.2⟩
 | fuel+1,l,a,w,hall,h=>by
  refine ⟨fun he=>h.1 (List.eq_nil_iff_forall_not_mem.2 (fun j hj=>(by
   have:=(ready_addE hall j).1 hj
   rw [he] at this
   cases this))),fun i hi=>?_⟩
  refine wpOp_addE (wpOp_mono (fun a' w' hk=>⟨hk.1,wpAnyH_all_addE fuel _ a' w' (fun e he=>?_) hk.2⟩) (h.2 i ((ready_addE hall i).2 hi)))
  have:=hall e he
  by_cases hie:i=e
  ·subst hie
   have hlt:i < l.size:=by
    rcases Nat.lt_or_ge i l.size with q | q
    ·exact q
    ·rw [Array.getD_eq_getD_getElem?,Array.getElem?_eq_none (by omega)] at this;cases this
   simp [hlt]
  ·rw [getD_set_ne false hie];exact this
theorem early_soundH (hT:TOK P T) {L:List Pin} {ops:Array Oper} {KE:St→Prop} {es:List Nat} {Q:Exit→Act→World→Prop} (hns:Region.noSelect ops=true) (hm:∀ i,i∈pinIds L→i∈w0.m):∀ (r:List Nat) (fuel:Nat) (l:Array Bool) (σ:St) (a:Act) (w:World),l.size=ops.size →
  (∀ e,e∈es→l.getD e false=true∨e∈r)→earlyGo ops es r l=true→earlyH T L ops KE r σ→PinH L σ→pinS w0.v L w→RS N0 base w0 σ a w→wpAnyH P .any (addE es ops) (onlyN Q) (pinS w0.v L) fuel l a w→wpAnyH P .any ops (onlyN Q) (pinS w0.v L) fuel l a w
 | [],fuel,l,σ,a,w,_,hall,_,_,_,_,_,h=>wpAnyH_all_addE fuel l a w (fun e he=>(hall e he).resolve_right (by simp)) h
 | e :: r,0,l,σ,a,w,_,_,hgo,_,_,_,_,h=>by
  simp only [earlyGo,Bool.and_eq_true,List.contains_iff_mem] at hgo
  have:=hgo.1.1.2
  rw [h.1] at this
  cases this
 | e :: r,fuel+1,l,σ,a,w,hs,hall,hgo,hK,hP,hS,hr,h=>by
  simp only [earlyGo,Bool.and_eq_true,decide_eq_true_eq] at hgo
  obtain ⟨⟨⟨⟨g1,g2⟩,g3⟩,g4⟩,g5⟩:=hgo
  obtain ⟨o,v,x,ho,hg,hex,hr',hK'⟩:=earlyH_step hT hK hr hP hm
  have hw:=h.2 e (by simpa using g3)
  have hy:YieldsIf P ops (pinS w0.v L) o v a:=.inl ⟨by unfold Region.wanted;rw [hg],hex⟩
  refine wpAnyH_take ho hns g1 g2 (fun c a' w' hq=>by cases hq.1) hy hS ?_
  refine early_soundH hT hns hm r fuel _ _ _ w (by simp [hs]) (fun e' he'=>?_) g5 hK' (fun p hp=>hP p hp) hS hr' ?_
  ·rcases hall e' he' with q | q
   ·left
    by_cases hee:e=e'
    ·subst hee;simp [hs,g4]
    ·rw [getD_set_ne false hee];exact q
   ·rcases List.mem_cons.1 q with rfl | q
    ·left;simp [hs,g4]
    ·exact .inr q
  ·have hw':=wpOp_addE hw
   unfold wpOp at hw'
   rw [ho] at hw'
   simp only [Region.wanted,hg,if_true] at hw'
   rcases hw' with hw' | ⟨_,q1,q2,q3⟩
   ·unfold Oper.wp at hw'
    rw [hex w hS] at hw'
    exact hw'.2
   ·cases q3.1
def St.pin (σ:St) (L:List Pin):St:={ σ with par:=σ.par++pinIds L }
def St.unpin (σ:St) (p:List Nat):St:={ σ with par:=p }
variable (P T) in
def vcDrawH (ops:Array Oper) (es:List Nat) (L:List Pin) (σ:St) (K:St→Prop):Prop :=
 earlyOK ops es=true∧pinK L σ (earlyH T L ops (fun _=>True) es (σ.pin L) ∧
  ∃ k,(preOK (addE es ops).toList k && sufOK (addE es ops).toList k && decide (k≤(addE es ops).size))=true ∧
   Pre P T (addE es ops) ⟨σ.obj,σ.next⟩ ((addE es ops).toList.take k) σ.next { σ.pin L with next:=σ.next+k } fun σ'=>vcOpsP P T L (addE es ops) ((addE es ops).toList.drop k) σ' fun σ'=>K (σ'.unpin σ.par))
theorem vcDrawH_ok (hT:TOK P T) {ops:Array Oper} {es:List Nat} {L:List Pin} {σ:St} {K:St→Prop} {a:Act} {w:World} {Q:Exit→Act→World→Prop} (h:vcDrawH P T ops es L σ K) (hr:RS N0 base w0 σ a w)
  (hK:∀ σ' a' w',K σ'→RS N0 base w0 σ' a' w'→Q .normal a' w'):wpAny P .any ops (onlyN Q) ops.size (Array.replicate ops.size false) a { w with drawn:=w.drawn+1 }:=by
 obtain ⟨he,hpk⟩:=h
 obtain ⟨hP,hE,k,hc,hv⟩:=pinK_iff.1 hpk
 unfold earlyOK at he
 simp only [Bool.and_eq_true,decide_eq_true_eq] at hc he
 obtain ⟨⟨hpre,hsuf⟩,hk⟩:=hc
 obtain ⟨rs,σ1,hG,hv1⟩:=hv.gen hT
 have hF:=preOK_spec hk hpre
 have hsuf':∀ j,j < (addE es ops).size→k≤j→∀ i,i < j→i∈(ancs (addE es ops).toList).getD j []:=by
  intro j hj hkj i hij
  unfold sufOK at hsuf
  simp only [List.all_eq_true,List.mem_range,Bool.or_eq_true,decide_eq_true_eq] at hsuf
  rcases hsuf j (by simpa using hj) with h | h
  ·omega
  ·have:=h i hij
   simpa using this
 have hr':=drawn_rel hr
 obtain ⟨hp,V,hV⟩:=hr'
 have hlt:=pinIds_lt hV hP
 let w0':W0:={ w0 with m:=w0.m++pinIds L,v:=V.v }
 have hV':Rel N0 base w0' σ.size V σ.get σ.obj (fun i=>i < σ.next) a { w with drawn:=w.drawn+1 } :=
  { hV with
   low:=hV.low
   bel:=⟨hV.bel.os,hV.bel.tape,hV.bel.output,hV.bel.size,hV.bel.block⟩
   dfr:=hV.dfr
   par:=fun i hi=>by
    rcases List.mem_append.1 hi with hi | hi
    ·exact ⟨(hV.par i hi).1,rfl⟩
    ·exact ⟨hlt i hi,rfl⟩ }
 have back:∀ {σ':St} {a':Act} {w':World},RS N0 base w0' σ' a' w'→RS N0 base w0 (σ'.unpin σ.par) a' w':=fun {σ' a' w'} ⟨_,V',h'⟩ =>
  ⟨hp,V',{ h' with
   low:=h'.low
   bel:=⟨h'.bel.os,h'.bel.tape,h'.bel.output,h'.bel.size,h'.bel.block⟩
   dfr:=h'.dfr
   par:=fun i hi=>by
    have:=h'.par i (List.mem_append_left _ hi)
    exact ⟨this.1,this.2.trans (hV.par i hi).2⟩ }⟩
 have hm:∀ i,i∈pinIds L→i∈w0'.m:=fun i hi=>List.mem_append_right _ hi
 have hRS:RS N0 base w0' (σ.pin L) a { w with drawn:=w.drawn+1 }:=⟨by show w0.m++_=σ.par++_;rw [hp],V,hV'⟩
 have hS:pinS w0'.v L { w with drawn:=w.drawn+1 }:=pinS_of hV' (fun p hp=>hP p hp) hm
 have h0:∀ i,(Array.replicate (addE es ops).size false).getD i false=false:=fun i=>by
  rcases Nat.lt_or_ge i (addE es ops).size with h | h
  ·simp [h]
  ·simp [h]
 have hmain:wpAnyH P .any (addE es ops) (onlyN Q) (pinS w0'.v L) (addE es ops).size (Array.replicate (addE es ops).size false) a { w with drawn:=w.drawn+1 }:=by
  refine pre_anyH (N0:=N0) (base:=base) (w0:=w0') (L:=L) hT hk hF hsuf' (σ:=σ.pin L) (σ0:={ σ.pin L with next:=σ.next+k }) ⟨rfl,rfl,rfl,rfl⟩ hG (by rw [hG.par_eq];show w0.m++_=σ.par++_;rw [hp]) (fun i u hu=>(hV.bdo i u hu).1) hv1 (fun p hp'=>?_) (fun V g ob' A a' w' hR hob=>?_) (fun σ' a' w' hPH hR=>?_) (fun σ' a' w' hK' hR=>?_) (addE es ops).size _ a _ ?_ (by simp) (fun i o hi=>by rw [h0] at hi;cases hi) (fun i _=>h0 i) ⟨V,?_⟩
  ·obtain ⟨cs,h1,_⟩:=hP p hp'
   exact (hV.bdo _ _ h1).1
  ·refine pinS_of hR (fun p hp'=>?_) hm
   obtain ⟨cs,h1,h2⟩:=hP p hp'
   exact ⟨cs,(hob p hp').trans h1,h2⟩
  ·obtain ⟨_,V',hR'⟩:=hR
   exact pinS_of hR' hPH hm
  ·exact ⟨rfl,hK _ _ _ hK' (back hR)⟩
  ·unfold cnt
   refine Nat.le_trans (List.length_filter_le _ _) (by simp)
  ·have e2:oS rs σ.next (Array.replicate (addE es ops).size false) σ.obj=σ.obj:=by
    funext i
    unfold oS
    rw [if_neg (fun h=>by rw [h0] at h;cases h.2)]
   show Rel N0 base w0' σ.size V (gS _ rs _ σ.get) (oS rs σ.next _ σ.obj) (aS σ.next _) a _
   rw [e2]
   refine (hV'.weakA fun i hi=>.inl hi).less fun t x hx=>?_
   unfold gS at hx
   split at hx
   ·rw [h0] at hx
    simp at hx
   ·exact hx
 rw [addE_size] at hmain
 exact wpAny_of_held _ _ _ _ (early_soundH (w0:=w0') hT he.1 hm es _ _ (σ.pin L) a _ (by simp) (fun e he=>.inr he) he.2 hE (fun p hp=>hP p hp) hS hRS hmain)
theorem vcDrawH_noDefer {ops:Array Oper} {es:List Nat} {L:List Pin} {σ:St} {K:St→Prop} (h:vcDrawH P T ops es L σ K):∀ (i:Nat) (o:Oper),ops[i]?=some o→noDefer o=true:=by
 obtain ⟨_,h⟩:=h
 obtain ⟨_,_,k,h,_⟩:=pinK_iff.1 h
 simp only [Bool.and_eq_true] at h
 have:=h.1.1
 unfold preOK at this
 rw [Bool.and_eq_true] at this
 exact addE_noDefer fun i o ho=>List.all_eq_true.1 this.2 o (Array.mem_toList_iff.2 (Array.mem_of_getElem? ho))
def doneL:List Edge→List Nat→Bool
 | [],_=>true
 | e :: r,done=>match Region.binds .any e with
  | true=>memB e.on done && doneL r done
  | false=>doneL r done
def readyL:Nat→List Oper→List Nat→List Nat
 | _,[],_=>[]
 | i,o :: r,done=>match memB i done with
  | true=>readyL (i+1) r done
  | false=>match doneL o.after.toList done with
   | true=>i :: readyL (i+1) r done
   | false=>readyL (i+1) r done
theorem doneL_iff {done:List Nat}:∀ {l:List Edge},doneL l done=true↔∀ e,e∈l→Region.binds .any e=true→e.on∈done
 | []=>by simp [doneL]
 | e :: r=>by
  unfold doneL
  split
  ·rename_i h
   rw [Bool.and_eq_true,memB_iff,doneL_iff (l:=r)]
   simp [h]
  ·rename_i h
   rw [doneL_iff (l:=r)]
   simp [h]
theorem readyL_iff {done:List Nat}:∀ {l:List Oper} {i0 i:Nat},i∈readyL i0 l done↔i0≤i∧i ∉ done∧∃ o,l[i - i0]?=some o∧∀ e∈o.after,Region.binds .any e=true→e.on∈done
 | [],i0,i=>by simp [readyL]
 | o :: r,i0,i=>by
  have ih:=readyL_iff (done:=done) (l:=r) (i0:=i0+1) (i:=i)
  have tail:(i0+1≤i∧i ∉ done∧∃ o,r[i - (i0+1)]?=some o∧∀ e∈o.after,Region.binds .any e=true→e.on∈done) ↔
    (i≠i0∧i0≤i∧i ∉ done∧∃ o',(o :: r)[i - i0]?=some o'∧∀ e∈o'.after,Region.binds .any e=true→e.on∈done):=by
   constructor
   ·rintro ⟨h1,h2,o',h3,h4⟩
    exact ⟨by omega,by omega,h2,o',by rw [show i - i0=(i - (i0+1))+1 by omega,List.getElem?_cons_succ];exact h3,h4⟩
   ·rintro ⟨h0,h1,h2,o',h3,h4⟩
    rw [show i - i0=(i - (i0+1))+1 by omega,List.getElem?_cons_succ] at h3
    exact ⟨by omega,h2,o',h3,h4⟩
  unfold readyL
  split
  ·rename_i h
   have h:=memB_iff.1 h
   rw [ih,tail]
   constructor
   ·rintro ⟨_,h2⟩;exact h2
   ·intro h2;exact ⟨fun e=>h2.2.1 (e ▸ h),h2⟩
  ·rename_i h
   have h:i0 ∉ done:=fun q=>by rw [memB_iff.2 q] at h;cases h
   split
   ·rename_i h5
    have h5:=doneL_iff.1 h5
    rw [List.mem_cons,ih,tail]
    constructor
    ·rintro (rfl | ⟨_,h2⟩)
     ·exact ⟨Nat.le_refl _,h,o,by simp,fun e he=>h5 e (by simpa using he)⟩
     ·exact h2
    ·intro h2
     by_cases e:i=i0
     ·exact .inl e
     ·exact .inr ⟨e,h2⟩
   ·rename_i h5
    rw [ih,tail]
    constructor
    ·rintro ⟨_,h2⟩;exact h2
    ·intro h2
     refine ⟨fun e=>?_,h2⟩
     subst e
     obtain ⟨_,_,o',h3,h4⟩:=h2
     rw [Nat.sub_self,List.getElem?_cons_zero] at h3
     injection h3 with h3
     subst h3
     have:doneL o.after.toList done=true:=doneL_iff.2 fun e he=>h4 e (by simpa using he)
     rw [this] at h5;cases h5
structure AndJ (A B:Prop):Prop where
 l:A
 r:B
def andL:List Nat→(Nat→Prop)→Prop
 | [],_=>True
 | [i],F=>F i
 | i :: r,F=>AndJ (F i) (andL r F)
theorem andL_iff:∀ {l:List Nat} {F:Nat→Prop},andL l F→∀ i,i∈l→F i
 | [i],F,h,j,hj=>by rw [List.mem_singleton] at hj;subst hj;exact h
 | i :: k :: r,F,h,j,hj=>by
  rcases List.mem_cons.1 hj with rfl | hj
  ·exact h.1
  ·exact andL_iff (l:=k :: r) h.2 j hj
def allMem:List Nat→List Nat→Bool
 | [],_=>true
 | x :: r,l=>match memB x l with
  | true=>allMem r l
  | false=>false
theorem allMem_iff {l:List Nat}:∀ {r:List Nat},allMem r l=true→∀ x,x∈r→x∈l
 | [],_,x,hx=>by cases hx
 | y :: r,h,x,hx=>by
  unfold allMem at h
  split at h
  ·rename_i hy
   rcases List.mem_cons.1 hx with rfl | hx
   ·exact memB_iff.1 hy
   ·exact allMem_iff h x hx
  ·cases h
def pickL (ops:Array Oper) (done:List Nat):List (Nat × List Nat)→Option Nat
 | []=>none
 | (e,ns) :: r=>match memB e done with
  | true=>pickL ops done r
  | false=>match allMem ns done with
   | false=>pickL ops done r
   | true=>match memB e (readyL 0 ops.toList done) with
    | true=>some e
    | false=>pickL ops done r
def pkOK (ops:Array Oper) (pk:List (Nat × List Nat)):Bool:=pk.all fun p=>match ops[p.1]? with
 | none=>false
 | some oi=>(List.range ops.size).all fun j=>j == p.1 || p.2.contains j || match ops[j]? with
  | some oj=>oj.after.any (fun e=>Region.binds .any e && e.on == p.1) || oi.apart ops oj
  | none=>true
theorem pkOK_free {ops:Array Oper} {done:List Nat} {e:Nat} {ns:List Nat} (h:(match ops[e]? with
 | none=>false
 | some oi=>(List.range ops.size).all fun j=>j == e || ns.contains j || match ops[j]? with
  | some oj=>oj.after.any (fun x=>Region.binds .any x && x.on == e) || oi.apart ops oj
  | none=>true)=true) (hn:∀ x,x∈ns→x∈done):Region.free .any ops ((List.range ops.size).map fun i=>memB i done).toArray e=true:=by
 unfold Region.free
 split at h
 ·cases h
 ·rename_i oi ho
  rw [ho]
  simp only
  rw [List.all_eq_true] at h ⊢
  intro j hj
  have h1:=h j hj
  rw [Bool.or_eq_true,Bool.or_eq_true] at h1 ⊢
  rcases h1 with (h1 | h1) | h1
  ·exact .inl (.inl h1)
  ·refine .inl (.inr ?_)
   have h2:=memB_iff.2 (hn j (by simpa using h1))
   have h3:j < ops.size:=List.mem_range.1 hj
   simp [h3,h2]
  ·exact .inr h1
theorem pickL_spec {ops:Array Oper} {done:List Nat} {e:Nat}:∀ {pk:List (Nat × List Nat)},pkOK ops pk=true→pickL ops done pk=some e→e ∉ done∧e∈readyL 0 ops.toList done∧Region.free .any ops ((List.range ops.size).map fun i=>memB i done).toArray e=true
 | [],_,h=>by cases h
 | (x,ns) :: r,hk,h=>by
  have hk':(pkOK ops r)=true:=by
   unfold pkOK at hk ⊢
   rw [List.all_cons,Bool.and_eq_true] at hk
   exact hk.2
  unfold pickL at h
  split at h
  ·exact pickL_spec hk' h
  ·rename_i hc
   split at h
   ·exact pickL_spec hk' h
   ·rename_i hn
    split at h
    ·rename_i hr
     injection h with h
     subst h
     refine ⟨fun hm=>?_,memB_iff.1 hr,?_⟩
     ·rw [memB_iff.2 hm] at hc;cases hc
     ·unfold pkOK at hk
      rw [List.all_cons,Bool.and_eq_true] at hk
      exact pkOK_free hk.1 (allMem_iff hn)
    ·exact pickL_spec hk' h
variable (P T) in
def allOrd (L:List Pin) (ops:Array Oper) (pk:List (Nat × List Nat)) (K:St→Prop):Nat→List Nat→St→Prop
 | 0,done,σ=>match readyL 0 ops.toList done with
  | []=>K σ
  | _=>False
 | f+1,done,σ=>match pickL ops done pk with
  | some e=>earlyG T L ops (fun σ'=>allOrd L ops pk K f (e :: done) σ') e σ
  | none=>match readyL 0 ops.toList done with
   | []=>K σ
   | i :: r=>andL (i :: r) fun i=>match nthO ops.toList i with
    | some o=>vcOps0 P T ops [o] σ fun σ'=>pinK L σ' (allOrd L ops pk K f (i :: done) σ')
    | none=>False
theorem ready_iff {ops:Array Oper} {l:Array Bool} {done:List Nat} (hl:l.size=ops.size) (hd:∀ i,i < ops.size→(l.getD i false=true↔i∈done)) (hdl:∀ i,i∈done→i < ops.size) (i:Nat):i∈Region.ready .any ops l↔i∈readyL 0 ops.toList done:=by
 have hgd:∀ {q:Nat},q < ops.size→l.getD q true=l.getD q false:=fun h=>by simp [hl,h]
 rw [mem_ready,readyL_iff]
 constructor
 ·rintro ⟨h1,o,h2,h3⟩
  have hi:=(Array.getElem?_eq_some_iff.1 h2).1
  refine ⟨Nat.zero_le _,fun q=>?_,o,by simpa using h2,fun e he hb=>?_⟩
  ·rw [hgd hi,(hd i hi).2 q] at h1;cases h1
  ·have h4:=h3 e he hb
   have h5:e.on < ops.size:=by
    rcases Nat.lt_or_ge e.on ops.size with q | q
    ·exact q
    ·simp [hl,q] at h4
   exact (hd _ h5).1 h4
 ·rintro ⟨_,h1,o,h2,h3⟩
  have h2:ops[i]?=some o:=by simpa using h2
  have hi:=(Array.getElem?_eq_some_iff.1 h2).1
  refine ⟨?_,o,h2,fun e he hb=>?_⟩
  ·rw [hgd hi]
   cases q:l.getD i false with
   | false=>rfl
   | true=>exact absurd ((hd i hi).1 q) h1
  ·have:=h3 e he hb
   exact (hd _ (hdl _ this)).2 this
theorem allOrd_sound (hT:TOK P T) {L:List Pin} {ops:Array Oper} {pk:List (Nat × List Nat)} (hpk:pkOK ops pk=true) {S:World→Prop} {K:St→Prop} {Q:Exit→Act→World→Prop} (hns:Region.noSelect ops=true) (hm:∀ i,i∈pinIds L→i∈w0.m) (hSS:S=pinS w0.v L) (hS:∀ σ' a' w',PinH L σ'→RS N0 base w0 σ' a' w'→S w') (hK:∀ σ' a' w',K σ'→RS N0 base w0 σ' a' w'→Q .normal a' w') :
  ∀ (fuel:Nat) (done:List Nat) (l:Array Bool) (σ:St) (a:Act) (w:World),l.size=ops.size→(∀ i,i < ops.size→(l.getD i false=true↔i∈done))→(∀ i,i∈done→i < ops.size) →
   allOrd P T L ops pk K fuel done σ→PinH L σ→S w→RS N0 base w0 σ a w→wpAnyH P .any ops (onlyN Q) S fuel l a w
 | 0,done,l,σ,a,w,hl,hd,hdl,h,_,_,hr=>by
  unfold allOrd at h
  split at h
  ·rename_i hrd
   refine ⟨List.eq_nil_iff_forall_not_mem.2 fun i hi=>?_,rfl,hK _ _ _ h hr⟩
   have:=(ready_iff hl hd hdl i).1 hi
   rw [hrd] at this;cases this
  ·exact h.elim
 | f+1,done,l,σ,a,w,hl,hd,hdl,h,hPh,hSw,hr=>by
  unfold allOrd at h
  split at h
  ·rename_i e hpick
   obtain ⟨g0,g2,g1⟩:=pickL_spec hpk hpick
   have hle:l=((List.range ops.size).map fun i=>memB i done).toArray:=by
    apply Array.ext (by simp [hl])
    intro i q1 q2
    have q3:=hd i (by omega)
    have q4:l.getD i false=l[i]:=by simp [Array.getD,q1]
    rw [q4] at q3
    simp only [List.getElem_toArray,List.getElem_map,List.getElem_range]
    rw [Bool.eq_iff_iff,q3,memB_iff]
   rw [← hle] at g1
   have g2':=(ready_iff hl hd hdl e).2 g2
   have g4:e < ops.size:=by
    obtain ⟨_,o,ho,_⟩:=mem_ready.1 g2'
    exact (Array.getElem?_eq_some_iff.1 ho).1
   obtain ⟨o,v,x,ho,hy0,hr',hK'⟩:=earlyG_step hT h hr hPh hm
   have hy:YieldsIf P ops S o v a:=by rw [hSS];exact hy0
   refine wpAnyH_take ho hns g1 (by simpa using g2') (fun c a' w' hq=>by cases hq.1) hy hSw ?_
   refine allOrd_sound hT hpk hns hm hSS hS hK f (e :: done) _ (σ.after o.dst x none) _ w (by simpa using hl) (fun q hq=>?_) (fun q hq=>?_) hK' (fun p hp=>hPh p hp) hSw hr'
   ·by_cases hee:e=q
    ·subst hee;simp [hl,g4]
    ·rw [getD_set_ne false hee,hd q hq,List.mem_cons]
     exact ⟨.inr,fun h=>h.resolve_left fun e'=>hee e'.symm⟩
   ·rcases List.mem_cons.1 hq with rfl | hq
    ·exact g4
    ·exact hdl q hq
  ·split at h
   ·rename_i hrd
    have hnil:Region.ready .any ops l=[]:=List.eq_nil_iff_forall_not_mem.2 fun i hi=>by
     have:=(ready_iff hl hd hdl i).1 hi
     rw [hrd] at this;cases this
    exact ⟨fun _=>⟨rfl,hK _ _ _ h hr⟩,by rw [hnil];simp⟩
   ·rename_i i0 r0 hrd
    have hin:i0∈Region.ready .any ops l:=(ready_iff hl hd hdl i0).2 (by rw [hrd];simp)
    refine ⟨fun hnil=>(by rw [hnil] at hin;cases hin),fun i hi=>?_⟩
    have h1:=andL_iff h i (by rw [← hrd];exact (ready_iff hl hd hdl i).1 hi)
    obtain ⟨_,o,ho,_⟩:=mem_ready.1 hi
    have his:=(Array.getElem?_eq_some_iff.1 ho).1
    simp only [nthO_eq,ho] at h1
    unfold wpOp
    rw [ho]
    have next:∀ {σ':St} {a':Act} {w':World},pinK L σ' (allOrd P T L ops pk K f (i :: done) σ')→RS N0 base w0 σ' a' w'→S w'∧wpAnyH P .any ops (onlyN Q) S f (l.setIfInBounds i true) a' w':=fun h0 h2 =>
     have h3:=(pinK_iff.1 h0).2
     ⟨hS _ _ _ (pinK_iff.1 h0).1 h2,allOrd_sound hT hpk hns hm hSS hS hK f (i :: done) _ _ _ _ (by simpa using hl) (fun q hq=>by
      by_cases hiq:i=q
      ·subst hiq;simp [hl,his]
      ·rw [getD_set_ne false hiq,hd q hq,List.mem_cons]
       exact ⟨.inr,fun h=>h.resolve_left fun e=>hiq e.symm⟩) (fun q hq=>by
      rcases List.mem_cons.1 hq with rfl | hq
      ·exact his
      ·exact hdl q hq) h3 (pinK_iff.1 h0).1 (hS _ _ _ (pinK_iff.1 h0).1 h2) h2⟩
    have hone:=vcOps0_sound (N0:=N0) (base:=base) (w0:=w0) hT (all:=ops) (ops:=[o]) (σ:=σ) (K:=fun σ'=>pinK L σ' (allOrd P T L ops pk K f (i :: done) σ')) (a:=a) (w:=w)
     (Q:=fun e a' w'=>match e with | .normal=>S w'∧wpAnyH P .any ops (onlyN Q) S f (l.setIfInBounds i true) a' w' | e=>onlyN Q e a' w') h1 hr (fun σ' a' w' q1 q2=>next q1 q2)
    unfold wpList at hone
    simp only
    split at hone
    ·rename_i hw
     rw [if_pos hw]
     rcases hone with hone | ⟨q1,a0,w0',q2⟩
     ·left
      unfold Oper.wp at hone ⊢
      generalize (execOp a.eval o).run P w=r at hone ⊢
      cases r with
      | ok n w' =>
       cases n <;> simp only [Oper.upon,wpList] at hone ⊢ <;> exact hone
      | halt x w'=>cases x <;> simp only [Oper.upon] at hone ⊢ <;> exact hone
     ·exact .inr ⟨q1,a0,w0',q2⟩
    ·rename_i hw
     rw [if_neg hw]
     exact hone
theorem early_soundJ (hT:TOK P T) {L:List Pin} {ops:Array Oper} {pk:List (Nat × List Nat)} (hpk:pkOK ops pk=true) {K:St→Prop} {es:List Nat} {S:World→Prop} {Q:Exit→Act→World→Prop} (hns:Region.noSelect ops=true) (hm:∀ i,i∈pinIds L→i∈w0.m) (hSS:S=pinS w0.v L)
  (hS:∀ σ' a' w',PinH L σ'→RS N0 base w0 σ' a' w'→S w') (hK:∀ σ' a' w',K σ'→RS N0 base w0 σ' a' w'→Q .normal a' w'):∀ (r done:List Nat) (fuel:Nat) (l:Array Bool) (σ:St) (a:Act) (w:World),l.size=ops.size →
  (∀ i,i < ops.size→(l.getD i false=true↔i∈done))→(∀ i,i∈done→i < ops.size)→earlyGo ops es r l=true→earlyH T L ops (fun σ=>allOrd P T L ops pk K fuel (r.reverse++done) σ) r σ→PinH L σ→S w→RS N0 base w0 σ a w→wpAnyH P .any ops (onlyN Q) S (fuel+r.length) l a w
 | [],done,fuel,l,σ,a,w,hs,hd,hdl,_,hE,hP,hSw,hr=>allOrd_sound hT hpk hns hm hSS hS hK fuel done l σ a w hs hd hdl (by simpa [earlyH] using hE) (fun p hp=>hP p hp) hSw hr
 | e :: r,done,fuel,l,σ,a,w,hs,hd,hdl,hgo,hE,hP,hSw,hr=>by
  simp only [earlyGo,Bool.and_eq_true,decide_eq_true_eq] at hgo
  obtain ⟨⟨⟨⟨g1,g2⟩,g3⟩,g4⟩,g5⟩:=hgo
  obtain ⟨o,v,x,ho,hg,hex,hr',hK'⟩:=earlyH_step hT hE hr hP hm
  have hy:YieldsIf P ops S o v a:=.inl ⟨by unfold Region.wanted;rw [hg],by rw [hSS];exact hex⟩
  rw [show fuel+(e :: r).length=(fuel+r.length)+1 by simp [Nat.add_assoc]]
  refine wpAnyH_take ho hns g1 g2 (fun c a' w' hq=>by cases hq.1) hy hSw ?_
  refine early_soundJ hT hpk hns hm hSS hS hK r (e :: done) fuel _ (σ.after o.dst x none) _ w (by simp [hs]) (fun q hq=>?_) (fun q hq=>?_) g5 ?_ (fun p hp=>hP p hp) hSw hr'
  ·by_cases hee:e=q
   ·subst hee;simp [hs,g4]
   ·rw [getD_set_ne false hee,hd q hq,List.mem_cons]
    exact ⟨.inr,fun h=>h.resolve_left fun e'=>hee e'.symm⟩
  ·rcases List.mem_cons.1 hq with rfl | hq
   ·exact g4
   ·exact hdl q hq
  ·have:(e :: r).reverse++done=r.reverse++(e :: done):=by simp
   rwa [this] at hK'
def dstsR:List Oper→List Nat→List Nat
 | [],acc=>acc
 | o :: r,acc=>match o.dst with
  | some d=>dstsR r (d :: acc)
  | none=>dstsR r acc
structure ShowsJ0 (ids:List Nat) (kept:List (Nat × AV)) (keptO:List (Nat × AO)) (next:Nat) (tc:List (Nat × AV)) (oc:List (Nat × AO)) (m:Nat) (σ:St):Prop where
 h1:(distinct (findS σ ids tc oc next) && fixB (findS σ ids tc oc next) σ.par && fixB (findS σ ids tc oc next) ids)=true
 h2:(kept.map fun p=>σ.get p.1)=(kept.map fun p=>some p.2)
 h3:(keptO.map fun p=>σ.obj p.1)=(keptO.map fun p=>some p.2)
 h4:leT σ (findS σ ids tc oc next) tc
 h5:leOs σ (findS σ ids tc oc next) oc
 h6:σ.size=m
structure ShowsJ (ids:List Nat) (kept:List (Nat × AV)) (keptO:List (Nat × AO)) (next:Nat) (tc:List (Nat × AV)) (oc:List (Nat × AO)) (m:Nat) (σ:St):Prop where
 of ::
 ex:∃ bs,backK bs σ fun σ'=>ShowsJ0 ids kept keptO next tc oc m σ'
theorem ShowsJ.mk {ids:List Nat} {kept:List (Nat × AV)} {keptO:List (Nat × AO)} {next:Nat} {tc:List (Nat × AV)} {oc:List (Nat × AO)} {m:Nat} {σ:St}
  (h1:(distinct (findS σ ids tc oc next) && fixB (findS σ ids tc oc next) σ.par && fixB (findS σ ids tc oc next) ids)=true)
  (h2:(kept.map fun p=>σ.get p.1)=(kept.map fun p=>some p.2)) (h3:(keptO.map fun p=>σ.obj p.1)=(keptO.map fun p=>some p.2))
  (h4:leT σ (findS σ ids tc oc next) tc) (h5:leOs σ (findS σ ids tc oc next) oc) (h6:σ.size=m):ShowsJ ids kept keptO next tc oc m σ:=⟨[],h1,h2,h3,h4,h5,h6⟩
variable (P T) in
def vcDrawJ (ops:Array Oper) (es:List Nat) (pk:List (Nat × List Nat)) (L:List Pin) (tc:List (Nat × AV)) (oc:List (Nat × AO)) (next:Nat) (σ:St) (K:St→Prop):Prop :=
 (earlyOK ops es && ops.toList.all noDefer && decide (es.length≤ops.size) && pkOK ops pk)=true∧idsK σ.objs (movedL (refT tc++refO oc) oc) [] fun ids=>keepK ids σ.tmps (dstsR ops.toList []) [] fun kept=>keepO ids σ.objs (numsO oc) [] fun keptO =>
  pinK L σ (earlyH T L ops (fun σe=>allOrd P T L ops pk (fun σ'=>ShowsJ ids kept keptO next tc oc σ.size (σ'.unpin σ.par)) (ops.size - es.length) es.reverse σe) es (σ.pin L)) ∧
   K (headSt σ tc kept (oc++keptO) next)
theorem vcDrawJ_ok (hT:TOK P T) {ops:Array Oper} {es:List Nat} {pk:List (Nat × List Nat)} {L:List Pin} {tc:List (Nat × AV)} {oc:List (Nat × AO)} {next:Nat} {σ:St} {K:St→Prop} {a:Act} {w:World} {Q:Exit→Act→World→Prop} (h:vcDrawJ P T ops es pk L tc oc next σ K) (hr:RS N0 base w0 σ a w)
  (hK:∀ σ' a' w',K σ'→RS N0 base w0 σ' a' w'→Q .normal a' w'):wpAny P .any ops (onlyN Q) ops.size (Array.replicate ops.size false) a { w with drawn:=w.drawn+1 }:=by
 obtain ⟨he,h⟩:=h
 obtain ⟨ids,h⟩:=idsK_elim h
 obtain ⟨kept,h,hk⟩:=keepK_elim h rfl
 obtain ⟨keptO,⟨hpin,hfin⟩,hkO⟩:=keepO_elim h rfl
 obtain ⟨hP,hE⟩:=pinK_iff.1 hpin
 simp only [Bool.and_eq_true,decide_eq_true_eq,earlyOK] at he
 obtain ⟨⟨⟨⟨hns,hgo⟩,hnd⟩,hel⟩,hpk⟩:=he
 have hr':=drawn_rel hr
 obtain ⟨hp,V,hV⟩:=hr'
 have hlt:=pinIds_lt hV hP
 let w0':W0:={ w0 with m:=w0.m++pinIds L,v:=V.v }
 have hV':Rel N0 base w0' σ.size V σ.get σ.obj (fun i=>i < σ.next) a { w with drawn:=w.drawn+1 } :=
  { hV with
   low:=hV.low
   bel:=⟨hV.bel.os,hV.bel.tape,hV.bel.output,hV.bel.size,hV.bel.block⟩
   dfr:=hV.dfr
   par:=fun i hi=>by
    rcases List.mem_append.1 hi with hi | hi
    ·exact ⟨(hV.par i hi).1,rfl⟩
    ·exact ⟨hlt i hi,rfl⟩ }
 have back:∀ {σ':St} {a':Act} {w':World},RS N0 base w0' σ' a' w'→RS N0 base w0 (σ'.unpin σ.par) a' w':=fun {σ' a' w'} ⟨_,V',h'⟩ =>
  ⟨hp,V',{ h' with
   low:=h'.low
   bel:=⟨h'.bel.os,h'.bel.tape,h'.bel.output,h'.bel.size,h'.bel.block⟩
   dfr:=h'.dfr
   par:=fun i hi=>by
    have:=h'.par i (List.mem_append_left _ hi)
    exact ⟨this.1,this.2.trans (hV.par i hi).2⟩ }⟩
 have hm:∀ i,i∈pinIds L→i∈w0'.m:=fun i hi=>List.mem_append_right _ hi
 have hRS:RS N0 base w0' (σ.pin L) a { w with drawn:=w.drawn+1 }:=⟨by show w0.m++_=σ.par++_;rw [hp],V,hV'⟩
 have hS:pinS w0'.v L { w with drawn:=w.drawn+1 }:=pinS_of hV' (fun p hp=>hP p hp) hm
 have h0:∀ i,(Array.replicate ops.size false).getD i false=false:=fun i=>by
  rcases Nat.lt_or_ge i ops.size with h | h
  ·simp [h]
  ·simp [h]
 have hmain:=early_soundJ (N0:=N0) (base:=base) (w0:=w0') (L:=L) (Q:=Q) (K:=fun σ'=>ShowsJ ids kept keptO next tc oc σ.size (σ'.unpin σ.par)) (S:=pinS w0'.v L) hT hpk hns hm rfl (fun σ' a' w' hPH ⟨_,V',hR'⟩=>pinS_of hR' hPH hm) (fun σ' a' w' q hR=>by
   obtain ⟨bs,hb⟩:=q.ex
   obtain ⟨σ2,q3,hR2,hs2,hp2⟩:=backK_elim hb (back hR)
   have q2:σ2.size=σ.size:=q3.h6
   have hp3:σ2.par=σ.par:=hp2
   have h1:=(Shows.leH hkO ⟨q3.h1,q3.h2,q3.h3,q3.h4,q3.h5⟩).sound hk hR2
   have e:headSt σ2 tc kept (oc++keptO) next=headSt σ tc kept (oc++keptO) next:=by
    unfold headSt
    simp only [q2,hp3]
   rw [e] at h1
   exact hK _ _ _ hfin h1) es [] (ops.size - es.length) (Array.replicate ops.size false) (σ.pin L) a _ (by simp) (fun i _=>by rw [h0];simp) (by simp) hgo (by simpa using hE) (fun p hp=>hP p hp) hS hRS
 rw [show ops.size - es.length+es.length=ops.size by omega] at hmain
 exact wpAny_of_held _ _ _ _ hmain
def pubK:List Nat→St→(St→Prop)→Prop
 | [],σ,K=>K σ
 | i :: r,σ,K=>match σ.obj i with
  | some (.arr _ xs)=>pubK r (σ.setObj i (.pub xs)) K
  | some (.tre k xs)=>k=1∧(∀ e,e∈xs→rowOK e)∧CalcL (xs.map rowA) fun zs=>pubK r (σ.setObj i (.pub zs)) K
  | _=>False
theorem pubK_elim:∀ {is:List Nat} {σ:St} {K:St→Prop} {a:Act} {w:World},pubK is σ K→RS N0 base w0 σ a w→∃ σ',K σ'∧RS N0 base w0 σ' a w
 | [],σ,K,a,w,h,hr=>⟨σ,h,hr⟩
 | i :: r,σ,K,a,w,h,hr=>by
  unfold pubK at h
  split at h
  ·rename_i k xs hob
   refine pubK_elim h ?_
   obtain ⟨hp,V,hV⟩:=hr
   refine ⟨hp,V,?_⟩
   rw [St.obj_setObj]
   exact hV.publish hob
  ·rename_i k xs hob
   obtain ⟨rfl,hrow,hc⟩:=h
   refine pubK_elim hc.elim ?_
   obtain ⟨hp,V,hV⟩:=hr
   refine ⟨hp,V,?_⟩
   rw [St.obj_setObj]
   exact hV.publishT hob hrow
  ·exact h.elim
variable (P T) in
def vcDrawF0 (ops:Array Oper) (σ:St) (K:St→Prop):Prop :=
 vcDraw P T ops σ K∨(∃ es:List Nat,earlyOK ops es=true∧earlyK T ops es σ∧vcDraw P T (addE es ops) σ K)∨(∃ es:List Nat,lateOK ops es=true∧vcDraw P T (addE es ops) σ K)∨(∃ es L,vcDrawH P T ops es L σ K)∨(∃ es pk L tc oc next,vcDrawJ P T ops es pk L tc oc next σ K)∨False
variable (P T) in
def vcDrawF (ops:Array Oper) (σ:St) (K:St→Prop):Prop :=
 vcDraw P T ops σ K∨(∃ es:List Nat,earlyOK ops es=true∧earlyK T ops es σ∧vcDraw P T (addE es ops) σ K)∨(∃ es:List Nat,lateOK ops es=true∧vcDraw P T (addE es ops) σ K)∨(∃ es L,vcDrawH P T ops es L σ K)∨(∃ es pk L tc oc next,vcDrawJ P T ops es pk L tc oc next σ K)∨∃ is:List (Nat × Nat × Nat) × List Nat,backK is.1 σ fun σ=>pubK is.2 σ fun σ=>vcDrawF0 P T ops σ K
theorem vcDrawF0_ok (hT:TOK P T) (hm:P.follows .mixedOrders=true):DOK P (vcDrawF0 P T):=by
 intro N0 base w0 r0 n id ops σ K a w Q h hr hK
 rcases h with h | h | h | ⟨es,L,h⟩ | ⟨es,pk,L,tc,oc,next,h⟩ | h
 ·exact vcDrawE_ok hT hm (.inl h) hr hK
 ·exact vcDrawE_ok hT hm (.inr (.inl h)) hr hK
 ·exact vcDrawE_ok hT hm (.inr (.inr h)) hr hK
 ·exact wpIn_mono (wpIn_region_any hm (wpAnyIn_of (Q:=Q) (vcDrawH_noDefer h) _ _ _ _ (vcDrawH_ok (Q:=Q) hT h hr hK))) fun e a w ⟨h1,h2⟩=>by subst h1;exact h2
 ·have hnd:∀ (i:Nat) (o:Oper),ops[i]?=some o→noDefer o=true:=fun i o ho=>by
   have:=h.1
   simp only [Bool.and_eq_true] at this
   exact List.all_eq_true.1 this.1.1.2 o (Array.mem_toList_iff.2 (Array.mem_of_getElem? ho))
  exact wpIn_mono (wpIn_region_any hm (wpAnyIn_of (Q:=Q) hnd _ _ _ _ (vcDrawJ_ok (Q:=Q) hT h hr hK))) fun e a w ⟨h1,h2⟩=>by subst h1;exact h2
 ·exact h.elim
theorem vcDrawF_ok (hT:TOK P T) (hm:P.follows .mixedOrders=true):DOK P (vcDrawF P T):=by
 intro N0 base w0 r0 n id ops σ K a w Q h hr hK
 rcases h with h | h | h | h | h | ⟨is,h⟩
 ·exact vcDrawF0_ok hT hm (.inl h) hr hK
 ·exact vcDrawF0_ok hT hm (.inr (.inl h)) hr hK
 ·exact vcDrawF0_ok hT hm (.inr (.inr (.inl h))) hr hK
 ·exact vcDrawF0_ok hT hm (.inr (.inr (.inr (.inl h)))) hr hK
 ·exact vcDrawF0_ok hT hm (.inr (.inr (.inr (.inr (.inl h))))) hr hK
 ·obtain ⟨σ1,h0,hr1,_,_⟩:=backK_elim h hr
  obtain ⟨σ',h1,h2⟩:=pubK_elim h0 hr1
  exact vcDrawF0_ok hT hm h1 h2 hK
end
end Go.Sk
