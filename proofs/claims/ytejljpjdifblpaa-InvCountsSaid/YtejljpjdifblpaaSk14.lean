/- A checker of Go functions by conditions over small pure states: part 15. -/
import Derived.Test.YtejljpjdifblpaaSk13
set_option linter.unusedVariables false
set_option linter.unusedSimpArgs false
namespace Go.Sk
open Go.RowKit
section
variable {P:Program} {T:TypeId→Option TI} {N0:Nat→Prop} {base:Nat} {w0:W0}
theorem yielded_rel {m:Nat} {V:VV} {g:Nat→Option AV} {ob:Nat→Option AO} {A:Nat→Prop} {a:Act} {w:World} (hV:Rel N0 base w0 m V g ob A a w) {all:Array Oper} {j d:Nat} (hj:(all[j]?).bind Oper.dst=some d) :
  (∀ b,g d=some (.v (.bool b))→yielded all a.tmps j=some b)∧(g d=some .skip→yielded all a.tmps j=none):=by
 refine ⟨fun b hb=>?_,fun hb=>?_⟩
 ·have:=eval_v (hV.tm d _ hb)
  unfold yielded
  have hj':((all[j]?).bind (·.dst))=some d:=hj
  rw [hj']
  simp only [Option.bind_some]
  simp at this
  cases ht:a.tmps[d]? with
  | none=>simp [ht,Go.undef] at this
  | some v=>simp [ht] at this;subst this;rfl
 ·have:=hV.tm d _ hb
  unfold yielded
  have hj':((all[j]?).bind (·.dst))=some d:=hj
  rw [hj']
  simp only [Option.bind_some]
  generalize hv:a.tmps.getD d Go.undef=v at this
  cases this with
  | im h=>cases h
  | skip =>
   simp at hv
   cases ht:a.tmps[d]? with
   | none=>rfl
   | some v=>simp [ht] at hv;subst hv;rfl
theorem take_get {α:Type} {l:List α} {i j:Nat} (h:i < j):(l.take j)[i]?=l[i]?:=by rw [List.getElem?_take,if_pos h]
theorem pre_any (hT:TOK P T) {ops:Array Oper} {k:Nat} (hk:k≤ops.size) (hF:PreF ops k) (hsuf:∀ j,j < ops.size→k≤j→∀ i,i < j→i∈(ancs ops.toList).getD j [])
  {σ σ0 σ1:St} (hσ0:σ0.get=σ.get∧σ0.obj=σ.obj∧σ0.size=σ.size∧σ0.next=σ.next+k) {rs:List (AV × Option AO)} (hG:Gen P ops ⟨σ.obj,σ.next⟩ (ops.toList.take k) σ.next σ0 rs σ1) (hpar:w0.m=σ1.par) (hobn:∀ i u,σ.obj i=some u→i < σ.next)
  {K:St→Prop} (hv:vcOps0 P T ops (ops.toList.drop k) σ1 K) {Q:Exit→Act→World→Prop} (hK:∀ σ' a' w',K σ'→RS N0 base w0 σ' a' w'→Q .normal a' w') :
  ∀ (fuel:Nat) (listed:Array Bool) (a:Act) (w:World),cnt listed≤fuel→listed.size=ops.size→Closed ops listed→(∀ i,k≤i→listed.getD i false=false) →
   (∃ V,Rel N0 base w0 σ.size V (gS (ops.toList.take k) rs listed σ.get) (oS rs σ.next listed σ.obj) (aS σ.next listed) a w)→wpAny P .any ops Q fuel listed a w:=by
 obtain ⟨hlen,hend1,hend2,hend3,hend4⟩:=hG.end
 rw [hσ0.1] at hend1
 rw [hσ0.2.1] at hend2
 have hplen:(ops.toList.take k).length=k:=by simp;omega
 have hpre:∀ {i:Nat},i < k→(ops.toList.take k)[i]?=ops[i]?:=fun hi=>by rw [take_get hi];simp
 have huniq:∀ {t i j:Nat} {o:Oper},dstIdx (ops.toList.take k) t=some i→(ops.toList.take k)[j]?=some o→o.dst=some t→j=i:=by
  intro t i j o hi hj hd
  have hjk:j < k:=by have:=(List.getElem?_eq_some_iff.1 hj).1;omega
  obtain ⟨d,h1,h2⟩:=hF.dst j o hjk (by rw [← hpre hjk];exact hj)
  rw [hd] at h1
  injection h1 with h1
  subst h1
  rw [h2] at hi
  injection hi
 have hik:∀ {t i:Nat},dstIdx (ops.toList.take k) t=some i→i < k:=fun hi=>by
  obtain ⟨o,h1,_⟩:=dstIdx_some hi
  have:=(List.getElem?_eq_some_iff.1 h1).1
  omega
 have hgd:∀ {listed:Array Bool} {q:Nat},listed.size=ops.size→q < ops.size→listed.getD q true=listed.getD q false:=fun h1 h2=>by simp [h1,h2]
 intro fuel
 induction fuel with
 | zero =>
  intro listed a w hc hsz hcl hun hr
  have hall:∀ i,i < ops.size→listed.getD i false=true:=fun i hi=>by
   cases h:listed.getD i false with
   | true=>rfl
   | false =>
    have:=cnt_set (listed:=listed) (i:=i) (by rw [hgd hsz hi];exact h)
    omega
  have hke:k=ops.size:=by
   rcases Nat.lt_or_ge k ops.size with h | h
   ·have h1:=hall k h
    rw [hun k (Nat.le_refl _)] at h1
    cases h1
   ·omega
  refine suf_any hT hsuf hF.edge hK 0 k listed σ1 a w (by omega) (Nat.le_refl _) hk hsz hcl (fun q hq=>⟨fun _=>by omega,fun _=>hall q hq⟩) hv ?_
  obtain ⟨V,hV⟩:=hr
  refine ⟨hpar,V,?_⟩
  have hobj:σ1.obj=oS rs σ.next listed σ.obj:=by
   rw [hend2];funext id
   rw [objOf_get hlen,hplen]
   unfold oS
   by_cases hid:σ.next≤id∧id < σ.next+k
   ·rw [if_pos hid,if_pos ⟨hid.1,hall _ (by omega)⟩]
    try (cases (rs[id - σ.next]?).bind (·.2) <;> rfl)
   ·rw [if_neg hid]
    split
    ·rename_i h2
     have:rs[id - σ.next]?=none:=List.getElem?_eq_none (by omega)
     rw [this];rfl
    ·rfl
  rw [hobj,hend4,hσ0.2.2.1]
  refine (hV.weakA (A':=fun i=>i < σ1.next) fun i hi=>?_).less fun t x hx=>?_
  ·rw [hend3,hσ0.2.2.2]
   rcases hi with hi | ⟨h1,h2⟩
   ·omega
   ·rcases Nat.lt_or_ge (i - σ.next) k with h3 | h3
    ·omega
    ·rw [hun _ h3] at h2;cases h2
  ·rw [hend1] at hx
   unfold gS
   split
   ·rename_i i hi
    obtain ⟨o,h1,h2⟩:=dstIdx_some hi
    have h3:i < rs.length:=by have:=hik hi;omega
    rw [valOf_some h1 h2 (List.getElem?_eq_getElem h3) (fun j o' hj hd=>huniq hi hj hd)] at hx
    rw [if_pos (hall i (by have:=hik hi;omega)),List.getElem?_eq_getElem h3]
    exact hx
   ·rename_i hi
    rw [valOf_none (dstIdx_none hi)] at hx
    exact hx
 | succ fuel ih =>
  intro listed a w hc hsz hcl hun hr
  by_cases hall:∀ i,i < k→listed.getD i false=true
  ·refine suf_any hT hsuf hF.edge hK (fuel+1) k listed σ1 a w ?_ (Nat.le_refl _) hk hsz hcl (fun q hq=>⟨fun h=>(by
     rcases Nat.lt_or_ge q k with h' | h'
     ·exact h'
     ·rw [hun q h'] at h;cases h),fun h=>hall q h⟩) hv ?_
   ·
    have:ops.size - k≤cnt listed:=by
     unfold cnt
     rw [hsz]
     have hsub:(List.range' k (ops.size - k)).length≤((List.range ops.size).filter fun i=>!listed.getD i true).length:=by
      refine List.Sublist.length_le ?_
      have h1:(List.range' k (ops.size - k)).filter (fun i=>!listed.getD i true)=List.range' k (ops.size - k):=by
       rw [List.filter_eq_self]
       intro q hq
       have hq':=List.mem_range'_1.1 hq
       rw [hgd hsz (by omega),hun q hq'.1];rfl
      rw [← h1]
      refine List.Sublist.filter _ ?_
      rw [List.range_eq_range']
      have:List.range' 0 ops.size=List.range' 0 k++List.range' k (ops.size - k):=by
       rw [show ops.size=k+(ops.size - k) by omega,← List.range'_append_1]
       simp
      rw [this]
      exact List.sublist_append_right _ _
     simpa using hsub
    omega
   ·obtain ⟨V,hV⟩:=hr
    refine ⟨hpar,V,?_⟩
    have hobj:σ1.obj=oS rs σ.next listed σ.obj:=by
     rw [hend2];funext id
     rw [objOf_get hlen,hplen]
     unfold oS
     by_cases hid:σ.next≤id∧id < σ.next+k
     ·rw [if_pos hid,if_pos ⟨hid.1,hall _ (by omega)⟩]
      try (cases (rs[id - σ.next]?).bind (·.2) <;> rfl)
     ·rw [if_neg hid]
      split
      ·rename_i h2
       have:rs[id - σ.next]?=none:=List.getElem?_eq_none (by omega)
       rw [this];rfl
      ·rfl
    rw [hobj,hend4,hσ0.2.2.1]
    refine (hV.weakA (A':=fun i=>i < σ1.next) fun i hi=>?_).less fun t x hx=>?_
    ·rw [hend3,hσ0.2.2.2]
     rcases hi with hi | ⟨h1,h2⟩
     ·omega
     ·rcases Nat.lt_or_ge (i - σ.next) k with h3 | h3
      ·omega
      ·rw [hun _ h3] at h2;cases h2
    ·rw [hend1] at hx
     unfold gS
     split
     ·rename_i i hi
      obtain ⟨o,h1,h2⟩:=dstIdx_some hi
      have h3:i < rs.length:=by have:=hik hi;omega
      rw [valOf_some h1 h2 (List.getElem?_eq_getElem h3) (fun j o' hj hd=>huniq hi hj hd)] at hx
      rw [if_pos (hall i (hik hi)),List.getElem?_eq_getElem h3]
      exact hx
     ·rename_i hi
      rw [valOf_none (dstIdx_none hi)] at hx
      exact hx
  ·
   have hex:∃ i,i < k∧listed.getD i false=false:=by
    refine Classical.byContradiction fun hno=>hall fun i hi=>?_
    cases h:listed.getD i false with
    | true=>rfl
    | false=>exact absurd ⟨i,hi,h⟩ hno
   obtain ⟨i0,⟨hi0,hf0⟩,hmin⟩:=exists_least hex
   have hready0:i0∈Region.ready .any ops listed:=mem_ready.2 ⟨(by rw [hgd hsz (by omega)];exact hf0),_,Array.getElem?_eq_getElem (by omega),fun e he hbi=>by
    have hlt:=hF.edge i0 _ (Array.getElem?_eq_getElem (by omega)) e he hbi
    cases h:listed.getD e.on false with
    | true=>rfl
    | false=>have:=hmin e.on ⟨by omega,h⟩;omega⟩
   refine ⟨fun hnil=>(by rw [hnil] at hready0;cases hready0),fun j hj=>?_⟩
   obtain ⟨h1,o,ho,hpred⟩:=mem_ready.1 hj
   have hjs:j < ops.size:=(Array.getElem?_eq_some_iff.1 ho).1
   rw [hgd hsz hjs] at h1
   have hjk:j < k:=by
    rcases Nat.lt_or_ge j k with h | h
    ·exact h
    ·have:=ancs_listed hcl ops.toList.length (Nat.le_refl _) j o (by simpa using hjs) ho hpred i0 (by rw [List.take_length];exact hsuf j hjs h i0 (by omega))
     rw [hf0] at this;cases this
   have hcl':=closed_set hcl hj
   have hsz':(listed.setIfInBounds j true).size=ops.size:=by simpa using hsz
   have hcnt':cnt (listed.setIfInBounds j true)≤fuel:=by
    have:=cnt_set (listed:=listed) (i:=j) (by rw [hgd hsz hjs];exact h1)
    omega
   have hun':∀ i,k≤i→(listed.setIfInBounds j true).getD i false=false:=fun i hi=>by rw [getD_set_ne false (by omega)];exact hun i hi
   have hself:(listed.setIfInBounds j true).getD j false=true:=by simp [hsz,hjs]
   have hpj:(ops.toList.take k)[j]?=some o:=by rw [hpre hjk];exact ho
   have hjl:j < (ops.toList.take k).length:=by omega
   have hjr:j < rs.length:=by omega
   have hoj:(ops.toList.take k)[j]=o:=by rw [List.getElem?_eq_getElem hjl] at hpj;injection hpj
   obtain ⟨σj,hgood,hgj,hszj,hobj⟩:=hG.at j hjl hjr
   rw [hoj] at hgood
   rw [hσ0.1] at hgj
   rw [hσ0.2.2.1] at hszj
   obtain ⟨d,hd1,hd2⟩:=hF.dst j o hjk ho
   obtain ⟨V,hV⟩:=hr
   have agree:∀ t,(∀ i,dstIdx (ops.toList.take k) t=some i→afterB o i=true)→gS (ops.toList.take k) rs listed σ.get t=σj.get t:=by
    intro t ht
    rw [hgj]
    unfold gS
    split
    ·rename_i i hi
     have hab:=ht i hi
     have hli:=after_of hab hpred
     have hij:i < j:=by
      unfold afterB at hab
      rw [List.any_eq_true] at hab
      obtain ⟨e,h3,h4⟩:=hab
      simp only [Bool.and_eq_true,beq_iff_eq] at h4
      have:=hF.edge j o ho e (by simpa using h3) h4.1
      omega
     obtain ⟨oi,q1,q2⟩:=dstIdx_some hi
     have hir:i < rs.length:=by have:=hik hi;omega
     rw [if_pos hli,valOf_some (i:=i) (o:=oi) (x:=rs[i]) (by rw [take_get hij];exact q1) q2 (by rw [take_get hij];exact List.getElem?_eq_getElem hir) (fun j' o' hj' hd'=>by
      have hlt:j' < j:=by have:=(List.getElem?_eq_some_iff.1 hj').1;simp at this;omega
      rw [take_get hlt] at hj'
      exact huniq hi hj' hd')]
     rw [List.getElem?_eq_getElem hir];rfl
    ·rename_i hi
     rw [valOf_none fun o' ho'=>dstIdx_none hi o' (List.mem_of_mem_take ho')]
   have hwant:∀ b,wantA ops σj o=some b→Region.wanted o (yielded ops a.tmps)=b:=by
    intro b hb
    unfold wantA at hb
    unfold Region.wanted
    split at hb
    ·rename_i hg;rw [hg];injection hb
    ·rename_i g want hg
     rw [hg]
     simp only
     split at hb
     ·cases hb
     ·rename_i d' hd'
      obtain ⟨y1,y2⟩:=yielded_rel hV hd'
      have hag:=agree d' fun i hi=>hF.guard j o hjk ho g want d' hg hd' i hi
      split at hb
      ·rename_i b' hb'
       have hbb:=Option.some.inj hb
       subst hbb
       rw [y1 b' (by rw [hag];exact hb')]
       cases b' <;> cases want <;> rfl
      ·rename_i hb'
       have hbb:=Option.some.inj hb
       subst hbb
       rw [y2 (by rw [hag];exact hb')]
       rfl
      ·cases hb
   have hgS':∀ x,rs[j].1=x→gS (ops.toList.take k) rs (listed.setIfInBounds j true) σ.get=upd (gS (ops.toList.take k) rs listed σ.get) o.dst x:=by
    intro x hx
    funext t
    unfold upd
    rw [hd1]
    by_cases htd:d=t
    ·subst htd
     rw [if_pos rfl]
     unfold gS
     simp only [hd2,hself,if_true,List.getElem?_eq_getElem hjr,Option.map_some,hx]
    ·rw [if_neg (fun e=>htd (by injection e))]
     unfold gS
     split
     ·rename_i i hi
      have hne:j≠i:=fun e=>by
       subst e
       obtain ⟨oi,q1,q2⟩:=dstIdx_some hi
       rw [hpj] at q1
       injection q1 with q1
       subst q1
       rw [hd1] at q2
       injection q2 with q2
       exact htd q2
      rw [getD_set_ne false hne]
     ·rfl
   have hoS':∀ no,rs[j].2=no→oS rs σ.next (listed.setIfInBounds j true) σ.obj=updN (oS rs σ.next listed σ.obj) (σ.next+j) no:=by
    intro no hno
    funext id
    by_cases hid:id=σ.next+j
    ·subst hid
     have e1:σ.next+j - σ.next=j:=by omega
     have hl:oS rs σ.next (listed.setIfInBounds j true) σ.obj (σ.next+j)=match no with | some o=>some o | none=>σ.obj (σ.next+j):=by
      unfold oS
      rw [e1,if_pos ⟨by omega,hself⟩,List.getElem?_eq_getElem hjr]
      simp only [Option.bind_some,hno]
      cases no <;> rfl
     have hl2:oS rs σ.next listed σ.obj (σ.next+j)=σ.obj (σ.next+j):=by
      unfold oS
      rw [e1,if_neg (fun h=>by rw [h1] at h;cases h.2)]
     rw [hl]
     cases no with
     | none=>exact hl2.symm
     | some o'=>simp [updN,updO]
    ·have hl:oS rs σ.next (listed.setIfInBounds j true) σ.obj id=oS rs σ.next listed σ.obj id:=by
      unfold oS
      by_cases hn:σ.next≤id
      ·rw [getD_set_ne false (by omega)]
      ·rw [if_neg (fun h=>hn h.1),if_neg (fun h=>hn h.1)]
     rw [hl]
     cases no with
     | none=>rfl
     | some o'=>simp [updN,updO,hid]
   have haS':∀ i,aS σ.next listed i→aS σ.next (listed.setIfInBounds j true) i:=fun i hi=>by
    rcases hi with hi | ⟨q1,q2⟩
    ·exact .inl hi
    ·exact .inr ⟨q1,getD_set_true q2⟩
   have hdok:∀ d',o.dst=some d'→d' < σ.size:=fun d' hd'=>by rw [← hszj];exact dstOk_spec hgood.1 d' hd'
   unfold wpOp
   rw [ho]
   simp only
   rcases hgood.2 with ⟨hw,hok⟩ | ⟨hw,hskip⟩
   ·rw [if_pos (hwant true hw)]
    left
    refine hok hV (fun y hy=>?_) (fun i u hu=>?_) (fun hA=>?_) hdok _ Q fun a' w' V' hV'=>?_
    ·cases y with
     | tmp t=>exact agree t fun i hi=>hF.look j o hjk ho t (by
       unfold tmpsOf
       rw [List.mem_filterMap]
       exact ⟨.tmp t,by simpa using hy,rfl⟩) i hi
     | _=>rfl
    ·unfold Vis.of at hu
     simp only at hu
     split at hu
     ·rename_i u' hu'
      injection hu with hu
      subst hu
      have:=hobn i u' hu'
      unfold oS
      rw [if_neg (by omega)]
      exact hu'
     ·rename_i hnone
      split at hu
      ·rename_i hc
       rw [Bool.and_eq_true,decide_eq_true_eq] at hc
       have hab:=hc.2
       have hli:=after_of hab hpred
       have hij:i - σ.next < j:=by
        unfold afterB at hab
        rw [List.any_eq_true] at hab
        obtain ⟨e,h3,h4⟩:=hab
        simp only [Bool.and_eq_true,beq_iff_eq] at h4
        have:=hF.edge j o ho e (by simpa using h3) h4.1
        omega
       rw [hobj,objOf_get (by rw [List.length_take,List.length_take];omega),hσ0.2.1] at hu
       rw [if_pos ⟨hc.1,by rw [List.length_take];omega⟩,take_get hij] at hu
       unfold oS
       rw [if_pos ⟨hc.1,hli⟩]
       exact hu
      ·cases hu
    ·rcases hA with hA | ⟨_,hA⟩
     ·omega
     ·rw [show σ.next+j - σ.next=j by omega,h1] at hA;cases hA
    ·refine ih _ _ _ hcnt' hsz' hcl' hun' ⟨V',?_⟩
     rw [hgS' _ rfl,hoS' _ rfl]
     refine hV'.weakA fun i hi=>?_
     cases hno:rs[j].2 with
     | none=>rw [hno] at hi;exact haS' i hi
     | some o' =>
      rw [hno] at hi
      rcases hi with hi | rfl
      ·exact haS' i hi
      ·exact .inr ⟨by omega,by rw [show σ.next+j - σ.next=j by omega];exact hself⟩
   ·rw [if_neg (by rw [hwant false hw];simp)]
    refine ih _ _ _ hcnt' hsz' hcl' hun' ⟨V,?_⟩
    rw [hgS' .skip (by rw [hskip]),hoS' none (by rw [hskip])]
    exact (hV.put hdok .skip (by simp [bd])).weakA haS'
theorem vcDraw_any (hT:TOK P T) {ops:Array Oper} {σ:St} {K:St→Prop} {a:Act} {w:World} {Q:Exit→Act→World→Prop} (h:vcDraw P T ops σ K) (hr:RS N0 base w0 σ a w)
  (hK:∀ σ' a' w',K σ'→RS N0 base w0 σ' a' w'→Q .normal a' w'):wpAny P .any ops Q ops.size (Array.replicate ops.size false) a { w with drawn:=w.drawn+1 }:=by
 obtain ⟨k,hc,hv⟩:=h
 simp only [Bool.and_eq_true,decide_eq_true_eq] at hc
 obtain ⟨⟨hpre,hsuf⟩,hk⟩:=hc
 obtain ⟨rs,σ1,hG,hv1⟩:=hv.gen hT
 have hF:=preOK_spec hk hpre
 have hsuf':∀ j,j < ops.size→k≤j→∀ i,i < j→i∈(ancs ops.toList).getD j []:=by
  intro j hj hkj i hij
  unfold sufOK at hsuf
  simp only [List.all_eq_true,List.mem_range,Bool.or_eq_true,decide_eq_true_eq] at hsuf
  rcases hsuf j (by simpa using hj) with h | h
  ·omega
  ·have:=h i hij
   simpa using this
 have hr':=drawn_rel hr
 obtain ⟨hp,V,hV⟩:=hr'
 have h0:∀ i,(Array.replicate ops.size false).getD i false=false:=fun i=>by
  rcases Nat.lt_or_ge i ops.size with h | h
  ·simp [h]
  ·simp [h]
 refine pre_any hT hk hF hsuf' (σ:=σ) (σ0:={ σ with next:=σ.next+k }) ⟨rfl,rfl,rfl,rfl⟩ hG (by rw [hG.par_eq];exact hp) (fun i u hu=>(hV.bdo i u hu).1) hv1 hK ops.size _ a _ ?_ (by simp) (fun i o hi=>by rw [h0] at hi;cases hi) (fun i _=>h0 i) ⟨V,?_⟩
 ·unfold cnt
  refine Nat.le_trans (List.length_filter_le _ _) (by simp)
 ·have e2:oS rs σ.next (Array.replicate ops.size false) σ.obj=σ.obj:=by
   funext i
   unfold oS
   rw [if_neg (fun h=>by rw [h0] at h;cases h.2)]
  rw [e2]
  refine (hV.weakA fun i hi=>.inl hi).less fun t x hx=>?_
  unfold gS at hx
  split at hx
  ·rw [h0] at hx
   simp at hx
  ·exact hx
def onlyN (Q:Exit→Act→World→Prop) (e:Exit) (a:Act) (w:World):Prop:=e=.normal∧Q .normal a w
theorem noDefer_spec {o:Oper} (h:noDefer o=true):∀ c,o.op≠.defer c:=fun c hc=>by unfold noDefer at h;rw [hc] at h;cases h
theorem wpAnyIn_of {md:Region.Mode} {ops:Array Oper} {Q:Exit→Act→World→Prop} {r0:Option Nat} {n:Nat} (hd:∀ (i:Nat) (o:Oper),ops[i]?=some o→noDefer o=true):∀ (fuel:Nat) (listed:Array Bool) (a:Act) (w:World),
  wpAny P md ops (onlyN Q) fuel listed a w→wpAnyIn (WR r0) n P md ops (onlyN Q) fuel listed a w
 | 0,_,_,_,h=>h
 | fuel+1,listed,a,w,h=>⟨h.1,fun i hi=>by
  have h2:=h.2 i hi
  unfold wpOp at h2
  unfold wpOpIn
  split
  ·rename_i hn
   rw [hn] at h2
   exact wpAnyIn_of hd fuel _ _ _ h2
  ·rename_i o ho
   rw [ho] at h2
   simp only at h2
   split
   ·rename_i hw
    rw [if_pos hw] at h2
    rcases h2 with h2 | ⟨_,q1,q2,q3⟩
    ·exact Oper.wpIn_mono (fun a w=>wpAnyIn_of hd fuel _ a w) (wpIn_of_wp (noDefer_spec (hd i o ho)) h2)
    ·cases q3.1
   ·rename_i hw
    rw [if_neg hw] at h2
    exact ⟨fun _ _=>trivial,wpAnyIn_of hd fuel _ _ _ h2⟩⟩
theorem vcDraw_noDefer {ops:Array Oper} {σ:St} {K:St→Prop} (h:vcDraw P T ops σ K):∀ (i:Nat) (o:Oper),ops[i]?=some o→noDefer o=true:=fun i o ho=>by
 obtain ⟨k,h,_⟩:=h
 simp only [Bool.and_eq_true] at h
 have:=h.1.1
 unfold preOK at this
 rw [Bool.and_eq_true] at this
 exact List.all_eq_true.1 this.2 o (Array.mem_toList_iff.2 (Array.mem_of_getElem? ho))
theorem vcDraw_ok (hT:TOK P T) (hm:P.follows .mixedOrders=true):DOK P (vcDraw P T):=fun {N0 base w0 r0 n id ops σ K a w Q} h hr hK =>
 wpIn_mono (wpIn_region_any hm (wpAnyIn_of (Q:=Q) (vcDraw_noDefer h) _ _ _ _ (vcDraw_any (Q:=onlyN Q) hT h hr fun σ' a' w' h1 h2=>⟨rfl,hK σ' a' w' h1 h2⟩))) fun e a w ⟨h1,h2⟩=>by subst h1;exact h2
end
end Go.Sk
namespace Go.Sk
open Go.RowKit
def rnOper (f:Nat→Nat) (o:Oper):Oper:={ o with after:=o.after.map fun e=>{ e with on:=f e.on },guard:=match o.guard with | some (g,b)=>some (f g,b) | none=>none }
def permOps (perm:List Nat) (ops:Array Oper):Array Oper:=(perm.map fun i=>rnOper (fun j=>perm.idxOf j) (ops.getD i default)).toArray
def isPerm (perm:List Nat) (n:Nat):Bool:=perm.length == n && perm.all (fun i=>decide (i < n)) && (List.range n).all (fun i=>perm.contains i) && decide perm.Nodup
section
variable {P:Program} {md:Region.Mode} {ops:Array Oper} {Q:Exit→Act→World→Prop} {perm:List Nat}
end
def vcDrawP (P:Program) (T:TypeId→Option TI) (ops:Array Oper) (σ:St) (K:St→Prop):Prop :=
 vcDraw P T ops σ K∨∃ perm:List Nat,isPerm perm ops.size=true∧vcDraw P T (permOps perm ops) σ K
end Go.Sk
namespace Go.Sk
open Go.RowKit
def addE (es:List Nat) (ops:Array Oper):Array Oper :=
 (ops.toList.zipIdx.map fun p=>if es.contains p.2 then p.1 else { p.1 with after:=p.1.after++((es.filter fun e=>decide (e < p.2)).map fun e=>({ on:=e,ground:=.data }:Edge)).toArray }).toArray
def earlyGo (ops:Array Oper) (es:List Nat):List Nat→Array Bool→Bool
 | [],_=>true
 | e :: r,l=>Region.free .any ops l e && (Region.ready .any ops l).contains e && (Region.ready .any (addE es ops) l).contains e && decide (e < ops.size) && earlyGo ops es r (l.setIfInBounds e true)
def earlyOK (ops:Array Oper) (es:List Nat):Bool:=Region.noSelect ops && earlyGo ops es es (Array.replicate ops.size false)
def earlyK (T:TypeId→Option TI) (ops:Array Oper):List Nat→St→Prop
 | [],_=>True
 | e :: r,σ=>match ops[e]? with
  | none=>False
  | some o=>match o.guard,dstOk σ o with
   | none,true=>match o.op with
    | .move x | .assign x=>kx σ.eval x fun y=>earlyK T ops r (σ.after o.dst y none)
    | .binOp op t x y _=>kx σ.eval x fun xv=>kx σ.eval y fun yv=>match xv,yv with
     | .v a,.v b=>abin T op t a b fun v=>earlyK T ops r (σ.after o.dst (.v v) none)
     | _,_=>False
    | _=>False
   | _,_=>False
section
variable {P:Program} {T:TypeId→Option TI} {ops:Array Oper} {es:List Nat} {N0:Nat→Prop} {base:Nat} {w0:W0}
theorem addE_size:(addE es ops).size=ops.size:=by unfold addE;simp
theorem addE_get (i:Nat):(addE es ops)[i]?=(ops[i]?).map fun o=>if es.contains i then o else { o with after:=o.after++((es.filter fun e=>decide (e < i)).map fun e=>({ on:=e,ground:=.data }:Edge)).toArray }:=by
 unfold addE
 rw [List.getElem?_toArray,List.getElem?_map,List.getElem?_zipIdx,Array.getElem?_toList]
 cases ops[i]? <;> simp
theorem yielded_addE (t:Array Value) (j:Nat):yielded (addE es ops) t j=yielded ops t j:=by
 unfold yielded
 rw [addE_get]
 cases ops[j]? with
 | none=>rfl
 | some o =>
  cases hc:es.contains j with
  | true=>simp only [Option.map_some,if_true]
  | false=>simp only [Option.map_some];rfl
theorem wpOp_addE {Q:Exit→Act→World→Prop} {i:Nat} {a:Act} {w:World} {K:Act→World→Prop} (hh:wpOp P (addE es ops) Q i K a w):wpOp P ops Q i K a w:=by
 unfold wpOp at *
 rw [addE_get] at hh
 cases ho:ops[i]? with
 | none=>rw [ho] at hh;exact hh
 | some o =>
  rw [ho] at hh
  simp only [Option.map_some] at hh
  have e:∀ o':Oper,o'.guard=o.guard→Region.wanted o' (yielded (addE es ops) a.tmps)=Region.wanted o (yielded ops a.tmps):=by
   intro o' hg
   unfold Region.wanted
   rw [hg]
   cases o.guard with
   | none=>rfl
   | some p=>simp only [yielded_addE]
  cases hc:es.contains i with
  | true =>
   simp only [hc,if_true] at hh
   rw [e o rfl] at hh
   exact hh
  | false =>
   simp only [hc,Bool.false_eq_true,if_false] at hh
   have e':=e { o with after:=o.after++((es.filter fun e=>decide (e < i)).map fun e=>({ on:=e,ground:=.data }:Edge)).toArray } rfl
   rw [e'] at hh
   exact hh
theorem ready_addE {l:Array Bool} (hall:∀ e,e∈es→l.getD e false=true) (j:Nat):j∈Region.ready .any (addE es ops) l↔j∈Region.ready .any ops l:=by
 rw [mem_ready,mem_ready,addE_get]
 constructor
 ·rintro ⟨h1,o,h2,h3⟩
  cases ho:ops[j]? with
  | none=>rw [ho] at h2;cases h2
  | some o1 =>
   rw [ho] at h2
   simp only [Option.map_some,Option.some.injEq] at h2
   subst h2
   refine ⟨h1,o1,rfl,fun e he hb=>h3 e ?_ hb⟩
   split
   ·exact he
   ·simp [he]
 ·rintro ⟨h1,o,h2,h3⟩
  refine ⟨h1,_,by rw [h2];rfl,fun e he hb=>?_⟩
  split at he
  ·exact h3 e he hb
  ·rcases Array.mem_append.1 he with he | he
   ·exact h3 e he hb
   ·simp at he
    obtain ⟨x,⟨hx,_⟩,rfl⟩:=he
    exact hall x hx
theorem wpAny_all_addE {Q:Exit→Act→World→Prop}:∀ (fuel:Nat) (l:Array Bool) (a:Act) (w:World),(∀ e,e∈es→l.getD e false=true)→wpAny P .any (addE es ops) Q fuel l a w→wpAny P .any ops Q fuel l a w
 | 0,l,a,w,hall,h=>⟨List.eq_nil_iff_forall_not_mem.2 (fun j hj=>(by
   have:=(ready_addE hall j).2 hj
   rw [h.1] at this
   cases this)),h.2⟩
 | fuel+1,l,a,w,hall,h=>by
  refine ⟨fun he=>h.1 (List.eq_nil_iff_forall_not_mem.2 (fun j hj=>(by
   have:=(ready_addE hall j).1 hj
   rw [he] at this
   cases this))),fun i hi=>?_⟩
  refine wpOp_addE (wpOp_mono (fun a' w' hk=>wpAny_all_addE fuel _ a' w' (fun e he=>?_) hk) (h.2 i ((ready_addE hall i).2 hi)))
  have:=hall e he
  by_cases hie:i=e
  ·subst hie
   have hlt:i < l.size:=by
    rcases Nat.lt_or_ge i l.size with q | q
    ·exact q
    ·rw [Array.getD_eq_getD_getElem?,Array.getElem?_eq_none (by omega)] at this;cases this
   simp [hlt]
  ·rw [getD_set_ne false hie];exact this
theorem early_step (hT:TOK P T) {e:Nat} {r:List Nat} {σ:St} {a:Act} {w:World} (h:earlyK T ops (e :: r) σ) (hr:RS N0 base w0 σ a w) :
  ∃ o v x,ops[e]?=some o∧o.guard=none∧(∀ w,(execOp a.eval o).run P w=.ok (.value v) w)∧RS N0 base w0 (σ.after o.dst x none) (a.put o.dst v) w∧earlyK T ops r (σ.after o.dst x none):=by
 unfold earlyK at h
 split at h
 ·exact h.elim
 ·rename_i o ho
  obtain ⟨hp,V,hV⟩:=hr
  have put:∀ {x:AV} {v:Value},dstOk σ o=true→RepT (Nf N0 base V σ.obj) w V x v→bd (fun i=>i < σ.next) x→RS N0 base w0 (σ.after o.dst x none) (a.put o.dst v) w:=fun hd h1 h2=>by
   refine ⟨hp,V,?_⟩
   rw [St.get_after,St.obj_after,St.next_after]
   exact hV.put (dstOk_spec hd) h1 h2
  split at h
  ·rename_i hg hd
   split at h
   ·rename_i x hop
    obtain ⟨y,h1,h2⟩:=kx_iff h
    obtain ⟨q1,q2⟩:=eval_rep hV h1
    exact ⟨o,a.eval x,y,ho,hg,fun w=>by simp [execOp,hop],put hd q1 q2,h2⟩
   ·rename_i x hop
    obtain ⟨y,h1,h2⟩:=kx_iff h
    obtain ⟨q1,q2⟩:=eval_rep hV h1
    exact ⟨o,a.eval x,y,ho,hg,fun w=>by simp [execOp,hop],put hd q1 q2,h2⟩
   ·rename_i op t x y t' hop
    obtain ⟨xv,h1,h2⟩:=kx_iff h
    obtain ⟨yv,h3,h4⟩:=kx_iff h2
    split at h4
    ·obtain ⟨v,h5,h6,h7⟩:=abin_sound hT h4
     have e1:=eval_v (eval_rep hV h1).1
     have e2:=eval_v (eval_rep hV h3).1
     refine ⟨o,v,.v v,ho,hg,fun w=>?_,put hd (.im (.v v h6)) (by simp [bd]),h5⟩
     have:=h7 x y w
     simp only [execOp,hop,e1,e2]
     rw [Sem.run_bind,this]
     rfl
    ·exact h4.elim
   ·exact h.elim
  ·exact h.elim
theorem early_sound (hT:TOK P T) {Q:Exit→Act→World→Prop} (hns:Region.noSelect ops=true):∀ (r:List Nat) (fuel:Nat) (l:Array Bool) (σ:St) (a:Act) (w:World),l.size=ops.size →
  (∀ e,e∈es→l.getD e false=true∨e∈r)→earlyGo ops es r l=true→earlyK T ops r σ→RS N0 base w0 σ a w→wpAny P .any (addE es ops) (onlyN Q) fuel l a w→wpAny P .any ops (onlyN Q) fuel l a w
 | [],fuel,l,σ,a,w,_,hall,_,_,_,h=>wpAny_all_addE fuel l a w (fun e he=>(hall e he).resolve_right (by simp)) h
 | e :: r,0,l,σ,a,w,_,_,hgo,_,_,h=>by
  simp only [earlyGo,Bool.and_eq_true,List.contains_iff_mem] at hgo
  have:=hgo.1.1.2
  rw [h.1] at this
  cases this
 | e :: r,fuel+1,l,σ,a,w,hs,hall,hgo,hK,hr,h=>by
  simp only [earlyGo,Bool.and_eq_true,decide_eq_true_eq] at hgo
  obtain ⟨⟨⟨⟨g1,g2⟩,g3⟩,g4⟩,g5⟩:=hgo
  obtain ⟨o,v,x,ho,hg,hex,hr',hK'⟩:=early_step hT hK hr
  have hw:=h.2 e (by simpa using g3)
  have hy:Yields P ops o v a:=.inl ⟨by unfold Region.wanted;rw [hg],hex⟩
  refine wpAny_take ho hns g1 g2 (fun c a' w' hq=>by cases hq.1) hy ?_
  refine early_sound hT hns r fuel _ _ _ w (by simp [hs]) (fun e' he'=>?_) g5 hK' hr' ?_
  ·rcases hall e' he' with q | q
   ·left
    by_cases hee:e=e'
    ·subst hee;simp [hs,g4]
    ·rw [getD_set_ne false hee];exact q
   ·rcases List.mem_cons.1 q with rfl | q
    ·left;simp [hs,g4]
    ·exact .inr q
  ·have hw':=wpOp_addE hw
   unfold wpOp at hw'
   rw [ho] at hw'
   simp only [Region.wanted,hg,if_true] at hw'
   rcases hw' with hw' | ⟨_,q1,q2,q3⟩
   ·unfold Oper.wp at hw'
    rw [hex w] at hw'
    exact hw'
   ·cases q3.1
def lateOK (ops:Array Oper) (es:List Nat):Bool:=Region.noSelect ops && es.all fun e=>match ops[e]? with
 | none=>false
 | some o=>(match o.op,o.guard with | .extract _ _,none=>true | _,_=>false) &&
  ((List.range ops.size).all fun j=>j == e || ((ancs ops.toList).getD e []).contains j || match ops[j]? with
   | none=>true
   | some oj=>oj.after.any (fun x=>Region.binds .any x && x.on == e) || o.apart ops oj) &&
  ((List.range ops.size).all fun j=>decide (j≤e) || es.contains j || o.after.all fun x=>!Region.binds .any x || ((ancs ops.toList).getD j []).contains x.on)
structure LateF (ops:Array Oper) (es:List Nat) (e:Nat) (o:Oper):Prop where
 op:∃ x i,o.op=.extract x i
 gd:o.guard=none
 fr:∀ (j:Nat) (oj:Oper),ops[j]?=some oj→j≠e→j ∉ (ancs ops.toList).getD e []→(∀ x∈oj.after,Region.binds .any x=true→x.on≠e)→o.apart ops oj=true
 lt:∀ (j:Nat),j < ops.size→e < j→es.contains j=false→∀ x∈o.after,Region.binds .any x=true→x.on∈(ancs ops.toList).getD j []
theorem lateOK_spec (h:lateOK ops es=true):Region.noSelect ops=true∧∀ e,e∈es→∃ o,ops[e]?=some o∧LateF ops es e o:=by
 unfold lateOK at h
 rw [Bool.and_eq_true] at h
 refine ⟨h.1,fun e he=>?_⟩
 have h2:=List.all_eq_true.1 h.2 e he
 split at h2
 ·cases h2
 ·rename_i o ho
  simp only [Bool.and_eq_true] at h2
  obtain ⟨⟨h3,h4⟩,h5⟩:=h2
  refine ⟨o,ho,?_,?_,fun j oj hj hne hna hno=>?_,fun j hj hlt hes x hx hb=>?_⟩
  ·split at h3
   ·rename_i x i hop _;exact ⟨x,i,hop⟩
   ·cases h3
  ·split at h3
   ·assumption
   ·cases h3
  ·have:=List.all_eq_true.1 h4 j (List.mem_range.2 (Array.getElem?_eq_some_iff.1 hj).1)
   simp only [hj,Bool.or_eq_true,beq_iff_eq,List.contains_iff_mem] at this
   rcases this with (q | q) | q | q
   ·exact absurd q hne
   ·exact absurd q hna
   ·obtain ⟨x,hx,hb⟩:=Array.any_eq_true'.1 q
    simp only [Bool.and_eq_true,beq_iff_eq] at hb
    exact absurd hb.2 (hno x hx hb.1)
   ·exact q
  ·have:=List.all_eq_true.1 h5 j (List.mem_range.2 hj)
   simp only [Bool.or_eq_true,decide_eq_true_eq] at this
   rcases this with (q | q) | q
   ·omega
   ·rw [hes] at q;cases q
   ·have:=Array.all_eq_true_iff_forall_mem.1 q x hx
    simpa [hb] using this
theorem late_sound (h:lateOK ops es=true) {Q:Exit→Act→World→Prop}:∀ (fuel:Nat) (l:Array Bool) (a:Act) (w:World),l.size=ops.size→Closed ops l→wpAny P .any (addE es ops) (onlyN Q) fuel l a w→wpAny P .any ops (onlyN Q) fuel l a w:=by
 obtain ⟨hns,hes⟩:=lateOK_spec h
 have hgd:∀ {l:Array Bool} {q:Nat},l.size=ops.size→q < ops.size→l.getD q true=l.getD q false:=fun h1 h2=>by simp [h1,h2]
 have key:∀ (l:Array Bool),l.size=ops.size→Closed ops l→∀ i,i∈Region.ready .any ops l→i∈Region.ready .any (addE es ops) l∨∃ e,e∈es∧e∈Region.ready .any ops l∧e∈Region.ready .any (addE es ops) l:=by
  intro l hs hc i hi
  obtain ⟨h1,o,ho,hall⟩:=mem_ready.1 hi
  have his:i < ops.size:=(Array.getElem?_eq_some_iff.1 ho).1
  have self:∀ e,e∈es→e∈Region.ready .any ops l→e∈Region.ready .any (addE es ops) l:=fun e he hr=>by
   obtain ⟨q1,oe,q2,q3⟩:=mem_ready.1 hr
   refine mem_ready.2 ⟨q1,oe,?_,q3⟩
   rw [addE_get,q2]
   simp only [Option.map_some,List.contains_iff_mem.2 he,if_true]
  by_cases hie:es.contains i=true
  ·exact .inl (self i (List.contains_iff_mem.1 hie) hi)
  ·by_cases hex:∃ e,e∈es∧e < i∧l.getD e false=false
   ·obtain ⟨e,he,hlt,hun⟩:=hex
    obtain ⟨oe,hoe,F⟩:=hes e he
    have hr:e∈Region.ready .any ops l:=mem_ready.2 ⟨by rw [hgd hs (by omega)];exact hun,oe,hoe,fun x hx hb=>by
     refine ancs_listed hc ops.toList.length (Nat.le_refl _) i o (by simpa using his) ho hall x.on ?_
     rw [List.take_length]
     exact F.lt i his hlt (by simpa using hie) x hx hb⟩
    exact .inr ⟨e,he,hr,self e he hr⟩
   ·left
    refine mem_ready.2 ⟨h1,_,by rw [addE_get,ho];rfl,fun x hx hb=>?_⟩
    split at hx
    ·exact hall x hx hb
    ·rcases Array.mem_append.1 hx with hx | hx
     ·exact hall x hx hb
     ·simp at hx
      obtain ⟨e,⟨he,hlt⟩,rfl⟩:=hx
      cases q:l.getD e false with
      | true=>rfl
      | false=>exact absurd ⟨e,he,hlt,q⟩ hex
 have sub:∀ (l:Array Bool) i,i∈Region.ready .any (addE es ops) l→i∈Region.ready .any ops l:=fun l i hi=>by
  obtain ⟨h1,o,ho,hall⟩:=mem_ready.1 hi
  rw [addE_get] at ho
  cases hq:ops[i]? with
  | none=>rw [hq] at ho;cases ho
  | some o1 =>
   rw [hq] at ho
   simp only [Option.map_some,Option.some.injEq] at ho
   subst ho
   exact mem_ready.2 ⟨h1,o1,hq,fun x hx hb=>hall x (by split;exact hx;simp [hx]) hb⟩
 intro fuel
 induction fuel with
 | zero =>
  intro l a w hs hc H
  refine ⟨List.eq_nil_iff_forall_not_mem.2 fun j hj=>?_,H.2⟩
  rcases key l hs hc j hj with q | ⟨e,_,_,q⟩
  ·rw [H.1] at q;cases q
  ·rw [H.1] at q;cases q
 | succ fuel ih =>
  intro l a w hs hc H
  by_cases hex:∃ e,e∈es∧e∈Region.ready .any ops l∧e∈Region.ready .any (addE es ops) l
  ·obtain ⟨e,he,hr,hr'⟩:=hex
   obtain ⟨o,ho,F⟩:=hes e he
   obtain ⟨h1,o',ho',hall⟩:=mem_ready.1 hr
   have:o'=o:=by rw [ho] at ho';injection ho' with ho';exact ho'.symm
   subst this
   have hesz:e < ops.size:=(Array.getElem?_eq_some_iff.1 ho).1
   have hw:=wpOp_addE (H.2 e hr')
   unfold wpOp at hw
   rw [ho] at hw
   simp only [Region.wanted,F.gd,if_true] at hw
   rcases hw with hw | ⟨_,q1,q2,q3⟩
   ·obtain ⟨x,i,hop⟩:=F.op
    obtain ⟨v,hv⟩:∃ v,∀ w,(execOp a.eval o').run P w=.ok (.value v) w:=by
     unfold Oper.wp at hw
     cases hx:a.eval x with
     | tuple vs =>
      cases hi:vs[i]? with
      | none=>simp [execOp,hop,Instr.extract,hx,hi,stuck,Oper.upon] at hw
      | some v=>exact ⟨v,fun w=>by simp [execOp,hop,Instr.extract,hx,hi]⟩
     | _=>simp [execOp,hop,Instr.extract,hx,stuck,Oper.upon] at hw
    have hfree:Region.free .any ops l e=true:=by
     unfold Region.free
     rw [ho]
     rw [List.all_eq_true]
     intro j hj
     rw [Bool.or_eq_true,Bool.or_eq_true,beq_iff_eq]
     by_cases hje:j=e
     ·exact .inl (.inl hje)
     ·by_cases hja:j∈(ancs ops.toList).getD e []
      ·left;right
       have hl:=ancs_listed hc ops.toList.length (Nat.le_refl _) e o' (by simpa using hesz) ho hall j (by rw [List.take_length];exact hja)
       rw [hgd hs (List.mem_range.1 hj)];exact hl
      ·right
       cases hq:ops[j]? with
       | none=>rfl
       | some oj =>
        simp only
        rw [Bool.or_eq_true]
        by_cases hd:oj.after.any (fun x=>Region.binds .any x && x.on == e)=true
        ·exact .inl hd
        ·right
         refine F.fr j oj hq hje hja fun x hx hb hxe=>hd ?_
         rw [Array.any_eq_true']
         exact ⟨x,hx,by simp [hb,hxe]⟩
    refine wpAny_take ho hns hfree (by simpa using hr) (fun c a' w' hq=>by cases hq.1) (.inl ⟨by unfold Region.wanted;rw [F.gd],hv⟩) ?_
    unfold Oper.wp at hw
    rw [hv w] at hw
    exact ih _ _ w (by simpa using hs) (closed_set hc hr) hw
   ·cases q3.1
  ·have all:∀ i,i∈Region.ready .any ops l→i∈Region.ready .any (addE es ops) l:=fun i hi=>(key l hs hc i hi).resolve_right hex
   refine ⟨fun he=>H.1 (List.eq_nil_iff_forall_not_mem.2 fun j hj=>by have:=sub l j hj;rw [he] at this;cases this),fun i hi=>?_⟩
   exact wpOp_addE (wpOp_mono (fun a' w' hk=>ih _ a' w' (by simpa using hs) (closed_set hc hi) hk) (H.2 i (all i hi)))
def vcDrawE (P:Program) (T:TypeId→Option TI) (ops:Array Oper) (σ:St) (K:St→Prop):Prop :=
 vcDraw P T ops σ K∨(∃ es:List Nat,earlyOK ops es=true∧earlyK T ops es σ∧vcDraw P T (addE es ops) σ K)∨∃ es:List Nat,lateOK ops es=true∧vcDraw P T (addE es ops) σ K
theorem addE_noDefer {ops:Array Oper} {es:List Nat} (h:∀ (i:Nat) (o:Oper),(addE es ops)[i]?=some o→noDefer o=true) (i:Nat) (o:Oper) (ho:ops[i]?=some o):noDefer o=true:=by
 have:=addE_get (es:=es) (ops:=ops) i
 rw [ho] at this
 have h2:=h i _ this
 split at h2
 ·exact h2
 ·exact h2
theorem vcDrawE_ok (hT:TOK P T) (hm:P.follows .mixedOrders=true):DOK P (vcDrawE P T):=by
 intro N0 base w0 r0 n id ops σ K a w Q h hr hK
 rcases h with h | ⟨es,hp,hk,h⟩ | ⟨es,hp,h⟩
 ·exact vcDraw_ok hT hm h hr hK
 ·have:=vcDraw_any (Q:=onlyN Q) hT h hr (fun σ' a' w' h1 h2=>⟨rfl,hK σ' a' w' h1 h2⟩)
  rw [addE_size] at this
  unfold earlyOK at hp
  simp only [Bool.and_eq_true] at hp
  exact wpIn_mono (wpIn_region_any hm (wpAnyIn_of (Q:=Q) (addE_noDefer (vcDraw_noDefer h)) _ _ _ _ (early_sound hT hp.1 es _ _ σ a _ (by simp) (fun e he=>.inr he) hp.2 hk (drawn_rel hr) this))) fun e a w ⟨h1,h2⟩=>by subst h1;exact h2
 ·have:=vcDraw_any (Q:=onlyN Q) hT h hr (fun σ' a' w' h1 h2=>⟨rfl,hK σ' a' w' h1 h2⟩)
  rw [addE_size] at this
  have h0:∀ i,(Array.replicate ops.size false).getD i false=false:=fun i=>by
   rcases Nat.lt_or_ge i ops.size with h | h
   ·simp [h]
   ·simp [h]
  exact wpIn_mono (wpIn_region_any hm (wpAnyIn_of (Q:=Q) (addE_noDefer (vcDraw_noDefer h)) _ _ _ _ (late_sound hp _ _ a _ (by simp) (fun i o hi=>by rw [h0] at hi;cases hi) this))) fun e a w ⟨h1,h2⟩=>by subst h1;exact h2
end
end Go.Sk
