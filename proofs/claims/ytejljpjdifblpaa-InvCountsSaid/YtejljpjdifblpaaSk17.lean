/- A checker of Go functions by conditions over small pure states: part 18. -/
import Derived.Test.YtejljpjdifblpaaSk16
import Derived.ProofKit
import Derived.OpenShut
import Derived.Carry
import Derived.ChangeArms
import Derived.WalkKit
import Derived.Deep.Slices
set_option linter.unusedVariables false
set_option linter.unusedSimpArgs false
namespace Go.Sk
open Go.RowKit Go.ChangeShapes Go.WideShapes
theorem Pure.calls {P:Program} {f:FuncId} {args:List AV} {x:Value} (h:Pure P f args (.v x) none) {W:World} {vs:Array Value} (hs:vs.size=args.length)
  (hr:∀ (j:Nat) (h1:j < args.length) (h2:j < vs.size),RepT NT W V0 args[j] vs[j]) (hb:bdL (ltA 0) args):Calls P f vs W fun e w'=>e=.returned x∧Below W.heap.size W w':=by
 refine (h.run NT W V0 vs hs ⟨fun i o hi=>by simp [obL] at hi,fun i j b hi=>by obtain ⟨o,h1,_⟩:=hi;simp [obL] at h1,fun i b hi=>by obtain ⟨o,h1,_⟩:=hi;simp [obL] at h1,fun i o hi=>by simp [obL] at hi⟩ hr hb).mono ?_
 rintro e w' ⟨v,rfl,hf,V',_,hx,_⟩
 exact ⟨by rw [eval_v hx],(below_of hf).below⟩
section
variable {H:Type} {enc:TypeId × Value→H} {P:Program}
theorem trodAll_below (hl:laidOutB P=true) {W W':World} (hb:Below W.heap.size W W'):∀ {ts:List TypeId} {vs:List Value} {ds:List (DataW H)} {ps:List MemPlace},(∀ t,t∈ts→P.readableRec t=true∧t < P.types.size) →
  DataW.TrodAll enc P W 0 (fun _=>true) true ts vs ds ps→DataW.TrodAll enc P W' 0 (fun b=>decide (b < W.heap.size)) true ts vs ds ps
 | [],vs,ds,ps,_,h=>by
  obtain ⟨rfl,rfl,rfl⟩:=trodAll_nil h
  rfl
 | t :: ts,vs,ds,ps,ht,h=>by
  have hlt:=DataW.TrodAll.lt h
  obtain ⟨v,vs1,d,ds1,p,q,rfl,rfl,rfl,h1,h2⟩:=trodAll_cons h
  have ht1:=ht t (by simp)
  exact ⟨p,q,Below.trod hl ht1.1 ht1.2 h1 hb (fun x hx=>hlt x (by simp [hx])),trodAll_below hl hb (fun u hu=>ht u (by simp [hu])) h2,rfl⟩
theorem law_post {fn:Func} {s:ChangeSpec} {W W':World} {args:Array Value} {ds gs:List (DataW H)} {before:List MemPlace} {t:TypeId} (hW:DataW.Whole enc P fn.params.toList s.vars false W args.toList ds gs before) (hv:s.vars=[])
  (hs:s.fn H (ds++gs)={ results:=[.lit (.bool true)],args:=ds }) (hb:Below W.heap.size W W') (hl:laidOutB P=true) (hr:∀ t,t∈fn.params.toList→P.readableRec t=true∧t < P.types.size)
  (hres:fn.resultTypes=#[t]) (ht:P.underlying t=some .bool):s.post enc P fn false true false false W args (.bool true) W':=by
 obtain ⟨p,q,h1,h2,h3,h4,h5⟩:=id hW
 rw [hv] at h2
 obtain ⟨rfl,rfl⟩:=trodVars_none h2
 refine ⟨ds,[],before,[],p,[],hW,?_,?_,?_,hb.frame _,fun h=>by cases h⟩
 ·rw [hs,hres]
  exact trodAll_cons_mk (shut_bool ht _) trodAll_mk0
 ·rw [hs]
  exact trodAll_below hl hb hr h1
 ·rw [hs,hv]
  rfl
end
end Go.Sk
namespace Go.Sk
open Go.RowKit Go.ChangeShapes Go.WideShapes Go.Deep
inductive CK where
 | int (k:IntKind)
 | bool
 | row (ks:List CK)
def packA:List AV→AV
 | [c]=>c
 | cs=>.ag cs
mutual
def CKok:CK→AV→Prop
 | .int k,a=>∃ n,a=.v (.int k n)∧(Lit.int k n).wf=true
 | .bool,a=>∃ b,a=.v (.bool b)
 | .row ks,a=>∃ xs,a=.sl xs∧xs.length≤maxLen∧∀ e,e∈xs→∃ cs,e=packA cs∧CKoks ks cs
def CKoks:List CK→List AV→Prop
 | [],us=>us=[]
 | k :: ks,us=>∃ a r,us=a :: r∧CKok k a∧CKoks ks r
end
theorem CKoks.len:∀ {ks:List CK} {us:List AV},CKoks ks us→us.length=ks.length
 | [],us,h=>by simp [CKoks] at h;simp [h]
 | k :: ks,us,h=>by
  simp only [CKoks] at h
  obtain ⟨a,r,rfl,_,h2⟩:=h
  simp [CKoks.len h2]
theorem CKoks.app:∀ {ks:List CK} {us:List AV} {ls:List CK} {bs:List AV},CKoks ks us→CKoks ls bs→CKoks (ks++ls) (us++bs)
 | [],us,ls,bs,h,h2=>by simp [CKoks] at h;subst h;exact h2
 | k :: ks,us,ls,bs,h,h2=>by
  simp only [CKoks] at h
  obtain ⟨a,r,rfl,h3,h4⟩:=h
  simp only [List.cons_append,CKoks]
  exact ⟨a,r++bs,rfl,h3,h4.app h2⟩
def RepL (w:World) (us:List AV) (cs:List Value):Prop:=us.length=cs.length∧∀ (j:Nat) (a:AV) (c:Value),us[j]?=some a→cs[j]?=some c→Rep NT w a c
theorem RepL.app {w:World} {us bs:List AV} {cs ds:List Value} (h1:RepL w us cs) (h2:RepL w bs ds):RepL w (us++bs) (cs++ds):=by
 refine ⟨by simp [h1.1,h2.1],fun j a c ha hc=>?_⟩
 rcases Nat.lt_or_ge j us.length with hj | hj
 ·rw [List.getElem?_append_left hj] at ha
  rw [List.getElem?_append_left (by rw [← h1.1];exact hj)] at hc
  exact h1.2 j a c ha hc
 ·rw [List.getElem?_append_right hj] at ha
  rw [List.getElem?_append_right (by rw [← h1.1];exact hj)] at hc
  rw [← h1.1] at hc
  exact h2.2 _ a c ha hc
theorem RepL.one {w:World} {a:AV} {c:Value} (h:Rep NT w a c):RepL w [a] [c]:=⟨rfl,fun j x y hx hy=>by
 cases j with
 | zero=>simp at hx hy;subst hx hy;exact h
 | succ j=>simp at hx⟩
section
variable (P:Program)
def shF (rec:TypeId→Option (List CK)):Nat→List Field→Option (List CK)
 | _,[]=>some []
 | off,f :: r=>match rec f.type,shF rec (off+P.cellsOf f.type) r with
  | some ks,some s=>if f.offset=off∧ks.length=P.cellsOf f.type then some (ks++s) else none
  | _,_=>none
def repK (ks:List CK):Nat→List CK
 | 0=>[]
 | n+1=>repK ks n++ks
def shT:Nat→TypeId→Option (List CK)
 | 0,_=>none
 | n+1,t=>match P.underlying t with
  | some (.int k)=>some [.int k]
  | some .bool=>some [.bool]
  | some (.slice e)=>match shT n e with
   | some ks=>if 0 < ks.length∧ks.length=P.cellsOf e then some [.row ks] else none
   | none=>none
  | some (.struct fs)=>shF P (shT n) 0 fs.toList
  | some (.array m e)=>match shT n e with
   | some ks=>if ks.length=P.cellsOf e then some (repK ks m) else none
   | none=>none
  | _=>none
end
section
variable {H:Type} {enc:TypeId × Value→H} {P:Program} {w:World} {sp:Nat→Bool} {held:Bool}
def Shown (P:Program) (w:World) (ks:List CK) (cs:List Value):Prop:=∃ us,CKoks ks us∧RepL w us cs
theorem Shown.app {ks ls:List CK} {cs ds:List Value} (h1:Shown P w ks cs) (h2:Shown P w ls ds):Shown P w (ks++ls) (cs++ds):=by
 obtain ⟨us,h3,h4⟩:=h1
 obtain ⟨bs,h5,h6⟩:=h2
 exact ⟨us++bs,h3.app h5,h4.app h6⟩
theorem mapM_all {α β:Type} {f:α→Option β} {l:List α} {r:List β} (h:l.mapM f=some r):∀ x,x∈l→∃ y,f x=some y:=fun x hx=>by
 obtain ⟨i,hi⟩:=List.mem_iff_getElem?.1 hx
 have h1:=mapM_some_get h i x hi
 have h2:=mapM_some_length h
 have h3:=(List.getElem?_eq_some_iff.1 hi).1
 exact ⟨r[i]'(by omega),by rw [h1];exact List.getElem?_eq_getElem (by omega)⟩
theorem shF_shown {rec:TypeId→Option (List CK)} {F:TypeId→List Value→Option (DataW H × List MemPlace)}
  (ih:∀ t ks cs x,rec t=some ks→F t cs=some x→cs.length=ks.length→Shown P w ks cs) {cs:List Value} :
  ∀ (fs:List Field) (off:Nat) (ks:List CK),shF P rec off fs=some ks→(∀ f,f∈fs→∃ y,F f.type ((cs.drop f.offset).take (P.cellsOf f.type))=some y)→off+ks.length=cs.length→Shown P w ks (cs.drop off)
 | [],off,ks,h,_,hl=>by
  simp [shF] at h
  subst h
  rw [List.drop_eq_nil_of_le (by simp at hl;omega)]
  exact ⟨[],by simp [CKoks],rfl,fun j a c ha=>by simp at ha⟩
 | f :: r,off,ks,h,hF,hl=>by
  unfold shF at h
  split at h
  ·rename_i k1 s h1 h2
   split at h
   ·rename_i hc
    injection h with h
    subst h
    obtain ⟨y,hy⟩:=hF f (by simp)
    rw [hc.1] at hy
    rw [List.length_append] at hl
    have hlen:((cs.drop off).take (P.cellsOf f.type)).length=k1.length:=by
     rw [List.length_take,List.length_drop];omega
    have s1:=ih _ _ _ _ h1 hy hlen
    have s2:=shF_shown ih r (off+P.cellsOf f.type) s h2 (fun g hg=>hF g (by simp [hg])) (by omega)
    have he:cs.drop off=(cs.drop off).take (P.cellsOf f.type)++cs.drop (off+P.cellsOf f.type):=by
     rw [← List.drop_drop,List.take_append_drop]
    rw [he]
    exact s1.app s2
   ·cases h
  ·cases h
theorem repK_len (ks:List CK):∀ m,(repK ks m).length=m * ks.length
 | 0=>by simp [repK]
 | m+1=>by simp [repK,repK_len ks m,Nat.add_mul]
theorem repK_shown {F:List Value→Option (DataW H × List MemPlace)} {ks:List CK} {c:Nat} (hk:ks.length=c) (ih:∀ cs x,F cs=some x→cs.length=ks.length→Shown P w ks cs) {cs:List Value} :
  ∀ m,(∀ i,i < m→∃ y,F ((cs.drop (i * c)).take c)=some y)→m * c≤cs.length→Shown P w (repK ks m) (cs.take (m * c))
 | 0,_,_=>⟨[],by simp [repK,CKoks],by simp,fun j a c ha=>by simp at ha⟩
 | m+1,hF,hl=>by
  rw [Nat.add_mul,Nat.one_mul] at hl
  have s1:=repK_shown hk ih m (fun i hi=>hF i (by omega)) (by omega)
  obtain ⟨y,hy⟩:=hF m (by omega)
  have s2:=ih _ _ hy (by rw [List.length_take,List.length_drop];omega)
  have:=s1.app s2
  rw [← List.take_add] at this
  rw [Nat.add_mul,Nat.one_mul]
  exact this
theorem shT_shown:∀ (n:Nat) (t:TypeId) (ks:List CK),shT P n t=some ks→∀ (fuel:Nat) (cs:List Value) (x:DataW H × List MemPlace),DataW.trod enc P w 0 sp held fuel t cs=some x→cs.length=ks.length→Shown P w ks cs
 | 0,t,ks,h=>by simp [shT] at h
 | n+1,t,ks,h=>fun fuel cs x hx hl=>by
  have ih:=shT_shown n
  cases fuel with
  | zero=>simp [DataW.trod] at hx
  | succ fuel =>
  unfold shT at h
  split at h
  ·rename_i k hu
   injection h with h;subst h
   match cs,hl with
   | [c],_ =>
    unfold DataW.trod at hx
    rw [hu] at hx
    cases c with
    | int k' m =>
     simp only at hx
     split at hx
     ·rename_i hk
      obtain ⟨rfl,hk⟩:=hk
      exact ⟨[.v (.int k' m)],by simp [CKoks,CKok];exact hk,.one (.v _ rfl)⟩
     ·cases hx
    | _=>simp at hx
  ·rename_i hu
   injection h with h;subst h
   match cs,hl with
   | [c],_ =>
    unfold DataW.trod at hx
    rw [hu] at hx
    cases c with
    | bool b=>exact ⟨[.v (.bool b)],by simp [CKoks,CKok],.one (.v _ rfl)⟩
    | _=>simp at hx
  ·rename_i e hu
   split at h
   ·rename_i ke hke
    split at h
    ·rename_i hc
     injection h with h;subst h
     rcases open_slice hu hx with ⟨rfl,_⟩ | ⟨a,len,cap,m,fu,D,Pl,rfl,_,hlc,hcm,hm,_,hel⟩
     ·exact ⟨[.sl []],by simp [CKoks,CKok],.one (.nil none 0)⟩
     ·have hlm:len≤m:=by rw [hm];split <;> omega
      by_cases h0:len=0
      ·subst h0
       exact ⟨[.sl []],by simp [CKoks,CKok],.one (.nil (some a) cap)⟩
      ·have hE:∀ i,i < len→∃ us,CKoks ke us∧∃ cs',w.cells? 0 (a.add (i * P.cellsOf e)) (P.cellsOf e)=some cs'∧RepL w us cs':=fun i hi=>by
        obtain ⟨cs',h1,h2⟩:=hel i (by omega)
        obtain ⟨us,h3,h4⟩:=ih e ke hke fu cs' _ h2 (by rw [(World.cells?_some h1).2.1,hc.2])
        exact ⟨us,h3,cs',h1,h4⟩
       have hsp:a.spot=none∧a.block < w.heap.size:=by
        obtain ⟨us,_,cs',h1,_⟩:=hE 0 (by omega)
        have h2:=(World.cells?_some h1).2.2 0 (by omega)
        have h3:=(World.cells?_some h1).2.1
        rw [List.getElem?_eq_getElem (by omega)] at h2
        simp only [Nat.zero_mul,Addr.add,if_true] at h2
        unfold World.cell? at h2
        split at h2
        ·rename_i c _ _ hb
         split at h2
         ·cases h2
         ·rename_i hs
          exact ⟨by simpa using hs,(Array.getElem?_eq_some_iff.1 hb).1⟩
        ·cases h2
       obtain ⟨f,hf⟩:∃ f:Nat→List AV,∀ i,i < len→CKoks ke (f i)∧∃ cs',w.cells? 0 (a.add (i * P.cellsOf e)) (P.cellsOf e)=some cs'∧RepL w (f i) cs' :=
        ⟨fun i=>if hi:i < len then (hE i hi).choose else [],fun i hi=>by simp only [hi,dif_pos];exact (hE i hi).choose_spec⟩
       have hcell:∀ c:List AV,c.length=ke.length→CKoks ke c→cellsA (packA c)=c:=fun c hc' hk=>by
        match c,hc' with
        | [],h=>simp at h;omega
        | [y],_ =>
         match ke,hk with
         | [k],hk =>
          simp only [CKoks] at hk
          obtain ⟨z,r,hz,h1,rfl⟩:=hk
          injection hz with hz _
          subst hz
          cases k with
          | int k=>simp only [CKok] at h1;obtain ⟨_,rfl,_⟩:=h1;rfl
          | bool=>simp only [CKok] at h1;obtain ⟨_,rfl⟩:=h1;rfl
          | row ks=>simp only [CKok] at h1;obtain ⟨_,rfl,_⟩:=h1;rfl
         | k1 :: k2 :: r,hk=>have:=hk.len;simp at this
        | y :: z :: r,_=>rfl
       have hck:∀ i,i < len→cellsA (packA (f i))=f i:=fun i hi=>hcell _ (hf i hi).1.len (hf i hi).1
       have hg:∀ (i:Nat) (e':AV) (j:Nat) (c:AV),((List.range len).map fun i=>packA (f i))[i]?=some e'→(cellsA e')[j]?=some c→i < len∧(f i)[j]?=some c:=fun i e' j c h1 h2=>by
        rw [List.getElem?_map] at h1
        rcases Nat.lt_or_ge i len with hi | hi
        ·rw [List.getElem?_range hi] at h1
         injection h1 with h1
         subst h1
         rw [hck i hi] at h2
         exact ⟨hi,h2⟩
        ·rw [List.getElem?_eq_none (by simpa using hi)] at h1;cases h1
       obtain ⟨a1,a2,a3⟩:=a
       obtain ⟨rfl,hb⟩:=hsp
       have hcc:∀ (i j:Nat) (c:AV),i < len→(f i)[j]?=some c→∃ v,w.cell? ⟨a1,a2+(i * ke.length+j),none⟩=some v∧Rep NT w c v:=fun i j c hi hj=>by
        obtain ⟨h1,cs',h2,h3⟩:=hf i hi
        have hjl:=(List.getElem?_eq_some_iff.1 hj).1
        have h4:=World.cells?_some h2
        have h5:j < cs'.length:=by rw [← h3.1];exact hjl
        have h6:=h4.2.2 j (by omega)
        rw [List.getElem?_eq_getElem h5] at h6
        refine ⟨cs'[j],?_,h3.2 j c _ hj (List.getElem?_eq_getElem h5)⟩
        rw [← h6,hc.2]
        congr 1
        simp only [Addr.add]
        split <;> split <;> simp_all <;> omega
       let V:Nat→Nat→Value:=fun i j=>((w.cell? ⟨a1,a2+(i * ke.length+j),none⟩).getD Go.undef)
       refine ⟨[.sl ((List.range len).map fun i=>packA (f i))],?_,.one ?_⟩
       ·simp only [CKoks,CKok]
        refine ⟨_,[],rfl,⟨_,rfl,by simp;omega,fun e' he=>?_⟩,rfl⟩
        obtain ⟨i,hi,rfl⟩:=List.mem_map.1 he
        exact ⟨f i,rfl,(hf i (List.mem_range.1 hi)).1⟩
       ·have:=Rep.sl (N:=NT) (w:=w) ((List.range len).map fun i=>packA (f i)) ke.length a1 a2 cap V trivial hb (by simpa using hlc) (fun e' he=>by
         obtain ⟨i,hi,rfl⟩:=List.mem_map.1 he
         rw [hck i (List.mem_range.1 hi)];exact (hf i (List.mem_range.1 hi)).1.len) (fun i e' j c h1 h2=>by
         obtain ⟨hi,h3⟩:=hg i e' j c h1 h2
         obtain ⟨v,h4,_⟩:=hcc i j c hi h3
         simp only [V,h4,Option.getD_some]) (fun i e' j c h1 h2=>by
         obtain ⟨hi,h3⟩:=hg i e' j c h1 h2
         obtain ⟨v,h4,h5⟩:=hcc i j c hi h3
         simp only [V,h4,Option.getD_some]
         exact h5)
        simpa using this
    ·cases h
   ·cases h
  ·rename_i fs hu
   unfold DataW.trod at hx
   rw [hu] at hx
   simp only at hx
   split at hx
   ·obtain ⟨xs,h1,_⟩:=Option.map_eq_some_iff.1 hx
    have:=shF_shown (P:=P) (w:=w) (rec:=shT P n) (F:=fun t cs=>DataW.trod enc P w 0 sp held fuel t cs) (fun t ks cs x h1 h2 h3=>ih t ks h1 fuel cs x h2 h3) fs.toList 0 ks h (fun f hf=>mapM_all h1 f hf) (by omega)
    simpa using this
   ·cases hx
  ·rename_i m e hu
   split at h
   ·rename_i ke hke
    split at h
    ·rename_i hc
     injection h with h;subst h
     unfold DataW.trod at hx
     rw [hu] at hx
     simp only at hx
     split at hx
     ·obtain ⟨xs,h1,_⟩:=Option.map_eq_some_iff.1 hx
      rw [repK_len] at hl
      have:=repK_shown (P:=P) (w:=w) (F:=fun cs=>DataW.trod enc P w 0 sp held fuel e cs) hc (fun cs x h2 h3=>ih e ke hke fuel cs x h2 h3) (cs:=cs) m (fun i hi=>mapM_all h1 i (by simpa using hi)) (by rw [hl,hc];exact Nat.le_refl _)
      rwa [← hc,← hl,List.take_length] at this
     ·cases hx
    ·cases h
   ·cases h
  ·cases h
theorem arg_ag {t:TypeId} {n:Nat} {ks:List CK} {vs:Array Value} {d:DataW H} {ps:List MemPlace} (h:shT P n t=some ks) (hs:vs.size=ks.length) (hx:DataW.Trod enc P w 0 sp held t (.agg vs) d ps) :
  ∃ us,CKoks ks us∧∀ V:VV,RepT NT w V (.ag us) (.agg vs):=by
 obtain ⟨fuel,hx⟩:=hx
 have hv:(Value.agg vs).cells.toList=vs.toList:=rfl
 rw [hv] at hx
 obtain ⟨us,h1,h2⟩:=shT_shown n t ks h fuel _ _ hx (by simpa using hs)
 refine ⟨us,h1,fun V=>?_⟩
 have hl:vs.size=us.length:=by have:=h2.1;simp at this;omega
 refine .ag us vs hl (fun j j1 j2=>.im (h2.2 j _ _ (List.getElem?_eq_getElem j1) (by simp [j2]))) fun j j2=>?_
 exact (h2.2 j us[j] _ (List.getElem?_eq_getElem (by omega)) (by simp [j2])).oneCell
end
end Go.Sk
namespace Go.Sk
open Go.RowKit
def lendC (os:List AO):AV→AV
 | .ref i=>match os[i]? with
  | some (.arr _ xs)=>.sl xs
  | some (.tre _ xs)=>.sl (xs.map rowA)
  | some (.pub xs)=>.sl xs
  | _=>.undef
 | .nils=>.sl []
 | x=>x
def lendA (os:List AO):AV→AV
 | .ag cs=>.ag (cs.map (lendC os))
 | x=>lendC os x
def LendO:AO→Prop
 | .arr _ _ | .pub _=>True
 | .tre k xs=>k=1∧∀ e,e∈xs→rowOK e
 | _=>False
def lend1 (n:Nat):AV→Bool
 | .ref i=>decide (i < n)
 | .nils | .sl _=>true
 | .v x=>x.oneCell'
 | _=>false
def lendOK (n:Nat):AV→Bool
 | .ag cs=>cs.all (lend1 n)
 | x=>lend1 n x
end Go.Sk
