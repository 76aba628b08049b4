/- A checker of Go functions by conditions over small pure states: part 12. -/
import Derived.Test.YtejljpjdifblpaaSk10
set_option linter.unusedVariables false
set_option linter.unusedSimpArgs false
namespace Go.Sk
open Go.RowKit
def Susp (N:Nat→Prop) (w:World) (f X:Nat→Prop) (tm:Array Value) (pins:List Nat) (pv:Nat→Value) (τ:St):Prop :=
 ∃ V:VV,(∀ i o,τ.obj i=some o→RepO N w V i o∧i < τ.next∧bdO (fun i=>i < τ.next) o)∧(∀ i j b,live τ.obj i→live τ.obj j→V.f i b→V.f j b→i=j)∧(∀ i b,live τ.obj i→V.f i b→b < w.heap.size) ∧
  (∀ b,f b↔foot V τ.obj b∨X b)∧(∀ b,X b→¬ foot V τ.obj b)∧(∀ t x,look τ.tmps t=some x→RepT N w V x (tm.getD t Go.undef)∧bd (fun i=>i < τ.next) x)∧(∀ i,i∈pins→i < τ.next∧V i=pv i)
theorem Susp.mono {N N':Nat→Prop} {w w':World} {f X:Nat→Prop} {tm:Array Value} {pins:List Nat} {pv:Nat→Value} {τ:St} (hb:∀ b,N b→b < w.heap.size→N' b∧w'.heap[b]?=w.heap[b]?) (hsz:w.heap.size≤w'.heap.size)
  (hf:∀ b,f b→w'.heap[b]?=w.heap[b]?) (h:Susp N w f X tm pins pv τ):Susp N' w' f X tm pins pv τ:=by
 obtain ⟨V,h1,h2,h3,h4,h5,h6,h7⟩:=h
 refine ⟨V,fun i o ho=>⟨(h1 i o ho).1.mono (A:=fun i=>i < τ.next) hb hsz (fun _ _=>rfl) (fun _=>Iff.rfl) (h1 i o ho).2.1 (fun hl b hbb=>hf b ((h4 b).2 (.inl ⟨i,⟨o,ho,hl⟩,hbb⟩))) (h1 i o ho).2.2,(h1 i o ho).2⟩,h2,fun i b hl hbb=>Nat.lt_of_lt_of_le (h3 i b hl hbb) hsz,h4,h5,
  fun t x hx=>⟨(h6 t x hx).1.mono hb (fun _ _=>rfl) (h6 t x hx).2,(h6 t x hx).2⟩,h7⟩
def rangeG (l:Nat) (Dm:Option Nat) (rec:Option Code→Loop) (tm:Array Value) (pins:List Nat) (pv:Nat→Value) (Tf:St→Option Code→Prop):Ghost where
 R N w f:=∃ τ p,Tf τ p∧Susp N w f (fun b=>b=l∨Dm=some b) tm pins pv τ∧w.heap[l]?=some (.loop (rec p))∧∀ D,Dm=some D→w.heap[D]?=some (.deferred (some []))
 mono:=fun hb hsz hf ⟨τ,p,h1,h2,h3,h4⟩=>by
  have hX:∀ b,(b=l∨Dm=some b)→_:=fun b hX=>hf b (by obtain ⟨V,_,_,_,q,_⟩:=h2;exact (q b).2 (.inr hX))
  exact ⟨τ,p,h1,h2.mono hb hsz hf,(hX l (.inl rfl)).trans h3,fun D hD=>(hX D (.inr hD)).trans (h4 D hD)⟩
section
variable {P:Program} {T:TypeId→Option TI} {N0:Nat→Prop} {base:Nat} {w0:W0}
theorem Susp.rel {N:Nat→Prop} {w:World} {f X:Nat→Prop} {tm:Array Value} {pins:List Nat} {pv:Nat→Value} {τ:St} {V:VV} (h1:∀ i o,τ.obj i=some o→RepO N w V i o∧i < τ.next∧bdO (fun i=>i < τ.next) o) (h2:∀ i j b,live τ.obj i→live τ.obj j→V.f i b→V.f j b→i=j)
  (h3:∀ i b,live τ.obj i→V.f i b→b < w.heap.size) (h6:∀ t x,look τ.tmps t=some x→RepT N w V x (tm.getD t Go.undef)∧bd (fun i=>i < τ.next) x) (hN:∀ b,N b→¬ foot V τ.obj b) {m:List Nat} {ds:List Deferred} (hm:∀ i,i∈m→i < τ.next) {size:Nat} (hs:tm.size=size) :
  Rel (fun b=>N b∨foot V τ.obj b) w.heap.size { w:=w,f:=foot V τ.obj,m:=m,v:=V.v,ds:=ds } size V (look τ.tmps) τ.obj (fun i=>i < τ.next) { tmps:=tm,defers:=ds } w:=by
 have hNf:∀ b,N b→b < w.heap.size→Nf (fun b=>N b∨foot V τ.obj b) w.heap.size V τ.obj b∧w.heap[b]?=w.heap[b]?:=fun b hb _=>⟨⟨fun _=>.inl hb,fun i hl hbb=>hN b hb ⟨i,hl,hbb⟩⟩,rfl⟩
 exact ⟨fun t x hx=>(h6 t x hx).1.mono hNf (fun _ _=>rfl) (h6 t x hx).2,fun i o ho=>(h1 i o ho).1.mono hNf (Nat.le_refl _) (fun _ _=>rfl) (fun _=>Iff.rfl) (h1 i o ho).2.1 (fun _ _ _=>rfl) (h1 i o ho).2.2,h2,
  fun i b hl hb=>⟨.inr ⟨⟨i,hl,hb⟩,.inr ⟨i,hl,hb⟩⟩,h3 i b hl hb⟩,fun t x hx=>(h6 t x hx).2,fun i o ho=>(h1 i o ho).2,⟨rfl,rfl,.refl _,Nat.le_refl _,fun _ _ _=>rfl⟩,Nat.le_refl _,rfl,hs,fun i hi=>⟨hm i hi,rfl⟩⟩
theorem Rel.susp {m:Nat} {V:VV} {τ:St} {a:Act} {w:World} (h:Rel N0 base w0 m V τ.get τ.obj (fun i=>i < τ.next) a w) {N X:Nat→Prop} {pins:List Nat} {pv:Nat→Value} (hN:∀ b,Nf N0 base V τ.obj b→b < w.heap.size→N b)
  (hX:∀ b,X b→¬ foot V τ.obj b) (hp:∀ i,i∈pins→i < τ.next∧V i=pv i):Susp N w (fun b=>foot V τ.obj b∨X b) X a.tmps pins pv τ :=
 have hm:∀ b,Nf N0 base V τ.obj b→b < w.heap.size→N b∧w.heap[b]?=w.heap[b]?:=fun b hb hs=>⟨hN b hb hs,rfl⟩
 ⟨V,fun i o ho=>⟨(h.obs i o ho).mono (A:=fun i=>i < τ.next) hm (Nat.le_refl _) (fun _ _=>rfl) (fun _=>Iff.rfl) (h.bdo i o ho).1 (fun _ _ _=>rfl) (h.bdo i o ho).2,h.bdo i o ho⟩,h.inj,fun i b hl hb=>(h.low i b hl hb).2,fun _=>Iff.rfl,hX,
  fun t x hx=>⟨(h.tm t x hx).mono hm (fun _ _=>rfl) (h.bdt t x hx),h.bdt t x hx⟩,hp⟩
end
def paramT:List Tmp→List AV→List (Nat × AV)
 | p :: ps,x :: xs=>(p,x) :: paramT ps xs
 | _,_=>[]
theorem fold_setT:∀ (l:List (Tmp × Value)) (tm:Array Value),(l.map (·.1)).Nodup →
  (l.foldl (fun t (p:Tmp × Value)=>t.setIfInBounds p.1 p.2) tm).size=tm.size∧(∀ t,t ∉ l.map (·.1)→(l.foldl (fun t (p:Tmp × Value)=>t.setIfInBounds p.1 p.2) tm).getD t Go.undef=tm.getD t Go.undef) ∧
   ∀ p,p∈l→p.1 < tm.size→(l.foldl (fun t (p:Tmp × Value)=>t.setIfInBounds p.1 p.2) tm).getD p.1 Go.undef=p.2
 | [],tm,_=>⟨rfl,fun _ _=>rfl,fun _ h=>by cases h⟩
 | p :: l,tm,h=>by
  rw [List.map_cons,List.nodup_cons] at h
  obtain ⟨h1,h2,h3⟩:=fold_setT l (tm.setIfInBounds p.1 p.2) h.2
  refine ⟨by rw [List.foldl_cons,h1];simp,fun t ht=>?_,fun q hq hlt=>?_⟩
  ·rw [List.map_cons,List.mem_cons,not_or] at ht
   rw [List.foldl_cons,h2 t ht.2]
   simp [Array.getElem?_setIfInBounds_ne (Ne.symm ht.1)]
  ·rw [List.foldl_cons]
   rcases List.mem_cons.1 hq with rfl | hq
   ·rw [h2 _ h.1]
    simp [hlt]
   ·exact h3 q hq (by simpa using hlt)
theorem paramT_get:∀ {ps:List Tmp} {xs:List AV} {t:Nat} {x:AV},look (paramT ps xs) t=some x→∃ (j:Nat) (h1:j < ps.length) (h2:j < xs.length),ps[j]=t∧xs[j]=x
 | [],_,t,x,h=>by simp [paramT,look] at h
 | _ :: _,[],t,x,h=>by simp [paramT,look] at h
 | p :: ps,y :: xs,t,x,h=>by
  simp only [paramT,look] at h
  split at h
  ·rename_i e
   injection h with h
   exact ⟨0,by simp,by simp,e,h⟩
  ·obtain ⟨j,h1,h2,h3,h4⟩:=paramT_get h
   exact ⟨j+1,by simpa using h1,by simpa using h2,h3,h4⟩
theorem paramT_none:∀ {ps:List Tmp} {xs:List AV} {t:Nat},ps.length≤xs.length→look (paramT ps xs) t=none→t ∉ ps
 | [],_,t,_,_=>by simp
 | _ :: _,[],t,h,_=>by simp at h
 | p :: ps,y :: xs,t,hl,h=>by
  simp only [paramT,look] at h
  split at h
  ·cases h
  ·rename_i e
   rw [List.mem_cons,not_or]
   exact ⟨fun q=>e q.symm,paramT_none (by simpa using hl) h⟩
theorem keepK_elim2 {ids:List Nat}:∀ {l:List (Nat × AV)} {ds:List Nat} {acc:List (Nat × AV)} {K:List (Nat × AV)→Prop},keepK ids l ds acc K→stayKs ids acc=true→∃ kept,K kept∧stayKs ids kept=true∧∀ p,p∈kept→p∈acc∨p.1 ∉ ds
 | [],ds,acc,K,h,ha=>⟨acc,h,ha,fun _ h=>.inl h⟩
 | (t,x) :: r,ds,acc,K,h,ha=>by
  unfold keepK at h
  split at h
  ·exact keepK_elim2 h ha
  ·rename_i hm
   have hmem:t ∉ ds:=fun q=>by
    have:∀ {l:List Nat},t∈l→memB t l=true:=fun {l}=>by
     induction l with
     | nil=>intro h;cases h
     | cons y l ih =>
      intro h
      unfold memB
      split
      ·rfl
      ·rename_i hb
       rcases List.mem_cons.1 h with rfl | h
       ·simp at hb
       ·exact ih h
    rw [this q] at hm
    cases hm
   split at h
   ·rename_i hs
    obtain ⟨kept,q1,q2,q3⟩:=keepK_elim2 h (by simp [stayKs,hs,ha])
    refine ⟨kept,q1,q2,fun p hp=>?_⟩
    rcases q3 p hp with q | q
    ·rcases List.mem_cons.1 q with rfl | q
     ·exact .inr hmem
     ·exact .inl q
    ·exact .inr fun h=>q (List.mem_cons_of_mem _ h)
   ·obtain ⟨kept,q1,q2,q3⟩:=keepK_elim2 h ha
    exact ⟨kept,q1,q2,fun p hp=>(q3 p hp).imp id fun q h=>q (List.mem_cons_of_mem _ h)⟩
theorem stayKs_get {ids:List Nat}:∀ {l:List (Nat × AV)},stayKs ids l=true→∀ t x,look l t=some x→stay ids x=true
 | [],_,t,x,h=>by simp [look] at h
 | (u,y) :: r,hs,t,x,h=>by
  simp only [stayKs,Bool.and_eq_true] at hs
  simp only [look] at h
  split at h
  ·injection h with h
   rw [← h];exact hs.1
  ·exact stayKs_get hs.2 t x h
theorem stayC_bd {ids:List Nat} {x:AV} (h:stayC ids x=true):bd (fun i=>i∈ids) x:=by
 cases x <;> simp [stayC] at h <;> unfold bd <;> first | exact memB_spec h | trivial | exact plainL_bd h
theorem stayL_bd {ids:List Nat}:∀ {xs:List AV},stayL ids xs=true→bdL (fun i=>i∈ids) xs
 | [],_=>by unfold bdL;trivial
 | x :: r,h=>by
  simp only [stayL,Bool.and_eq_true] at h
  unfold bdL
  exact ⟨stayC_bd h.1,stayL_bd h.2⟩
theorem stayF_bd {ids:List Nat} {x:AV} (h:stayF ids x=true):bd (fun i=>i∈ids) x:=by
 cases x with
 | fn f fs cs=>simp only [stayF,Bool.and_eq_true] at h;unfold bd;exact ⟨stayL_bd h.1,stayL_bd h.2⟩
 | _=>exact stayC_bd h
theorem stayFL_bd {ids:List Nat}:∀ {xs:List AV},stayFL ids xs=true→bdL (fun i=>i∈ids) xs
 | [],_=>by unfold bdL;trivial
 | x :: r,h=>by
  simp only [stayFL,Bool.and_eq_true] at h
  unfold bdL
  exact ⟨stayF_bd h.1,stayFL_bd h.2⟩
theorem stay_bd {ids:List Nat} {x:AV} (h:stay ids x=true):bd (fun i=>i∈ids) x:=by
 cases x with
 | ag cs=>unfold bd;exact stayFL_bd h
 | _=>exact stayF_bd h
def delL (is:List Nat):List (Nat × AO)→List (Nat × AO)
 | []=>[]
 | (i,o) :: r=>match memB i is with
  | true=>delL is r
  | false=>(i,o) :: delL is r
theorem look_delL {is:List Nat}:∀ {l:List (Nat × AO)} {j:Nat} {o:AO},look (delL is l) j=some o→look l j=some o∧j ∉ is
 | [],j,o,h=>by simp [delL,look] at h
 | (i,u) :: r,j,o,h=>by
  simp only [delL] at h
  split at h
  ·rename_i hm
   obtain ⟨h1,h2⟩:=look_delL h
   refine ⟨?_,h2⟩
   simp only [look]
   rw [if_neg (fun e:i=j=>h2 (e ▸ memB_spec hm))]
   exact h1
  ·rename_i hm
   simp only [look] at h ⊢
   split at h
   ·rename_i e
    subst e
    rw [if_pos rfl]
    refine ⟨h,fun q=>?_⟩
    have:∀ {l:List Nat},i∈l→memB i l=true:=fun {l}=>by
     induction l with
     | nil=>intro h;cases h
     | cons y l ih =>
      intro h
      unfold memB
      split
      ·rfl
      ·rename_i hb
       rcases List.mem_cons.1 h with rfl | h
       ·simp at hb
       ·exact ih h
    rw [this q] at hm
    cases hm
   ·rename_i e
    rw [if_neg e]
    exact look_delL h
def noneIn (is:List Nat):List Nat→Bool
 | []=>true
 | x :: r=>!(memB x is) && noneIn is r
def subB (ids:List Nat):List Nat→Bool
 | []=>true
 | x :: r=>memB x ids && subB ids r
theorem subB_spec {ids:List Nat}:∀ {l:List Nat},subB ids l=true→∀ x,x∈l→x∈ids
 | [],_,x,h=>by cases h
 | y :: r,h,x,hx=>by
  simp only [subB,Bool.and_eq_true] at h
  rcases List.mem_cons.1 hx with rfl | hx
  ·exact memB_spec h.1
  ·exact subB_spec h.2 x hx
def nodupB:List Nat→Bool
 | []=>true
 | x :: r=>!(memB x r) && nodupB r
theorem memB_mem {x:Nat}:∀ {l:List Nat},x∈l→memB x l=true
 | [],h=>by cases h
 | y :: l,h=>by
  unfold memB
  split
  ·rfl
  ·rename_i hb
   rcases List.mem_cons.1 h with rfl | h
   ·simp at hb
   ·exact memB_mem h
theorem nodupB_spec:∀ {l:List Nat},nodupB l=true→l.Nodup
 | [],_=>List.nodup_nil
 | x :: r,h=>by
  simp only [nodupB,Bool.and_eq_true] at h
  rw [List.nodup_cons]
  exact ⟨fun q=>by rw [memB_mem q] at h;simp at h,nodupB_spec h.2⟩
theorem noneIn_spec {is:List Nat}:∀ {l:List (Nat × AO)},noneIn is (numsO l)=true→∀ j o,look l j=some o→j ∉ is
 | [],_,j,o,h=>by simp [look] at h
 | (i,u) :: r,hn,j,o,h=>by
  simp only [numsO,noneIn,Bool.and_eq_true] at hn
  simp only [look] at h
  split at h
  ·rename_i e
   subst e
   exact fun q=>by rw [memB_mem q] at hn;simp at hn
  ·exact noneIn_spec hn.2 j o h
end Go.Sk
namespace Go.Sk
open Go.RowKit
section
variable (P:Program) (T:TypeId→Option TI)
def dstsO:List Oper→List Nat→List Nat
 | [],acc=>acc
 | o :: r,acc=>match o.dst with
  | some d=>dstsO r (d :: acc)
  | none=>dstsO r acc
def dstsC:Code→List Nat→List Nat
 | .region _ ops _,acc=>dstsO ops.toList acc
 | .seq x y,acc=>dstsC y (dstsC x acc)
 | .cond _ x y,acc=>dstsC y (dstsC x acc)
 | .block _ c,acc=>dstsC c acc
 | .loop c,acc=>dstsC c acc
 | _,acc=>acc
inductive LoopOK (ds:List Nat) (B:St→(Exit→St→Prop)→Prop) (σ:St) (Q:Exit→St→Prop):Prop
 | mk (h:∃ ids:List Nat,keepK ids σ.tmps ds [] fun kept =>
  ∃ (α:Type) (new:α→List (Nat × AV)) (objs:α→List (Nat × AO)) (next:Nat) (inv:α→Prop) (μ:α→Nat) (x0:α),
   (∃ bs,backK bs σ fun σ'=>LeH ids σ' (new x0) kept (objs x0) next)∧inv x0 ∧
   ∀ x,inv x→B (headSt σ (new x) kept (objs x) next) fun e σ'=>match e with
    | .normal=>∃ x',(∃ bs,backK bs σ' fun σ''=>LeH ids σ'' (new x') kept (objs x') next)∧inv x'∧μ x' < μ x∧(σ'.size,σ'.par)=(σ.size,σ.par)
    | e=>Q e σ')
 | of {α:Type} (tc:α→List (Nat × AV)) (oc:α→List (Nat × AO)) (next:Nat) (inv:α→Prop) (μ:α→Nat) (x0:α)
  (h:idsK σ.objs (geL next σ.objs (movedL (refT (tc x0)++refO (oc x0)) (oc x0))) [] fun ids=>keepK ids σ.tmps ds [] fun kept=>keepO ids σ.objs (numsO (oc x0)) [] fun keptO =>
   (∃ bs,backK bs σ fun σ'=>Shows ids kept keptO next σ' (tc x0) (oc x0))∧inv x0 ∧
   ∀ x,inv x→B (headSt σ (tc x) kept (oc x++keptO) next) fun e σ'=>match e with
    | .normal=>∃ x',(∃ bs,backK bs σ' fun σ''=>Shows ids kept keptO next σ'' (tc x') (oc x'))∧inv x'∧μ x' < μ x∧(σ'.size,σ'.par)=(σ.size,σ.par)
    | e=>Q e σ')
def IterC (f:FuncId) (os:List AO) (fs cs:List AV) (xs:List (List AV)) (ends:Bool):Prop :=
 ∀ (l:Nat) (Gh:Nat→Bool→Ghost),(∀ i (h:i < xs.length),YCall P l (Gh i false) xs[i] fun b=>Gh (i+1) (!b))→(ends=false→Gone (Gh xs.length false)) →
  FunX P f (os++[.gh (Gh 0 false)]) (fs++[.v (.func (.yield l) #[] #[])]++cs) fun _ os'=>∃ i s,i≤xs.length∧(s=false→i=xs.length)∧os'=os++[.gh (Gh i s)]
def jumpOf:Exit→Option Code
 | .exit id=>some (.exit id)
 | .ret=>some .ret
 | _=>none
inductive RangeOK (g:Operand) (ps:List Tmp) (ds:List Nat) (BA BB:St→(Exit→St→Prop)→Prop) (σ:St) (Q:Exit→St→Prop):Prop
 | mk {α:Type} (oc:Nat→α→List (Nat × AO)) (next:Nat) (inv:Nat→α→Prop) (x0:α) (is:List Nat) (os:List AO) (fs cs:List AV) (xs:List (List AV)) (ends:Bool)
  (h:idsK σ.objs (movedL (refO (oc 0 x0)) (oc 0 x0)) [] fun ids=>keepK ids σ.tmps ds [] fun kept=>keepO ids σ.objs (numsO (oc 0 x0)) [] fun keptO =>
   (∃ bs,backK bs σ fun σ'=>Shows ids kept keptO next σ' [] (oc 0 x0)) ∧
   kx (evalA (look kept)) g fun gv=>match calleeOf gv with
    | none=>False
    | some (gf,fs0,cs0) =>
     ((is.map (look keptO)=os.map (fun o=>some (renO (rn is next) o))∧fs.map (ren (rn is next))=fs0∧cs.map (ren (rn is next))=cs0) ∧
      (numsOK next is && subB ids σ.par && noneIn is (numsO (oc 0 x0)) && nodupB ps && ps.all (fun p=>p.blt σ.size))=true) ∧
     (IterC P gf os fs cs xs ends∧(ends=false→∀ z,¬ inv xs.length z))∧(∀ i (h:i < xs.length),xs[i].length=ps.length∧bdL (fun _=>False) xs[i])∧inv 0 x0 ∧
     (∀ i x (h:i < xs.length),inv i x→BA { headSt σ (paramT ps xs[i]) kept (oc i x++delL is keptO) next with par:=ids } fun e σ1=>match e with
      | .normal=>BB σ1 fun e σ'=>match e with
       | .normal=>∃ x',(∃ bs,backK bs { σ' with tmps:=kept } fun σ''=>Shows ids kept (delL is keptO) next σ'' [] (oc (i+1) x'))∧inv (i+1) x'∧(σ'.size,σ'.par)=(σ.size,ids)
       | e=>((jumpOf e).isSome=true∧(σ'.size,σ'.par)=(σ.size,ids))∧Q e { σ' with tmps:=kept,par:=σ.par }
      | _=>False) ∧
     ∀ x,inv xs.length x→Q .normal (headSt σ [] kept (oc xs.length x++delL is keptO) next))
def Draw:=Array Oper→St→(St→Prop)→Prop
structure Ck (K:St→Prop) (σ:St):Prop where
 run:K σ
def vcOpsK (all:Array Oper):Nat→List Oper→St→(St→Prop)→Prop
 | 0,r,σ,K=>vcOps P T all r σ K
 | f+1,r,σ,K=>match Nat.ble r.length 20 with
  | true=>vcOps P T all r σ K
  | false=>vcOps P T all (r.take 12) σ (Ck fun σ'=>vcOpsK all f (r.drop 12) σ' K)
def vcC (D:Draw):Code→St→(Exit→St→Prop)→Prop
 | .skip,σ,Q=>Q .normal σ
 | .label _,σ,Q=>Q .normal σ
 | .region _ ops draw,σ,Q=>match draw with
  | true=>D ops σ (Q .normal)
  | false=>vcOpsK P T ops 30 ops.toList σ (Q .normal)
 | .seq x y,σ,Q=>vcC D x σ fun e σ'=>match e with
  | .normal=>vcC D y σ' Q
  | e=>Q e σ'
 | .cond c x y,σ,Q=>kx σ.eval c fun cv=>match cv with
  | .v (.bool b)=>ifB b (vcC D x σ Q) (vcC D y σ Q)
  | _=>False
 | .block id c,σ,Q=>vcC D c σ fun e σ'=>match e with
  | .exit i=>if i=id then Q .normal σ' else Q (.exit i) σ'
  | e=>Q e σ'
 | .loop c,σ,Q=>LoopOK (dstsC c []) (vcC D c) σ Q
 | .rangeFunc g ps x y,σ,Q=>RangeOK P g ps.toList (dstsC y (dstsC x ps.toList)) (vcC D x) (vcC D y) σ Q
 | .exit id,σ,Q=>Q (.exit id) σ
 | .ret,σ,Q=>Q .ret σ
 | _,_,_=>False
end
end Go.Sk
namespace Go.Sk
open Go.RowKit
section
variable {P:Program} {T:TypeId→Option TI} {N0:Nat→Prop} {base:Nat} {w0:W0}
def InR (r0:Option Nat) (base:Nat) (w0:W0):Prop:=∀ l,r0=some l→l < base∧¬ w0.f l∧∃ r,w0.w.heap[l]?=some (.loop r)
theorem RSX.frm {σ:St} {a:Act} {w:World} (h:RSX N0 base w0 σ a w):Frm base w0 w:=by
 obtain ⟨N1,b1,w1,e,_,V,hV⟩:=h
 exact e.frm.turn hV.bel.os hV.bel.tape hV.bel.output hV.bel.size fun k hk hf=>hV.bel.block k (Nat.lt_of_lt_of_le hk e.le) (e.keep k hk hf)
theorem round_back {N:Nat→Prop} {w w3:World} {Vg V V3:VV} {G G':Ghost} {τ τ':St} {W:W0} {l:Nat} {Dm:Option Nat} {rec:Option Code→Loop} {tm:Array Value} {pins ids:List Nat} {pv:Nat→Value} {size:Nat} {Tf:St→Option Code→Prop} {p:Option Code} {b:Bool}
  (hown:Own N Vg (obL [.gh G]) (ltA 1) w) (h4:∀ b,Vg.f 0 b↔foot V τ.obj b∨(b=l∨Dm=some b)) (h5:∀ b,(b=l∨Dm=some b)→¬ foot V τ.obj b) (h7:∀ i,i∈pins→V i=pv i) (hpi:∀ i,i∈pins→i∈ids)
  (hW:W.f=foot V τ.obj∧W.m=ids∧W.v=V.v∧W.w.os=w.os∧W.w.tape=w.tape∧Outp w W.w∧W.w.heap.size=w.heap.size∧∀ k,k≠l→W.w.heap[k]?=w.heap[k]?)
  (hG':G'=rangeG l Dm rec tm pins pv Tf) (hT:Tf τ' p) (hrec:w3.heap[l]?=some (.loop (rec p))) (hD:∀ D,Dm=some D→w3.heap[D]?=some (.deferred (some [])))
  {a:Act} (ha:a.tmps=tm) (hV:Rel (fun b=>N b∨foot V τ.obj b) w.heap.size W size V3 τ'.get τ'.obj (fun i=>i < τ'.next) a w3) :
  Frm w.heap.size { w:=w,f:=foot Vg (obL [.gh G]) } w3∧Outc N w Vg [.gh G] w3 (.v (.bool b)) [.gh G'] (.bool b):=by
 have lv:∀ {G:Ghost} {i:Nat},live (obL [.gh G]) i→i=0:=fun {G i} ⟨o,h,_⟩=>by
  unfold obL at h
  cases i with
  | zero=>rfl
  | succ i=>simp at h
 have hlow:∀ b,Vg.f 0 b→b < w.heap.size∧¬ N b:=fun b hb=>hown.low 0 b ⟨_,rfl,rfl⟩ hb
 have hfoot:∀ b,foot Vg (obL [.gh G]) b↔Vg.f 0 b:=fun b=>⟨fun ⟨i,hl,hb⟩=>by rw [lv hl] at hb;exact hb,fun hb=>⟨0,⟨_,rfl,rfl⟩,hb⟩⟩
 obtain ⟨w1,w2,w3',w4,w5,w6,w7,w8⟩:=hW
 have hN3:∀ b,foot V3 τ'.obj b→(w.heap.size≤b∨foot V τ.obj b)∧b < w3.heap.size:=fun b ⟨i,hl,hb⟩=>by
  refine ⟨?_,(hV.low i b hl hb).2⟩
  rcases (hV.low i b hl hb).1 with q | ⟨q,_⟩
  ·exact .inl q
  ·rw [w1] at q;exact .inr q
 have hX3:∀ b,(b=l∨Dm=some b)→¬ foot V3 τ'.obj b:=fun b hX hf=>by
  rcases (hN3 b hf).1 with q | q
  ·have:=(hlow b ((h4 b).2 (.inr hX))).1;omega
  ·exact h5 b hX q
 refine ⟨⟨hV.bel.os.trans w4,hV.bel.tape.trans w5,hV.bel.output.trans w6,by have:=hV.bel.size;rw [w7] at this;exact this,fun k hk hf=>?_⟩,?_⟩
 ·have hk1:¬ Vg.f 0 k:=fun q=>hf ((hfoot k).2 q)
  have hk2:k≠l:=fun e=>hk1 ((h4 k).2 (.inr (.inl e)))
  exact (hV.bel.block k hk (by rw [w1];exact fun q=>hk1 ((h4 k).2 (.inl q)))).trans (w8 k hk2)
 ·refine ⟨⟨Vg.v,fun i b=>if i=0 then foot V3 τ'.obj b∨(b=l∨Dm=some b) else Vg.f i b⟩,fun _ _=>rfl,.im (.v _ rfl),by unfold bd;trivial,fun i o ho=>?_,fun i j b hi hj _ _=>(lv hi).trans (lv hj).symm,fun i b hl hb=>?_⟩
  ·have hi:i=0:=by
    unfold obL at ho
    cases i with
    | zero=>rfl
    | succ i=>simp at ho
   subst hi
   have ho':AO.gh G'=o:=by unfold obL at ho;injection ho
   subst ho'
   refine ⟨?_,trivial⟩
   subst hG'
   show ∃ τ p,_
   refine ⟨τ',p,hT,?_,hrec,hD⟩
   simp only [if_true]
   rw [← ha]
   refine hV.susp (fun b hb hs=>⟨fun hlt=>?_,fun i hl hbb=>?_⟩) hX3 (fun i hi=>?_)
   ·rcases hb.1 hlt with q | q
    ·exact .inl q
    ·exact .inr ((hfoot b).2 ((h4 b).2 (.inl q)))
   ·rw [lv hl] at hbb
    simp only [if_true] at hbb
    rcases hbb with ⟨i,hl,hbb⟩ | hbb
    ·exact hb.2 i hl hbb
    ·have hg:=(h4 b).2 (.inr hbb)
     rcases hb.1 (hlow b hg).1 with q | q
     ·exact (hlow b hg).2 q
     ·exact h5 b hbb q
   ·have:=hV.par i (by rw [w2];exact hpi i hi)
    refine ⟨this.1,this.2.trans ?_⟩
    rw [w3']
    exact h7 i hi
  ·rw [lv hl] at hb
   simp only [if_true] at hb
   rcases hb with hb | hb
   ·obtain ⟨q1,q2⟩:=hN3 b hb
    exact ⟨q1.imp id fun q=>(hfoot b).2 ((h4 b).2 (.inl q)),q2⟩
   ·have hg:=(h4 b).2 (.inr hb)
    exact ⟨.inr ((hfoot b).2 hg),Nat.lt_of_lt_of_le (hlow b hg).1 (by have:=hV.bel.size;rw [w7] at this;exact this)⟩
theorem keep_back {N:Nat→Prop} {w w3:World} {V V3:VV} {ob0 ob:Nat→Option AO} {W:W0} {l size next:Nat} {ids:List Nat} {kept:List (Nat × AV)} {tm:Array Value} {g:Nat→Option AV} {a:Act} {ds:List Deferred}
  (hks:stayKs ids kept=true) (hN:∀ b,N b→¬ foot V ob0 b) (hl:¬ N l) (hW:W.f=foot V ob0∧W.m=ids∧W.v=V.v∧W.w.heap.size=w.heap.size∧W.ds=ds∧∀ k,k≠l→W.w.heap[k]?=w.heap[k]?)
  (h6:∀ t x,look kept t=some x→RepT N w V x (tm.getD t Go.undef)) (hts:tm.size=size)
  (hV:Rel (fun b=>N b∨foot V ob0 b) w.heap.size W size V3 g ob (fun i=>i < next) a w3):Rel (fun b=>N b∨foot V ob0 b) w.heap.size W size V3 (look kept) ob (fun i=>i < next) { tmps:=tm,defers:=ds } w3:=by
 obtain ⟨w1,w2,w3',w7,w9,w8⟩:=hW
 have hin:∀ i,i∈ids→i < next∧V3 i=V i:=fun i hi=>by
  have:=hV.par i (by rw [w2];exact hi)
  rw [w3'] at this
  exact this
 refine { hV with tm:=fun t x hx=>?_,bdt:=fun t x hx=>bd_mono (fun i hi=>(hin i hi).1) x (stay_bd (stayKs_get hks t x hx)),dfr:=w9.symm,siz:=hts }
 refine (h6 t x hx).mono (A:=fun i=>i∈ids) (fun b hb hs=>⟨⟨fun _=>.inl hb,fun i hl hbb=>?_⟩,?_⟩) (fun i hi=>(hin i hi).2) (stay_bd (stayKs_get hks t x hx))
 ·rcases (hV.low i b hl hbb).1 with q | ⟨q,_⟩
  ·omega
  ·rw [w1] at q;exact hN b hb q
 ·exact (hV.bel.block b hs (by rw [w1];exact hN b hb)).trans (w8 b fun e=>by subst e;exact hl hb)
def rangeT {α:Type} (σ:St) (oc:Nat→α→List (Nat × AO)) (next:Nat) (inv:Nat→α→Prop) (kept:List (Nat × AV)) (rest:List (Nat × AO)) (Q:Exit→St→Prop) (i:Nat) (s:Bool) (τ:St) (p:Option Code):Prop :=
 match s with
 | false=>p=none∧∃ x,inv i x∧τ=headSt σ [] kept (oc i x++rest) next
 | true=>∃ e,jumpOf e=p∧p.isSome=true∧Q e τ∧(τ.size,τ.par)=(σ.size,σ.par)
theorem round_sound {α:Type} {σ:St} {Q:Exit→St→Prop} {ps:Array Tmp} {x y:Code} {BA BB:St→(Exit→St→Prop)→Prop} {oc:Nat→α→List (Nat × AO)} {next:Nat} {inv:Nat→α→Prop} {ids:List Nat} {kept:List (Nat × AV)} {rest:List (Nat × AO)} {xs:List (List AV)}
  {tm pvA:Array Value} {pv:Nat→Value} {l:Nat} {Dm:Option Nat} {dn fn:Nat}
  (IA:∀ {N0:Nat→Prop} {base:Nat} {w0:W0} {r0:Option Nat} {n:Nat} {σ:St} {Q:Exit→St→Prop} {a:Act} {w:World},BA σ Q→InR r0 base w0→RSX N0 base w0 σ a w→x.wpIn (WR r0) n P (fun e a' w'=>∃ σ',Q e σ'∧RSX N0 base w0 σ' a' w') a w)
  (IB:∀ {N0:Nat→Prop} {base:Nat} {w0:W0} {r0:Option Nat} {n:Nat} {σ:St} {Q:Exit→St→Prop} {a:Act} {w:World},BB σ Q→InR r0 base w0→RSX N0 base w0 σ a w→y.wpIn (WR r0) n P (fun e a' w'=>∃ σ',Q e σ'∧RSX N0 base w0 σ' a' w') a w)
  (hks:stayKs ids kept=true) (hkO:stayOs ids rest=true) (hkd:∀ p,p∈kept→p.1 ∉ ps.toList) (hids:∀ i,i∈ids→i < next) (hpar:∀ i,i∈σ.par→i∈ids) (hnd:ps.toList.Nodup) (hlt:∀ p,p∈ps.toList→p < σ.size) (hts:tm.size=σ.size)
  {i:Nat} (hi:i < xs.length) (hxl:xs[i].length=ps.toList.length) (hfree:bdL (fun _=>False) xs[i])
  (hround:∀ z,inv i z→BA { headSt σ (paramT ps.toList xs[i]) kept (oc i z++rest) next with par:=ids } fun e σ1=>match e with
      | .normal=>BB σ1 fun e σ'=>match e with
       | .normal=>∃ x',(∃ bs,backK bs { σ' with tmps:=kept } fun σ''=>Shows ids kept rest next σ'' [] (oc (i+1) x'))∧inv (i+1) x'∧(σ'.size,σ'.par)=(σ.size,ids)
       | e=>((jumpOf e).isSome=true∧(σ'.size,σ'.par)=(σ.size,ids))∧Q e { σ' with tmps:=kept,par:=σ.par }
      | _=>False) :
  YCall P l (rangeG l Dm (fun p=>{ state:=if p.isNone then .ready else .done,pending:=p,fn:=fn,tmps:=tm,params:=ps,assign:=x,body:=y,defers:=dn }) tm σ.par pv (rangeT σ oc next inv kept rest Q i false)) xs[i]
   fun b=>rangeG l Dm (fun p=>{ state:=if p.isNone then .ready else .done,pending:=p,fn:=fn,tmps:=tm,params:=ps,assign:=x,body:=y,defers:=dn }) tm σ.par pv (rangeT σ oc next inv kept rest Q (i+1) (!b)):=by
 refine ⟨hfree,fun N w Vg vs hs hown hrep=>?_⟩
 have hR:(rangeG l Dm _ tm σ.par pv (rangeT σ oc next inv kept rest Q i false)).R N w (Vg.f 0):=hown.obs 0 _ rfl
 obtain ⟨τ,p,⟨hp,z,hinv,hτ⟩,⟨V,h1,h2,h3,h4,h5,h6,h7⟩,hrec,hDr⟩:=hR
 subst hp
 have hobj:τ.obj=look (oc i z++rest):=by rw [hτ];rfl
 have hnext:τ.next=next:=by rw [hτ];rfl
 have htmp:τ.tmps=kept:=by rw [hτ];rfl
 have hlow:∀ b,Vg.f 0 b→b < w.heap.size∧¬ N b:=fun b hb=>hown.low 0 b ⟨_,rfl,rfl⟩ hb
 have hlf:=(h4 l).2 (.inr (.inl rfl))
 have hN:∀ b,N b→¬ foot V τ.obj b:=fun b hb hf=>(hlow b ((h4 b).2 (.inl hf))).2 hb
 have hvs:vs.size=ps.size:=by rw [hs,hxl];simp
 refine ⟨_,_,_,_,run_yield hrec hvs,roundIn_of_wpIn (F:=Fence.wide) trivial ?_⟩
 show x.wpIn (WR (some l)) 0 P _ _ w
 have hfold:((ps.zip vs).foldl (fun tmps (t,a)=>tmps.setIfInBounds t a) tm)=(ps.toList.zip vs.toList).foldl (fun t (p:Tmp × Value)=>t.setIfInBounds p.1 p.2) tm:=by
  rw [← Array.foldl_toList,Array.toList_zip]
 have hz:(ps.toList.zip vs.toList).map (·.1)=ps.toList:=List.map_fst_zip (by simp [hvs])
 obtain ⟨f1,f2,f3⟩:=fold_setT (ps.toList.zip vs.toList) tm (by rw [hz];exact hnd)
 rw [hz] at f2
 have hrel0:Rel (fun b=>N b∨foot V τ.obj b) w.heap.size { w:=w,f:=foot V τ.obj,m:=ids,v:=V.v,ds:=[] } σ.size V (look (paramT ps.toList xs[i]++kept)) (look (oc i z++rest)) (fun i=>i < next)
   { tmps:=(ps.zip vs).foldl (fun tmps (t,a)=>tmps.setIfInBounds t a) tm,defers:=[] } w:=by
  have:=Susp.rel (N:=N) (w:=w) (f:=foot V τ.obj) (X:=fun _=>False) (tm:=(ps.zip vs).foldl (fun tmps (t,a)=>tmps.setIfInBounds t a) tm) (pins:=[]) (pv:=pv) (τ:={ τ with tmps:=paramT ps.toList xs[i]++kept }) (V:=V) (m:=ids) (ds:=[]) (size:=σ.size)
   h1 h2 h3 (fun t u hu=>?_) hN (fun i hi=>by show i < τ.next;rw [hnext];exact hids i hi) (by rw [hfold,f1,hts])
  ·have e:(St.obj { τ with tmps:=paramT ps.toList xs[i]++kept })=look (oc i z++rest):=hobj
   rw [e] at this
   rw [hobj]
   have e2:(fun q=>q < ({ τ with tmps:=paramT ps.toList xs[i]++kept }:St).next)=fun q=>q < next:=by funext j;exact congrArg (j < ·) hnext
   rw [e2] at this
   exact this
  ·simp only [look_append] at hu
   split at hu
   ·rename_i u' hl
    injection hu with hu
    subst hu
    obtain ⟨j,q1,q2,q3,q4⟩:=paramT_get hl
    have q5:j < vs.size:=by omega
    have hm:(ps.toList[j],vs[j])∈ps.toList.zip vs.toList:=List.mem_iff_getElem.2 ⟨j,by simp;omega,by simp⟩
    have:=f3 _ hm (by rw [hts];exact hlt _ (List.getElem_mem q1))
    simp only at this
    rw [q3] at this
    rw [hfold,this,← q4]
    have hfr:bd (fun _=>False) xs[i][j]:=bdL_iff.1 hfree _ (List.getElem_mem q2)
    exact ⟨(hrep j q2 q5).mono (A:=fun _=>False) (fun b hb _=>⟨hb,rfl⟩) (fun _ h=>h.elim) hfr,bd_mono (fun _ h=>h.elim) _ hfr⟩
   ·rename_i hl
    have hnp:t ∉ ps.toList:=paramT_none (by omega) hl
    rw [hfold,f2 t hnp]
    exact h6 t u (by rw [htmp];exact hu)
 have hRS0:RS (fun b=>N b∨foot V τ.obj b) w.heap.size { w:=w,f:=foot V τ.obj,m:=ids,v:=V.v,ds:=[] } { headSt σ (paramT ps.toList xs[i]) kept (oc i z++rest) next with par:=ids } { tmps:=(ps.zip vs).foldl (fun tmps (t,a)=>tmps.setIfInBounds t a) tm,defers:=[] } w :=
  ⟨rfl,V,hrel0⟩
 have hX0:RSX (fun b=>N b∨foot V τ.obj b) w.heap.size { w:=w,f:=foot V τ.obj,m:=ids,v:=V.v,ds:=[] } { headSt σ (paramT ps.toList xs[i]) kept (oc i z++rest) next with par:=ids } { tmps:=(ps.zip vs).foldl (fun tmps (t,a)=>tmps.setIfInBounds t a) tm,defers:=[] } w :=
  ⟨_,_,_,Ext.refl (Nat.le_refl _) (fun b hb=>.inr ⟨hb,.inr hb⟩),hRS0⟩
 have hNl:¬ (N l∨foot V τ.obj l):=fun q=>q.elim (hlow l hlf).2 (h5 l (.inl rfl))
 have hfl:¬ foot V τ.obj l:=h5 l (.inl rfl)
 refine wpIn_mono (IA (hround z hinv) (fun l' e=>by cases e;exact ⟨(hlow l hlf).1,hfl,_,hrec⟩) hX0) fun e a1 w1 ⟨σ1,hq,hX1⟩=>?_
 cases e with
 | normal =>
  have hr1:w1.heap[l]?=_:=(hX1.frm.block l (hlow l hlf).1 hfl).trans hrec
  refine ⟨_,run_beginRound hr1 rfl,?_⟩
  have hX1':=hX1.poke (l:=l) (Obj.loop { state:=.busy,pending:=none,fn:=fn,tmps:=tm,params:=ps,assign:=x,body:=y,defers:=dn }) (hlow l hlf).1 hNl hfl
  show y.wpIn (WR (some l)) 0 P _ _ _
  refine wpIn_mono (IB hq (fun l' e=>by cases e;exact ⟨(hlow l hlf).1,hfl,_,World.putObj_heap_same (hlow l hlf).1⟩) hX1') fun e a2 w2 ⟨σ',hq',hX2⟩=>?_
  have hr2:w2.heap[l]?=some (.loop { state:=.busy,pending:=none,fn:=fn,tmps:=tm,params:=ps,assign:=x,body:=y,defers:=dn }):=(hX2.frm.block l (hlow l hlf).1 hfl).trans (World.putObj_heap_same (hlow l hlf).1)
  have hl2:l < w2.heap.size:=(Array.getElem?_eq_some_iff.1 hr2).1
  have fin:∀ (pd:Option Code),(σ'.size,σ'.par)=(σ.size,ids)→∃ W:W0,(W.f=foot V τ.obj∧W.m=ids∧W.v=V.v∧W.w.os=w.os∧W.w.tape=w.tape∧Outp w W.w∧W.w.heap.size=w.heap.size∧(∀ k,k≠l→W.w.heap[k]?=w.heap[k]?)) ∧
    RS (fun b=>N b∨foot V τ.obj b) w.heap.size W { σ' with tmps:=kept } { tmps:=tm,defers:=[] } (w2.putObj l (.loop { state:=if pd.isNone then .ready else .done,pending:=pd,fn:=fn,tmps:=tm,params:=ps,assign:=x,body:=y,defers:=dn })):=by
   intro pd hsp
   simp only [Prod.mk.injEq] at hsp
   obtain ⟨N1,b1,w1',e,hp1,V3,hV3⟩:=hX2.poke (l:=l) (Obj.loop { state:=if pd.isNone then .ready else .done,pending:=pd,fn:=fn,tmps:=tm,params:=ps,assign:=x,body:=y,defers:=dn }) (hlow l hlf).1 hNl hfl
   have hset:=hV3.settle e (Nat.le_refl _) (fun _ _ _=>rfl) (fun _ _ _=>rfl) rfl rfl (.refl _)
   have hWf:∀ k,k≠l→((w.putObj l (.loop { state:=.busy,pending:=none,fn:=fn,tmps:=tm,params:=ps,assign:=x,body:=y,defers:=dn })).putObj l (.loop { state:=if pd.isNone then .ready else .done,pending:=pd,fn:=fn,tmps:=tm,params:=ps,assign:=x,body:=y,defers:=dn })).heap[k]?=w.heap[k]? :=
    fun k hk=>(World.putObj_heap_other hk).trans (World.putObj_heap_other hk)
   have hsz:((w.putObj l (.loop { state:=.busy,pending:=none,fn:=fn,tmps:=tm,params:=ps,assign:=x,body:=y,defers:=dn })).putObj l (.loop { state:=if pd.isNone then .ready else .done,pending:=pd,fn:=fn,tmps:=tm,params:=ps,assign:=x,body:=y,defers:=dn })).heap.size=w.heap.size:=by
    rw [World.putObj_size,World.putObj_size]
   refine ⟨(({ w:=w,f:=foot V τ.obj,m:=ids,v:=V.v,ds:=[] }:W0).poke l (.loop { state:=.busy,pending:=none,fn:=fn,tmps:=tm,params:=ps,assign:=x,body:=y,defers:=dn })).poke l (.loop { state:=if pd.isNone then .ready else .done,pending:=pd,fn:=fn,tmps:=tm,params:=ps,assign:=x,body:=y,defers:=dn }),⟨rfl,rfl,rfl,rfl,rfl,.same rfl rfl,hsz,hWf⟩,hsp.2.symm,V3,?_⟩
   have hk:=keep_back (kept:=kept) (tm:=tm) (ob0:=τ.obj) (l:=l) (ids:=ids) (ds:=[]) hks hN (hlow l hlf).2 ⟨rfl,rfl,rfl,hsz,rfl,hWf⟩ (fun t u hu=>(h6 t u (by rw [htmp];exact hu)).1) (by rw [hts];exact hsp.1.symm) hset
   exact hk
  cases e with
  | normal =>
   obtain ⟨x',⟨bs,hb⟩,hinv',hsp⟩:=hq'
   obtain ⟨W,hW,hRS⟩:=fin none hsp
   refine ⟨_,_,run_endRound none hr2,true,rfl,?_⟩
   obtain ⟨σ2,q1,q2,q3,q4⟩:=backK_elim hb hRS
   obtain ⟨hp3,V4,hV4⟩:=(q1.leH hkO).sound hks q2
   refine round_back (τ':=headSt σ [] kept (oc (i+1) x'++rest) next) (p:=none) hown h4 h5 (fun i hi=>(h7 i hi).2) hpar hW rfl ⟨rfl,x',hinv',rfl⟩ (World.putObj_heap_same hl2) (fun D hD=>?_) rfl hV4
   have hDX:Vg.f 0 D:=(h4 D).2 (.inr (.inr hD))
   by_cases e:D=l
   ·subst e;have:=hDr D hD;rw [hrec] at this;cases this
   ·have:=hV4.bel.block D (hlow D hDX).1 (by rw [hW.1];exact h5 D (.inr hD))
    exact this.trans ((hW.2.2.2.2.2.2.2 D e).trans (hDr D hD))
  | exit id =>
   obtain ⟨⟨hj,hsp⟩,hQ⟩:=hq'
   obtain ⟨W,hW,hp3,V4,hV4⟩:=fin (some (.exit id)) hsp
   refine ⟨_,_,run_endRound (some (.exit id)) hr2,false,rfl,?_⟩
   simp only [Prod.mk.injEq] at hsp
   refine round_back (τ':={ σ' with tmps:=kept,par:=σ.par }) (p:=some (.exit id)) hown h4 h5 (fun i hi=>(h7 i hi).2) hpar hW rfl ⟨.exit id,rfl,rfl,hQ,by simp [hsp.1]⟩ (World.putObj_heap_same hl2) (fun D hD=>?_) rfl hV4
   have hDX:Vg.f 0 D:=(h4 D).2 (.inr (.inr hD))
   by_cases e:D=l
   ·subst e;have:=hDr D hD;rw [hrec] at this;cases this
   ·have:=hV4.bel.block D (hlow D hDX).1 (by rw [hW.1];exact h5 D (.inr hD))
    exact this.trans ((hW.2.2.2.2.2.2.2 D e).trans (hDr D hD))
  | ret =>
   obtain ⟨⟨hj,hsp⟩,hQ⟩:=hq'
   obtain ⟨W,hW,hp3,V4,hV4⟩:=fin (some .ret) hsp
   refine ⟨_,_,run_endRound (some .ret) hr2,false,rfl,?_⟩
   simp only [Prod.mk.injEq] at hsp
   refine round_back (τ':={ σ' with tmps:=kept,par:=σ.par }) (p:=some .ret) hown h4 h5 (fun i hi=>(h7 i hi).2) hpar hW rfl ⟨.ret,rfl,rfl,hQ,by simp [hsp.1]⟩ (World.putObj_heap_same hl2) (fun D hD=>?_) rfl hV4
   have hDX:Vg.f 0 D:=(h4 D).2 (.inr (.inr hD))
   by_cases e:D=l
   ·subst e;have:=hDr D hD;rw [hrec] at this;cases this
   ·have:=hV4.bel.block D (hlow D hDX).1 (by rw [hW.1];exact h5 D (.inr hD))
    exact this.trans ((hW.2.2.2.2.2.2.2 D e).trans (hDr D hD))
  | goto t=>have:=hq'.1.1;simp [jumpOf] at this
  | panic c=>have:=hq'.1.1;simp [jumpOf] at this
  | outgrown=>have:=hq'.1.1;simp [jumpOf] at this
 | _=>exact hq.elim
end
end Go.Sk
