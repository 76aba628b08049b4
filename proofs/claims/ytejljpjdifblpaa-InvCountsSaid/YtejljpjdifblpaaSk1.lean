/- A checker of Go functions by conditions over small pure states: part 2. -/
import Derived.Test.YtejljpjdifblpaaSk0
set_option linter.unusedVariables false
set_option linter.unusedSimpArgs false
namespace Go.Sk
open Go.RowKit
section
variable {N:Nat→Prop} {w:World} {V:VV} {P:Program} {T:TypeId→Option TI}
def litL:List AV→(List AV→Prop)→Prop
 | [],K=>K []
 | c :: r,K=>litL r fun r'=>K (c :: r')
theorem litL_eq:∀ {l:List AV} {K:List AV→Prop},litL l K=K l
 | [],_=>rfl
 | c :: r,K=>by unfold litL;rw [litL_eq]
def natL:Nat→(Nat→Prop)→Prop
 | 0,K=>K 0
 | 1,K=>K 1
 | 2,K=>K 2
 | 3,K=>K 3
 | 4,K=>K 4
 | 5,K=>K 5
 | 6,K=>K 6
 | 7,K=>K 7
 | 8,K=>K 8
 | 9,K=>K 9
 | 10,K=>K 10
 | 11,K=>K 11
 | 12,K=>K 12
 | 13,K=>K 13
 | 14,K=>K 14
 | 15,K=>K 15
 | 16,K=>K 16
 | 17,K=>K 17
 | 18,K=>K 18
 | 19,K=>K 19
 | 20,K=>K 20
 | 21,K=>K 21
 | 22,K=>K 22
 | 23,K=>K 23
 | 24,K=>K 24
 | 25,K=>K 25
 | 26,K=>K 26
 | 27,K=>K 27
 | 28,K=>K 28
 | 29,K=>K 29
 | 30,K=>K 30
 | 31,K=>K 31
 | 32,K=>K 32
 | 33,K=>K 33
 | 34,K=>K 34
 | 35,K=>K 35
 | 36,K=>K 36
 | 37,K=>K 37
 | 38,K=>K 38
 | 39,K=>K 39
 | 40,K=>K 40
 | 41,K=>K 41
 | 42,K=>K 42
 | 43,K=>K 43
 | 44,K=>K 44
 | 45,K=>K 45
 | 46,K=>K 46
 | 47,K=>K 47
 | n,K=>K n
theorem natL_eq {n:Nat} {K:Nat→Prop}:natL n K=K n:=by unfold natL;split <;> rfl
theorem natI {n:Nat} {K:Nat→Prop} (h:K n):natL n K:=natL_eq ▸ h
def ptrL:AV→(AV→Prop)→Prop
 | .ptr id j,K=>natL j fun j=>K (.ptr id j)
 | .pea id k i j,K=>natL j fun j=>K (.pea id k i j)
 | x,K=>K x
theorem ptrL_eq {x:AV} {K:AV→Prop}:ptrL x K=K x:=by unfold ptrL;split <;> first | rw [natL_eq] | rfl
def ldL:Bool→AV→(AV→Prop)→Prop
 | true,.ag l,K=>litL l fun l=>K (.ag l)
 | _,x,K=>K x
theorem ldL_eq {b:Bool} {x:AV} {K:AV→Prop}:ldL b x K=K x:=by unfold ldL;split <;> first | rw [litL_eq] | rfl
def addOff (p:AV) (k:Nat):Option AV :=
 match p with
 | .ptr id j=>some (.ptr id (j+k))
 | .pea id s i j=>some (.pea id s i (j+k))
 | .pel cs=>some (.pel (cs.drop k))
 | _=>none
theorem addOff_rep {p q:AV} {k:Nat} {v:Value} (h:RepT N w V p v) (hq:addOff p k=some q) :
  ∃ b o,v=.pointer (some ⟨b,o,none⟩)∧RepT N w V q (.pointer (some ⟨b,o+k,none⟩))∧∀ A,bd A p→bd A q:=by
 cases h with
 | ptr id j b o h =>
  simp only [addOff,Option.some.injEq] at hq;subst hq
  exact ⟨b,o+j,rfl,by rw [Nat.add_assoc];exact .ptr id (j+k) b o h,fun A hb=>by simpa [bd] using hb⟩
 | pea id s i j b o n c h =>
  simp only [addOff,Option.some.injEq] at hq;subst hq
  refine ⟨b,_,rfl,?_,fun A hb=>by simpa [bd] using hb⟩
  rw [Nat.add_assoc,Nat.add_assoc]
  exact .pea id s i (j+k) b o n c h
 | pel cs b o f hN hb hc hr =>
  simp only [addOff,Option.some.injEq] at hq;subst hq
  refine ⟨b,o,rfl,.pel _ b (o+k) (fun j=>f (k+j)) hN hb (fun j c h=>?_) (fun j c h=>?_),fun A hb=>by simp [bd]⟩
  ·rw [Nat.add_assoc];exact hc _ _ (by rwa [List.getElem?_drop] at h)
  ·exact hr _ _ (by rwa [List.getElem?_drop] at h)
 | im h=>cases h <;> simp [addOff] at hq
 | _=>simp [addOff] at hq
def fieldOf (T:TypeId→Option TI) (s:TypeId) (f:Nat):Option Field :=
 match (T s).map TI.desc with
 | some (TypeDesc.struct fs)=>fs[f]?
 | _=>none
theorem fieldOf_run (hT:TOK P T) {s:TypeId} {f:Nat} {fd:Field} (h:fieldOf T s f=some fd):∃ fs:Array Field,P.underlying s=some (.struct fs)∧fs[f]?=some fd:=by
 unfold fieldOf at h
 split at h
 ·rename_i fs hd
  cases ht:T s with
  | none=>simp [ht] at hd
  | some i =>
   simp [ht] at hd
   obtain ⟨info,h1,h2,_⟩:=hT s i ht
   exact ⟨fs,by rw [h2,hd],h⟩
 ·cases h
theorem run_fieldAt (hT:TOK P T) {s:TypeId} {f:Nat} {fd:Field} {ti:TI} (h:fieldOf T s f=some fd) (hi:T fd.type=some ti) (hs:ti.size≠0) (b o:Nat) :
  (Instr.fieldAt s (.pointer (some ⟨b,o,none⟩)) f).run P w=.ok (.pointer (some ⟨b,o+fd.offset,none⟩)) w:=by
 obtain ⟨fs,h1,h2⟩:=fieldOf_run hT h
 simp only [Instr.fieldAt,Sem.run_bind,run_underlying h1,Result.andThen_ok,h2,Instr.sureAddr,Sem.run_pure,fieldPlace,run_sizeOf hT hi,hs,if_false,Addr.add_lit]
def ownFree:List AV→Bool
 | []=>true
 | .own _ _ :: _=>false
 | _ :: r=>ownFree r
theorem ownFree_spec:∀ {cs:List AV},ownFree cs=true→∀ c,c∈cs→∀ k ys,c≠.own k ys
 | [],_,c,hc=>by cases hc
 | x :: r,h,c,hc=>by
  rcases List.mem_cons.1 hc with rfl | hc
  ·intro k ys e;subst e;simp [ownFree] at h
  ·refine ownFree_spec (cs:=r) ?_ c hc
   cases x <;> simp_all [ownFree]
theorem RepW.plain {g:Nat→Prop} {c:AV} {u:Value} (hc:∀ k ys,c≠.own k ys) (h:RepW N w V g c u):RepT N w V c u∧∀ b,¬ g b:=by
 cases c with
 | own k ys=>exact absurd rfl (hc k ys)
 | _=>exact h
def atPtr (ob:Nat→Option AO) (p:AV) (K:List AV→Prop):Prop :=
 match p with
 | .ptr id j=>match ob id with
  | some (.box cs)=>K (cs.drop j)
  | _=>False
 | .pea id k i j=>match ob id with
  | some (.arr k' xs)=>if k'=k then ∃ e,xs[i]?=some e∧K ((cellsA e).drop j) else False
  | some (.tre k' xs)=>if k'=k then ∃ e,xs[i]?=some e∧(match ownFree ((cellsA e).drop j) with | true=>K ((cellsA e).drop j) | false=>False) else False
  | some (.pub xs)=>∃ e,xs[i]?=some e∧(cellsA e).length=k∧K ((cellsA e).drop j)
  | _=>False
 | .pel cs=>K cs
 | _=>False
theorem atPtr_sound {ob:Nat→Option AO} {p:AV} {K:List AV→Prop} (h:atPtr ob p K) :
  ∃ cs,K cs∧∀ {N:Nat→Prop} {w:World} {V:VV} {v:Value} {A:Nat→Prop},RepT N w V p v→(∀ i u,ob i=some u→RepO N w V i u∧A i∧bdO A u)→PtrR N w V cs v∧bdL A cs:=by
 have immB:∀ {A:Nat→Prop} {N:Nat→Prop} {w:World} {x:AV} {v:Value},Rep N w x v→bd A x:=fun h=>by cases h <;> simp [bd]
 unfold atPtr at h
 split at h
 ·rename_i id j
  split at h
  ·rename_i cs hob
   refine ⟨_,h,fun {N w V v A} hr ho=>?_⟩
   obtain ⟨⟨_,b,arr,Ty,h1,h2,h3,h4⟩,h5,h6⟩:=ho id _ hob
   refine ⟨?_,bdL_sub h6 fun x hx=>List.mem_of_mem_drop hx⟩
   cases hr with
   | im h=>cases h
   | ptr _ _ b' o' h' =>
    rw [h1] at h'
    simp only [Value.pointer.injEq,Option.some.injEq,Addr.mk.injEq] at h'
    obtain ⟨rfl,rfl,_⟩:=h'
    refine ⟨b,0+j,rfl,fun j' c hc=>?_⟩
    rw [List.getElem?_drop] at hc
    obtain ⟨u,hu,hr,ho⟩:=h4 _ _ hc
    exact ⟨u,by rw [cell_of_row w b _ arr Ty (0,0) h2,Nat.zero_add];exact hu,hr,ho⟩
  ·exact h.elim
 ·rename_i id k i j
  split at h
  ·rename_i k' xs hob
   by_cases hk:k'=k
   ·rw [if_pos hk] at h
    subst hk
    obtain ⟨e,he,hK⟩:=h
    refine ⟨_,hK,fun {N w V v A} hr ho=>?_⟩
    obtain ⟨h0,h5,h6⟩:=ho id _ hob
    rcases h0.2 with ⟨a,_,rfl⟩ | ⟨b,o,cap,arr,Ty,h1,h2,h3,h4,h7,h8,h9⟩
    ·simp at he
    cases hr with
    | im h=>cases h
    | pea _ _ _ _ b' o' n c h' =>
     rw [h1] at h'
     simp only [Value.slice.injEq,Option.some.injEq,Addr.mk.injEq] at h'
     obtain ⟨⟨rfl,rfl,_⟩,_,_⟩:=h'
     refine ⟨⟨b,_,rfl,fun j' c hc=>?_⟩,bdL_iff.2 fun x hx=>?_⟩
     ·rw [List.getElem?_drop] at hc
      obtain ⟨u,hu,hr⟩:=h9 _ _ _ _ he hc
      refine ⟨u,?_,.im hr,hr.oneCell⟩
      rw [cell_of_row w b _ arr Ty (0,0) h2,Nat.add_assoc,Nat.add_assoc];exact hu
     ·obtain ⟨j',hj'⟩:=List.mem_iff_getElem?.1 (List.mem_of_mem_drop hx)
      obtain ⟨u,hu,hr⟩:=h9 _ _ _ _ he hj'
      exact immB hr
   ·rw [if_neg hk] at h;exact h.elim
  ·rename_i k' xs hob
   by_cases hk:k'=k
   ·rw [if_pos hk] at h
    subst hk
    obtain ⟨e,he,hK⟩:=h
    split at hK
    ·rename_i hfree
     refine ⟨_,hK,fun {N w V v A} hr ho=>?_⟩
     obtain ⟨h0,h5,h6⟩:=ho id _ hob
     rcases h0 with ⟨a,_,rfl,_⟩ | ⟨b,o,cap,arr,Ty,G,h1,h2,h3,h4,h7,h8,h9,_⟩
     ·simp at he
     cases hr with
     | im h=>cases h
     | pea _ _ _ _ b' o' n c h' =>
      rw [h1] at h'
      simp only [Value.slice.injEq,Option.some.injEq,Addr.mk.injEq] at h'
      obtain ⟨⟨rfl,rfl,_⟩,_,_⟩:=h'
      refine ⟨⟨b,_,rfl,fun j' c hc=>?_⟩,bdL_sub (h6 e (List.mem_of_getElem? he)) fun x hx=>List.mem_of_mem_drop hx⟩
      have hof:=ownFree_spec hfree c (List.mem_of_getElem? hc)
      rw [List.getElem?_drop] at hc
      obtain ⟨u,hu,h1c,hr⟩:=h9 _ _ _ _ he hc
      refine ⟨u,?_,(hr.plain hof).1,h1c⟩
      rw [cell_of_row w b _ arr Ty (0,0) h2,Nat.add_assoc,Nat.add_assoc];exact hu
    ·exact hK.elim
   ·rw [if_neg hk] at h;exact h.elim
  ·rename_i xs hob
   obtain ⟨e,he,hk,hK⟩:=h
   refine ⟨_,hK,fun {N w V v A} hr ho=>?_⟩
   obtain ⟨h0,h5,h6⟩:=ho id _ hob
   cases hr with
   | im h=>cases h
   | pea _ _ _ _ b' o' n c h' =>
    have h0':Rep N w (.sl xs) (V id):=h0
    rw [h'] at h0'
    generalize hv:Value.slice (some ⟨b',o',none⟩) n c=vv at h0'
    cases h0' with
    | nil a c=>simp at he
    | sl _ k' b off cap f hN hb hcap hk' hc hr =>
     simp only [Value.slice.injEq,Option.some.injEq,Addr.mk.injEq] at hv
     obtain ⟨⟨rfl,rfl,_⟩,_,_⟩:=hv
     have hkk:k'=k:=by rw [← hk' e (List.mem_of_getElem? he),hk]
     subst hkk
     refine ⟨⟨b',_,rfl,fun j' c hcc=>?_⟩,bdL_iff.2 fun x hx=>?_⟩
     ·rw [List.getElem?_drop] at hcc
      refine ⟨_,?_,.im (hr _ _ _ _ he hcc),(hr _ _ _ _ he hcc).oneCell⟩
      rw [Nat.add_assoc,Nat.add_assoc];exact hc _ _ _ _ he hcc
     ·obtain ⟨j',hj'⟩:=List.mem_iff_getElem?.1 (List.mem_of_mem_drop hx)
      exact immB (hr _ _ _ _ he hj')
  ·exact h.elim
 ·rename_i cs
  refine ⟨cs,h,fun {N w V v A} hr ho=>?_⟩
  cases hr with
  | im h=>cases h
  | pel _ b o f hN hb hc hr =>
   exact ⟨⟨b,o,rfl,fun j c hj=>⟨_,hc j c hj,.im (hr j c hj),(hr j c hj).oneCell⟩⟩,bdL_iff.2 fun x hx=>by
    obtain ⟨j',hj'⟩:=List.mem_iff_getElem?.1 hx
    exact immB (hr _ _ hj')⟩
 ·exact h.elim
def elemsA (ob:Nat→Option AO):AV→Option (List AV)
 | .sl xs=>some xs
 | .nils=>some []
 | .ref id=>match ob id with
  | some (.arr _ xs)=>some xs
  | some (.pub xs)=>some xs
  | _=>none
 | _=>none
theorem elemsA_len {ob:Nat→Option AO} {x:AV} {xs:List AV} (h:elemsA ob x=some xs) {v:Value} (hr:RepT N w V x v) (ho:∀ i u,ob i=some u→RepO N w V i u) :
  ∃ a c,v=.slice a xs.length c:=by
 unfold elemsA at h
 split at h
 ·injection h with h;subst h
  cases hr with
  | im h=>cases h with
   | nil a c=>exact ⟨a,c,rfl⟩
   | sl=>exact ⟨_,_,rfl⟩
 ·injection h with h;subst h
  cases hr with
  | im h=>cases h
  | nils a=>exact ⟨a,0,rfl⟩
 ·rename_i id
  split at h
  ·rename_i k ys hob
   injection h with h;subst h
   cases hr with
   | im h=>cases h
   | ref _ h =>
    rcases (ho id _ hob).2 with ⟨a,h1,h2⟩ | ⟨b,o,cap,arr,Ty,h1,_⟩
    ·subst h2;exact ⟨a,0,h1⟩
    ·exact ⟨_,_,h1⟩
  ·rename_i ys hob
   injection h with h;subst h
   cases hr with
   | im h=>cases h
   | ref _ h =>
    have h0:Rep N w (.sl ys) (V id):=ho id _ hob
    generalize V id=vv at h0
    cases h0 with
    | nil a c=>exact ⟨a,c,rfl⟩
    | sl=>exact ⟨_,_,rfl⟩
  ·cases h
 ·cases h
def lenA (ob:Nat→Option AO):AV→Option Nat
 | .sl xs=>some xs.length
 | .nils=>some 0
 | .ref id=>match ob id with
  | some (.arr _ xs)=>some xs.length
  | some (.tre _ xs)=>some xs.length
  | some (.pub xs)=>some xs.length
  | _=>none
 | .sub _ _ _ m=>some m
 | _=>none
theorem lenA_run {ob:Nat→Option AO} {x:AV} {n:Nat} (h:lenA ob x=some n) {v:Value} (hr:RepT N w V x v) (ho:∀ i u,ob i=some u→RepO N w V i u) :
  ∃ a c,v=.slice a n c:=by
 unfold lenA at h
 split at h
 ·injection h with h;subst h
  exact elemsA_len (ob:=ob) (x:=.sl _) rfl hr ho
 ·injection h with h;subst h
  exact elemsA_len (ob:=ob) (xs:=[]) (x:=.nils) rfl hr ho
 ·rename_i id
  split at h
  ·rename_i k ys hob
   injection h with h;subst h
   exact elemsA_len (ob:=ob) (x:=.ref id) (by simp [elemsA,hob]) hr ho
  ·rename_i k ys hob
   injection h with h;subst h
   cases hr with
   | im h=>cases h
   | ref _ h =>
    rcases ho id _ hob with ⟨a,h1,h2,_⟩ | ⟨b,o,cap,arr,Ty,G,h1,_⟩
    ·subst h2;exact ⟨a,0,h1⟩
    ·exact ⟨_,_,h1⟩
  ·rename_i ys hob
   injection h with h;subst h
   exact elemsA_len (ob:=ob) (x:=.ref id) (by simp [elemsA,hob]) hr ho
  ·cases h
 ·injection h with h;subst h
  cases hr with
  | im h=>cases h
  | sub=>exact ⟨_,_,rfl⟩
 ·cases h
def idxAddr (T:TypeId→Option TI) (ob:Nat→Option AO) (t:TypeId) (x:AV) (i:Int) (K:AV→Prop):Prop :=
 match (T t).map TI.desc with
 | some (TypeDesc.slice e)=>match T e with
  | none=>False
  | some ie=>match x with
   | .sl xs=>0≤i∧∃ y,xs[i.toNat]?=some y∧(cellsA y).length=ie.size∧K (.pel (cellsA y))
   | .ref id=>match ob id with
    | some (.arr k xs)=>if k=ie.size then 0≤i∧i.toNat < xs.length∧K (.pea id k i.toNat 0) else False
    | some (.tre k xs)=>if k=ie.size then 0≤i∧i.toNat < xs.length∧K (.pea id k i.toNat 0) else False
    | some (.pub xs)=>0≤i∧∃ y,xs[i.toNat]?=some y∧(cellsA y).length=ie.size∧K (.pel (cellsA y))
    | _=>False
   | .sub id k q m=>match ob id with
    | some (.arr k' xs)=>if k=ie.size∧k'=k then 0≤i∧(i.toNat < m∧q+i.toNat < xs.length)∧K (.pea id k (q+i.toNat) 0) else False
    | _=>False
   | _=>False
 | some (TypeDesc.array len e)=>match T e with
  | none=>False
  | some ie=>0≤i∧i < len∧match addOff x (i.toNat * ie.size) with
   | some p=>ptrL p K
   | none=>False
 | _=>False
theorem under_of (hT:TOK P T) {t:TypeId} {d:TypeDesc} (h:(T t).map TI.desc=some d):P.underlying t=some d:=by
 cases ht:T t with
 | none=>simp [ht] at h
 | some i =>
  simp [ht] at h
  obtain ⟨info,h1,h2,_⟩:=hT t i ht
  rw [h2,h]
theorem run_indexAt_slice (hT:TOK P T) {t e:TypeId} {ie:TI} (hu:P.underlying t=some (.slice e)) (he:T e=some ie) {k:IntKind} {i:Int} {b o n c:Nat} (h0:0≤i) (h1:i.toNat < n) :
  (Instr.indexAt t (.slice (some ⟨b,o,none⟩) n c) (.int k i)).run P w=.ok (.pointer (some ⟨b,o+i.toNat * ie.size,none⟩)) w:=by
 have h2:0≤i∧i < (n:Int):=⟨h0,by omega⟩
 simp only [Instr.indexAt,asIntOf,Sem.run_bind,Sem.run_pure,Result.andThen_ok,run_underlying hu,h2,and_self,if_true,run_sizeOf hT he,Addr.add_lit]
theorem idxAddr_any (hT:TOK P T) {ob:Nat→Option AO} {t:TypeId} {x:AV} {k:IntKind} {i:Int} {K:AV→Prop} (h:idxAddr T ob t x i K) :
  ∃ p,K p∧∀ {N:Nat→Prop} {w:World} {V:VV} {v:Value} {A:Nat→Prop},RepT N w V x v→bd A x→(∀ i u,ob i=some u→RepO N w V i u∧A i∧bdO A u) →
   ∃ u,(∀ w',(Instr.indexAt t v (.int k i)).run P w'=.ok u w')∧RepT N w V p u∧bd A p:=by
 unfold idxAddr at h
 have immu:∀ {e:TypeId} {ie:TI} {xs:List AV} {y:AV},P.underlying t=some (.slice e)→T e=some ie→0≤i→xs[i.toNat]?=some y→(cellsA y).length=ie.size →
   ∀ {N:Nat→Prop} {w:World} {V:VV} {v:Value} {A:Nat→Prop},Rep N w (.sl xs) v→∃ u,(∀ w',(Instr.indexAt t v (.int k i)).run P w'=.ok u w')∧RepT N w V (.pel (cellsA y)) u∧bd A (.pel (cellsA y)):=by
  intro e ie xs y hu he h0 hy hl N w V v A hr
  cases hr with
  | nil a c=>simp at hy
  | sl _ k' b off cap f hN hb hcap hk' hc hr =>
   have hlt:i.toNat < xs.length:=(List.getElem?_eq_some_iff.1 hy).1
   have hkk:k'=ie.size:=by rw [← hk' y (List.mem_of_getElem? hy),hl]
   refine ⟨_,fun w'=>run_indexAt_slice hT hu he h0 hlt,.pel _ b _ (fun j=>f i.toNat j) hN hb (fun j c hj=>?_) (fun j c hj=>hr _ _ _ _ hy hj),by simp [bd]⟩
   rw [← hkk,Nat.add_assoc];exact hc _ _ _ _ hy hj
 split at h
 ·rename_i e hd
  have hu:=under_of hT hd
  split at h
  ·exact h.elim
  ·rename_i ie he
   split at h
   ·rename_i xs
    obtain ⟨h0,y,hy,hl,hK⟩:=h
    refine ⟨_,hK,fun {N w V v A} hr _ ho=>?_⟩
    cases hr with
    | im hr=>exact immu hu he h0 hy hl hr
   ·rename_i id
    split at h
    ·rename_i k' xs hob
     by_cases hk:k'=ie.size
     ·rw [if_pos hk] at h
      obtain ⟨h0,hlt,hK⟩:=h
      refine ⟨_,hK,fun {N w V v A} hr hbd ho=>?_⟩
      cases hr with
      | im h=>cases h
      | ref _ hoc =>
       rcases (ho id _ hob).1.2 with ⟨a,_,rfl⟩ | ⟨b,o,cap,arr,Ty,h1,h2,h3,h4,h7,h8,h9⟩
       ·simp at hlt
       ·refine ⟨_,fun w'=>by rw [h1];exact run_indexAt_slice hT hu he h0 hlt,?_,by simpa [bd] using hbd⟩
        rw [← hk,show o+i.toNat * k'=o+(i.toNat * k'+0) from rfl]
        exact .pea id k' i.toNat 0 b o _ _ h1
     ·rw [if_neg hk] at h;exact h.elim
    ·rename_i k' xs hob
     by_cases hk:k'=ie.size
     ·rw [if_pos hk] at h
      obtain ⟨h0,hlt,hK⟩:=h
      refine ⟨_,hK,fun {N w V v A} hr hbd ho=>?_⟩
      cases hr with
      | im h=>cases h
      | ref _ hoc =>
       rcases (ho id _ hob).1 with ⟨a,_,rfl,_⟩ | ⟨b,o,cap,arr,Ty,G,h1,h2,h3,h4,h7,h8,h9⟩
       ·simp at hlt
       ·refine ⟨_,fun w'=>by rw [h1];exact run_indexAt_slice hT hu he h0 hlt,?_,by simpa [bd] using hbd⟩
        rw [← hk,show o+i.toNat * k'=o+(i.toNat * k'+0) from rfl]
        exact .pea id k' i.toNat 0 b o _ _ h1
     ·rw [if_neg hk] at h;exact h.elim
    ·rename_i xs hob
     obtain ⟨h0,y,hy,hl,hK⟩:=h
     refine ⟨_,hK,fun {N w V v A} hr _ ho=>?_⟩
     cases hr with
     | im h=>cases h
     | ref _ hoc=>exact immu hu he h0 hy hl (ho id _ hob).1
    ·exact h.elim
   ·rename_i id k1 q m
    split at h
    ·rename_i k' xs hob
     by_cases hk:k1=ie.size∧k'=k1
     ·rw [if_pos hk] at h
      obtain ⟨h0,⟨hlt,_⟩,hK⟩:=h
      refine ⟨_,hK,fun {N w V v A} hr hbd ho=>?_⟩
      cases hr with
      | im h=>cases h
      | sub _ _ _ _ b o n c h1 hi =>
       refine ⟨_,fun w'=>run_indexAt_slice hT hu he h0 hlt,?_,by simpa [bd] using hbd⟩
       rw [← hk.1,show o+q * k1+i.toNat * k1=o+((q+i.toNat) * k1+0) by rw [Nat.add_mul];omega]
       exact .pea id k1 (q+i.toNat) 0 b o _ _ h1
     ·rw [if_neg hk] at h;exact h.elim
    ·exact h.elim
   ·exact h.elim
 ·rename_i len e hd
  have hu:=under_of hT hd
  split at h
  ·exact h.elim
  ·rename_i ie he
   obtain ⟨h0,h1,h⟩:=h
   split at h
   ·rename_i p hp
    rw [ptrL_eq] at h
    refine ⟨p,h,fun {N w V v A} hr hbd ho=>?_⟩
    obtain ⟨b,o,rfl,h3,h4⟩:=addOff_rep hr hp
    refine ⟨_,fun w'=>?_,h3,h4 A hbd⟩
    have h2:0≤i∧i < (len:Int):=⟨h0,h1⟩
    simp only [Instr.indexAt,asIntOf,Sem.run_bind,Sem.run_pure,Result.andThen_ok,run_underlying hu,Instr.sureAddr,h2,and_self,if_true,run_sizeOf hT he,Addr.add_lit]
   ·exact h.elim
 ·exact h.elim
theorem idxAddr_sound (hT:TOK P T) {ob:Nat→Option AO} {t:TypeId} {x:AV} {k:IntKind} {i:Int} {K:AV→Prop} (h:idxAddr T ob t x i K) :
  ∃ p,K p∧∀ {N:Nat→Prop} {w:World} {V:VV} {v:Value} {A:Nat→Prop},RepT N w V x v→bd A x→(∀ i u,ob i=some u→RepO N w V i u∧A i∧bdO A u) →
   ∃ u,(Instr.indexAt t v (.int k i)).run P w=.ok u w∧RepT N w V p u∧bd A p:=by
 obtain ⟨p,h1,h2⟩:=idxAddr_any (k:=k) hT h
 refine ⟨p,h1,fun {N w V v A} q1 q2 q3=>?_⟩
 obtain ⟨u,h3,h4,h5⟩:=h2 q1 q2 q3
 exact ⟨u,h3 w,h4,h5⟩
end
end Go.Sk
namespace Go.Sk
open Go.RowKit
section
variable {N:Nat→Prop} {w:World} {V:VV} {P:Program} {T:TypeId→Option TI}
def immC (ob:Nat→Option AO):AV→Option AV
 | .v x=>if x.oneCell' then some (.v x) else none
 | .sl xs=>some (.sl xs)
 | .nils=>some (.sl [])
 | .ref id=>match ob id with
  | some (.pub xs)=>some (.sl xs)
  | _=>none
 | _=>none
def immL (ob:Nat→Option AO):List AV→Option (List AV)
 | []=>some []
 | x :: r=>match immC ob x,immL ob r with | some y,some s=>some (y :: s) | _,_=>none
def immA (ob:Nat→Option AO):AV→Option AV
 | .ag cs=>(immL ob cs).map .ag
 | x=>immC ob x
theorem immC_rep {ob:Nat→Option AO} {x y:AV} (h:immC ob x=some y) {v:Value} (hr:RepT N w V x v) (ho:∀ i u,ob i=some u→RepO N w V i u):Rep N w y v∧cellsA y=[y]:=by
 unfold immC at h
 split at h
 ·split at h
  ·injection h with h;subst h
   cases hr with
   | im h=>exact ⟨h,rfl⟩
  ·cases h
 ·injection h with h;subst h
  cases hr with
  | im h=>exact ⟨h,rfl⟩
 ·injection h with h;subst h
  cases hr with
  | im h=>cases h
  | nils a=>exact ⟨.nil a 0,rfl⟩
 ·rename_i id
  split at h
  ·rename_i xs hob
   injection h with h;subst h
   cases hr with
   | im h=>cases h
   | ref _ h=>exact ⟨ho id _ hob,rfl⟩
  ·cases h
 ·cases h
theorem immL_rep {ob:Nat→Option AO}:∀ {xs ys:List AV},immL ob xs=some ys→xs.length=ys.length∧∀ (j:Nat) (h1:j < xs.length) (h2:j < ys.length),immC ob xs[j]=some ys[j]
 | [],ys,h=>by simp [immL] at h;subst h;exact ⟨rfl,fun j h1=>by simp at h1⟩
 | x :: r,ys,h=>by
  simp only [immL] at h
  split at h
  ·rename_i y s h1 h2
   injection h with h;subst h
   obtain ⟨i1,i2⟩:=immL_rep h2
   refine ⟨by simp [i1],fun j h3 h4=>?_⟩
   cases j with
   | zero=>exact h1
   | succ j=>simpa using i2 j (by simpa using h3) (by simpa using h4)
  ·cases h
theorem immA_rep {ob:Nat→Option AO} {x y:AV} (h:immA ob x=some y) {v:Value} (hr:RepT N w V x v) (ho:∀ i u,ob i=some u→RepO N w V i u) :
  RepT N w V y v∧v.cells.size=(cellsA y).length∧(∀ (j:Nat) (c:AV),(cellsA y)[j]?=some c→∃ u,v.cells[j]?=some u∧Rep N w c u)∧∀ A,bd A y:=by
 unfold immA at h
 split at h
 ·rename_i cs
  cases hl:immL ob cs with
  | none=>simp [hl] at h
  | some ys =>
   simp [hl] at h;subst h
   obtain ⟨i1,i2⟩:=immL_rep hl
   cases hr with
   | im h=>cases h
   | ag _ vs hs hr hoc =>
    have key:∀ (j:Nat) (h1:j < ys.length) (h2:j < vs.size),Rep N w ys[j] vs[j]:=fun j h1 h2=>(immC_rep (i2 j (by omega) h1) (hr j (by omega) h2) ho).1
    refine ⟨.ag ys vs (by omega) (fun j h1 h2=>.im (key j h1 h2)) hoc,by simp [Value.cells,cellsA];omega,fun j c hc=>?_,fun A=>?_⟩
    ·obtain ⟨h1,h2⟩:=List.getElem?_eq_some_iff.1 hc
     simp only [cellsA] at h1 h2
     have h3:j < vs.size:=by omega
     exact ⟨vs[j],by simp [Value.cells,h3],h2 ▸ key j h1 h3⟩
    ·unfold bd
     refine bdL_iff.2 fun z hz=>?_
     obtain ⟨j,hj⟩:=List.mem_iff_getElem?.1 hz
     obtain ⟨h1,h2⟩:=List.getElem?_eq_some_iff.1 hj
     have:=key j h1 (by omega)
     rw [h2] at this
     generalize vs[j]=u at this
     cases this <;> simp [bd]
 ·obtain ⟨h1,h2⟩:=immC_rep h hr ho
  have hc:=cells_one h1.oneCell
  refine ⟨.im h1,by rw [hc,h2];rfl,fun j c hj=>?_,fun A=>by cases h1 <;> simp [bd]⟩
  rw [h2] at hj
  cases j with
  | zero=>simp at hj;subst hj;exact ⟨v,by rw [hc];rfl,h1⟩
  | succ j=>simp at hj
theorem heap_new (w:World) (o:Obj):(w.alloc o).heap[w.heap.size]?=some o:=heap_alloc_new w o
theorem below_alloc (w:World) (o:Obj):Blw w.heap.size w (w.alloc o):=(Blw.refl _ w).alloc (Nat.le_refl _) o
theorem below_drew_alloc (w:World) (o:Obj):Blw w.heap.size w (w.drew.alloc o):=((Blw.refl w.heap.size w).drew).alloc (Nat.le_refl _) o
def Laid (N:Nat→Prop) (w:World) (k:Nat) (xs:List AV) (o:Nat) (arr:Array Value):Prop :=
 (∀ e,e∈xs→(cellsA e).length=k) ∧
 ∀ (i:Nat) (e:AV) (j:Nat) (c:AV),xs[i]?=some e→(cellsA e)[j]?=some c→∃ u:Value,arr[o+(i * k+j)]?=some u∧Rep N w c u
theorem Laid.rep {k:Nat} {xs:List AV} {o b cap:Nat} {arr:Array Value} {Ty:TypeId} {fr:Nat × Nat} (h:Laid N w k xs o arr) (hb:w.heap[b]?=some (.cells arr Ty fr)) (hN:N b) (hcap:xs.length≤cap) :
  Rep N w (.sl xs) (.slice (some ⟨b,o,none⟩) xs.length cap):=by
 have hlt:b < w.heap.size:=(Array.getElem?_eq_some_iff.1 hb).1
 refine .sl xs k b o cap (fun i j=>(arr[o+(i * k+j)]?).getD Go.undef) hN hlt hcap h.1 (fun i e j c h1 h2=>?_) (fun i e j c h1 h2=>?_)
 ·obtain ⟨u,hu,hr⟩:=h.2 i e j c h1 h2
  rw [cell_of_row w b _ arr Ty fr hb,hu];rfl
 ·obtain ⟨u,hu,hr⟩:=h.2 i e j c h1 h2
  rw [hu];exact hr
theorem Laid.mono {N':Nat→Prop} {w':World} {k:Nat} {xs:List AV} {o:Nat} {arr:Array Value} (h:Laid N w k xs o arr) (hb:∀ b,N b→b < w.heap.size→N' b∧w'.heap[b]?=w.heap[b]?):Laid N' w' k xs o arr :=
 ⟨h.1,fun i e j c h1 h2=>let ⟨u,hu,hr⟩:=h.2 i e j c h1 h2;⟨u,hu,hr.mono hb⟩⟩
def V0:VV:=⟨fun _=>.nilFunc,fun _ _=>False⟩
def obL (os:List AO) (i:Nat):Option AO:=os[i]?
def ltA (n:Nat) (i:Nat):Prop:=i < n
def foot (V:VV) (ob:Nat→Option AO) (b:Nat):Prop:=∃ i,live ob i∧V.f i b
structure Own (N:Nat→Prop) (V:VV) (ob:Nat→Option AO) (A:Nat→Prop) (w:World):Prop where
 obs:∀ i o,ob i=some o→RepO N w V i o
 inj:∀ i j b,live ob i→live ob j→V.f i b→V.f j b→i=j
 low:∀ i b,live ob i→V.f i b→b < w.heap.size∧¬ N b
 bdo:∀ i o,ob i=some o→A i∧bdO A o
def Outc (N:Nat→Prop) (w:World) (V:VV) (os:List AO) (w':World) (x:AV) (os':List AO) (v:Value):Prop :=
 ∃ V':VV,(∀ i,i < os.length→V' i=V i) ∧
  RepT (Nf (fun b=>N b∨foot V (obL os) b) w.heap.size V' (obL os')) w' V' x v∧bd (ltA os'.length) x ∧
  (∀ i o,obL os' i=some o→RepO (Nf (fun b=>N b∨foot V (obL os) b) w.heap.size V' (obL os')) w' V' i o∧bdO (ltA os'.length) o) ∧
  (∀ i j b,live (obL os') i→live (obL os') j→V'.f i b→V'.f j b→i=j) ∧
  (∀ i b,live (obL os') i→V'.f i b→(w.heap.size≤b∨foot V (obL os) b)∧b < w'.heap.size)
def FunCall (P:Program) (f:FuncId) (os:List AO) (args:List AV) (x:AV) (os':List AO):Prop :=
 ∀ (N:Nat→Prop) (w:World) (V:VV) (vs:Array Value),vs.size=args.length→Own N V (obL os) (ltA os.length) w →
  (∀ (j:Nat) (h1:j < args.length) (h2:j < vs.size),RepT N w V args[j] vs[j])→bdL (ltA os.length) args →
  Calls P f vs w fun e w'=>∃ v,e=.returned v∧Frm w.heap.size { w:=w,f:=foot V (obL os) } w'∧Outc N w V os w' x os' v
mutual
def ren (f:Nat→Nat):AV→AV
 | .ref id=>.ref (f id)
 | .ptr id j=>.ptr (f id) j
 | .pea id k i j=>.pea (f id) k i j
 | .sub id k i m=>.sub (f id) k i m
 | .ag cs=>.ag (renL f cs)
 | .tup cs=>.tup (renL f cs)
 | .fn g fs cs=>.fn g (renL f fs) (renL f cs)
 | .v x=>.v x
 | .sl xs=>.sl xs
 | .pel cs=>.pel cs
 | .nils=>.nils
 | .skip=>.skip
 | .undef=>.undef
 | .own k xs=>.own k xs
def renL (f:Nat→Nat):List AV→List AV
 | []=>[]
 | x :: r=>ren f x :: renL f r
end
theorem renL_eq (f:Nat→Nat):∀ xs,renL f xs=xs.map (ren f)
 | []=>rfl
 | x :: r=>by simp [renL,renL_eq f r]
theorem ren_rep {f:Nat→Nat} {V':VV} {A:Nat→Prop} (hV:∀ i,A i→V' (f i)=V i) {x:AV} {v:Value} (h:RepT N w V x v) (hx:bd A x):RepT N w V' (ren f x) v:=by
 induction h with
 | im h =>
  have hx:=h
  cases h <;> exact .im hx
 | nils a=>exact .nils a
 | ref id h=>unfold ren;unfold bd at hx;rw [← hV id hx] at h ⊢;exact .ref _ h
 | ptr id j b o h=>unfold ren;unfold bd at hx;exact .ptr _ j b o (by rw [hV _ hx];exact h)
 | pea id k i j b o n c h=>unfold ren;unfold bd at hx;exact .pea _ k i j b o n c (by rw [hV _ hx];exact h)
 | sub id k i m b o n c h hi=>unfold ren;unfold bd at hx;exact .sub _ k i m b o n c (by rw [hV _ hx];exact h) hi
 | pel cs b o g hN hb hc hr=>unfold ren;exact .pel cs b o g hN hb hc hr
 | ag cs vs hs hr ho ih =>
  unfold ren;rw [renL_eq]
  have hx':∀ x,x∈cs→bd A x:=bdL_iff.1 (by simpa [bd] using hx)
  exact .ag _ vs (by simpa using hs) (fun j h1 h2=>by simpa using ih j (by simpa using h1) h2 (hx' _ (List.getElem_mem _))) ho
 | tup cs vs hs hr ih =>
  unfold ren;rw [renL_eq]
  have hx':∀ x,x∈cs→bd A x:=bdL_iff.1 (by simpa [bd] using hx)
  exact .tup _ vs (by simpa using hs) (fun j h1 h2=>by simpa using ih j (by simpa using h1) h2 (hx' _ (List.getElem_mem _)))
 | fn g fs cs us vs hs hs' hr hr' ih ih' =>
  unfold ren;rw [renL_eq,renL_eq]
  have hx':bdL A fs∧bdL A cs:=by simpa [bd] using hx
  exact .fn g _ _ us vs (by simpa using hs) (by simpa using hs') (fun j h1 h2=>by simpa using ih j (by simpa using h1) h2 (bdL_iff.1 hx'.1 _ (List.getElem_mem _)))
   (fun j h1 h2=>by simpa using ih' j (by simpa using h1) h2 (bdL_iff.1 hx'.2 _ (List.getElem_mem _)))
 | skip=>exact .skip
 | undef v=>exact .undef v
theorem Rep.imm {x:AV} {v:Value} (h:Rep N w x v):(∃ y,x=.v y)∨∃ xs,x=.sl xs:=by
 cases h with
 | v y h=>exact .inl ⟨_,rfl⟩
 | nil a c=>exact .inr ⟨_,rfl⟩
 | sl xs=>exact .inr ⟨xs,rfl⟩
theorem ren_inv {f:Nat→Nat} {V':VV} (hV:∀ i,V i=V' (f i)) {y:AV} {v:Value} (h:RepT N w V' y v):∀ {x:AV},y=ren f x→RepT N w V x v:=by
 induction h with
 | im h =>
  intro x hx
  rcases h.imm with ⟨z,rfl⟩ | ⟨zs,rfl⟩ <;> cases x <;> simp [ren] at hx <;> subst hx <;> exact .im h
 | nils a=>intro x hx;cases x <;> simp [ren] at hx;exact .nils a
 | ref id h=>intro x hx;cases x <;> simp [ren] at hx;subst hx;rw [← hV] at h ⊢;exact .ref _ h
 | ptr id j b o h=>intro x hx;cases x <;> simp [ren] at hx;obtain ⟨rfl,rfl⟩:=hx;exact .ptr _ _ b o (by rw [hV];exact h)
 | pea id k i j b o n c h=>intro x hx;cases x <;> simp [ren] at hx;obtain ⟨rfl,rfl,rfl,rfl⟩:=hx;exact .pea _ _ _ _ b o n c (by rw [hV];exact h)
 | sub id k i m b o n c h hi=>intro x hx;cases x <;> simp [ren] at hx;obtain ⟨rfl,rfl,rfl,rfl⟩:=hx;exact .sub _ _ _ _ b o n c (by rw [hV];exact h) hi
 | pel cs b o g hN hb hc hr=>intro x hx;cases x <;> simp [ren] at hx;subst hx;exact .pel cs b o g hN hb hc hr
 | ag cs vs hs hr ho ih =>
  intro x hx;cases x <;> simp [ren] at hx
  rename_i ds
  rw [renL_eq] at hx
  subst hx
  exact .ag ds vs (by simpa using hs) (fun j h1 h2=>ih j (by simpa using h1) h2 (by simp)) ho
 | tup cs vs hs hr ih =>
  intro x hx;cases x <;> simp [ren] at hx
  rename_i ds
  rw [renL_eq] at hx
  subst hx
  exact .tup ds vs (by simpa using hs) (fun j h1 h2=>ih j (by simpa using h1) h2 (by simp))
 | fn g fs cs us vs hs hs' hr hr' ih ih' =>
  intro x hx;cases x <;> simp [ren] at hx
  rename_i g' fs' cs'
  rw [renL_eq,renL_eq] at hx
  obtain ⟨rfl,rfl,rfl⟩:=hx
  exact .fn _ fs' cs' us vs (by simpa using hs) (by simpa using hs') (fun j h1 h2=>ih j (by simpa using h1) h2 (by simp)) (fun j h1 h2=>ih' j (by simpa using h1) h2 (by simp))
 | skip=>intro x hx;cases x <;> simp [ren] at hx;exact .skip
 | undef v=>intro x hx;cases x <;> simp [ren] at hx;exact .undef v
mutual
theorem ren_bd {f:Nat→Nat} {A A':Nat→Prop} (h:∀ i,A i→A' (f i)):∀ (x:AV),bd A x→bd A' (ren f x)
 | .ref id,hb=>by unfold bd at hb;unfold ren bd;exact h _ hb
 | .ptr id _,hb=>by unfold bd at hb;unfold ren bd;exact h _ hb
 | .pea id _ _ _,hb=>by unfold bd at hb;unfold ren bd;exact h _ hb
 | .sub id _ _ _,hb=>by unfold bd at hb;unfold ren bd;exact h _ hb
 | .ag cs,hb=>by unfold bd at hb;unfold ren bd;exact renL_bd h cs hb
 | .tup cs,hb=>by unfold bd at hb;unfold ren bd;exact renL_bd h cs hb
 | .fn _ fs cs,hb=>by unfold bd at hb;unfold ren bd;exact ⟨renL_bd h fs hb.1,renL_bd h cs hb.2⟩
 | .v _,_ | .sl _,_ | .pel _,_ | .nils,_ | .skip,_ | .undef,_ | .own _ _,_=>by unfold ren bd;trivial
theorem renL_bd {f:Nat→Nat} {A A':Nat→Prop} (h:∀ i,A i→A' (f i)):∀ (xs:List AV),bdL A xs→bdL A' (renL f xs)
 | [],_=>by unfold renL bdL;trivial
 | x :: r,hb=>by unfold bdL at hb;unfold renL bdL;exact ⟨ren_bd h x hb.1,renL_bd h r hb.2⟩
end
def renC (f:Nat→Nat) (e:AV):AV:=ren f e
def renO (f:Nat→Nat):AO→AO
 | .box cs=>.box (renL f cs)
 | .arr k xs=>.arr k xs
 | .tre k xs=>.tre k (renL f xs)
 | .pub xs=>.pub xs
 | .gh G=>.gh G
 | .mp d ks xs=>.mp d ks xs
 | .dead=>.dead
theorem renO_live (f:Nat→Nat) (o:AO):(renO f o).live=o.live:=by cases o <;> rfl
theorem cellsA_ren (f:Nat→Nat) (x:AV):cellsA (ren f x)=renL f (cellsA x):=by cases x <;> simp [ren,cellsA,renL]
theorem renO_bd {f:Nat→Nat} {A A':Nat→Prop} (h:∀ i,A i→A' (f i)):∀ (o:AO),bdO A o→bdO A' (renO f o)
 | .box cs,hb=>renL_bd h cs hb
 | .tre k xs,hb=>fun e he=>by
  rw [renL_eq] at he
  obtain ⟨e',he',rfl⟩:=List.mem_map.1 he
  rw [cellsA_ren];exact renL_bd h _ (hb e' he')
 | .arr _ _,_ | .pub _,_ | .dead,_ | .gh _,_ | .mp _ _ _,_=>trivial
theorem renW {f:Nat→Nat} {V':VV} {A:Nat→Prop} (hV:∀ i,A i→V' (f i)=V i) {g:Nat→Prop} {x:AV} {v:Value} (h:RepW N w V g x v) (hx:bd A x):RepW N w V' g (ren f x) v:=by
 cases x with
 | own k ys=>unfold ren;exact h
 | _=>exact ⟨ren_rep hV h.1 hx,h.2⟩
theorem renW_inv {f:Nat→Nat} {V':VV} (hV:∀ i,V i=V' (f i)) {g:Nat→Prop} {x:AV} {v:Value} (h:RepW N w V' g (ren f x) v):RepW N w V g x v:=by
 cases x with
 | own k ys=>unfold ren at h;exact h
 | _=>exact ⟨ren_inv hV h.1 rfl,h.2⟩
theorem renO_rep {f:Nat→Nat} {V':VV} {A:Nat→Prop} (hV:∀ i,A i→V' (f i)=V i) {i:Nat} (hi:A i) (hF:∀ b,V'.f (f i) b↔V.f i b) {o:AO} (h:RepO N w V i o) (hx:bdO A o):RepO N w V' (f i) (renO f o):=by
 cases o with
 | box cs =>
  obtain ⟨h0,b,arr,T,h1,h2,h3,h4⟩:=h
  refine ⟨fun b=>by rw [hF,hV i hi];exact h0 b,b,arr,T,by rw [hV i hi];exact h1,h2,by rw [renL_eq];simpa using h3,fun j c hc=>?_⟩
  rw [renL_eq,List.getElem?_map] at hc
  cases hcs:cs[j]? with
  | none=>simp [hcs] at hc
  | some c' =>
   simp [hcs] at hc;subst hc
   obtain ⟨u,hu,hr,ho⟩:=h4 j c' hcs
   exact ⟨u,hu,ren_rep hV hr (bdL_iff.1 hx _ (List.mem_of_getElem? hcs)),ho⟩
 | arr k xs=>exact ⟨fun b=>by rw [hF,hV i hi];exact h.1 b,by rw [hV i hi];exact h.2⟩
 | tre k xs =>
  rcases h with ⟨a,h1,h2,h3⟩ | ⟨b,o,cap,arr,T,G,h1,h2,h3,h4,h5,h6,h7,h8,h9,h10⟩
  ·exact .inl ⟨a,by rw [hV i hi];exact h1,by rw [renL_eq];simp [h2],fun b=>by rw [hF];exact h3 b⟩
  ·refine .inr ⟨b,o,cap,arr,T,G,by rw [hV i hi,renL_eq];simpa using h1,h2,h3,by rw [renL_eq];simpa using h4,h5,fun e he=>?_,fun i' e j c q1 q2=>?_,h8,h9,fun b'=>by rw [hF,renL_eq];simpa using h10 b'⟩
   ·rw [renL_eq] at he
    obtain ⟨e',he',rfl⟩:=List.mem_map.1 he
    rw [cellsA_ren,renL_eq,List.length_map];exact h6 e' he'
   ·rw [renL_eq,List.getElem?_map] at q1
    cases hxs:xs[i']? with
    | none=>simp [hxs] at q1
    | some e' =>
     simp [hxs] at q1;subst q1
     rw [cellsA_ren,renL_eq,List.getElem?_map] at q2
     cases hcs:(cellsA e')[j]? with
     | none=>simp [hcs] at q2
     | some c' =>
      simp [hcs] at q2;subst q2
      obtain ⟨u,hu,ho,hr⟩:=h7 i' e' j c' hxs hcs
      exact ⟨u,hu,ho,renW hV hr (bdL_iff.1 (hx e' (List.mem_of_getElem? hxs)) _ (List.mem_of_getElem? hcs))⟩
 | pub xs =>
  show Rep N w (.sl xs) (V' (f i))
  rw [hV i hi];exact h
 | mp d ks xs =>
  obtain ⟨b,es,clock,G,h1,h2,h3,h3k,h4,h5,h6,h7,h8,h9⟩:=h
  exact ⟨b,es,clock,G,by rw [hV i hi];exact h1,h2,h3,h3k,h4,h5,h6,h7,h8,fun b'=>by rw [hF];exact h9 b'⟩
 | dead=>trivial
 | gh G =>
  have hf:V'.f (f i)=V.f i:=funext fun b=>propext (hF b)
  show G.R N w (V'.f (f i))
  rw [hf];exact h
theorem renO_inv {f:Nat→Nat} {V':VV} (hV:∀ i,V i=V' (f i)) {i:Nat} (hF:∀ b,V'.f (f i) b↔V.f i b) {o:AO} (h:RepO N w V' (f i) (renO f o)):RepO N w V i o:=by
 cases o with
 | box cs =>
  obtain ⟨h0,b,arr,T,h1,h2,h3,h4⟩:=h
  refine ⟨fun b=>by rw [← hF,hV i];exact h0 b,b,arr,T,by rw [hV i];exact h1,h2,by rw [renL_eq] at h3;simpa using h3,fun j c hc=>?_⟩
  obtain ⟨u,hu,hr,ho⟩:=h4 j (ren f c) (by rw [renL_eq,List.getElem?_map,hc];rfl)
  exact ⟨u,hu,ren_inv hV hr rfl,ho⟩
 | arr k xs=>exact ⟨fun b=>by rw [← hF,hV i];exact h.1 b,by rw [hV i];exact h.2⟩
 | tre k xs =>
  rcases h with ⟨a,h1,h2,h3⟩ | ⟨b,o,cap,arr,T,G,h1,h2,h3,h4,h5,h6,h7,h8,h9,h10⟩
  ·rw [renL_eq] at h2
   exact .inl ⟨a,by rw [hV i];exact h1,by simpa using h2,fun b=>by rw [← hF];exact h3 b⟩
  ·rw [renL_eq] at h1 h4 h6 h7 h10
   refine .inr ⟨b,o,cap,arr,T,G,by rw [hV i];simpa using h1,h2,h3,by simpa using h4,h5,fun e he=>?_,fun i' e j c q1 q2=>?_,h8,h9,fun b'=>by rw [← hF];simpa using h10 b'⟩
   ·have:=h6 (ren f e) (List.mem_map_of_mem he)
    rwa [cellsA_ren,renL_eq,List.length_map] at this
   ·obtain ⟨u,hu,ho,hr⟩:=h7 i' (ren f e) j (ren f c) (by rw [List.getElem?_map,q1];rfl) (by rw [cellsA_ren,renL_eq,List.getElem?_map,q2];rfl)
    exact ⟨u,hu,ho,renW_inv hV hr⟩
 | pub xs =>
  show Rep N w (.sl xs) (V i)
  rw [hV i];exact h
 | mp d ks xs =>
  obtain ⟨b,es,clock,G,h1,h2,h3,h3k,h4,h5,h6,h7,h8,h9⟩:=h
  exact ⟨b,es,clock,G,by rw [hV i];exact h1,h2,h3,h3k,h4,h5,h6,h7,h8,fun b'=>by rw [← hF];exact h9 b'⟩
 | dead=>trivial
 | gh G =>
  have hf:V'.f (f i)=V.f i:=funext fun b=>propext (hF b)
  show G.R N w (V.f i)
  rw [← hf];exact h
def snapC (ob:Nat→Option AO):AV→Option AV
 | .v x=>if x.oneCell' then some (.v x) else none
 | .sl xs=>some (.sl xs)
 | .nils=>some (.sl [])
 | .ref id=>match ob id with
  | some (.pub xs)=>some (.sl xs)
  | some (.arr _ xs)=>some (.sl xs)
  | _=>none
 | _=>none
def snapL (ob:Nat→Option AO):List AV→Option (List AV)
 | []=>some []
 | x :: r=>match snapC ob x,snapL ob r with | some y,some s=>some (y :: s) | _,_=>none
def snap (ob:Nat→Option AO):AV→Option AV
 | .ag cs=>(snapL ob cs).map .ag
 | .pel cs=>some (.pel cs)
 | x=>snapC ob x
def noLive (ob:Nat→Option AO):AV→Bool
 | .ref id=>match ob id with
  | some (.arr _ _)=>false
  | some (.tre _ _)=>false
  | _=>true
 | _=>true
def noLives (ob:Nat→Option AO):AV→Bool
 | .ag cs=>cs.all (noLive ob)
 | x=>noLive ob x
def scal:AV→Bool
 | .v _=>true
 | _=>false
def scalA:AV→Bool
 | .tup cs=>cs.all scal
 | .ag cs=>cs.all scal
 | x=>scal x
def NT:Nat→Prop:=fun _=>True
theorem snapC_repT {ob:Nat→Option AO} {x y:AV} (h:snapC ob x=some y) {v:Value} (hr:RepT N w V x v) (ho:∀ i u,ob i=some u→RepO N w V i u):Rep NT w y v:=by
 have up:∀ {y v},Rep N w y v→Rep NT w y v:=fun h=>h.mono fun b _ _=>⟨trivial,rfl⟩
 unfold snapC at h
 split at h
 ·split at h
  ·injection h with h;subst h
   cases hr with
   | im h=>exact up h
  ·cases h
 ·injection h with h;subst h
  cases hr with
  | im h=>exact up h
 ·injection h with h;subst h
  cases hr with
  | im h=>cases h
  | nils a=>exact .nil a 0
 ·rename_i id
  split at h
  ·rename_i xs hob
   injection h with h;subst h
   cases hr with
   | im h=>cases h
   | ref _ h=>exact up (ho id _ hob)
  ·rename_i k xs hob
   injection h with h;subst h
   cases hr with
   | im h=>cases h
   | ref _ h =>
    rcases (ho id _ hob).2 with ⟨a,h1,rfl⟩ | ⟨b,o,cap,arr,Ty,h1,h2,h3,h4,h5,h6,h7⟩
    ·rw [h1];exact .nil a 0
    ·rw [h1]
     exact Laid.rep (k:=k) (arr:=arr) ⟨h6,fun i e j c h8 h9=>let ⟨u,hu,hr⟩:=h7 i e j c h8 h9;⟨u,hu,up hr⟩⟩ h2 trivial h4
  ·cases h
 ·cases h
theorem snapC_rep {ob:Nat→Option AO} {x y:AV} (h:snapC ob x=some y) (hl:noLive ob x=true) {v:Value} (hr:RepT N w V x v) (ho:∀ i u,ob i=some u→RepO N w V i u):Rep N w y v:=by
 refine (immC_rep (ob:=ob) (x:=x) ?_ hr ho).1
 unfold snapC at h
 unfold immC
 cases x <;> simp only at h ⊢ <;> try exact h
 rename_i id
 simp only [noLive] at hl
 split at h <;> simp_all
theorem snapL_get {ob:Nat→Option AO}:∀ {xs ys:List AV},snapL ob xs=some ys→xs.length=ys.length∧∀ (j:Nat) (h1:j < xs.length) (h2:j < ys.length),snapC ob xs[j]=some ys[j]
 | [],ys,h=>by simp [snapL] at h;subst h;exact ⟨rfl,fun j h1=>by simp at h1⟩
 | x :: r,ys,h=>by
  simp only [snapL] at h
  split at h
  ·rename_i y s h1 h2
   injection h with h;subst h
   obtain ⟨i1,i2⟩:=snapL_get h2
   refine ⟨by simp [i1],fun j h3 h4=>?_⟩
   cases j with
   | zero=>exact h1
   | succ j=>simpa using i2 j (by simpa using h3) (by simpa using h4)
  ·cases h
theorem snap_repT {V1:VV} {ob:Nat→Option AO} {x y:AV} (h:snap ob x=some y) {v:Value} (hr:RepT N w V x v) (ho:∀ i u,ob i=some u→RepO N w V i u):RepT NT w V1 y v:=by
 unfold snap at h
 split at h
 ·rename_i cs
  cases hl:snapL ob cs with
  | none=>simp [hl] at h
  | some ys =>
   simp [hl] at h;subst h
   obtain ⟨i1,i2⟩:=snapL_get hl
   cases hr with
   | im h=>cases h
   | ag _ vs hs hr hoc=>exact .ag ys vs (by omega) (fun j h1 h2=>.im (snapC_repT (i2 j (by omega) h1) (hr j (by omega) h2) ho)) hoc
 ·injection h with h;subst h
  cases hr with
  | im h=>cases h
  | pel _ b o f hN hb hc hr=>exact .pel _ b o f trivial hb hc fun j c hj=>(hr j c hj).mono fun b _ _=>⟨trivial,rfl⟩
 ·exact .im (snapC_repT h hr ho)
theorem snap_rep {V1:VV} {ob:Nat→Option AO} {x y:AV} (h:snap ob x=some y) (hl:noLives ob x=true) {v:Value} (hr:RepT N w V x v) (ho:∀ i u,ob i=some u→RepO N w V i u):RepT N w V1 y v:=by
 unfold snap at h
 split at h
 ·rename_i cs
  cases hl':snapL ob cs with
  | none=>simp [hl'] at h
  | some ys =>
   simp [hl'] at h;subst h
   obtain ⟨i1,i2⟩:=snapL_get hl'
   simp only [noLives,List.all_eq_true] at hl
   cases hr with
   | im h=>cases h
   | ag _ vs hs hr hoc=>exact .ag ys vs (by omega) (fun j h1 h2=>.im (snapC_rep (i2 j (by omega) h1) (hl _ (List.getElem_mem _)) (hr j (by omega) h2) ho)) hoc
 ·injection h with h;subst h
  cases hr with
  | im h=>cases h
  | pel _ b o f hN hb hc hr=>exact .pel _ b o f hN hb hc hr
 ·rename_i hne _
  refine .im (snapC_rep h ?_ hr ho)
  have he:noLives ob x=noLive ob x:=by
   cases x <;> first | rfl | exact absurd rfl (hne _)
  rwa [he] at hl
end
end Go.Sk
namespace Go.Sk
open Go.RowKit
def rn (is:List Nat) (n:Nat) (j:Nat):Nat:=match is[j]? with | some i=>i | none=>n+(j - is.length)
def prs (f:Nat→Nat):Nat→List AO→List (Nat × AO)
 | _,[]=>[]
 | j,o :: r=>(f j,renO f o) :: prs f (j+1) r
theorem prs_some {f:Nat→Nat}:∀ {os:List AO} {j c:Nat} {o:AO},look (prs f j os) c=some o→∃ q o',os[q]?=some o'∧f (j+q)=c∧o=renO f o'
 | [],j,c,o,h=>by simp [prs,look] at h
 | x :: r,j,c,o,h=>by
  unfold prs look at h
  split at h
  ·rename_i e
   injection h with h
   exact ⟨0,x,rfl,e,h.symm⟩
  ·obtain ⟨q,o',h1,h2,h3⟩:=prs_some h
   exact ⟨q+1,o',h1,by rw [← h2];congr 1;omega,h3⟩
theorem prs_none {f:Nat→Nat}:∀ {os:List AO} {j c:Nat},look (prs f j os) c=none→∀ q,q < os.length→f (j+q)≠c
 | [],j,c,h,q,hq=>by simp at hq
 | x :: r,j,c,h,q,hq=>by
  unfold prs look at h
  split at h
  ·cases h
  ·rename_i hne
   cases q with
   | zero=>exact hne
   | succ q=>have:=prs_none h q (by simpa using hq);rw [show j+(q+1)=j+1+q by omega];exact this
def addL (ob:Nat→Option AO) (ps:List (Nat × AO)) (c:Nat):Option AO:=match look ps c with | some o=>some o | none=>ob c
def addM (A:Nat→Prop) (n k:Nat) (i:Nat):Prop:=A i∨(n≤i∧i < n+k)
open Classical in
noncomputable def mixV (V V':VV) (f:Nat→Nat) (m:Nat):VV :=
 ⟨fun c=>if h:∃ j,j < m∧f j=c then V' (Classical.choose h) else V c,fun c=>if h:∃ j,j < m∧f j=c then V'.f (Classical.choose h) else V.f c⟩
theorem mixV_in {V V':VV} {f:Nat→Nat} {m:Nat} (hf:∀ a b,a < m→b < m→f a=f b→a=b) {j:Nat} (hj:j < m):mixV V V' f m (f j)=V' j∧(mixV V V' f m).f (f j)=V'.f j:=by
 have h:∃ q,q < m∧f q=f j:=⟨j,hj,rfl⟩
 have hc:=Classical.choose_spec h
 have he:Classical.choose h=j:=hf _ _ hc.1 hj hc.2
 unfold mixV
 simp only
 rw [dif_pos h,dif_pos h,he]
 exact ⟨rfl,rfl⟩
theorem mixV_out {V V':VV} {f:Nat→Nat} {m:Nat} {c:Nat} (h:¬ ∃ j,j < m∧f j=c):mixV V V' f m c=V c∧(mixV V V' f m).f c=V.f c:=by
 unfold mixV
 simp only
 rw [dif_neg h,dif_neg h]
 exact ⟨rfl,rfl⟩
variable {N0:Nat→Prop} {base:Nat} {w0:W0} {m:Nat} {V:VV} {g:Nat→Option AV} {ob:Nat→Option AO} {A:Nat→Prop} {a:Act} {w:World}
def VV.at (V:VV) (f:Nat→Nat):VV:=⟨fun i=>V (f i),fun i=>V.f (f i)⟩
theorem Rel.give (h:Rel N0 base w0 m V g ob A a w) {f:Nat→Nat} {os:List AO} (hf:∀ a b,a < os.length→b < os.length→f a=f b→a=b)
  (hos:∀ (j:Nat) (o:AO),os[j]?=some o→ob (f j)=some (renO f o)) (hbd:∀ (j:Nat) (o:AO),os[j]?=some o→bdO (ltA os.length) o):Own (Nf N0 base V ob) (V.at f) (obL os) (ltA os.length) w:=by
 have hlive:∀ i,live (obL os) i→i < os.length∧live ob (f i):=fun i ⟨o,ho,hl⟩=>⟨(List.getElem?_eq_some_iff.1 ho).1,_,hos i o ho,by rw [renO_live];exact hl⟩
 refine ⟨fun i o ho=>?_,fun i j b hi hj hbi hbj=>?_,fun i b hi hb=>?_,fun i o ho=>⟨(List.getElem?_eq_some_iff.1 ho).1,hbd i o ho⟩⟩
 ·exact renO_inv (V':=V) (f:=f) (fun _=>rfl) (fun _=>Iff.rfl) (h.obs _ _ (hos i o ho))
 ·exact hf i j (hlive i hi).1 (hlive j hj).1 (h.inj _ _ b (hlive i hi).2 (hlive j hj).2 hbi hbj)
 ·exact ⟨(h.low _ b (hlive i hi).2 hb).2,fun hN=>hN.2 _ (hlive i hi).2 hb⟩
theorem Rel.called (h:Rel N0 base w0 m V g ob A a w) {f:Nat→Nat} {os os':List AO} {w':World} {x:AV} {v:Value} {dst:Option Nat} (hd:∀ d,dst=some d→d < m)
  {A2:Nat→Prop} (hA2:∀ i,A i→A2 i) (hle:os.length≤os'.length) (hf:∀ a b,a < os'.length→b < os'.length→f a=f b→a=b)
  (hos:∀ (j:Nat) (o:AO),os[j]?=some o→ob (f j)=some (renO f o)) (hnew:∀ j,os.length≤j→j < os'.length→A2 (f j)∧¬ A (f j))
  (hfr:Frm w.heap.size { w:=w,f:=foot (V.at f) (obL os) } w') (hx:Outc (Nf N0 base V ob) w (V.at f) os w' x os' v) :
  ∃ V',Rel N0 base w0 m V' (upd g dst (ren f x)) (addL ob (prs f 0 os')) A2 (a.put dst v) w':=by
 obtain ⟨Vc,h1,h2,h3,h4,h5,h6⟩:=hx
 have hlive:∀ i,live (obL os) i→i < os.length∧live ob (f i):=fun i ⟨o,ho,hl⟩=>⟨(List.getElem?_eq_some_iff.1 ho).1,_,hos i o ho,by rw [renO_live];exact hl⟩
 have hfoot:∀ b,foot (V.at f) (obL os) b→∃ j,j < os.length∧live ob (f j)∧V.f (f j) b:=fun b ⟨i,hi,hb⟩=>⟨i,(hlive i hi).1,(hlive i hi).2,hb⟩
 have hfA:∀ j,j < os.length→A (f j):=fun j hj=>(h.bdo _ _ (hos j _ (List.getElem?_eq_getElem hj))).1
 have hcase:∀ c o,addL ob (prs f 0 os') c=some o→(∃ j o',os'[j]?=some o'∧f j=c∧o=renO f o')∨((¬ ∃ j,j < os'.length∧f j=c)∧ob c=some o):=fun c o ho=>by
  unfold addL at ho
  split at ho
  ·rename_i o1 hl
   injection ho with ho;subst ho
   obtain ⟨q,o',q1,q2,q3⟩:=prs_some hl
   exact .inl ⟨q,o',q1,by simpa using q2,q3⟩
  ·rename_i hl
   exact .inr ⟨fun ⟨j,hj,e⟩=>prs_none hl j hj (by simpa using e),ho⟩
 have hlive2:∀ c,live (addL ob (prs f 0 os')) c→(∃ j,j < os'.length∧f j=c∧live (obL os') j)∨((¬ ∃ j,j < os'.length∧f j=c)∧live ob c):=fun c ⟨o,ho,hl⟩=>by
  rcases hcase c o ho with ⟨j,o',q1,q2,q3⟩ | ⟨q1,q2⟩
  ·exact .inl ⟨j,(List.getElem?_eq_some_iff.1 q1).1,q2,o',q1,by rw [q3,renO_live] at hl;exact hl⟩
  ·exact .inr ⟨q1,o,q2,hl⟩
 have hin:∀ j,j < os'.length→mixV V Vc f os'.length (f j)=Vc j∧(mixV V Vc f os'.length).f (f j)=Vc.f j:=fun j hj=>mixV_in hf hj
 have hout:∀ c,(¬ ∃ j,j < os'.length∧f j=c)→mixV V Vc f os'.length c=V c∧(mixV V Vc f os'.length).f c=V.f c:=fun c hc=>mixV_out hc
 have hVA:∀ c,A c→mixV V Vc f os'.length c=V c:=fun c hc=>by
  by_cases hex:∃ j,j < os'.length∧f j=c
  ·obtain ⟨j,hj,rfl⟩:=hex
   rw [(hin j hj).1]
   by_cases hjo:j < os.length
   ·exact h1 j hjo
   ·exact absurd hc (hnew j (by omega) hj).2
  ·exact (hout c hex).1
 have hNf:∀ b,Nf N0 base V ob b→b < w.heap.size→Nf N0 base (mixV V Vc f os'.length) (addL ob (prs f 0 os')) b∧w'.heap[b]?=w.heap[b]?:=fun b hN hlt=>by
  have hnf:¬ foot (V.at f) (obL os) b:=fun hc=>by
   obtain ⟨j,_,q1,q2⟩:=hfoot b hc
   exact hN.2 _ q1 q2
  refine ⟨⟨hN.1,fun c hl hb=>?_⟩,hfr.block b hlt hnf⟩
  rcases hlive2 c hl with ⟨j,hj,rfl,hlj⟩ | ⟨hno,hl⟩
  ·rw [(hin j hj).2] at hb
   rcases (h6 j b hlj hb).1 with q | q
   ·omega
   ·exact hnf q
  ·rw [(hout c hno).2] at hb
   exact hN.2 c hl hb
 have hNc:∀ b,Nf (fun b=>Nf N0 base V ob b∨foot (V.at f) (obL os) b) w.heap.size Vc (obL os') b→Nf N0 base (mixV V Vc f os'.length) (addL ob (prs f 0 os')) b:=fun b hN=>by
  refine ⟨fun hb=>?_,fun c hl hb=>?_⟩
  ·rcases hN.1 (Nat.lt_of_lt_of_le hb h.bas) with q | q
   ·exact q.1 hb
   ·obtain ⟨j,_,q1,q2⟩:=hfoot b q
    rcases (h.low _ b q1 q2).1 with q3 | ⟨_,q3⟩
    ·omega
    ·exact q3
  ·rcases hlive2 c hl with ⟨j,hj,rfl,hlj⟩ | ⟨hno,hl⟩
   ·rw [(hin j hj).2] at hb
    exact hN.2 j hlj hb
   ·rw [(hout c hno).2] at hb
    rcases hN.1 (h.low c b hl hb).2 with q | q
    ·exact q.2 c hl hb
    ·obtain ⟨j,hj,q1,q2⟩:=hfoot b q
     exact hno ⟨j,by omega,h.inj _ _ b q1 hl q2 hb⟩
 have hinj2:∀ {j c b:Nat},j < os'.length→live (obL os') j→Vc.f j b→(¬ ∃ j,j < os'.length∧f j=c)→live ob c→V.f c b→False:=fun {j c b} hj hlj hb hno hl hb'=>by
  have hlt:=(h.low c b hl hb').2
  rcases (h6 j b hlj hb).1 with q | q
  ·omega
  ·obtain ⟨j',hj',q1,q2⟩:=hfoot b q
   exact hno ⟨j',by omega,h.inj _ _ b q1 hl q2 hb'⟩
 have hsz:w.heap.size≤w'.heap.size:=hfr.size
 have hlt2:∀ j,ltA os'.length j→A2 (f j):=fun j hj=>by
  by_cases hjo:j < os.length
  ·exact hA2 _ (hfA j hjo)
  ·exact (hnew j (by omega) hj).1
 refine ⟨mixV V Vc f os'.length,Rel.put (m:=m) ⟨fun t y hy=>?_,fun c o ho=>?_,fun i j b hi hj hbi hbj=>?_,fun c b hl hb=>?_,fun t y hy=>bd_mono hA2 y (h.bdt t y hy),fun c o ho=>?_,?_,Nat.le_trans h.bas hsz,h.dfr,h.siz,fun i hi=>⟨hA2 _ (h.par i hi).1,(hVA i (h.par i hi).1).trans (h.par i hi).2⟩⟩ hd ?_ ?_⟩
 ·exact RepT.mono (V:=V) hNf hVA (h.tm t y hy) (h.bdt t y hy)
 ·rcases hcase c o ho with ⟨j,o',q1,rfl,rfl⟩ | ⟨hno,q2⟩
  ·have hj:=(List.getElem?_eq_some_iff.1 q1).1
   obtain ⟨r1,r2⟩:=h4 j o' q1
   have r3:RepO (Nf N0 base (mixV V Vc f os'.length) (addL ob (prs f 0 os'))) w' Vc j o':=r1.mono (A:=ltA os'.length) (fun b hN _=>⟨hNc b hN,rfl⟩) (Nat.le_refl _) (fun _ _=>rfl) (fun _=>Iff.rfl) hj (fun _ _ _=>rfl) r2
   exact renO_rep (A:=ltA os'.length) (fun i hi=>(hin i hi).1) hj (fun b=>by rw [(hin j hj).2]) r3 r2
  ·refine RepO.mono (V:=V) hNf hsz hVA (fun b=>by rw [(hout c hno).2]) (h.bdo c o q2).1 (fun hl b hb'=>hfr.block b (h.low c b ⟨o,q2,hl⟩ hb').2 fun hc=>?_) (h.obs c o q2) (h.bdo c o q2).2
   obtain ⟨j',hj',q3,q4⟩:=hfoot b hc
   exact hno ⟨j',by omega,h.inj _ _ b q3 ⟨o,q2,hl⟩ q4 hb'⟩
 ·rcases hlive2 i hi with ⟨p,hp,rfl,hlp⟩ | ⟨hno,hl⟩ <;> rcases hlive2 j hj with ⟨q,hq,rfl,hlq⟩ | ⟨hno',hl'⟩
  ·rw [(hin p hp).2] at hbi;rw [(hin q hq).2] at hbj
   rw [h5 p q b hlp hlq hbi hbj]
  ·rw [(hin p hp).2] at hbi;rw [(hout j hno').2] at hbj
   exact (hinj2 hp hlp hbi hno' hl' hbj).elim
  ·rw [(hin q hq).2] at hbj;rw [(hout i hno).2] at hbi
   exact (hinj2 hq hlq hbj hno hl hbi).elim
  ·rw [(hout i hno).2] at hbi;rw [(hout j hno').2] at hbj
   exact h.inj i j b hl hl' hbi hbj
 ·rcases hlive2 c hl with ⟨p,hp,rfl,hlp⟩ | ⟨hno,hl⟩
  ·rw [(hin p hp).2] at hb
   obtain ⟨q1,q2⟩:=h6 p b hlp hb
   refine ⟨?_,q2⟩
   rcases q1 with q1 | q1
   ·exact .inl (Nat.le_trans h.bas q1)
   ·obtain ⟨j',_,q3,q4⟩:=hfoot b q1
    exact (h.low _ b q3 q4).1
  ·rw [(hout c hno).2] at hb
   exact ⟨(h.low c b hl hb).1,Nat.lt_of_lt_of_le (h.low c b hl hb).2 hsz⟩
 ·rcases hcase c o ho with ⟨j,o',q1,rfl,rfl⟩ | ⟨hno,q2⟩
  ·have hj:=(List.getElem?_eq_some_iff.1 q1).1
   exact ⟨hlt2 j hj,renO_bd hlt2 o' (h4 j o' q1).2⟩
  ·exact ⟨hA2 _ (h.bdo c o q2).1,bdO_mono hA2 o (h.bdo c o q2).2⟩
 ·refine h.bel.turn hfr.os hfr.tape hfr.output hsz fun k hk hf'=>hfr.block k (Nat.lt_of_lt_of_le hk h.bas) fun hc=>?_
  obtain ⟨j',_,q3,q4⟩:=hfoot k hc
  rcases (h.low _ k q3 q4).1 with q | ⟨q,_⟩
  ·omega
  ·exact hf' q
 ·have r1:RepT (Nf N0 base (mixV V Vc f os'.length) (addL ob (prs f 0 os'))) w' Vc x v:=h2.mono (A:=ltA os'.length) (fun b hN _=>⟨hNc b hN,rfl⟩) (fun _ _=>rfl) h3
  exact ren_rep (A:=ltA os'.length) (fun i hi=>(hin i hi).1) r1 h3
 ·exact ren_bd hlt2 x h3
end Go.Sk
