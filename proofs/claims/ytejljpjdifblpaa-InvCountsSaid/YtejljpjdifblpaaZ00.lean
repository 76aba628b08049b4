/- Contracts of functions of the program, proved by the checker; and plain laws. -/
import Derived.Test.YtejljpjdifblpaaTab
set_option linter.unusedVariables false
set_option linter.unusedSimpArgs false
namespace Go.Proofs.Ytejljpjdifblpaa
open Go Go.Sk
def D:Draw:=vcDrawF Try.prog tab
theorem D_ok:DOK Try.prog D:=vcDrawF_ok tok (by kernel_rfl)
def I (n:Int):AV:=.v (.int .i64 n)
def Bo (b:Bool):AV:=.v (.bool b)
def Is (l:List Int):AV:=.sl (l.map I)
def Iss (l:List (List Int)):AV:=.sl (l.map Is)
theorem nth_mem {α:Type} [Inhabited α] {l:List α} {i:Int} (h0:0≤i) (h:i < l.length):nth l i∈l:=List.mem_of_getElem? (nth_some h0 h)
theorem take_snoc {α:Type} [Inhabited α] {l:List α} {i:Int} (h0:0≤i) (h:i < l.length):l.take (i+1).toNat=l.take i.toNat++[nth l i]:=by
 rw [show (i+1).toNat=i.toNat+1 by omega,List.take_succ_eq_append_getElem (by omega)]
 unfold nth;rw [List.getD_eq_getElem?_getD,List.getElem?_eq_getElem (by omega)];rfl
theorem take_all {α:Type} {l:List α} {i:Int} (h:l.length≤i):l.take i.toNat=l:=List.take_of_length_le (by omega)
theorem mem_nth {α:Type} [Inhabited α] {l:List α} {x:α} (h:x∈l):∃ i:Int,0≤i∧i < l.length∧nth l i=x:=by
 obtain ⟨i,h1,h2⟩:=List.mem_iff_getElem.1 h
 refine ⟨i,by omega,by omega,?_⟩
 have:=nth_some (l:=l) (i:=(i:Int)) (by omega) (by omega)
 rw [show ((i:Int)).toNat=i by omega,List.getElem?_eq_getElem h1] at this
 injection this with this
 rw [← this,h2]
theorem nth_map {α β:Type} [Inhabited α] [Inhabited β] {l:List α} {f:α→β} {i:Int} (h0:0≤i) (h:i < l.length):nth (l.map f) i=f (nth l i):=by
 have h1:=nth_some (l:=l.map f) (i:=i) h0 (by rw [List.length_map];exact h)
 rw [List.getElem?_map,nth_some h0 h] at h1
 injection h1 with h1
 exact h1.symm
theorem ext_nth {α:Type} [Inhabited α] {l r:List α} (hl:l.length=r.length) (h:∀ i:Int,0≤i→i < l.length→nth l i=nth r i):l=r:=by
 refine List.ext_getElem? fun k=>?_
 rcases Nat.lt_or_ge k l.length with hk | hk
 ·have h1:=nth_some (l:=l) (i:=(k:Int)) (by omega) (by omega)
  have h2:=nth_some (l:=r) (i:=(k:Int)) (by omega) (by omega)
  rw [show ((k:Int)).toNat=k by omega] at h1 h2
  rw [h1,h2,h k (by omega) (by omega)]
 ·rw [List.getElem?_eq_none hk,List.getElem?_eq_none (by omega)]
theorem nth_set_eq {α:Type} [Inhabited α] {l:List α} {x:α} {i:Int} (h0:0≤i) (h:i < l.length):nth (l.set i.toNat x) i=x:=by
 unfold nth;rw [List.getD_eq_getElem?_getD,List.getElem?_set_self (by omega)];rfl
theorem nth_set_ne {α:Type} [Inhabited α] {l:List α} {x:α} {i j:Int} (h0:0≤i) (h1:0≤j) (h:i≠j):nth (l.set i.toNat x) j=nth l j:=by
 unfold nth;rw [List.getD_eq_getElem?_getD,List.getD_eq_getElem?_getD,List.getElem?_set_ne (by omega)]
structure Bd where
 cells:Int
 next:List (List Int)
 turn:List Int
def Bd.av (b:Bd):AV:=.ag [I b.cells,Iss b.next,Is b.turn]
instance:Inhabited Bd:=⟨⟨0,[],[]⟩⟩
def Bd.nx (b:Bd) (d c:Int):Int:=nth (nth b.next d) c
def Bd.tn (b:Bd) (d:Int):Int:=nth b.turn d
structure Bd.ok (b:Bd):Prop where
 c1:1≤b.cells
 c64:b.cells≤64
 n1:1≤b.next.length
 n8:b.next.length≤8
 tl:b.turn.length=b.next.length
 ll:∀ d:Int,0≤d→d < b.next.length→((nth b.next d).length:Int)=b.cells
 lx:∀ d c:Int,0≤d→d < b.next.length→0≤c→c < b.cells→-1≤b.nx d c∧b.nx d c < b.cells
 t0:∀ d:Int,0≤d→d < b.next.length→0≤b.tn d∧b.tn d < b.next.length∧b.tn (b.tn d)=d
def Bd.to (b:Bd) (side d c:Int):Int :=
 if side < 0∨side > 1∨d < 0∨d≥b.next.length∨c < 0∨c≥b.cells then -1 else b.nx (if side=1 then b.tn d else d) c
structure Tot {α:Type} (c:α→α→Int):Prop where
 eq0:∀ a b,c a b=0↔a=b
 anti:∀ a b,c a b=- c b a
 trans:∀ a b d,c a b < 0→c b d < 0→c a d < 0
theorem Tot.self {α:Type} {c:α→α→Int} (h:Tot c) (a:α):c a a=0:=(h.eq0 a a).2 rfl
theorem Tot.irr {α:Type} {c:α→α→Int} (h:Tot c) {a b:α} (hl:c a b < 0):a≠b:=fun e=>by subst e;rw [h.self] at hl;omega
def cmpI (a b:Int):Int:=if a < b then -1 else if a > b then 1 else 0
theorem cmpI_tot:Tot cmpI:=by
 refine ⟨fun a b=>?_,fun a b=>?_,fun a b d=>?_⟩
 all_goals
  unfold cmpI
  repeat' split
  all_goals omega
def cmpL {α:Type} (c:α→α→Int):List α→List α→Int
 | [],[]=>0
 | [],_ :: _=>-1
 | _ :: _,[]=>1
 | a :: r,b :: s=>if c a b=0 then cmpL c r s else c a b
theorem cmpL_tot {α:Type} {c:α→α→Int} (h:Tot c):Tot (cmpL c):=by
 refine ⟨?_,?_,?_⟩
 ·intro a
  induction a with
  | nil=>intro b;cases b <;> simp [cmpL]
  | cons x r ih =>
   intro b
   cases b with
   | nil=>simp [cmpL]
   | cons y s =>
    simp only [cmpL]
    split
    ·rename_i e;rw [ih,(h.eq0 x y).1 e];simp
    ·rename_i e
     refine ⟨fun q=>absurd q e,fun q=>?_⟩
     injection q with q1 q2
     exact absurd ((h.eq0 x y).2 q1) e
 ·intro a
  induction a with
  | nil=>intro b;cases b <;> simp [cmpL]
  | cons x r ih =>
   intro b
   cases b with
   | nil=>simp [cmpL]
   | cons y s =>
    simp only [cmpL]
    have:=h.anti x y
    by_cases e:c x y=0
    ·rw [if_pos e,if_pos (by omega),ih]
    ·rw [if_neg e,if_neg (by omega)];exact this
 ·intro a
  induction a with
  | nil =>
   intro b d
   cases b <;> cases d <;> simp [cmpL]
  | cons x r ih =>
   intro b d
   cases b with
   | nil=>simp [cmpL]
   | cons y s =>
    cases d with
    | nil=>simp [cmpL]
    | cons z t =>
     simp only [cmpL]
     intro h1 h2
     by_cases e1:c x y=0
     ·rw [if_pos e1] at h1
      have:=(h.eq0 _ _).1 e1;subst this
      by_cases e2:c x z=0
      ·rw [if_pos e2] at h2 ⊢;exact ih _ _ h1 h2
      ·rw [if_neg e2] at h2 ⊢;exact h2
     ·rw [if_neg e1] at h1
      by_cases e2:c y z=0
      ·have:=(h.eq0 _ _).1 e2;subst this
       rw [if_neg e1];exact h1
      ·rw [if_neg e2] at h2
       have h3:=h.trans _ _ _ h1 h2
       rw [if_neg (by omega)];exact h3
def Asc {α:Type} (c:α→α→Int) (l:List α):Prop:=l.Pairwise fun a b=>c a b < 0
theorem Asc.uniq {α:Type} {c:α→α→Int} (h:Tot c):∀ {l r:List α},Asc c l→Asc c r→(∀ x,x∈l↔x∈r)→l=r
 | [],[],_,_,_=>rfl
 | [],y :: s,_,_,e=>absurd ((e y).2 (by simp)) (by simp)
 | x :: r,[],_,_,e=>absurd ((e x).1 (by simp)) (by simp)
 | x :: r,y :: s,hl,hr,e=>by
  unfold Asc at hl hr
  rw [List.pairwise_cons] at hl hr
  have hxy:x=y:=by
   rcases List.mem_cons.1 ((e x).1 (by simp)) with q | q
   ·exact q
   ·rcases List.mem_cons.1 ((e y).2 (by simp)) with q' | q'
    ·exact q'.symm
    ·have h1:=hl.1 y q'
     have h2:=hr.1 x q
     have:=h.anti x y
     omega
  subst hxy
  rw [Asc.uniq h hl.2 hr.2 fun z=>?_]
  constructor
  ·intro hz
   rcases List.mem_cons.1 ((e z).1 (List.mem_cons_of_mem _ hz)) with q | q
   ·subst q;exact absurd rfl (h.irr (hl.1 z hz))
   ·exact q
  ·intro hz
   rcases List.mem_cons.1 ((e z).2 (List.mem_cons_of_mem _ hz)) with q | q
   ·subst q;exact absurd rfl (h.irr (hr.1 z hz))
   ·exact q
def put {α:Type} (c:α→α→Int) (x:α):List α→List α
 | []=>[x]
 | y :: r=>if c x y < 0 then x :: y :: r else if c x y=0 then y :: r else y :: put c x r
def canon {α:Type} (c:α→α→Int):List α→List α
 | []=>[]
 | x :: r=>put c x (canon c r)
theorem mem_put {α:Type} {c:α→α→Int} (h:Tot c) {x z:α}:∀ {l:List α},z∈put c x l↔z=x∨z∈l
 | []=>by simp [put]
 | y :: r=>by
  unfold put
  split
  ·simp
  ·split
   ·rename_i e;rw [(h.eq0 _ _).1 e];simp
   ·rw [List.mem_cons,mem_put h,List.mem_cons]
    constructor
    ·rintro (q | q | q) <;> simp [q]
    ·rintro (q | q | q) <;> simp [q]
theorem put_asc {α:Type} {c:α→α→Int} (h:Tot c) {x:α}:∀ {l:List α},Asc c l→Asc c (put c x l)
 | [],_=>by simp [put,Asc]
 | y :: r,hl=>by
  unfold Asc at hl
  have hl':=hl
  rw [List.pairwise_cons] at hl
  unfold put
  split
  ·rename_i q
   unfold Asc
   refine List.pairwise_cons.2 ⟨fun z hz=>?_,hl'⟩
   rcases List.mem_cons.1 hz with rfl | hz
   ·exact q
   ·exact h.trans _ _ _ q (hl.1 z hz)
  ·split
   ·exact hl'
   ·rename_i q1 q2
    unfold Asc
    refine List.pairwise_cons.2 ⟨fun z hz=>?_,put_asc h hl.2⟩
    rcases (mem_put h).1 hz with rfl | hz
    ·have:=h.anti y z;omega
    ·exact hl.1 z hz
theorem canon_asc {α:Type} {c:α→α→Int} (h:Tot c):∀ l:List α,Asc c (canon c l)
 | []=>by simp [canon,Asc]
 | x :: r=>put_asc h (canon_asc h r)
theorem mem_canon {α:Type} {c:α→α→Int} (h:Tot c) {x:α}:∀ {l:List α},x∈canon c l↔x∈l
 | []=>by simp [canon]
 | y :: r=>by unfold canon;rw [mem_put h,mem_canon h];simp
theorem Asc.canon {α:Type} {c:α→α→Int} (h:Tot c) {l r:List α} (hl:Asc c l) (hm:∀ x,x∈l↔x∈r):l=canon c r :=
 Asc.uniq h hl (canon_asc h r) fun x=>by rw [hm,mem_canon h]
theorem put_len {α:Type} {c:α→α→Int} {x:α}:∀ {l:List α},(put c x l).length≤l.length+1
 | []=>by simp [put]
 | y :: r=>by
  unfold put
  have:=put_len (c:=c) (x:=x) (l:=r)
  split
  ·simp
  ·split <;> simp
   omega
theorem canon_len {α:Type} {c:α→α→Int}:∀ l:List α,(canon c l).length≤l.length
 | []=>by simp [canon]
 | x :: r=>by
  have h1:=canon_len (c:=c) r
  have h2:=put_len (c:=c) (x:=x) (l:=canon c r)
  unfold canon
  simp only [List.length_cons]
  omega
def ints (n:Int):List Int:=(List.range n.toNat).map fun (k:Nat)=>(k:Int)
theorem ints_succ {i:Int} (h:0≤i):ints (i+1)=ints i++[i]:=by
 unfold ints
 rw [show (i+1).toNat=i.toNat+1 by omega,List.range_succ,List.map_append]
 simp;omega
theorem mem_ints {n x:Int}:x∈ints n↔0≤x∧x < n:=by
 unfold ints
 simp only [List.mem_map,List.mem_range]
 exact ⟨fun ⟨k,h1,h2⟩=>by omega,fun ⟨h1,h2⟩=>⟨x.toNat,by omega,by omega⟩⟩
theorem ints_len (n:Int):(ints n).length=n.toNat:=by simp [ints]
theorem nth_ints {n i:Int} (h0:0≤i) (h:i < n):nth (ints n) i=i:=by
 unfold nth ints
 rw [List.getD_eq_getElem?_getD,List.getElem?_map,List.getElem?_range (by omega)]
 simp;omega
theorem map_ints_succ {β:Type} {i:Int} (h:0≤i) (f:Int→β):(ints (i+1)).map f=(ints i).map f++[f i]:=by rw [ints_succ h];simp
theorem nth_map_ints {β:Type} [Inhabited β] {n i:Int} {f:Int→β} (h0:0≤i) (h:i < n):nth ((ints n).map f) i=f i:=by
 rw [nth_map h0 (by rw [ints_len];omega),nth_ints h0 h]
set_option maxRecDepth 10000 in
theorem Has_p (l:List Int) (n:Int) (hl:l.length≤4611686018427387904):Pure Try.prog 46 [Is l,I n] (Bo (l.contains n)) none:=by
 refine fun_of tok D_ok Try.func46 rfl Try.ntmps46 Try.results46 (by kernel_rfl) (by simp) (by simp) ?_
 have e:l.length=(l.map I).length:=by simp
 conv=>whnf
 refine .of (fun i=>[(5,I i)]) (fun _=>[]) 0 (fun i=>0≤i∧i≤l.length∧n ∉ l.take i.toNat) (fun i=>(l.length - i).toNat) 0 ?_
 conv=>whnf
 refine ⟨⟨[],rfl,rfl,rfl,⟨rfl,trivial⟩,trivial⟩,⟨by omega,by omega,by simp⟩,fun i ⟨hi0,hi1,hi⟩=>?_⟩
 conv=>whnf
 repeat' ((first
  | refine lvA ?_
  | refine lvE ?_
  | fail) <;> try (apply Cj.mk <;> first | exact trivial | intros))
 ·rename_i h
  rw [show l.contains n=true from List.contains_iff_mem.2 (by rw [← h];exact nth_mem (by omega) (by omega))]
 ·rename_i h
  refine ⟨i+1,⟨[],rfl,rfl,rfl,⟨rfl,trivial⟩,trivial⟩,⟨by omega,by omega,?_⟩,?_,rfl⟩
  ·rw [take_snoc (by omega) (by omega)]
   simp [hi,Ne.symm h]
  ·show (l.length - (i+1)).toNat < (l.length - i).toNat
   omega
 ·rw [take_all (by omega)] at hi
  simp [hi]
set_option maxRecDepth 10000 in
theorem To23_p (b:Bd) (hb:b.ok) (side d c:Int):Pure Try.prog 94 [b.av,I side,I d,I c] (I (b.to side d c)) none:=by
 refine fun_of tok D_ok Try.func94 rfl Try.ntmps94 Try.results94 (by kernel_rfl) (by simp) (by simp) ?_
 have tl:=hb.tl
 have t0:=hb.t0 d
 have l0:=hb.ll d
 have l1:=hb.ll (b.tn d)
 have e:b.next.length=(b.next.map Is).length:=by simp
 unfold Bd.tn at t0 l1
 conv=>whnf
 repeat' ((first
  | refine lvA ?_
  | refine lvE ?_
  | fail) <;> try (apply Cj.mk <;> first | exact trivial | intros))
 iterate 6 (unfold Bd.to;rw [if_pos (by omega)])
 ·unfold Bd.to;rw [if_neg (by omega),if_pos (by omega)];rfl
 ·unfold Bd.to;rw [if_neg (by omega),if_neg (by omega)];rfl
set_option maxRecDepth 10000 in
theorem To15_p (b:Bd) (hb:b.ok) (side d c:Int):Pure Try.prog 67 [b.av,I side,I d,I c] (I (b.to side d c)) none:=by
 refine fun_of tok D_ok Try.func67 rfl Try.ntmps67 Try.results67 (by kernel_rfl) (by simp) (by simp) ?_
 have tl:=hb.tl
 have t0:=hb.t0 d
 have l0:=hb.ll d
 have l1:=hb.ll (b.tn d)
 have e:b.next.length=(b.next.map Is).length:=by simp
 unfold Bd.tn at t0 l1
 conv=>whnf
 repeat' ((first
  | refine lvA ?_
  | refine lvE ?_
  | fail) <;> try (apply Cj.mk <;> first | exact trivial | intros))
 iterate 6 (unfold Bd.to;rw [if_pos (by omega)])
 ·unfold Bd.to;rw [if_neg (by omega),if_pos (by omega)];rfl
 ·unfold Bd.to;rw [if_neg (by omega),if_neg (by omega)];rfl
theorem loopQ {ds:List Nat} {B:St→(Exit→St→Prop)→Prop} {σ:St} {Q:Exit→St→Prop} (h:∀ R:Exit→St→Prop,(∀ e τ,Q e τ→R e τ)→LoopOK ds B σ R):LoopOK ds B σ Q:=h Q fun _ _ h=>h
def Ow (l:List Int):AV:=.own 1 (l.map I)
theorem bdOw (l:List (List Int)):∀ e,e∈l.map Ow→bdL (fun _=>False) (cellsA e):=fun e he=>by
 obtain ⟨x,_,rfl⟩:=List.mem_map.1 he
 exact ⟨trivial,trivial⟩
theorem okOw (l:List (List Int)):∀ e,e∈l.map Ow→rowOK e:=fun e he=>by
 obtain ⟨x,_,rfl⟩:=List.mem_map.1 he
 trivial
theorem lendOw (l:List (List Int)):(l.map Ow).map rowA=l.map Is:=by
 rw [List.map_map];rfl
theorem tApp {l:List (List Int)} {r:List Int} {n:Nat} {K:List AV→Prop} (hn:n=24) (hl:l.length≤1000000) (k:K ((l++[r]).map Ow)) :
  ((l.map Ow).length+[AV.own 1 (r.map I)].length) * n≤140737488355328∧(l.map Ow).length+[AV.own 1 (r.map I)].length≤4611686018427387904∧CalcL (l.map Ow++[AV.own 1 (r.map I)]) K:=by
 subst hn
 rw [List.length_map]
 refine ⟨by simp only [List.length_cons,List.length_nil];omega,by simp only [List.length_cons,List.length_nil];omega,.mk _ ?_ k⟩
 rw [List.map_append];rfl
def headC:Nat→Code→Code
 | 0,_=>.skip
 | n+1,.seq a b=>.seq a (headC n b)
 | _+1,_=>.skip
def tailC:Nat→Code→Code
 | 0,c=>c
 | n+1,.seq _ b=>tailC n b
 | _+1,c=>c
theorem vc_cut_eq {P:Program} {T:TypeId→Option TI} {D:Draw} (n:Nat) (c:Code) (σ:St) (Q:Exit→St→Prop) :
  vcC P T D c σ Q=vcC P T D (headC n c) σ (fun e σ'=>match e with | .normal=>vcC P T D (tailC n c) σ' Q | e=>Q e σ'):=by
 induction n generalizing c σ with
 | zero=>rfl
 | succ n ih =>
  cases c with
  | seq a b =>
   show vcC P T D a σ _=vcC P T D a σ _
   refine congrArg (vcC P T D a σ) (funext fun e=>funext fun σ'=>?_)
   cases e with
   | normal=>exact ih b σ'
   | _=>rfl
  | _=>rfl
theorem vc_cutT {P:Program} {T:TypeId→Option TI} {D:Draw} (n:Nat) {c:Code} {σ:St} {Q:Exit→St→Prop}
  (h:∀ R:St→Prop,(∀ τ,vcC P T D (tailC n c) τ Q→R τ)→vcC P T D (headC n c) σ (fun e σ'=>match e with | .normal=>R σ' | e=>Q e σ')):vcC P T D c σ Q :=
 (vc_cut_eq n c σ Q).mpr (h (fun σ'=>vcC P T D (tailC n c) σ' Q) fun _ h=>h)
theorem fun_cut {P:Program} {T:TypeId→Option TI} (n:Nat) (ids:List Nat) (hT:TOK P T) {D:Draw} (hD:DOK P D) {f:FuncId} {fn:Func} (hf:P.funcs[f]?=some fn) {c:Code} {m:Nat} {rs:Array ResultVar} (hb:fn.body=some c) (hn:fn.ntmps=m) (hr:fn.results=rs) (hname:(fn.name == "runtime.NumGoroutine")=false) {os os':List AO} {args:List AV}
  (hl:args.length≤m) (hle:os.length≤os'.length) {x:AV}
  (h:∀ R:St→Prop,(∀ τ,vcC P T D (tailC n c) τ (exitOK T rs.toList x os')→R τ)→mvAll ids (initSt os args m) fun σ=>vcC P T D (headC n c) σ (fun e σ'=>match e with | .normal=>R σ' | e=>exitOK T rs.toList x os' e σ')):Fun P f os args x os':=by
 refine fun_of_mv ids hT hD hf hb hn hr hname hl hle ?_
 have:=h _ fun _ h=>h
 rw [show (fun σ=>vcC P T D c σ (exitOK T rs.toList x os'))=_ from funext fun σ=>vc_cut_eq n c σ _]
 exact this
theorem vcS {P:Program} {T:TypeId→Option TI} {D:Draw} {c:Code} {σ:St} {K:Exit→St→Prop} (τ:St) (h:σ=τ) (k:vcC P T D c τ K):vcC P T D c σ K:=h ▸ k
end Go.Proofs.Ytejljpjdifblpaa
