/- Contracts of functions of the program, proved by the checker; and plain laws. -/
import Derived.Test.YtejljpjdifblpaaZ02
import Derived.Test.YtejljpjdifblpaaZ03
import Derived.Test.YtejljpjdifblpaaZ00
import Derived.Test.YtejljpjdifblpaaZ01
set_option linter.unusedVariables false
set_option linter.unusedSimpArgs false
namespace Go.Proofs.Ytejljpjdifblpaa
open Go Go.Sk
structure Rs where
 p:Ps
 kind:Int
 cur:Int
 took:Bool
instance:Inhabited Rs:=⟨⟨default,0,0,false⟩⟩
deriving instance DecidableEq for Rs
def Sa (s:Rs):AV:=.ag [Is s.p.ct,Is s.p.h0,Is s.p.h1,I s.p.rights,I s.p.side,I s.kind,I s.cur,Bo s.took]
def Sas (l:List Rs):AV:=.sl (l.map Sa)
def slideTo (ct:List Int):List Int→List Int
 | []=>[]
 | c :: r=>if nth ct c≠0 then [c] else c :: slideTo ct r
def onlyR (s:Rs) (b:Bool):List Rs:=if b then [s] else []
def Ps.setH (p:Ps) (l:List Int):Ps:=if p.side=0 then { p with h0:=l } else { p with h1:=l }
def Ps.hand (p:Ps):List Int:=if p.side=0 then p.h0 else p.h1
def Gm.takeR (g:Gm) (s:Rs):List Rs :=
 let c:=nth s.p.ct s.cur
 if ofK c < 0∨ofS c=s.p.side then [] else
  let p:Ps:={ s.p with ct:=s.p.ct.set s.cur.toNat 0 }
  if g.keep (ofK c) then
   (if nth p.hand (ofK c)+1 > 8 then [] else [{ s with p:=p.setH (p.hand.set (ofK c).toNat (nth p.hand (ofK c)+1)),took:=true }])
  else [{ s with p:=p,took:=true }]
def Gm.pushR (g:Gm) (s:Rs) (n:Int):List Rs :=
 let to:=g.b.to s.p.side n s.cur
 if nth s.p.ct s.cur=0∨to < 0∨nth s.p.ct to≠0 then [] else [{ s with p:={ s.p with ct:=(s.p.ct.set to.toNat (nth s.p.ct s.cur)).set s.cur.toNat 0 } }]
def Gm.stepR (g:Gm) (s:Rs) (x:Stp):List Rs :=
 let c:=nth s.p.ct s.cur
 if x.op=1 then onlyR { s with cur:=g.b.to s.p.side x.n s.cur } (decide (g.b.to s.p.side x.n s.cur≥0))
 else if x.op=2 then (slideTo s.p.ct (g.b.line s.p.side x.n s.cur)).map fun c=>{ s with cur:=c }
 else if x.op=3 then onlyR s (decide (ofK c < 0))
 else if x.op=4 then onlyR s (decide (ofK c≥0) && ofS c != s.p.side)
 else if x.op=5 then onlyR s (decide (ofK c≥0) && ofS c == s.p.side)
 else if x.op=6 then g.takeR s
 else if x.op=7 then g.pushR s x.n
 else if x.op=8 then [{ s with kind:=x.n }]
 else if x.op=9 then onlyR s (bitR s.p.rights x.n == 1)
 else [{ s with p:={ s.p with rights:=clrR s.p.rights x.n } }]
set_option maxRecDepth 10000 in
theorem copied_p (p:Ps) (hp:p.small):Fun Try.prog 59 [] [p.av] (.ag [.ref 0,.ref 1,.ref 2,I p.rights,I p.side]) [.arr 1 (p.ct.map I),.arr 1 (p.h0.map I),.arr 1 (p.h1.map I)]:=by
 have h1:=hp.c
 have h2:=hp.a
 have h3:=hp.b
 have hint:OwnHint:=⟨⟩
 refine fun_of tok D_ok Try.func59 rfl Try.ntmps59 Try.results59 (by kernel_rfl) (by simp) (by simp) ?_
 conv=>whnf
 repeat' ((first
  | refine lvK ?_
  | refine lvE ?_
  | fail) <;> try (apply Cj.mk <;> first | exact trivial | intros))
set_option maxRecDepth 10000 in
theorem same_p (a b:Rs) (ha:a.p.small) (hb:b.p.small):Pure Try.prog 93 [Sa a,Sa b] (Bo (decide (a=b))) none:=by
 have cc:=R4Compare_p a.p b.p ha hb
 have e0:=cmpP_tot.eq0 a.p b.p
 have e:decide (a=b)=(a.kind == b.kind && a.cur == b.cur && a.took == b.took && cmpP a.p b.p == 0):=by
  rw [Bool.eq_iff_iff,decide_eq_true_eq]
  simp only [Bool.and_eq_true,beq_iff_eq,e0]
  cases a;cases b
  simp only [Rs.mk.injEq]
  constructor
  ·rintro ⟨h1,h2,h3,h4⟩;exact ⟨⟨⟨h2,h3⟩,h4⟩,h1⟩
  ·rintro ⟨⟨⟨h2,h3⟩,h4⟩,h1⟩;exact ⟨h1,h2,h3,h4⟩
 rw [e]
 refine fun_of tok D_ok Try.func93 rfl Try.ntmps93 Try.results93 (by kernel_rfl) (by simp) (by simp) ?_
 conv=>whnf
 clear e e0
 repeat' ((first
  | refine lvA ?_
  | refine ⟨_,_,cc,lvN ?_⟩
  | (refine .inl ?_;(conv=>whnf);refine ⟨_,_,cc,lvN ?_⟩)
  | refine lvE ?_
  | fail) <;> try (apply Cj.mk <;> first | exact trivial | intros))
 all_goals (congr 1;simp_all)
set_option maxRecDepth 10000 in
theorem only_p (s:Rs) (b:Bool):Pure Try.prog 95 [Sa s,Bo b] (Sas (onlyR s b)) none:=by
 refine fun_of tok D_ok Try.func95 rfl Try.ntmps95 Try.results95 (by kernel_rfl) (by simp) (by simp) ?_
 conv=>whnf
 repeat' ((first
  | refine lvA ?_
  | refine lvE ?_
  | fail) <;> try (apply Cj.mk <;> first | exact trivial | intros))
 all_goals (rename_i h;subst h;rfl)
structure Rs.ok (g:Gm) (s:Rs):Prop where
 len:(s.p.ct.length:Int)=g.b.cells
 c:∀ i:Int,0≤i→i < g.b.cells→0≤nth s.p.ct i∧nth s.p.ct i≤2 * g.nk
 h0:HdOk g s.p.h0
 h1:HdOk g s.p.h1
 r0:0≤s.p.rights
 r1:s.p.rights < 2 ^ g.rights.toNat
 sd:s.p.side=0∨s.p.side=1
 u0:0≤s.cur
 u1:s.cur < g.b.cells
 k0:0≤s.kind
 k1:s.kind < g.nk
theorem Rs.ok.pos {g:Gm} {s:Rs} (h:s.ok g):s.p.ok g:=⟨h.len,h.c,h.h0,h.h1,h.r0,h.r1,h.sd⟩
theorem Rs.ok.of {g:Gm} {s:Rs} (h:s.p.ok g) (u0:0≤s.cur) (u1:s.cur < g.b.cells) (k0:0≤s.kind) (k1:s.kind < g.nk):s.ok g:=⟨h.len,h.c,h.h0,h.h1,h.r0,h.r1,h.s,u0,u1,k0,k1⟩
theorem Ps.ok.small {g:Gm} (hg:g.ok) {p:Ps} (h:p.ok g):p.small:=by
 have:=h.len;have:=h.h0.len;have:=h.h1.len;have:=hg.c9;have:=hg.k6
 exact ⟨by omega,by omega,by omega⟩
theorem ofK_rg {g:Gm} (hg:g.ok) {c:Int} (h0:0≤c) (h1:c≤2 * g.nk):(c=0∧ofK c=-1∧ofS c=-1)∨(1≤c∧0≤ofK c∧ofK c < g.nk∧ofK c=(c - 1) / 2∧(ofS c=0∨ofS c=1)∧ofS c=(c - 1) % 2):=by
 have:=hg.k6
 unfold ofK ofS
 by_cases h:c=0
 ·left;exact ⟨h,by rw [if_neg (by omega)],by rw [if_neg (by omega)]⟩
 ·right;rw [if_pos (by omega),if_pos (by omega)];omega
theorem slideTo_len (ct l:List Int):(slideTo ct l).length≤l.length:=by
 induction l with
 | nil=>simp [slideTo]
 | cons c r ih=>unfold slideTo;split <;> simp;omega
theorem mem_slideTo {ct l:List Int} {c:Int} (h:c∈slideTo ct l):c∈l:=by
 induction l with
 | nil=>simp [slideTo] at h
 | cons d r ih =>
  unfold slideTo at h
  split at h
  ·simp at h;simp [h]
  ·rcases List.mem_cons.1 h with h | h
   ·simp [h]
   ·exact List.mem_cons_of_mem _ (ih h)
theorem slideTo_go {ct l:List Int} {i:Int} (i0:0≤i) (i1:i < l.length) (h:∀ j:Int,0≤j→j < i→nth ct (nth l j)=0):nth ct (nth l i)≠0→slideTo ct l=l.take (i+1).toNat:=by
 intro hn
 have:∀ (n:Nat) (l:List Int),n < l.length→(∀ j:Int,0≤j→j < n→nth ct (nth l j)=0)→nth ct (nth l n)≠0→slideTo ct l=l.take (n+1):=by
  intro n
  induction n with
  | zero =>
   intro l hl _ h
   match l,hl with
   | x :: r,_=>unfold slideTo;rw [if_pos (by simpa [nth] using h)];rfl
  | succ n ih =>
   intro l hl h0 h
   match l,hl with
   | x :: r,hl =>
    have hx:=h0 0 (by omega) (by omega)
    have e:∀ j:Int,0≤j→nth (x :: r) (j+1)=nth r j:=fun j j0=>by unfold nth;rw [show (j+1).toNat=j.toNat+1 by omega];rfl
    unfold slideTo
    rw [if_neg (by simpa [nth] using hx),ih r (by simpa using hl) (fun j j0 j1=>by rw [← e j j0];exact h0 _ (by omega) (by omega)) (by
     have:=e n (by omega)
     rw [← this];exact_mod_cast h)]
    rfl
 have:=this i.toNat l (by omega) (fun j j0 j1=>h j j0 (by omega)) (by rw [Int.toNat_of_nonneg i0];exact hn)
 rw [this];congr 1;omega
theorem slideTo_all {ct:List Int}:∀ {l:List Int},(∀ j:Int,0≤j→j < l.length→nth ct (nth l j)=0)→slideTo ct l=l
 | [],_=>rfl
 | x :: r,h=>by
  have e:∀ j:Int,0≤j→nth (x :: r) (j+1)=nth r j:=fun j j0=>by unfold nth;rw [show (j+1).toNat=j.toNat+1 by omega];rfl
  have hx:=h 0 (by omega) (by simp only [List.length_cons];omega)
  unfold slideTo
  rw [if_neg (by simpa [nth] using hx),slideTo_all (l:=r) fun j j0 j1=>by rw [← e j j0];exact h _ (by omega) (by simp only [List.length_cons];omega)]
structure Oc where
 p:Ps
 took:Bool
instance:Inhabited Oc:=⟨⟨default,false⟩⟩
deriving instance DecidableEq for Oc
def Ou (o:Oc):AV:=.ag [Is o.p.ct,Is o.p.h0,Is o.p.h1,I o.p.rights,I o.p.side,Bo o.took]
def Ous (l:List Oc):AV:=.sl (l.map Ou)
def b2i (b:Bool):Int:=if b then 1 else 0
def Oc.key (o:Oc):List (List (List Int)):=[o.p.key,[[b2i o.took]]]
def cmpO (a b:Oc):Int:=if cmpP a.p b.p=0 then cmpI (b2i a.took) (b2i b.took) else cmpP a.p b.p
theorem cmpO_tot:Tot cmpO:=by
 refine ⟨fun a b=>?_,fun a b=>?_,fun a b d=>?_⟩
 ·obtain ⟨p,s⟩:=a
  obtain ⟨q,t⟩:=b
  have h1:=cmpP_tot.eq0 p q
  unfold cmpO
  dsimp only
  by_cases e:cmpP p q=0
  ·rw [if_pos e,Oc.mk.injEq,h1.1 e]
   cases s <;> cases t <;> simp [cmpI,b2i]
  ·rw [if_neg e,Oc.mk.injEq]
   exact ⟨fun h=>absurd h e,fun h=>absurd (h1.2 h.1) e⟩
 ·have h1:=cmpP_tot.anti a.p b.p
  have h2:=cmpI_tot.anti (b2i a.took) (b2i b.took)
  unfold cmpO
  by_cases e:cmpP a.p b.p=0
  ·rw [if_pos e,if_pos (by omega)];exact h2
  ·rw [if_neg e,if_neg (by omega)];exact h1
 ·have e1:=cmpP_tot.eq0 a.p b.p
  have e2:=cmpP_tot.eq0 b.p d.p
  have h1:=cmpP_tot.trans a.p b.p d.p
  have h2:=cmpI_tot.trans (b2i a.took) (b2i b.took) (b2i d.took)
  unfold cmpO
  by_cases q1:cmpP a.p b.p=0
  ·rw [if_pos q1]
   rw [e1.1 q1] at *
   by_cases q2:cmpP b.p d.p=0
   ·rw [if_pos q2]
    intro h3 h4
    have:=h2 h3 h4
    have h5:cmpP b.p d.p=0:=q2
    rw [if_pos h5];exact this
   ·rw [if_neg q2]
    intro h3 h4
    rw [if_neg q2];exact h4
  ·rw [if_neg q1]
   by_cases q2:cmpP b.p d.p=0
   ·rw [if_pos q2,← e2.1 q2,if_neg q1];exact fun h _=>h
   ·rw [if_neg q2]
    intro h3 h4
    have:=h1 h3 h4
    rw [if_neg (by omega)];exact this
set_option maxRecDepth 10000 in
theorem Less_p (a b:Oc) (ha:a.p.small) (hb:b.p.small):Pure Try.prog 86 [Ou a,Ou b] (Bo (decide (cmpO a b < 0))) none:=by
 have cc:=R4Compare_p a.p b.p ha hb
 unfold cmpO
 obtain ⟨p,s⟩:=a
 obtain ⟨q,t⟩:=b
 dsimp only at *
 generalize cmpP p q=c at *
 refine fun_of tok D_ok Try.func86 rfl Try.ntmps86 Try.results86 (by kernel_rfl) (by simp) (by simp) ?_
 conv=>whnf
 cases s <;> cases t
 ·repeat' ((first
   | refine lvA ?_
   | refine ⟨_,_,cc,lvN ?_⟩
   | (refine .inl ?_;(conv=>whnf);refine ⟨_,_,cc,lvN ?_⟩)
   | refine lvE ?_
   | fail) <;> try (apply Cj.mk <;> first | exact trivial | intros))
  all_goals (congr 1;simp [b2i,cmpI];try omega)
  all_goals (try (split <;> omega))
 ·repeat' ((first
   | refine lvA ?_
   | refine ⟨_,_,cc,lvN ?_⟩
   | (refine .inl ?_;(conv=>whnf);refine ⟨_,_,cc,lvN ?_⟩)
   | refine lvE ?_
   | fail) <;> try (apply Cj.mk <;> first | exact trivial | intros))
  all_goals (congr 1;simp [b2i,cmpI];try omega)
  all_goals (try (split <;> omega))
 ·repeat' ((first
   | refine lvA ?_
   | refine ⟨_,_,cc,lvN ?_⟩
   | (refine .inl ?_;(conv=>whnf);refine ⟨_,_,cc,lvN ?_⟩)
   | refine lvE ?_
   | fail) <;> try (apply Cj.mk <;> first | exact trivial | intros))
  all_goals (congr 1;simp [b2i,cmpI];try omega)
  all_goals (try (split <;> omega))
 ·repeat' ((first
   | refine lvA ?_
   | refine ⟨_,_,cc,lvN ?_⟩
   | (refine .inl ?_;(conv=>whnf);refine ⟨_,_,cc,lvN ?_⟩)
   | refine lvE ?_
   | fail) <;> try (apply Cj.mk <;> first | exact trivial | intros))
  all_goals (congr 1;simp [b2i,cmpI];try omega)
  all_goals (try (split <;> omega))
theorem put_stop {α:Type} {c:α→α→Int} {x y:α} {r:List α} (h:c x y < 0):put c x (y :: r)=x :: y :: r:=by
 rw [put,if_pos h]
theorem put_eq {α:Type} {c:α→α→Int} {x y:α} {r:List α} (h:c x y=0):put c x (y :: r)=y :: r:=by
 rw [put,if_neg (by omega),if_pos h]
theorem put_on {α:Type} {c:α→α→Int} {x y:α} {r:List α} (h:0 < c x y):put c x (y :: r)=y :: put c x r:=by
 rw [put,if_neg (by omega),if_neg (by omega)]
structure InsS where
 i:Int
 out:List Oc
 done:Bool
instance:Inhabited InsS:=⟨⟨0,[],false⟩⟩
set_option maxHeartbeats 4000000 in
set_option maxRecDepth 10000 in
theorem Insert_p (l:List Oc) (x:Oc) (hl:l.length≤34359738000) (h1:∀ o,o∈l→o.p.small) (hx:x.p.small):Pure Try.prog 77 [Ous l,Ou x] (Ous (put cmpO x l)) none:=by
 have el:(l.map Ou).length=l.length:=List.length_map _
 refine fun_of tok D_ok Try.func77 rfl Try.ntmps77 Try.results77 (by kernel_rfl) (by simp) (by simp) ?_
 conv=>whnf
 repeat' ((first
  | refine lvK ?_
  | refine lvE ?_
  | fail) <;> try (apply Cj.mk <;> first | exact trivial | intros))
 refine .of (fun (s:InsS)=>[(7,I s.i),(5,.ref 1),(6,Bo s.done)]) (fun (s:InsS)=>[(1,.arr 6 (s.out.map Ou))]) 2 (fun (s:InsS)=>0≤s.i∧s.i≤l.length∧s.out.length≤s.i+b2i s.done∧s.out++(if s.done then l.drop s.i.toNat else put cmpO x (l.drop s.i.toNat))=put cmpO x l) (fun (s:InsS)=>(l.length - s.i).toNat) (⟨0,[],false⟩:InsS) ?_
 conv=>whnf
 refine ⟨⟨[],hdA (lvL ?_) (lvL ?_)⟩,?_,fun (s:InsS) ⟨i0,i1,ol,hs⟩=>lvN ?_⟩ <;> (try (apply Cj.mk <;> first | exact trivial | intros))
 ·refine ⟨?_,?_,?_,?_⟩ <;> simp [b2i]
 obtain ⟨i,out,done⟩:=s
 dsimp only at *
 have hless:i < l.length→Pure Try.prog 86 [Ou (nth l i),Ou x] (Bo (decide (cmpO (nth l i) x < 0))) none∧Pure Try.prog 86 [Ou x,Ou (nth l i)] (Bo (decide (cmpO x (nth l i) < 0))) none:=fun h =>
  ⟨Less_p _ _ (h1 _ (nth_mem i0 h)) hx,Less_p _ _ hx (h1 _ (nth_mem i0 h))⟩
 have hanti:=cmpO_tot.anti x (nth l i)
 have hlx:(out++[x]).length=out.length+1:=by simp
 have hb1:b2i true=1:=rfl
 have hb0:b2i false=0:=rfl
 by_cases hi:i < l.length
 ·obtain ⟨c1,c2⟩:=hless hi
  rw [drop_nth i0 hi] at hs
  cases done with
  | true =>
   rw [if_pos rfl] at hs
   repeat' ((first
    | refine lvK ?_
    | refine ap1 (f:=Ou) (a:=(nth l i)) (by decide) (by omega) rfl rfl (lvN ?_)
    | refine lvE ?_
    | fail) <;> try (apply Cj.mk <;> first | exact trivial | intros))
   refine ⟨(⟨i+1,out++[nth l i],true⟩:InsS),⟨[],hdA (lvL ?_) (lvL ?_)⟩,?_,by (try dsimp only);omega,rfl⟩ <;> (try (apply Cj.mk <;> first | exact trivial | intros))
   ·dsimp only
    refine ⟨by omega,by omega,?_,?_⟩
    ·rw [List.length_append,List.length_singleton];omega
    ·rw [if_pos rfl,← hs,List.append_assoc];rfl
  | false =>
   rw [if_neg (by decide)] at hs
   rcases Int.lt_trichotomy (cmpO x (nth l i)) 0 with hc | hc | hc
   ·rw [put_stop hc] at hs
    rw [decide_eq_false (show ¬ cmpO (nth l i) x < 0 by omega)] at c1
    rw [decide_eq_true (show cmpO x (nth l i) < 0 by omega)] at c2
    repeat' ((first
     | refine lvK ?_
     | refine ⟨_,_,c1,lvN ?_⟩
     | (refine .inl ?_;(conv=>whnf);refine ⟨_,_,c1,lvN ?_⟩)
     | refine ⟨_,_,c2,lvN ?_⟩
     | (refine .inl ?_;(conv=>whnf);refine ⟨_,_,c2,lvN ?_⟩)
     | refine ap1 (f:=Ou) (a:=x) (by decide) (by omega) rfl rfl (lvN ?_)
     | refine ap1 (f:=Ou) (a:=(nth l i)) (by decide) (by omega) rfl rfl (lvN ?_)
     | refine lvE ?_
     | fail) <;> try (apply Cj.mk <;> first | exact trivial | intros))
    refine ⟨(⟨i+1,out++[x]++[nth l i],true⟩:InsS),⟨[],hdA (lvL ?_) (lvL ?_)⟩,?_,by (try dsimp only);omega,rfl⟩ <;> (try (apply Cj.mk <;> first | exact trivial | intros))
    ·dsimp only
     refine ⟨by omega,by omega,?_,?_⟩
     ·rw [List.length_append,List.length_singleton];omega
     ·rw [if_pos rfl,← hs,List.append_assoc,List.append_assoc];rfl
   ·rw [put_eq hc] at hs
    rw [decide_eq_false (show ¬ cmpO (nth l i) x < 0 by omega)] at c1
    rw [decide_eq_false (show ¬ cmpO x (nth l i) < 0 by omega)] at c2
    repeat' ((first
     | refine lvK ?_
     | refine ⟨_,_,c1,lvN ?_⟩
     | (refine .inl ?_;(conv=>whnf);refine ⟨_,_,c1,lvN ?_⟩)
     | refine ⟨_,_,c2,lvN ?_⟩
     | (refine .inl ?_;(conv=>whnf);refine ⟨_,_,c2,lvN ?_⟩)
     | refine ap1 (f:=Ou) (a:=(nth l i)) (by decide) (by omega) rfl rfl (lvN ?_)
     | refine lvE ?_
     | fail) <;> try (apply Cj.mk <;> first | exact trivial | intros))
    refine ⟨(⟨i+1,out++[nth l i],true⟩:InsS),⟨[],hdA (lvL ?_) (lvL ?_)⟩,?_,by (try dsimp only);omega,rfl⟩ <;> (try (apply Cj.mk <;> first | exact trivial | intros))
    ·dsimp only
     refine ⟨by omega,by omega,?_,?_⟩
     ·rw [List.length_append,List.length_singleton];omega
     ·rw [if_pos rfl,← hs,List.append_assoc];rfl
   ·rw [put_on hc] at hs
    rw [decide_eq_true (show cmpO (nth l i) x < 0 by omega)] at c1
    repeat' ((first
     | refine lvK ?_
     | refine ⟨_,_,c1,lvN ?_⟩
     | (refine .inl ?_;(conv=>whnf);refine ⟨_,_,c1,lvN ?_⟩)
     | refine ⟨_,_,c2,lvN ?_⟩
     | (refine .inl ?_;(conv=>whnf);refine ⟨_,_,c2,lvN ?_⟩)
     | refine ap1 (f:=Ou) (a:=(nth l i)) (by decide) (by omega) rfl rfl (lvN ?_)
     | refine lvE ?_
     | fail) <;> try (apply Cj.mk <;> first | exact trivial | intros))
    refine ⟨(⟨i+1,out++[nth l i],false⟩:InsS),⟨[],hdA (lvL ?_) (lvL ?_)⟩,?_,by (try dsimp only);omega,rfl⟩ <;> (try (apply Cj.mk <;> first | exact trivial | intros))
    ·dsimp only
     refine ⟨by omega,by omega,?_,?_⟩
     ·rw [List.length_append,List.length_singleton];omega
     ·rw [if_neg (by decide),← hs,List.append_assoc];rfl
 ·obtain rfl:i=l.length:=by omega
  rw [drop_all (by omega)] at hs
  cases done with
  | true =>
   rw [if_pos rfl,List.append_nil] at hs
   rw [← hs]
   repeat' ((first
    | refine lvK ?_
    | refine lvE ?_
    | fail) <;> try (apply Cj.mk <;> first | exact trivial | intros))
  | false =>
   rw [if_neg (by decide)] at hs
   rw [← hs]
   repeat' ((first
    | refine lvK ?_
    | refine ap1 (f:=Ou) (a:=x) (by decide) (by omega) rfl rfl (lvN ?_)
    | refine lvE ?_
    | fail) <;> try (apply Cj.mk <;> first | exact trivial | intros))
def isMan (side kind c:Int):Bool:=decide (ofK c≥0) && (ofS c == side && (decide (kind < 0) || ofK c == kind))
def menL (l:List Int) (side kind:Int):Int:=(l.filter (isMan side kind)).length
def menR (p:Ps) (side kind:Int):Int:=menL p.ct side kind
theorem menL_succ {l:List Int} {side kind i:Int} (h0:0≤i) (h:i < l.length):menL (l.take (i+1).toNat) side kind=menL (l.take i.toNat) side kind+(if isMan side kind (nth l i) then 1 else 0):=by
 unfold menL
 rw [take_snoc h0 h,List.filter_append,List.length_append]
 cases hc:isMan side kind (nth l i) <;> simp [List.filter,hc]
theorem menL_rg (l:List Int) (side kind:Int):0≤menL l side kind∧menL l side kind≤l.length:=by
 unfold menL
 have:=List.length_filter_le (isMan side kind) l
 omega
set_option maxHeartbeats 4000000 in
set_option maxRecDepth 10000 in
theorem men_p (p:Ps) (hp:p.small) (hc:∀ i:Int,0≤i→i < p.ct.length→-1000000≤nth p.ct i∧nth p.ct i≤1000000) (side kind:Int):Pure Try.prog 74 [p.av,I side,I kind] (I (menR p side kind)) none:=by
 have el:(p.ct.map I).length=p.ct.length:=List.length_map _
 have hs:=hp.c
 unfold menR
 refine fun_of tok D_ok Try.func74 rfl Try.ntmps74 Try.results74 (by kernel_rfl) (by simp) (by simp) ?_
 conv=>whnf
 repeat' ((first
  | refine lvK ?_
  | refine lvE ?_
  | fail) <;> try (apply Cj.mk <;> first | exact trivial | intros))
 refine .of (fun i=>[(8,I i),(7,I (menL (p.ct.take i.toNat) side kind))]) (fun i=>[]) 1 (fun i=>0≤i∧i≤p.ct.length) (fun i=>(p.ct.length - i).toNat) 0 ?_
 conv=>whnf
 refine ⟨⟨[],hdA (lvL ?_) (lvL ?_)⟩,?_,fun i ⟨i0,i1⟩=>lvN ?_⟩ <;> (try (apply Cj.mk <;> first | exact trivial | intros))
 ·exact ⟨by omega,by omega⟩
 have hml:=menL_rg (p.ct.take i.toNat) side kind
 rw [List.length_take] at hml
 by_cases hi:i < p.ct.length
 ·have ho:=Of_p (nth p.ct i) (hc i i0 hi)
  have hsu:=menL_succ (side:=side) (kind:=kind) i0 hi
  unfold isMan at hsu
  generalize ofK (nth p.ct i)=k at *
  generalize ofS (nth p.ct i)=s at *
  repeat' ((first
   | refine lvA ?_
   | refine ⟨_,_,ho,lvN ?_⟩
   | (refine .inl ?_;(conv=>whnf);refine ⟨_,_,ho,lvN ?_⟩)
   | refine lvE ?_
   | fail) <;> try (apply Cj.mk <;> first | exact trivial | intros))
  all_goals (try (exfalso;omega))
  all_goals
   refine ⟨i+1,⟨[],hdA (lvL ?_) (lvL ?_)⟩,?_,by (try dsimp only);omega,rfl⟩ <;> (try (apply Cj.mk <;> first | exact trivial | intros))
   ·rw [hsu];first | rw [if_pos (by simp;omega)] | rw [if_neg (by simp;omega),Int.add_zero]
   ·exact ⟨by omega,by omega⟩
 ·obtain rfl:i=p.ct.length:=by omega
  rw [take_all (Int.le_refl _)]
  repeat' ((first
   | refine lvK ?_
   | refine lvE ?_
   | fail) <;> try (apply Cj.mk <;> first | exact trivial | intros))
def condR (c:Cl) (p:Ps):Bool:=if c.cf=1 then menR p p.side c.kind == 0 else if c.cf=2 then nth p.ct c.n == code c.kind (1 - p.side) else decide (menR p p.side (-1)≤c.n)
set_option maxHeartbeats 4000000 in
set_option maxRecDepth 10000 in
theorem Cond_p (g:Gm) (hg:g.ok) (c:Cl) (hc:c.ok g) (p:Ps) (h:p.ok g):Pure Try.prog 56 [Ca c,p.av] (Bo (condR c p)) none:=by
 have el:(p.ct.map I).length=p.ct.length:=List.length_map _
 have hlen:=h.len
 have k6:=hg.k6
 have hrg:∀ i:Int,0≤i→i < p.ct.length→-1000000≤nth p.ct i∧nth p.ct i≤1000000:=fun i i0 i1=>by
  have:=h.c i i0 (by omega)
  omega
 have m1:=men_p p (h.small hg) hrg p.side c.kind
 have m2:=men_p p (h.small hg) hrg p.side (-1)
 have hcode:=Code_p c.kind (1 - p.side)
 have hsd:=h.s
 have hcs:=hc.cs
 unfold condR
 obtain ⟨cf,kind,n,thn⟩:=c
 dsimp only at *
 refine fun_of tok D_ok Try.func56 rfl Try.ntmps56 Try.results56 (by kernel_rfl) (by simp) (by simp) ?_
 conv=>whnf
 have hcf:cf=1∨cf=2∨cf=3:=by omega
 rcases hcf with rfl | rfl | rfl
 ·repeat' ((first
   | refine lvK ?_
   | refine ⟨_,_,m1,lvN ?_⟩
   | (refine .inl ?_;(conv=>whnf);refine ⟨_,_,m1,lvN ?_⟩)
   | refine lvE ?_
   | fail) <;> try (apply Cj.mk <;> first | exact trivial | intros))
 ·repeat' ((first
   | refine lvK ?_
   | refine ⟨_,_,hcode,lvN ?_⟩
   | (refine .inl ?_;(conv=>whnf);refine ⟨_,_,hcode,lvN ?_⟩)
   | refine lvE ?_
   | fail) <;> try (apply Cj.mk <;> first | exact trivial | intros))
 ·repeat' ((first
   | refine lvK ?_
   | refine ⟨_,_,m2,lvN ?_⟩
   | (refine .inl ?_;(conv=>whnf);refine ⟨_,_,m2,lvN ?_⟩)
   | refine lvE ?_
   | fail) <;> try (apply Cj.mk <;> first | exact trivial | intros))
def Gm.endedR (g:Gm) (p:Ps):Int:=match g.cls.findIdx? (condR · p) with
 | some i=>i
 | none=>-1
theorem endedR_at {g:Gm} {p:Ps} {i:Int} (h0:0≤i) (h:i < g.cls.length) (hn:∀ j:Int,0≤j→j < i→condR (nth g.cls j) p=false) (hc:condR (nth g.cls i) p=true):g.endedR p=i:=by
 have nd:∀ {j:Nat} (hj:j < g.cls.length),g.cls[j]=nth g.cls j:=fun {j} hj=>by unfold nth;rw [List.getD_eq_getElem?_getD,Int.toNat_natCast,List.getElem?_eq_getElem hj];rfl
 have:g.cls.findIdx? (condR · p)=some i.toNat:=by
  rw [List.findIdx?_eq_some_iff_getElem]
  refine ⟨by omega,?_,fun j hj=>?_⟩
  ·show condR g.cls[i.toNat] p=true
   rw [nd,Int.toNat_of_nonneg h0];exact hc
  ·show ¬ condR g.cls[j] p=true
   rw [nd,hn j (by omega) (by omega)];decide
 unfold Gm.endedR
 rw [this]
 simp only
 omega
theorem endedR_none {g:Gm} {p:Ps} (hn:∀ j:Int,0≤j→j < g.cls.length→condR (nth g.cls j) p=false):g.endedR p=-1:=by
 have:g.cls.findIdx? (condR · p)=none:=by
  rw [List.findIdx?_eq_none_iff]
  intro c hc
  obtain ⟨j,j0,j1,rfl⟩:=mem_nth hc
  exact hn j j0 j1
 unfold Gm.endedR
 rw [this]
set_option maxHeartbeats 4000000 in
set_option maxRecDepth 10000 in
theorem Ended_p (g:Gm) (hg:g.ok) (p:Ps) (h:p.ok g):Pure Try.prog 42 [g.av,p.av] (I (g.endedR p)) none:=by
 have el:(g.cls.map Ca).length=g.cls.length:=List.length_map _
 have h6:=hg.cl
 refine fun_of tok D_ok Try.func42 rfl Try.ntmps42 Try.results42 (by kernel_rfl) (by simp) (by simp) ?_
 conv=>whnf
 repeat' ((first
  | refine lvK ?_
  | refine lvE ?_
  | fail) <;> try (apply Cj.mk <;> first | exact trivial | intros))
 refine .of (fun i=>[(5,I i)]) (fun i=>[]) 2 (fun i=>0≤i∧i≤g.cls.length∧∀ j:Int,0≤j→j < i→condR (nth g.cls j) p=false) (fun i=>(g.cls.length - i).toNat) 0 ?_
 conv=>whnf
 refine ⟨⟨[],hdA (lvL ?_) (lvL ?_)⟩,?_,fun i ⟨i0,i1,hn⟩=>lvN ?_⟩ <;> (try (apply Cj.mk <;> first | exact trivial | intros))
 ·exact ⟨by omega,by omega,fun j _ _=>by omega⟩
 by_cases hi:i < g.cls.length
 ·have hco:=Cond_p g hg (nth g.cls i) (hg.cs _ (nth_mem i0 hi)) p h
  cases hc:condR (nth g.cls i) p with
  | true =>
   rw [hc] at hco
   rw [endedR_at i0 hi hn hc]
   repeat' ((first
    | refine lvK ?_
    | refine ⟨_,_,hco,lvN ?_⟩
    | (refine .inl ?_;(conv=>whnf);refine ⟨_,_,hco,lvN ?_⟩)
    | refine lvE ?_
    | fail) <;> try (apply Cj.mk <;> first | exact trivial | intros))
  | false =>
   rw [hc] at hco
   repeat' ((first
    | refine lvK ?_
    | refine ⟨_,_,hco,lvN ?_⟩
    | (refine .inl ?_;(conv=>whnf);refine ⟨_,_,hco,lvN ?_⟩)
    | refine lvE ?_
    | fail) <;> try (apply Cj.mk <;> first | exact trivial | intros))
   refine ⟨i+1,⟨[],hdA (lvL ?_) (lvL ?_)⟩,?_,by (try dsimp only);omega,rfl⟩ <;> (try (apply Cj.mk <;> first | exact trivial | intros))
   ·refine ⟨by omega,by omega,fun j j0 j1=>?_⟩
    by_cases e:j=i
    ·rw [e];exact hc
    ·exact hn j j0 (by omega)
 ·rw [endedR_none fun j j0 j1=>hn j j0 (by omega)]
  repeat' ((first
   | refine lvK ?_
   | refine lvE ?_
   | fail) <;> try (apply Cj.mk <;> first | exact trivial | intros))
def bdMade (w h cut:Int):Bd:=if cut > 200 then (gridB (1+w % 3) (1+h % 3)).wo (cut % (gridB (1+w % 3) (1+h % 3)).cells) else gridB (1+w % 3) (1+h % 3)
set_option maxRecDepth 10000 in
theorem RMade_p (w h cut:Int) (hw:b8 w) (hh:b8 h) (hc:b8 cut):Pure Try.prog 25 [U8 w,U8 h,U8 cut] (bdMade w h cut).av none:=by
 unfold b8 at hw hh hc
 have g:=RGrid_p (1+w % 3) (1+h % 3) (by omega) (by omega)
 have gg:Gr (1+w % 3) (1+h % 3):=Gr.of (by
  have:(1+w % 3) * (1+h % 3)≤3 * 3:=Int.mul_le_mul (by omega) (by omega) (by omega) (by omega)
  exact ⟨by omega,by omega,by omega,by omega,by omega⟩)
 have hb:=grid_ok gg
 have wo:=Without27_p _ hb
 unfold bdMade
 generalize gridB (1+w % 3) (1+h % 3)=b at *
 have c1:=hb.c1
 have m0:=Int.emod_nonneg cut (show b.cells≠0 by omega)
 have m1:=Int.emod_lt_of_pos cut (show 0 < b.cells by omega)
 have w1:=wo (cut % b.cells)
 rw [without_eq m0 m1] at w1
 refine fun_of tok D_ok Try.func25 rfl Try.ntmps25 Try.results25 (by kernel_rfl) (by simp) (by simp) ?_
 conv=>whnf
 repeat' ((first
  | refine lvK ?_
  | refine ⟨_,_,g,lvN ?_⟩
  | (refine .inl ?_;(conv=>whnf);refine ⟨_,_,g,lvN ?_⟩)
  | refine ⟨_,_,w1,lvN ?_⟩
  | (refine .inl ?_;(conv=>whnf);refine ⟨_,_,w1,lvN ?_⟩)
  | refine lvE ?_
  | fail) <;> try (apply Cj.mk <;> first | exact trivial | intros))
 all_goals first | rw [if_pos (by omega)] | rw [if_neg (by omega)]
structure LibOk (x:Stp):Prop where
 o1:1≤x.op
 o2:x.op≤10
 n0:0≤x.n
 z:3≤x.op→x.op≤6→x.n=0
theorem lib_spec {d e k r i:Int} (d0:0≤d) (e0:0≤e) (k0:0≤k) (r0:0≤r) (i0:0≤i) (i1:i < 16):(lib d e k r i).length≤6∧∀ x,x∈lib d e k r i→LibOk x:=by
 have hi:i=0∨i=1∨i=2∨i=3∨i=4∨i=5∨i=6∨i=7∨i=8∨i=9∨i=10∨i=11∨i=12∨i=13∨i=14∨i=15:=by omega
 rcases hi with rfl | rfl | rfl | rfl | rfl | rfl | rfl | rfl | rfl | rfl | rfl | rfl | rfl | rfl | rfl | rfl
 all_goals
  refine ⟨by simp [lib,nth],fun x hx=>?_⟩
  simp [lib,nth] at hx
  repeat' (first | subst hx | (rcases hx with hx | hx))
  all_goals (constructor <;> (intros;(try dsimp only at *);try omega))
theorem at8_b {l:List Int} (h8:∀ i:Int,0≤i→i < l.length→b8 (nth l i)) {i:Int} (i0:0≤i):b8 (at8 l i):=by
 unfold at8
 split
 ·exact h8 i i0 (by omega)
 ·unfold b8;omega
theorem libL_spec {l:List Int} (h8:∀ i:Int,0≤i→i < l.length→b8 (nth l i)):(libL l).length≤6∧∀ x,x∈libL l→LibOk x:=by
 have h0:=at8_b h8 (i:=0) (by omega)
 have h1:=at8_b h8 (i:=1) (by omega)
 have h2:=at8_b h8 (i:=2) (by omega)
 have h3:=at8_b h8 (i:=3) (by omega)
 have h4:=at8_b h8 (i:=4) (by omega)
 unfold b8 at h0 h1 h2 h3 h4
 exact lib_spec (by omega) (by omega) (by omega) (by omega) (by omega) (by omega)
theorem pm_b {n:Int} (hn:b8 n):∀ i:Int,0≤i→i < [n,n / 16,n / 16+n % 5,n / 3,n].length→b8 (nth [n,n / 16,n / 16+n % 5,n / 3,n] i):=fun i i0 i1=>by
 unfold b8 at hn
 simp only [List.length_cons,List.length_nil] at i1
 have:i=0∨i=1∨i=2∨i=3∨i=4:=by omega
 unfold b8
 rcases this with rfl | rfl | rfl | rfl | rfl <;> (simp [nth];omega)
theorem PMade_p (n dirs kinds rights:Int) (hn:b8 n) (h1:1≤dirs) (h2:1≤kinds) (h3:0≤rights):Pure Try.prog 26 [U8 n,I dirs,I kinds,I rights] (Pg (progMade n dirs kinds rights)) none:=by
 have h8:=pm_b hn
 have lb:=Lib_p [n,n / 16,n / 16+n % 5,n / 3,n] (by simp) h8
 have ls:=libL_spec h8
 have ft:=Fit_p (libL [n,n / 16,n / 16+n % 5,n / 3,n]) (by omega) (fun i i0 i1=>(ls.2 _ (nth_mem i0 i1)).n0) dirs kinds rights h1 h2 h3
 unfold b8 at hn
 unfold progMade
 refine fun_of tok D_ok Try.func26 rfl Try.ntmps26 Try.results26 (by kernel_rfl) (by simp) (by simp) ?_
 conv=>whnf
 repeat' ((first
  | refine lvK ?_
  | (refine .inr (.inl ?_);(conv=>whnf);refine ⟨_,_,lb,lvN ?_⟩)
  | refine ⟨_,_,ft,lvN ?_⟩
  | (refine .inl ?_;(conv=>whnf);refine ⟨_,_,ft,lvN ?_⟩)
  | refine lvE ?_
  | fail) <;> try (apply Cj.mk <;> first | exact trivial | intros))
structure C3 where
 a:Int
 b:Int
 c:Int
instance:Inhabited C3:=⟨⟨0,0,0⟩⟩
def Cb (x:C3):AV:=.ag [U8 x.a,U8 x.b,U8 x.c]
structure R3 where
 w:Int
 h:Int
 cut:Int
 k0:List Int
 k1:List Int
 c:List C3
 f0:Int
 f1:Int
 f2:Int
 f3:Int
 f4:Int
 f5:Int
def R3.cs (x:R3):List AV:=[U8 x.w,U8 x.h,U8 x.cut,Us x.k0,Us x.k1,.sl (x.c.map Cb),U8 x.f0,U8 x.f1,U8 x.f2,U8 x.f3,U8 x.f4,U8 x.f5]
structure R3.ok (x:R3):Prop where
 w:b8 x.w
 h:b8 x.h
 cut:b8 x.cut
 k0:∀ i:Int,0≤i→i < x.k0.length→b8 (nth x.k0 i)
 k1:∀ i:Int,0≤i→i < x.k1.length→b8 (nth x.k1 i)
 c:∀ i:Int,0≤i→i < x.c.length→b8 (nth x.c i).a∧b8 (nth x.c i).b∧b8 (nth x.c i).c
 f0:b8 x.f0
 f1:b8 x.f1
 f2:b8 x.f2
 f3:b8 x.f3
 f4:b8 x.f4
 l0:x.k0.length≤9223372036854775807
 l1:x.k1.length≤9223372036854775807
 lc:x.c.length≤9223372036854775807
def R3.b (x:R3):Bd:=bdMade x.w x.h x.cut
def R3.nk (x:R3):Int:=if x.k1.length > 0 then 2 else 1
def R3.rights (x:R3):Int:=x.f0 % 3
def R3.kl (x:R3) (i:Int):List Int:=if i=0 then x.k0 else x.k1
def kname (i:Int):ByteArray:=if i=0 then ⟨#[97]⟩ else ⟨#[98,101,101]⟩
def R3.keep (x:R3) (i:Int):Bool:=x.f2 / 2 ^ i.toNat % 2 == 1
def R3.progs (x:R3) (i n:Int):List (List Stp):=((x.kl i).take n.toNat).map fun n=>progMade n 8 x.nk x.rights
def R3.kd (x:R3) (i:Int):Kd:=⟨kname i,x.progs i 4,x.keep i⟩
def R3.cl (x:R3) (y:C3):Cl:=⟨1+y.a % 3,if 1+y.a % 3≠3 then y.b % x.nk else 0,if 1+y.a % 3=2 then y.c % x.b.cells else if 1+y.a % 3=3 then y.c % 3 else 0,1+y.a / 4 % 3⟩
def R3.made (x:R3):Gm:=⟨x.b,(ints x.nk).map x.kd,x.rights,x.f1 % 4 == 3,(x.c.take 3).map x.cl,if x.f3 % 4=3 then 1+x.f3 / 4 % 3 else 3,if x.f4 % 4=3 then 1+x.f4 / 4 % 3 else 2⟩
def R3.bl1 (x:R3):Int:=1+x.f3 / 4 % 3
def R3.bl0 (_:R3):Int:=3
def R3.en1 (x:R3):Int:=1+x.f4 / 4 % 3
def R3.en0 (_:R3):Int:=2
theorem bdMade_ok {w h cut:Int} (hw:b8 w) (hh:b8 h) (hc:b8 cut):(bdMade w h cut).ok∧(bdMade w h cut).cells≤9∧(bdMade w h cut).next.length=8:=by
 unfold b8 at hw hh hc
 have h9:(1+w % 3) * (1+h % 3)≤3 * 3:=Int.mul_le_mul (by omega) (by omega) (by omega) (by omega)
 have gg:Gr (1+w % 3) (1+h % 3):=Gr.of ⟨by omega,by omega,by omega,by omega,by omega⟩
 have hb:=grid_ok gg
 have hl:=(grid_len (1+w % 3) (1+h % 3)).1
 have hcs:(gridB (1+w % 3) (1+h % 3)).cells=(1+w % 3) * (1+h % 3):=rfl
 unfold bdMade
 split
 ·exact ⟨wo_ok hb _,by show (gridB (1+w % 3) (1+h % 3)).cells≤9;omega,by rw [wo_len];exact hl⟩
 ·exact ⟨hb,by omega,hl⟩
end Go.Proofs.Ytejljpjdifblpaa
