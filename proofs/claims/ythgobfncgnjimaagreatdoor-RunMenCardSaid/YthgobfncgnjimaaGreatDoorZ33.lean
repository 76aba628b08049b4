/- Contracts of functions of the program, proved by the checker. -/
import Derived.Test.YthgobfncgnjimaaGreatDoorZ30
set_option linter.unusedVariables false
set_option linter.unusedSimpArgs false
namespace Go.Proofs.YthgobfncgnjimaaGreatDoor
open Go Go.Sk
def sumTo (f:Int→Int):Nat→Int
 | 0=>0
 | n+1=>sumTo f n+f n
theorem sumTo_succ (f:Int→Int) {k:Int} (h:0≤k):sumTo f (k+1).toNat=sumTo f k.toNat+f k:=by
 rw [show (k+1).toNat=k.toNat+1 by omega]
 show sumTo f k.toNat+f ((k.toNat:Nat):Int)=_
 rw [Int.toNat_of_nonneg h]
theorem sumTo_add (f g h:Int→Int):∀ n:Nat,(∀ k:Int,0≤k→k < n→f k=g k+h k)→sumTo f n=sumTo g n+sumTo h n
 | 0,_=>rfl
 | n+1,e=>by
  have ih:=sumTo_add f g h n fun k k0 k1=>e k k0 (by omega)
  have:=e n (by omega) (by omega)
  show sumTo f n+f n=(sumTo g n+g n)+(sumTo h n+h n)
  omega
theorem sumTo_congr (f g:Int→Int):∀ n:Nat,(∀ k:Int,0≤k→k < n→f k=g k)→sumTo f n=sumTo g n
 | 0,_=>rfl
 | n+1,e=>by
  have ih:=sumTo_congr f g n fun k k0 k1=>e k k0 (by omega)
  have:=e n (by omega) (by omega)
  show sumTo f n+f n=sumTo g n+g n
  omega
theorem sumTo_nn (f:Int→Int):∀ n:Nat,(∀ k:Int,0≤k→k < n→0≤f k)→0≤sumTo f n
 | 0,_=>Int.le_refl _
 | n+1,e=>by
  have ih:=sumTo_nn f n fun k k0 k1=>e k k0 (by omega)
  have:=e n (by omega) (by omega)
  show 0≤sumTo f n+f n
  omega
theorem sumTo_le (f:Int→Int) (c:Int) (hc:0≤c):∀ n:Nat,(∀ k:Int,0≤k→k < n→-c≤f k∧f k≤c)→-(c * n)≤sumTo f n∧sumTo f n≤c * n
 | 0,_=>by show -(c * 0)≤0∧(0:Int)≤c * 0;omega
 | n+1,e=>by
  have ih:=sumTo_le f c hc n fun k k0 k1=>e k k0 (by omega)
  have:=e n (by omega) (by omega)
  have hm:c * ((n+1:Nat):Int)=c * (n:Int)+c:=by rw [show ((n+1:Nat):Int)=(n:Int)+1 by omega,Int.mul_add,Int.mul_one]
  rw [hm]
  show _≤sumTo f n+f n∧sumTo f n+f n≤_
  omega
def one1 (a k:Int):Int:=if k=a then 1 else 0
theorem sumTo_one (a:Int) (h:0≤a):∀ n:Nat,sumTo (one1 a) n=if a < n then 1 else 0
 | 0=>by rw [if_neg (by omega)];rfl
 | n+1=>by
  have ih:=sumTo_one a h n
  show sumTo (one1 a) n+one1 a n=_
  rw [ih]
  unfold one1
  by_cases h1:a < n
  ·rw [if_pos h1,if_neg (by omega),if_pos (by omega)];rfl
  ·by_cases h2:(n:Int)=a
   ·rw [if_neg h1,if_pos h2,if_pos (by omega)];rfl
   ·rw [if_neg h1,if_neg h2,if_neg (by omega)];rfl
theorem menL_set (side kind v:Int):∀ (l:List Int) (n:Nat),n < l.length→menL (l.set n v) side kind=menL l side kind - (if isMan side kind (nth l n) then 1 else 0)+(if isMan side kind v then 1 else 0)
 | [],n,h=>by simp at h
 | x :: l,0,_=>by
  show menL (v :: l) side kind=_
  rw [show nth (x :: l) ((0:Nat):Int)=x from rfl]
  unfold menL
  cases h1:isMan side kind v <;> cases h2:isMan side kind x <;> simp [List.filter,h1,h2] <;> omega
 | x :: l,n+1,h=>by
  have ih:=menL_set side kind v l n (by simpa using h)
  have e:nth (x :: l) ((n+1:Nat):Int)=nth l (n:Int):=by unfold nth;rfl
  rw [e]
  show menL (x :: l.set n v) side kind=_
  unfold menL at ih ⊢
  cases h2:isMan side kind x <;> simp only [List.filter,h2,List.length_cons] <;> omega
theorem menL_setI (side kind v:Int) {l:List Int} {i:Int} (i0:0≤i) (i1:i < l.length):menL (l.set i.toNat v) side kind=menL l side kind - (if isMan side kind (nth l i) then 1 else 0)+(if isMan side kind v then 1 else 0):=by
 have:=menL_set side kind v l i.toNat (by omega)
 rwa [Int.toNat_of_nonneg i0] at this
theorem isMan0 (side kind:Int):isMan side kind 0=false:=by
 unfold isMan ofK
 rw [if_neg (by omega)]
 rfl
theorem isMan_own {side kind c:Int} (k0:0≤kind):isMan side kind c=decide (ofS c=side∧ofK c=kind):=by
 unfold isMan
 by_cases h1:ofS c=side <;> by_cases h2:ofK c=kind <;> simp [h1,h2] <;> omega
def hnd (p:Ps) (s:Int):List Int:=if s=0 then p.h0 else p.h1
structure MenI (g:Gm) (p:Ps) (cell:Int) (t:Nat) (s:Rs):Prop where
 sd:s.p.side=p.side
 own:∀ k:Int,0≤k→k < g.nk→menL p.ct p.side k=menL s.p.ct p.side k+one1 (ofK (nth p.ct cell)) k
 les:∀ k:Int,0≤k→k < g.nk→menL s.p.ct (1 - p.side) k≤menL p.ct (1 - p.side) k
 sum:sumTo (fun k=>menL p.ct (1 - p.side) k - menL s.p.ct (1 - p.side) k) g.nk.toNat=t
 hnd:∀ k:Int,0≤k→k < g.nk→nth (hnd s.p p.side) k=nth (hnd p p.side) k+(if g.keep k then menL p.ct (1 - p.side) k - menL s.p.ct (1 - p.side) k else 0)
 oth:Proofs.YthgobfncgnjimaaGreatDoor.hnd s.p (1 - p.side)=Proofs.YthgobfncgnjimaaGreatDoor.hnd p (1 - p.side)
 took:s.took=decide (0 < t)
theorem MenI.same {g:Gm} {p:Ps} {cell:Int} {t:Nat} {s y:Rs} (h:MenI g p cell t s) (e1:y.p.ct=s.p.ct) (e2:y.p.h0=s.p.h0) (e3:y.p.h1=s.p.h1) (e4:y.p.side=s.p.side) (e5:y.took=s.took):MenI g p cell t y:=by
 have eh:∀ z,Proofs.YthgobfncgnjimaaGreatDoor.hnd y.p z=Proofs.YthgobfncgnjimaaGreatDoor.hnd s.p z:=fun z=>by unfold Proofs.YthgobfncgnjimaaGreatDoor.hnd;rw [e2,e3]
 refine ⟨e4.trans h.sd,?_,?_,?_,?_,?_,e5.trans h.took⟩
 ·rw [e1];exact h.own
 ·rw [e1];exact h.les
 ·rw [e1];exact h.sum
 ·rw [e1,eh];exact h.hnd
 ·rw [eh];exact h.oth
theorem men0 {g:Gm} (hg:g.ok) {p:Ps} {cell i:Int} (h:CanRun g p cell i):MenI g p cell 0 (run0 p cell):=by
 have hs:=h.ok.s
 have hset:∀ s k,menL (p.ct.set cell.toNat 0) s k=menL p.ct s k - (if isMan s k (nth p.ct cell) then 1 else 0):=fun s k=>by
  rw [menL_setI s k 0 h.c0 (by have:=h.ok.len;have:=h.c1;omega),isMan0]
  simp
 have hsd:=h.sd
 have ho:∀ k:Int,0≤k→menL (p.ct.set cell.toNat 0) (1 - p.side) k=menL p.ct (1 - p.side) k:=fun k k0=>by
  rw [hset,isMan_own k0,if_neg (by simp;omega)];omega
 refine ⟨rfl,fun k k0 k1=>?_,fun k k0 k1=>?_,?_,fun k k0 k1=>?_,rfl,rfl⟩
 ·show menL p.ct p.side k=menL (p.ct.set cell.toNat 0) p.side k+_
  rw [hset,isMan_own k0]
  unfold one1
  by_cases e:k=ofK (nth p.ct cell)
  ·rw [if_pos (by simp;exact ⟨hsd,e.symm⟩),if_pos e];omega
  ·rw [if_neg (by simp;intro _ e';exact e e'.symm),if_neg e];omega
 ·show menL (p.ct.set cell.toNat 0) (1 - p.side) k≤_
  rw [ho k k0];exact Int.le_refl _
 ·show sumTo (fun k=>menL p.ct (1 - p.side) k - menL (p.ct.set cell.toNat 0) (1 - p.side) k) g.nk.toNat=0
  rw [sumTo_congr _ (fun _=>0) _ fun k k0 _=>by rw [ho k k0];omega]
  generalize g.nk.toNat=n
  induction n with
  | zero=>rfl
  | succ n ih=>show sumTo _ n+0=0;rw [ih];rfl
 ·show nth (Proofs.YthgobfncgnjimaaGreatDoor.hnd p p.side) k=nth (Proofs.YthgobfncgnjimaaGreatDoor.hnd p p.side) k+(if g.keep k then menL p.ct (1 - p.side) k - menL (p.ct.set cell.toNat 0) (1 - p.side) k else 0)
  rw [ho k k0]
  split <;> omega
theorem MenI.push {g:Gm} (hg:g.ok) {p:Ps} {cell:Int} {t:Nat} {s y:Rs} {n:Int} (hs:s.ok g) (h:MenI g p cell t s) (hy:y∈g.pushR s n):MenI g p cell t y:=by
 unfold Gm.pushR at hy
 dsimp only at hy
 split at hy
 ·simp at hy
 ·rename_i q
  simp only [not_or,Int.not_lt,ne_eq,Decidable.not_not] at q
  obtain ⟨q1,q2,q3⟩:=q
  simp only [List.mem_singleton] at hy
  subst hy
  have hlen:=hs.len
  have hto:=g.b.to_lt hg.b s.p.side n s.cur
  generalize g.b.to s.p.side n s.cur=to at *
  have hne:to≠s.cur:=fun e=>q1 (e ▸ q3)
  have hm:∀ z k,menL ((s.p.ct.set to.toNat (nth s.p.ct s.cur)).set s.cur.toNat 0) z k=menL s.p.ct z k:=fun z k=>by
   have u0:=hs.u0
   have u1:=hs.u1
   rw [menL_setI z k 0 u0 (by rw [List.length_set];omega),menL_setI z k _ q2 (by omega),isMan0,q3,isMan0,nth_set q2 u0 (by omega),if_neg hne]
   simp
  refine ⟨h.sd,fun k k0 k1=>?_,fun k k0 k1=>?_,?_,fun k k0 k1=>?_,h.oth,h.took⟩
  ·show _=menL ((s.p.ct.set to.toNat (nth s.p.ct s.cur)).set s.cur.toNat 0) p.side k+_
   rw [hm];exact h.own k k0 k1
  ·show menL ((s.p.ct.set to.toNat (nth s.p.ct s.cur)).set s.cur.toNat 0) (1 - p.side) k≤_
   rw [hm];exact h.les k k0 k1
  ·show sumTo (fun k=>menL p.ct (1 - p.side) k - menL ((s.p.ct.set to.toNat (nth s.p.ct s.cur)).set s.cur.toNat 0) (1 - p.side) k) g.nk.toNat=t
   rw [sumTo_congr _ _ _ fun k _ _=>by rw [hm]];exact h.sum
  ·show nth (Proofs.YthgobfncgnjimaaGreatDoor.hnd s.p p.side) k=nth (Proofs.YthgobfncgnjimaaGreatDoor.hnd p p.side) k+(if g.keep k then menL p.ct (1 - p.side) k - menL ((s.p.ct.set to.toNat (nth s.p.ct s.cur)).set s.cur.toNat 0) (1 - p.side) k else 0)
   rw [hm];exact h.hnd k k0 k1
theorem MenI.take {g:Gm} (hg:g.ok) {p:Ps} {cell:Int} {t:Nat} {s y:Rs} (hp:p.side=0∨p.side=1) (hs:s.ok g) (h:MenI g p cell t s) (hy:y∈g.takeR s):MenI g p cell (t+1) y:=by
 have hr:=hs.c s.cur hs.u0 hs.u1
 have hk:=ofK_rg hg hr.1 hr.2
 have hlen:=hs.len
 have u0:=hs.u0
 have u1:=hs.u1
 have hsd:=h.sd
 unfold Gm.takeR at hy
 dsimp only at hy
 split at hy
 ·simp at hy
 rename_i q
 have hkc:0≤ofK (nth s.p.ct s.cur)∧ofS (nth s.p.ct s.cur)=1 - p.side:=by
  omega
 have hset:∀ z k,menL (s.p.ct.set s.cur.toNat 0) z k=menL s.p.ct z k - (if isMan z k (nth s.p.ct s.cur) then 1 else 0):=fun z k=>by
  rw [menL_setI z k 0 u0 (by omega),isMan0]
  simp
 have ho:∀ k:Int,0≤k→menL (s.p.ct.set s.cur.toNat 0) p.side k=menL s.p.ct p.side k:=fun k k0=>by
  rw [hset,isMan_own k0,if_neg (by simp;omega)];omega
 have hn:∀ k:Int,0≤k→menL (s.p.ct.set s.cur.toNat 0) (1 - p.side) k=menL s.p.ct (1 - p.side) k - one1 (ofK (nth s.p.ct s.cur)) k:=fun k k0=>by
  rw [hset,isMan_own k0]
  unfold one1
  by_cases e:k=ofK (nth s.p.ct s.cur)
  ·rw [if_pos (by simp;exact ⟨hkc.2,e.symm⟩),if_pos e]
  ·rw [if_neg (by simp;intro _ e';exact e e'.symm),if_neg e]
 have key:∀ y:Rs,y.p.ct=s.p.ct.set s.cur.toNat 0→y.p.side=s.p.side→y.took=true→Proofs.YthgobfncgnjimaaGreatDoor.hnd y.p (1 - p.side)=Proofs.YthgobfncgnjimaaGreatDoor.hnd s.p (1 - p.side) →
   (∀ k:Int,0≤k→k < g.nk→nth (Proofs.YthgobfncgnjimaaGreatDoor.hnd y.p p.side) k=nth (Proofs.YthgobfncgnjimaaGreatDoor.hnd s.p p.side) k+(if g.keep k then one1 (ofK (nth s.p.ct s.cur)) k else 0))→MenI g p cell (t+1) y:=fun y e1 e2 e3 e4 e5=>by
  refine ⟨e2.trans hsd,fun k k0 k1=>?_,fun k k0 k1=>?_,?_,fun k k0 k1=>?_,e4.trans h.oth,by rw [e3];simp⟩
  ·rw [e1,ho k k0];exact h.own k k0 k1
  ·rw [e1,hn k k0]
   have:=h.les k k0 k1
   unfold one1
   split <;> omega
  ·rw [e1,sumTo_add _ (fun k=>menL p.ct (1 - p.side) k - menL s.p.ct (1 - p.side) k) (one1 (ofK (nth s.p.ct s.cur))) _ fun k k0 _=>by rw [hn k k0];omega,h.sum,sumTo_one _ hkc.1,if_pos (by have:=hg.k1;omega)]
   omega
  ·rw [e1,e5 k k0 k1,h.hnd k k0 k1,hn k k0]
   split <;> omega
 have hl:∀ k:Int,k=ofK (nth s.p.ct s.cur)→0≤k∧k < g.nk:=fun k e=>by omega
 have l0:=hs.h0.len
 have l1:=hs.h1.len
 split at hy
 ·rename_i q2
  split at hy
  ·simp at hy
  ·simp only [List.mem_singleton] at hy
   subst hy
   unfold Ps.setH Ps.hand
   dsimp only
   by_cases hz:s.p.side=0
   ·rw [if_pos hz,if_pos hz]
    have p0:p.side=0:=by omega
    refine key _ rfl rfl rfl (by unfold Proofs.YthgobfncgnjimaaGreatDoor.hnd;rw [if_neg (by omega),if_neg (by omega)]) fun k k0 k1=>?_
    unfold Proofs.YthgobfncgnjimaaGreatDoor.hnd one1
    rw [if_pos p0,if_pos p0]
    show nth (s.p.h0.set _ _) k=_
    rw [nth_set hkc.1 k0 (by omega)]
    by_cases e:ofK (nth s.p.ct s.cur)=k
    ·subst e;rw [if_pos rfl,if_pos q2,if_pos rfl]
    ·rw [if_neg e,if_neg (show ¬ k=ofK (nth s.p.ct s.cur) from fun e'=>e e'.symm)];first | omega | (split <;> omega)
   ·rw [if_neg hz,if_neg hz]
    have p0:p.side=1:=by omega
    refine key _ rfl rfl rfl (by unfold Proofs.YthgobfncgnjimaaGreatDoor.hnd;rw [if_pos (by omega),if_pos (by omega)]) fun k k0 k1=>?_
    unfold Proofs.YthgobfncgnjimaaGreatDoor.hnd one1
    rw [if_neg (by omega),if_neg (by omega)]
    show nth (s.p.h1.set _ _) k=_
    rw [nth_set hkc.1 k0 (by omega)]
    by_cases e:ofK (nth s.p.ct s.cur)=k
    ·subst e;rw [if_pos rfl,if_pos q2,if_pos rfl]
    ·rw [if_neg e,if_neg (show ¬ k=ofK (nth s.p.ct s.cur) from fun e'=>e e'.symm)];first | omega | (split <;> omega)
 ·rename_i q2
  simp only [List.mem_singleton] at hy
  subst hy
  refine key _ rfl rfl rfl rfl fun k k0 k1=>?_
  show nth (Proofs.YthgobfncgnjimaaGreatDoor.hnd s.p p.side) k=_
  unfold one1
  by_cases e:k=ofK (nth s.p.ct s.cur)
  ·subst e;rw [if_neg q2];omega
  ·rw [if_neg e];first | omega | (split <;> omega)
theorem MenI.step {g:Gm} (hg:g.ok) {p:Ps} {cell:Int} {t:Nat} {s y:Rs} (hp:p.side=0∨p.side=1) (hs:s.ok g) {x:Stp} (hx:StpOk g.nd g.nk g.rights x) (h:MenI g p cell t s) (hy:y∈g.stepR s x):MenI g p cell (t+if x.op=6 then 1 else 0) y:=by
 by_cases e6:x.op=6
 ·rw [if_pos e6]
  rw [step6 g s e6] at hy
  exact h.take hg hp hs hy
 rw [if_neg e6,Nat.add_zero]
 rcases stp_op hx with e | e | e | e | e | e | e | e | e | e
 ·rw [step1 g s e] at hy
  obtain ⟨rfl,_⟩:=onlyR_mem hy
  exact h.same rfl rfl rfl rfl rfl
 ·rw [step2 g s e] at hy
  obtain ⟨c,_,rfl⟩:=List.mem_map.1 hy
  exact h.same rfl rfl rfl rfl rfl
 ·rw [step3 g s e] at hy
  obtain ⟨rfl,_⟩:=onlyR_mem hy
  exact h
 ·rw [step4 g s e] at hy
  obtain ⟨rfl,_⟩:=onlyR_mem hy
  exact h
 ·rw [step5 g s e] at hy
  obtain ⟨rfl,_⟩:=onlyR_mem hy
  exact h
 ·exact absurd e e6
 ·rw [step7 g s e] at hy
  exact h.push hg hs hy
 ·rw [step8 g s e,List.mem_singleton] at hy
  subst hy
  exact h.same rfl rfl rfl rfl rfl
 ·rw [step9 g s e] at hy
  obtain ⟨rfl,_⟩:=onlyR_mem hy
  exact h
 ·rw [step10 g s e,List.mem_singleton] at hy
  subst hy
  exact h.same rfl rfl rfl rfl rfl
def takes (l:List Stp):Nat:=(l.filter fun x=>decide (x.op=6)).length
theorem now_men {g:Gm} (hg:g.ok) {p:Ps} {cell i:Int} (h:CanRun g p cell i):∀ n:Nat,n≤(g.prog p cell i).length→∀ s,s∈g.now p cell i n→MenI g p cell (takes ((g.prog p cell i).take n)) s
 | 0,_,s,hs=>by
  simp [Gm.now] at hs
  subst hs
  exact men0 hg h
 | n+1,hn,s,hs=>by
  have e:((n+1:Nat):Int)=(n:Int)+1:=by omega
  rw [e,g.now_succ p cell i (by omega) (by omega)] at hs
  obtain ⟨t,ht,hst⟩:=mem_all1.1 hs
  have ih:=now_men hg h n (by omega) t ht
  have hx:=(h.pg hg).st _ (nth_mem (l:=g.prog p cell i) (i:=n) (by omega) (by omega))
  have htok:=(now_ok hg h n (by omega)).1 t ht
  have hr:=ih.step hg h.ok.s htok hx hst
  have ht:takes ((g.prog p cell i).take (n+1))=takes ((g.prog p cell i).take n)+if (nth (g.prog p cell i) n).op=6 then 1 else 0:=by
   have:=take_snoc (l:=g.prog p cell i) (i:=n) (by omega) (by omega)
   rw [show ((n:Int)+1).toNat=n+1 by omega,show ((n:Int)).toNat=n by omega] at this
   rw [this]
   unfold takes
   rw [List.filter_append,List.length_append]
   by_cases h6:(nth (g.prog p cell i) n).op=6
   ·rw [if_pos h6,List.filter_cons_of_pos (by simpa using h6)];rfl
   ·rw [if_neg h6,List.filter_cons_of_neg (by simpa using h6)];rfl
  rw [ht]
  exact hr
structure MenO (g:Gm) (p:Ps) (t:Nat) (o:Oc):Prop where
 own:sumTo (menL o.p.ct p.side) g.nk.toNat=sumTo (menL p.ct p.side) g.nk.toNat
 sum:sumTo (menL p.ct (1 - p.side)) g.nk.toNat=sumTo (menL o.p.ct (1 - p.side)) g.nk.toNat+t
 hnd:sumTo (nth (hnd o.p p.side)) g.nk.toNat=sumTo (nth (hnd p p.side)) g.nk.toNat+sumTo (fun k=>if g.keep k then menL p.ct (1 - p.side) k - menL o.p.ct (1 - p.side) k else 0) g.nk.toNat
 oth:Proofs.YthgobfncgnjimaaGreatDoor.hnd o.p (1 - p.side)=Proofs.YthgobfncgnjimaaGreatDoor.hnd p (1 - p.side)
 took:o.took=decide (0 < t)
theorem runs_men {g:Gm} (hg:g.ok) {p:Ps} {cell i:Int} (h:CanRun g p cell i) {o:Oc} (ho:o∈g.runsR p cell i):MenO g p (takes (g.prog p cell i)) o:=by
 have k6:=hg.k6
 have k1:=hg.k1
 have hps:=h.ok.s
 unfold Gm.runsR at ho
 rcases (insL_mem _ _).1 ho with ho | ⟨s,hs,hz,rfl⟩
 ·simp at ho
 have hm:=now_men hg h _ (Nat.le_refl _) s hs
 have hok:=(now_ok hg h _ (Nat.le_refl _)).1 s hs
 rw [List.take_length] at hm
 generalize takes (g.prog p cell i)=t at *
 have hlen:=hok.len
 have u0:=hok.u0
 have u1:=hok.u1
 have hcode:=code_rg hok.k0 hok.k1 k6 hps
 have c0:=hok.k0
 have c1:=hok.k1
 have eK:ofK (code s.kind p.side)=s.kind:=by rw [hcode];unfold ofK;rw [if_pos (by omega)];omega
 have eS:ofS (code s.kind p.side)=p.side:=by rw [hcode];unfold ofS;rw [if_pos (by omega)];omega
 have hset:∀ z k,menL (s.p.ct.set s.cur.toNat (code s.kind p.side)) z k=menL s.p.ct z k+(if isMan z k (code s.kind p.side) then 1 else 0):=fun z k=>by
  rw [menL_setI z k _ u0 (by omega),hz,isMan0]
  simp
 have h1:∀ k:Int,0≤k→menL (s.p.ct.set s.cur.toNat (code s.kind p.side)) (1 - p.side) k=menL s.p.ct (1 - p.side) k:=fun k k0=>by
  rw [hset,isMan_own k0,if_neg (by rw [eS];simp;omega)];omega
 have h2:∀ k:Int,0≤k→menL (s.p.ct.set s.cur.toNat (code s.kind p.side)) p.side k=menL s.p.ct p.side k+one1 s.kind k:=fun k k0=>by
  rw [hset,isMan_own k0,eS,eK]
  unfold one1
  by_cases e:k=s.kind
  ·rw [if_pos (by simp;exact e.symm),if_pos e]
  ·rw [if_neg (by simp;exact fun e'=>e e'.symm),if_neg e]
 have eh:∀ z,Proofs.YthgobfncgnjimaaGreatDoor.hnd (fin p.side s).p z=Proofs.YthgobfncgnjimaaGreatDoor.hnd s.p z:=fun z=>rfl
 refine ⟨?_,?_,?_,hm.oth,hm.took⟩
 ·show sumTo (menL (s.p.ct.set s.cur.toNat (code s.kind p.side)) p.side) g.nk.toNat=_
  rw [sumTo_add _ (menL s.p.ct p.side) (one1 s.kind) _ fun k k0 _=>h2 k k0,sumTo_one _ c0,if_pos (by omega),
   sumTo_add (menL p.ct p.side) (menL s.p.ct p.side) (one1 (ofK (nth p.ct cell))) _ fun k k0 k1=>hm.own k k0 (by omega),sumTo_one _ h.k0,if_pos (by have:=h.k1 hg;omega)]
 ·show _=sumTo (menL (s.p.ct.set s.cur.toNat (code s.kind p.side)) (1 - p.side)) g.nk.toNat+t
  rw [sumTo_congr _ _ _ fun k k0 _=>h1 k k0,← hm.sum]
  exact sumTo_add _ _ _ _ fun k k0 k1=>by omega
 ·rw [eh]
  show _=_+sumTo (fun k=>if g.keep k then menL p.ct (1 - p.side) k - menL (s.p.ct.set s.cur.toNat (code s.kind p.side)) (1 - p.side) k else 0) g.nk.toNat
  refine sumTo_add _ _ _ _ fun k k0 k1=>?_
  rw [hm.hnd k k0 (by omega),h1 k k0]
theorem takes_app (a b:List Stp):takes (a++b)=takes a+takes b:=by unfold takes;rw [List.filter_append,List.length_append]
theorem fitS_takes (a b c:Int) (x:Stp):takes (fitS a b c x)≤takes [x]:=by
 unfold fitS
 repeat' split
 all_goals (unfold takes;simp [List.filter])
 all_goals (repeat' split) <;> simp_all
theorem fitL_takes (a b c:Int):∀ p:List Stp,takes (fitL p a b c)≤takes p
 | []=>by simp [fitL,takes]
 | x :: p=>by
  have h1:=fitL_takes a b c p
  have h2:=fitS_takes a b c x
  have e:fitL (x :: p) a b c=fitS a b c x++fitL p a b c:=by unfold fitL;rw [List.flatMap_cons]
  have e2:takes (x :: p)=takes [x]+takes p:=takes_app [x] p
  rw [e,takes_app,e2]
  omega
theorem lib_takes {d e k r i:Int} (i0:0≤i) (i1:i < 16):takes (lib d e k r i)≤2:=by
 have hi:i=0∨i=1∨i=2∨i=3∨i=4∨i=5∨i=6∨i=7∨i=8∨i=9∨i=10∨i=11∨i=12∨i=13∨i=14∨i=15:=by omega
 rcases hi with rfl | rfl | rfl | rfl | rfl | rfl | rfl | rfl | rfl | rfl | rfl | rfl | rfl | rfl | rfl | rfl
 all_goals simp [lib,nth,takes,List.filter]
theorem progMade_takes {n dirs kinds rights:Int}:takes (progMade n dirs kinds rights)≤2:=by
 unfold progMade fit
 split
 ·simp [takes,List.filter]
 ·exact Nat.le_trans (fitL_takes _ _ _ _) (lib_takes (Int.emod_nonneg _ (by decide)) (Int.emod_lt_of_pos _ (by decide)))
theorem rep_I (n:Nat):List.replicate n (AV.v ti3.zero)=(List.replicate n (0:Int)).map I:=by rw [List.map_replicate];rfl
theorem map_ints_const (n c:Int):(ints n).map (fun _=>c)=List.replicate n.toNat c:=by
 rw [List.map_const',ints_len]
theorem set_map_ints {n k v:Int} {f f':Int→Int} (k0:0≤k) (k1:k < n) (hv:f' k=v) (h:∀ j,0≤j→j < n→j≠k→f' j=f j):((ints n).map f).set k.toNat v=(ints n).map f':=by
 have hl:((ints n).map f).length=n.toNat:=by rw [List.length_map,ints_len]
 have hl':((ints n).map f').length=n.toNat:=by rw [List.length_map,ints_len]
 refine ext_nth (by rw [List.length_set,hl,hl']) fun j j0 j1=>?_
 rw [List.length_set,hl] at j1
 rw [nth_set k0 j0 (by rw [hl];omega),nth_map_ints j0 (by omega)]
 split
 ·rename_i e;subst e;rw [nth_map_ints k0 k1,hv]
 ·rename_i e;rw [nth_map_ints j0 (by omega),h j j0 (by omega) (fun e'=>e e'.symm)]
theorem isMan_at {side j c:Int} (j0:0≤j) (c0:0≤c) (c1:c≤12):isMan side j c=true↔0 < c∧(c - 1) % 2=side∧j=(c - 1) / 2:=by
 unfold isMan ofK ofS
 by_cases h:1≤c∧c≤12
 ·rw [if_pos h,if_pos h];simp;omega
 ·rw [if_neg h,if_neg h];simp;omega
def cntR (g:Gm) (p:Ps) (side:Int):List Int:=(ints g.nk).map (menL p.ct side)
set_option maxHeartbeats 8000000 in
set_option maxRecDepth 10000 in
theorem R4Count_p (g:Gm) (hg:g.ok) (p:Ps) (hp:p.ok g) (side:Int) (hs:side=0∨side=1):Pure Tryz.prog 17 [g.av,p.av,I side] (Is (cntR g p side)) none:=by
 have ek:(g.kinds.map Kn).length=g.kinds.length:=List.length_map _
 have ec:(p.ct.map I).length=p.ct.length:=List.length_map _
 have hnk:(g.kinds.length:Int)=g.nk:=rfl
 have k1:=hg.k1
 have k6:=hg.k6
 have c9:=hg.c9
 have hcl:=hp.len
 unfold cntR
 refine fun_of tok D_ok Tryz.func17 rfl Tryz.ntmps17 Tryz.results17 (by kernel_rfl) (by simp) (by simp) ?_
 conv=>whnf
 repeat' (first | (refine lvK ?_;apply Cj.mk <;> first | exact trivial | intros) | (refine lvE ?_;apply Cj.mk <;> first | exact trivial | intros) | fail)
 refine .of (fun i=>[(8,I i)]) (fun i=>[(2,.arr 1 (((ints g.nk).map (menL (p.ct.take i.toNat) side)).map I))]) 3 (fun i=>0≤i∧i≤p.ct.length) (fun i=>(p.ct.length - i).toNat) 0 ?_
 conv=>whnf
 refine ⟨⟨[],hdA (lvL ?_) (lvL ?_)⟩,?_,fun i ⟨i0,i1⟩=>lvN ?_⟩ <;> (try (apply Cj.mk <;> first | exact trivial | intros))
 ·have:(ints g.nk).map (menL (p.ct.take (Int.toNat 0)) side)=List.replicate g.nk.toNat 0:=map_ints_const g.nk 0
  rw [this,rep_I]
  congr 2
 ·exact ⟨by omega,by omega⟩
 have hll:((ints g.nk).map (menL (p.ct.take i.toNat) side)).length=g.nk.toNat:=by rw [List.length_map,ints_len]
 by_cases hi:i < p.ct.length
 ·have hci:=hp.c i i0 (by omega)
  have hsu:=fun j=>menL_succ (side:=side) (kind:=j) i0 hi
  have him:=fun j j0=>isMan_at (side:=side) (j:=j) j0 hci.1 (by omega)
  have hrg:=fun j=>menL_rg (p.ct.take i.toNat) side j
  rw [take_len i0 i1] at hrg
  by_cases hc:0 < nth p.ct i∧(nth p.ct i - 1) % 2=side
  ·have hkn:nth ((ints g.nk).map (menL (p.ct.take i.toNat) side)) ((nth p.ct i - 1) / 2)=menL (p.ct.take i.toNat) side ((nth p.ct i - 1) / 2):=nth_map_ints (by omega) (by omega)
   have hrk:=hrg ((nth p.ct i - 1) / 2)
   repeat' (first | (refine lvK ?_;apply Cj.mk <;> first | exact trivial | intros) | (refine lvE ?_;apply Cj.mk <;> first | exact trivial | intros) | fail)
   all_goals
    refine ⟨i+1,⟨[],hdA (lvL ?_) (lvL ?_)⟩,?_,by (try dsimp only);omega,rfl⟩ <;> (try (apply Cj.mk <;> first | exact trivial | intros))
    ·rw [hkn,set_map_ints (f':=menL (p.ct.take (i+1).toNat) side) (by omega) (by omega) (by rw [hsu,if_pos ((him _ (by omega)).2 ⟨hc.1,hc.2,rfl⟩)]) fun j j0 j1 jn=>by rw [hsu,if_neg (fun h=>jn ((him j j0).1 h).2.2),Int.add_zero]]
    ·exact ⟨by omega,by omega⟩
  ·have hno:(ints g.nk).map (menL (p.ct.take (i+1).toNat) side)=(ints g.nk).map (menL (p.ct.take i.toNat) side):=by
    apply List.map_congr_left
    intro j hj
    rw [hsu,if_neg (fun h=>hc ⟨((him j (mem_ints.1 hj).1).1 h).1,((him j (mem_ints.1 hj).1).1 h).2.1⟩),Int.add_zero]
   repeat' (first | (refine lvK ?_;apply Cj.mk <;> first | exact trivial | intros) | (refine lvE ?_;apply Cj.mk <;> first | exact trivial | intros) | fail)
   all_goals
    refine ⟨i+1,⟨[],hdA (lvL ?_) (lvL ?_)⟩,?_,by (try dsimp only);omega,rfl⟩ <;> (try (apply Cj.mk <;> first | exact trivial | intros))
    ·rw [hno]
    ·exact ⟨by omega,by omega⟩
 ·obtain rfl:i=p.ct.length:=by omega
  rw [take_all (Int.le_refl _)]
  repeat' (first | (refine lvK ?_;apply Cj.mk <;> first | exact trivial | intros) | (refine lvE ?_;apply Cj.mk <;> first | exact trivial | intros) | fail)
theorem cntR_len (g:Gm) (p:Ps) (side:Int):(cntR g p side).length=g.nk.toNat:=by unfold cntR;rw [List.length_map,ints_len]
theorem cntR_nth (g:Gm) (p:Ps) (side:Int) {k:Int} (k0:0≤k) (k1:k < g.nk):nth (cntR g p side) k=menL p.ct side k:=nth_map_ints k0 k1
theorem hnd_ok {g:Gm} {p:Ps} (hp:p.ok g) (s:Int):HdOk g (hnd p s):=by
 unfold hnd
 split
 ·exact hp.h0
 ·exact hp.h1
theorem men_rg {g:Gm} (hg:g.ok) {p:Ps} (hp:p.ok g) (s k:Int):0≤menL p.ct s k∧menL p.ct s k≤9:=by
 have:=menL_rg p.ct s k
 have:=hp.len
 have:=hg.c9
 omega
theorem sum_rg {g:Gm} (hg:g.ok) {p:Ps} (hp:p.ok g) (s:Int) {k:Int} (k1:k≤g.nk):-54≤sumTo (menL p.ct s) k.toNat∧sumTo (menL p.ct s) k.toNat≤54∧-54≤sumTo (nth (hnd p s)) k.toNat∧sumTo (nth (hnd p s)) k.toNat≤54:=by
 have h6:=hg.k6
 have h1:=sumTo_le (menL p.ct s) 9 (by decide) k.toNat fun j j0 j1=>by have:=men_rg hg hp s j;omega
 have h2:=sumTo_le (nth (hnd p s)) 9 (by decide) k.toNat fun j j0 j1=>by have:=(hnd_ok hp s).v j j0 (by omega);omega
 omega
set_option maxHeartbeats 8000000 in
set_option maxRecDepth 10000 in
theorem Men_p (g:Gm) (hg:g.ok) (p:Ps) (hp:p.ok g) (side:Int) (hs:side=0∨side=1):Pure Tryz.prog 16 [g.av,p.av,I side] (.ag [I (sumTo (menL p.ct side) g.nk.toNat),I (sumTo (nth (hnd p side)) g.nk.toNat)]) none:=by
 have ek:(g.kinds.map Kn).length=g.kinds.length:=List.length_map _
 have e0:(p.h0.map I).length=p.h0.length:=List.length_map _
 have e1:(p.h1.map I).length=p.h1.length:=List.length_map _
 have hnk:(g.kinds.length:Int)=g.nk:=rfl
 have k1:=hg.k1
 have k6:=hg.k6
 have l0:=hp.h0.len
 have l1:=hp.h1.len
 have hc:=R4Count_p g hg p hp side hs
 have hcl:=cntR_len g p side
 have hcm:((cntR g p side).map I).length=(cntR g p side).length:=List.length_map _
 have hsr:=fun k (h:k≤g.nk)=>sum_rg hg hp side h
 rcases hs with rfl | rfl
 ·refine fun_of tok D_ok Tryz.func16 rfl Tryz.ntmps16 Tryz.results16 (by kernel_rfl) (by simp) (by simp) ?_
  conv=>whnf
  repeat' (first | (refine lvK ?_;apply Cj.mk <;> first | exact trivial | intros) | (refine lvE ?_;apply Cj.mk <;> first | exact trivial | intros) | fail)
  refine .of (fun k=>[(8,I k)]) (fun k=>[(3,.box [I (sumTo (menL p.ct 0) k.toNat),I (sumTo (nth (hnd p 0)) k.toNat)])]) 4 (fun k=>0≤k∧k≤g.nk) (fun k=>(g.nk - k).toNat) 0 ?_
  conv=>whnf
  refine ⟨⟨[],hdA (lvL ?_) (lvL ?_)⟩,?_,fun k ⟨q0,q1⟩=>lvN ?_⟩ <;> (try (apply Cj.mk <;> first | exact trivial | intros))
  ·exact ⟨by omega,by omega⟩
  have h1:=hsr k q1
  by_cases hk:k < g.nk
  ·have h2:=hsr (k+1) (by omega)
   have a1:=sumTo_succ (menL p.ct 0) q0
   have a2:=sumTo_succ (nth (hnd p 0)) q0
   have a3:=cntR_nth g p 0 q0 hk
   have a4:nth (hnd p 0) k=nth p.h0 k:=rfl
   repeat' (first | ((first | refine lvK ?_ | refine ⟨_,_,hc,lvN ?_⟩ | (refine .inl ?_;(conv=>whnf);first | refine ⟨_,_,hc,lvN ?_⟩));apply Cj.mk <;> first | exact trivial | intros) | (refine lvE ?_;apply Cj.mk <;> first | exact trivial | intros) | fail)
   refine ⟨k+1,⟨[],hdA (lvL ?_) (lvL ?_)⟩,?_,by (try dsimp only);omega,rfl⟩ <;> (try (apply Cj.mk <;> first | exact trivial | intros))
   ·rw [a1,a3]
   ·rw [a2,a4]
   ·exact ⟨by omega,by omega⟩
  ·obtain rfl:k=g.nk:=by omega
   repeat' (first | (refine lvK ?_;apply Cj.mk <;> first | exact trivial | intros) | (refine lvE ?_;apply Cj.mk <;> first | exact trivial | intros) | fail)
 ·refine fun_of tok D_ok Tryz.func16 rfl Tryz.ntmps16 Tryz.results16 (by kernel_rfl) (by simp) (by simp) ?_
  conv=>whnf
  repeat' (first | (refine lvK ?_;apply Cj.mk <;> first | exact trivial | intros) | (refine lvE ?_;apply Cj.mk <;> first | exact trivial | intros) | fail)
  refine .of (fun k=>[(8,I k)]) (fun k=>[(3,.box [I (sumTo (menL p.ct 1) k.toNat),I (sumTo (nth (hnd p 1)) k.toNat)])]) 4 (fun k=>0≤k∧k≤g.nk) (fun k=>(g.nk - k).toNat) 0 ?_
  conv=>whnf
  refine ⟨⟨[],hdA (lvL ?_) (lvL ?_)⟩,?_,fun k ⟨q0,q1⟩=>lvN ?_⟩ <;> (try (apply Cj.mk <;> first | exact trivial | intros))
  ·exact ⟨by omega,by omega⟩
  have h1:=hsr k q1
  by_cases hk:k < g.nk
  ·have h2:=hsr (k+1) (by omega)
   have a1:=sumTo_succ (menL p.ct 1) q0
   have a2:=sumTo_succ (nth (hnd p 1)) q0
   have a3:=cntR_nth g p 1 q0 hk
   have a4:nth (hnd p 1) k=nth p.h1 k:=rfl
   repeat' (first | ((first | refine lvK ?_ | refine ⟨_,_,hc,lvN ?_⟩ | (refine .inl ?_;(conv=>whnf);first | refine ⟨_,_,hc,lvN ?_⟩));apply Cj.mk <;> first | exact trivial | intros) | (refine lvE ?_;apply Cj.mk <;> first | exact trivial | intros) | fail)
   refine ⟨k+1,⟨[],hdA (lvL ?_) (lvL ?_)⟩,?_,by (try dsimp only);omega,rfl⟩ <;> (try (apply Cj.mk <;> first | exact trivial | intros))
   ·rw [a1,a3]
   ·rw [a2,a4]
   ·exact ⟨by omega,by omega⟩
  ·obtain rfl:k=g.nk:=by omega
   repeat' (first | (refine lvK ?_;apply Cj.mk <;> first | exact trivial | intros) | (refine lvE ?_;apply Cj.mk <;> first | exact trivial | intros) | fail)
end Go.Proofs.YthgobfncgnjimaaGreatDoor
