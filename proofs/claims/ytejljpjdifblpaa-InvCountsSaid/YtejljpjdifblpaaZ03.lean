/- Contracts of functions of the program, proved by the checker; and plain laws. -/
import Derived.Test.YtejljpjdifblpaaZ02
set_option linter.unusedVariables false
set_option linter.unusedSimpArgs false
namespace Go.Proofs.Ytejljpjdifblpaa
open Go Go.Sk
def code (k s:Int):Int:=if 0≤k∧k≤5∧0≤s∧s≤1 then 1+2 * k+s else 0
def ofK (c:Int):Int:=if 1≤c∧c≤12 then (c - 1) / 2 else -1
def ofS (c:Int):Int:=if 1≤c∧c≤12 then (c - 1) % 2 else -1
set_option maxRecDepth 10000 in
theorem In_p (n a b:Int):Pure Try.prog 75 [I n,I a,I b] (Bo (decide (a≤n∧n≤b))) none:=by
 refine fun_of tok D_ok Try.func75 rfl Try.ntmps75 Try.results75 (by kernel_rfl) (by simp) (by simp) ?_
 conv=>whnf
 repeat' ((first
  | refine lvA ?_
  | refine lvE ?_
  | fail) <;> try (apply Cj.mk <;> first | exact trivial | intros))
 ·congr 1;simp;omega
 ·congr 1;simp;omega
set_option maxRecDepth 10000 in
theorem Of_p (c:Int) (hc:-1000000≤c∧c≤1000000):Pure Try.prog 57 [I c] (.ag [I (ofK c),I (ofS c)]) none:=by
 refine fun_of tok D_ok Try.func57 rfl Try.ntmps57 Try.results57 (by kernel_rfl) (by simp) (by simp) ?_
 conv=>whnf
 repeat' ((first
  | refine lvA ?_
  | refine ⟨_,_,In_p _ _ _,lvN ?_⟩
  | (refine .inl ?_;(conv=>whnf);refine ⟨_,_,In_p _ _ _,lvN ?_⟩)
  | refine lvE ?_
  | fail) <;> try (apply Cj.mk <;> first | exact trivial | intros))
 all_goals (congr 1;first | unfold ofK | unfold ofS)
 all_goals first | rw [if_pos (by omega)] | rw [if_neg (by omega)]
set_option maxRecDepth 10000 in
theorem Code_p (k s:Int):Pure Try.prog 60 [I k,I s] (I (code k s)) none:=by
 refine fun_of tok D_ok Try.func60 rfl Try.ntmps60 Try.results60 (by kernel_rfl) (by simp) (by simp) ?_
 conv=>whnf
 repeat' ((first
  | refine lvA ?_
  | refine ⟨_,_,In_p _ _ _,lvN ?_⟩
  | (refine .inl ?_;(conv=>whnf);refine ⟨_,_,In_p _ _ _,lvN ?_⟩)
  | refine lvE ?_
  | fail) <;> try (apply Cj.mk <;> first | exact trivial | intros))
 all_goals (congr 1;unfold code)
 all_goals first | rw [if_pos (by omega)] | rw [if_neg (by omega)]
def StpOk (dirs kinds rights:Int) (x:Stp):Prop :=
 (x.op=1∨x.op=2∨x.op=7)∧0≤x.n∧x.n < dirs∨(3≤x.op∧x.op≤6)∧x.n=0∨x.op=8∧0≤x.n∧x.n < kinds∨(x.op=9∨x.op=10)∧0≤x.n∧x.n < rights
structure PgOk (dirs kinds rights:Int) (p:List Stp):Prop where
 l1:1≤p.length
 l8:p.length≤8
 st:∀ x,x∈p→StpOk dirs kinds rights x
def Gm.nk (g:Gm):Int:=g.kinds.length
def Gm.nd (g:Gm):Int:=g.b.next.length
structure Cl.ok (g:Gm) (c:Cl):Prop where
 t1:1≤c.thn
 t3:c.thn≤3
 cs:c.cf=1∧0≤c.kind∧c.kind < g.nk∧c.n=0∨c.cf=2∧0≤c.kind∧c.kind < g.nk∧0≤c.n∧c.n < g.b.cells∨c.cf=3∧c.kind=0∧0≤c.n∧c.n≤64
structure Gm.ok (g:Gm):Prop where
 b:g.b.ok
 c9:g.b.cells≤9
 k1:1≤g.nk
 k6:g.nk≤6
 pl:∀ k:Int,0≤k→k < g.nk→(nth g.kinds k).progs.length≤8
 pg:∀ k:Int,0≤k→k < g.nk→∀ p,p∈(nth g.kinds k).progs→PgOk g.nd g.nk g.rights p
 r0:0≤g.rights
 r4:g.rights≤4
 cl:g.cls.length≤6
 cs:∀ c,c∈g.cls→c.ok g
 bl:1≤g.blocked∧g.blocked≤3
 en:1≤g.endless∧g.endless≤3
def Gm.keep (g:Gm) (k:Int):Bool:=(nth g.kinds k).keep
structure HdOk (g:Gm) (l:List Int):Prop where
 len:(l.length:Int)=g.nk
 v:∀ k:Int,0≤k→k < g.nk→0≤nth l k∧nth l k≤8∧(0 < nth l k→g.keep k=true)
structure Ps.ok (g:Gm) (p:Ps):Prop where
 len:(p.ct.length:Int)=g.b.cells
 c:∀ i:Int,0≤i→i < g.b.cells→0≤nth p.ct i∧nth p.ct i≤2 * g.nk
 h0:HdOk g p.h0
 h1:HdOk g p.h1
 r0:0≤p.rights
 r1:p.rights < 2 ^ g.rights.toNat
 s:p.side=0∨p.side=1
theorem HdOk_iff (g:Gm) (l:List Int):HdOk g l↔(l.length:Int)=g.nk∧∀ k,k∈ints g.nk→0≤nth l k∧nth l k≤8∧(0 < nth l k→g.keep k=true) :=
 ⟨fun h=>⟨h.len,fun k hk=>h.v k (mem_ints.1 hk).1 (mem_ints.1 hk).2⟩,fun h=>⟨h.1,fun k k0 k1=>h.2 k (mem_ints.2 ⟨k0,k1⟩)⟩⟩
instance (g:Gm) (l:List Int):Decidable (HdOk g l):=decidable_of_iff _ (HdOk_iff g l).symm
theorem Ps.ok_iff (g:Gm) (p:Ps):p.ok g↔(p.ct.length:Int)=g.b.cells∧(∀ i,i∈ints g.b.cells→0≤nth p.ct i∧nth p.ct i≤2 * g.nk)∧HdOk g p.h0∧HdOk g p.h1∧0≤p.rights∧p.rights < 2 ^ g.rights.toNat∧(p.side=0∨p.side=1) :=
 ⟨fun h=>⟨h.len,fun k hk=>h.c k (mem_ints.1 hk).1 (mem_ints.1 hk).2,h.h0,h.h1,h.r0,h.r1,h.s⟩,fun ⟨h1,h2,h3,h4,h5,h6,h7⟩=>⟨h1,fun k k0 k1=>h2 k (mem_ints.2 ⟨k0,k1⟩),h3,h4,h5,h6,h7⟩⟩
instance (g:Gm) (p:Ps):Decidable (p.ok g):=decidable_of_iff _ (Ps.ok_iff g p).symm
structure R4 where
 c0:Int
 c1:Int
 c2:Int
 c3:Int
 c4:Int
 c5:Int
 k0:Int
 k1:Int
 k2:Int
 k3:Int
 k4:Int
 k5:Int
 h0:Int
 h1:Int
 h2:Int
 h3:Int
 r:Int
 s:Int
def R4.l (x:R4):List Int:=[x.c0,x.c1,x.c2,x.c3,x.c4,x.c5,x.k0,x.k1,x.k2,x.k3,x.k4,x.k5,x.h0,x.h1,x.h2,x.h3,x.r,x.s]
def R4.cs (x:R4):List AV:=[U8 x.c0,U8 x.c1,U8 x.c2,U8 x.c3,U8 x.c4,U8 x.c5,U8 x.k0,U8 x.k1,U8 x.k2,U8 x.k3,U8 x.k4,U8 x.k5,U8 x.h0,U8 x.h1,U8 x.h2,U8 x.h3,U8 x.r,U8 x.s]
def R4.ok (x:R4):Prop:=∀ n,n∈x.l→b8 n
def R4.put (x:R4) (cells nk:Int) (l:List Int) (i:Int):List Int :=
 if nth x.l i % (cells+1) < cells then l.set (nth x.l i % (cells+1)).toNat (1+2 * (nth x.l (6+i) % nk)+i % 2) else l
def R4.ct (x:R4) (cells nk i:Int):List Int:=(ints i).foldl (x.put cells nk) (List.replicate cells.toNat 0)
theorem R4.ct_succ (x:R4) (cells nk:Int) {i:Int} (h:0≤i):x.ct cells nk (i+1)=x.put cells nk (x.ct cells nk i) i:=by unfold R4.ct;rw [ints_succ h,List.foldl_append];rfl
theorem R4.put_len (x:R4) (cells nk:Int) (l:List Int) (i:Int):(x.put cells nk l i).length=l.length:=by unfold R4.put;split <;> simp
theorem R4.ct_len (x:R4) (cells nk i:Int):(x.ct cells nk i).length=cells.toNat:=by
 unfold R4.ct
 have:∀ (is:List Int) (l:List Int),(is.foldl (x.put cells nk) l).length=l.length:=by
  intro is
  induction is with
  | nil=>intro l;rfl
  | cons i r ih=>intro l;rw [List.foldl_cons,ih,R4.put_len]
 rw [this,List.length_replicate]
def hv (keep:Bool) (n:Int):Int:=if keep then (if n > 250 then 8 else n % 3) else 0
def R4.hand (x:R4) (g:Gm) (s:Int):List Int:=(ints g.nk).map fun k=>hv (g.keep k) (nth x.l (12+2 * s+k))
def R4.made (x:R4) (g:Gm):Ps:=⟨x.ct g.b.cells g.nk 6,x.hand g 0,x.hand g 1,x.r % 2 ^ g.rights.toNat,x.s % 2⟩
theorem nth_set {l:List Int} {v:Int} {i j:Int} (h0:0≤i) (h1:0≤j) (h:i < l.length):nth (l.set i.toNat v) j=if i=j then v else nth l j:=by
 split
 ·rename_i e;subst e;exact nth_set_eq h0 h
 ·rename_i e;exact nth_set_ne h0 h1 e
theorem R4.ct_rg {x:R4} {cells nk:Int} (hk:1≤nk) (hc:1≤cells):∀ (n:Nat) (j:Int),0≤j→j < cells→0≤nth (x.ct cells nk n) j∧nth (x.ct cells nk n) j≤2 * nk
 | 0,j,h0,h1=>by
  have:nth (x.ct cells nk (0:Nat)) j=0:=by
   show nth (List.replicate cells.toNat 0) j=0
   unfold nth
   rw [List.getD_eq_getElem?_getD,List.getElem?_replicate,if_pos (by omega)];rfl
  rw [this];omega
 | n+1,j,h0,h1=>by
  have ih:=R4.ct_rg (x:=x) hk hc n j h0 h1
  rw [show ((n+1:Nat):Int)=(n:Int)+1 by omega,R4.ct_succ x _ _ (by omega)]
  unfold R4.put
  split
  ·have m0:=Int.emod_nonneg (nth x.l n) (show cells+1≠0 by omega)
   have m1:=Int.emod_nonneg (nth x.l (6+n)) (show nk≠0 by omega)
   have m2:=Int.emod_lt_of_pos (nth x.l (6+n)) (show 0 < nk by omega)
   rw [nth_set m0 h0 (by rw [R4.ct_len];omega)]
   split
   ·omega
   ·exact ih
  ·exact ih
theorem R4.hand_ok {x:R4} (hx:x.ok) {g:Gm} (hk:g.nk≤2) {s:Int} (hs:s=0∨s=1):HdOk g (x.hand g s):=by
 have hn0:0≤g.nk:=by unfold Gm.nk;omega
 refine ⟨by unfold R4.hand;rw [List.length_map,ints_len];omega,fun k k0 k1=>?_⟩
 unfold R4.hand
 rw [nth_map_ints k0 k1]
 have hb:b8 (nth x.l (12+2 * s+k)):=hx _ (nth_mem (by omega) (by show _ < ((18:Nat):Int);omega))
 unfold b8 at hb
 unfold hv
 split
 ·rename_i hkp
  split <;> exact ⟨by omega,by omega,fun _=>hkp⟩
 ·exact ⟨by omega,by omega,fun h=>by omega⟩
theorem R4.made_ok {x:R4} (hx:x.ok) {g:Gm} (hg:g.ok) (hk:g.nk≤2):(x.made g).ok g:=by
 have c1:=hg.b.c1
 have hp:(0:Int) < 2 ^ g.rights.toNat:=Int.pow_pos (by decide)
 refine ⟨by show (((x.ct g.b.cells g.nk 6).length:Nat):Int)=_;rw [R4.ct_len];omega,fun i i0 i1=>R4.ct_rg hg.k1 c1 6 i i0 i1,R4.hand_ok hx hk (.inl rfl),R4.hand_ok hx hk (.inr rfl),Int.emod_nonneg _ (by omega),Int.emod_lt_of_pos _ hp,?_⟩
 show x.s % 2=0∨x.s % 2=1
 omega
def Pss (l:List Ps):AV:=.sl (l.map Ps.av)
def leP (p q:Ps):Bool:=decide (cmpP p q≤0)
theorem leP_trans (a b c:Ps) (h1:leP a b) (h2:leP b c):leP a c:=by
 unfold leP at *
 simp only [decide_eq_true_eq] at *
 by_cases e1:cmpP a b=0
 ·rw [(cmpP_tot.eq0 _ _).1 e1];exact h2
 ·by_cases e2:cmpP b c=0
  ·rw [← (cmpP_tot.eq0 _ _).1 e2];exact h1
  ·have:=cmpP_tot.trans a b c (by omega) (by omega);omega
theorem leP_total (a b:Ps):(leP a b || leP b a)=true:=by
 unfold leP
 have:=cmpP_tot.anti a b
 simp only [Bool.or_eq_true,decide_eq_true_eq]
 omega
def mgP (a b:List Ps):List Ps:=List.merge a b leP
def halfM:Nat→List Ps→List Ps
 | 0,l=>l
 | n+1,l=>if l.length < 2 then l else mgP (halfM n (l.take (l.length / 2))) (halfM n (l.drop (l.length / 2)))
theorem halfM_len:∀ (n:Nat) (l:List Ps),(halfM n l).length=l.length
 | 0,l=>rfl
 | n+1,l=>by
  unfold halfM
  split
  ·rfl
  ·unfold mgP
   rw [List.length_merge,halfM_len,halfM_len,List.length_take,List.length_drop]
   omega
theorem mem_halfM:∀ (n:Nat) (l:List Ps) (x:Ps),x∈halfM n l↔x∈l
 | 0,l,x=>Iff.rfl
 | n+1,l,x=>by
  unfold halfM
  split
  ·exact Iff.rfl
  ·unfold mgP
   rw [List.mem_merge,mem_halfM,mem_halfM]
   conv=>rhs;rw [← List.take_append_drop (l.length / 2) l,List.mem_append]
theorem halfM_sorted:∀ (n:Nat) (l:List Ps),l.length≤n+1→(halfM n l).Pairwise fun a b=>leP a b
 | 0,l,h=>by
  match l,h with
  | [],_=>simp [halfM]
  | [x],_=>simp [halfM]
  | _ :: _ :: _,h=>simp at h
 | n+1,l,h=>by
  unfold halfM
  split
  ·match l with
   | []=>simp
   | [x]=>simp
   | _ :: _ :: _=>rename_i q;simp at q;omega
  ·refine List.pairwise_merge (fun a b c=>leP_trans a b c) (fun a b=>leP_total a b) _ _ (halfM_sorted n _ ?_) (halfM_sorted n _ ?_)
   ·rw [List.length_take];omega
   ·rw [List.length_drop];omega
theorem mgP_left {a b:List Ps} {i k:Int} (i0:0≤i) (k0:0≤k) (hi:i < a.length) (h:k < b.length→cmpP (nth a i) (nth b k)≤0):mgP (a.drop i.toNat) (b.drop k.toNat)=nth a i :: mgP (a.drop (i+1).toNat) (b.drop k.toNat):=by
 unfold mgP
 rw [drop_nth i0 hi]
 by_cases hk:k < b.length
 ·rw [drop_nth k0 hk,List.cons_merge_cons_pos _ _ _ (by unfold leP;exact decide_eq_true (h hk))]
 ·rw [drop_all (l:=b) (by omega),List.merge_right,List.merge_right]
theorem mgP_right {a b:List Ps} {i k:Int} (i0:0≤i) (k0:0≤k) (hk:k < b.length) (h:i < a.length→¬ cmpP (nth a i) (nth b k)≤0):mgP (a.drop i.toNat) (b.drop k.toNat)=nth b k :: mgP (a.drop i.toNat) (b.drop (k+1).toNat):=by
 unfold mgP
 rw [drop_nth (l:=b) k0 hk]
 by_cases hi:i < a.length
 ·rw [drop_nth i0 hi,List.cons_merge_cons_neg _ _ _ (by unfold leP;simpa using h hi)]
 ·rw [drop_all (l:=a) (by omega),List.nil_merge,List.nil_merge]
structure MG where
 i:Int
 k:Int
 out:List Ps
instance:Inhabited MG:=⟨⟨0,0,[]⟩⟩
set_option maxHeartbeats 4000000 in
set_option maxRecDepth 10000 in
theorem R4half_p:∀ (n:Nat) (l:List Ps),l.length≤n+1→l.length≤10000000000→(∀ p,p∈l→p.small)→Pure Try.prog 61 [Pss l] (Pss (halfM n l)) none:=by
 intro n
 induction n with
 | zero =>
  intro l h1 h2 h3
  have e:(l.map Ps.av).length=l.length:=List.length_map _
  refine fun_of tok D_ok Try.func61 rfl Try.ntmps61 Try.results61 (by kernel_rfl) (by simp) (by simp) ?_
  conv=>whnf
  repeat' ((first
   | refine lvK ?_
   | refine lvE ?_
   | fail) <;> try (apply Cj.mk <;> first | exact trivial | intros))
 | succ n ih =>
  intro l h1 h2 h3
  have e:(l.map Ps.av).length=l.length:=List.length_map _
  have hu:halfM (n+1) l=if l.length < 2 then l else mgP (halfM n (l.take (l.length / 2))) (halfM n (l.drop (l.length / 2))):=rfl
  rw [hu]
  refine fun_of tok D_ok Try.func61 rfl Try.ntmps61 Try.results61 (by kernel_rfl) (by simp) (by simp) ?_
  conv=>whnf
  by_cases h:l.length < 2
  ·rw [if_pos h]
   repeat' ((first
    | refine lvK ?_
    | refine lvE ?_
    | fail) <;> try (apply Cj.mk <;> first | exact trivial | intros))
  ·rw [if_neg h]
   have c1:=ih (l.take (l.length / 2)) (by rw [List.length_take];omega) (by rw [List.length_take];omega) (fun p hp=>h3 p (List.mem_of_mem_take hp))
   have c2:=ih (l.drop (l.length / 2)) (by rw [List.length_drop];omega) (by rw [List.length_drop];omega) (fun p hp=>h3 p (List.mem_of_mem_drop hp))
   have lA:=halfM_len n (l.take (l.length / 2))
   have lB:=halfM_len n (l.drop (l.length / 2))
   have hA:∀ p,p∈halfM n (l.take (l.length / 2))→p.small:=fun p hp=>h3 p (List.mem_of_mem_take ((mem_halfM _ _ _).1 hp))
   have hB:∀ p,p∈halfM n (l.drop (l.length / 2))→p.small:=fun p hp=>h3 p (List.mem_of_mem_drop ((mem_halfM _ _ _).1 hp))
   rw [List.length_take] at lA
   rw [List.length_drop] at lB
   rw [show l.take (l.length / 2)=(l.take ((((l.map Ps.av).length:Int) / 2).toNat)).drop 0 by rw [List.drop_zero];congr 1;omega] at c1 lA hA
   rw [show l.drop (l.length / 2)=(l.take (((l.map Ps.av).length:Int).toNat)).drop ((((l.map Ps.av).length:Int) / 2).toNat) by rw [List.take_of_length_le (by omega)];congr 1;omega] at c2 lB hB
   rw [show l.take (l.length / 2)=(l.take ((((l.map Ps.av).length:Int) / 2).toNat)).drop 0 by rw [List.drop_zero];congr 1;omega,show l.drop (l.length / 2)=(l.take (((l.map Ps.av).length:Int).toNat)).drop ((((l.map Ps.av).length:Int) / 2).toNat) by rw [List.take_of_length_le (by omega)];congr 1;omega]
   repeat' ((first
    | refine lvK ?_
    | refine ⟨_,_,c1,lvN ?_⟩
    | (refine .inl ?_;(conv=>whnf);refine ⟨_,_,c1,lvN ?_⟩)
    | refine ⟨_,_,c2,lvN ?_⟩
    | (refine .inl ?_;(conv=>whnf);refine ⟨_,_,c2,lvN ?_⟩)
    | fail) <;> try (apply Cj.mk <;> first | exact trivial | intros))
   generalize halfM n ((l.take ((((l.map Ps.av).length:Int) / 2).toNat)).drop 0)=A at *
   generalize halfM n ((l.take (((l.map Ps.av).length:Int).toNat)).drop ((((l.map Ps.av).length:Int) / 2).toNat))=B at *
   have eA:(A.map Ps.av).length=A.length:=List.length_map _
   have eB:(B.map Ps.av).length=B.length:=List.length_map _
   refine .of (fun (s:MG)=>[(6,I s.i),(7,I s.k),(5,.ref 0)]) (fun (s:MG)=>[(0,.arr 5 (s.out.map Ps.av))]) 1 (fun (s:MG)=>0≤s.i∧s.i≤A.length∧0≤s.k∧s.k≤B.length∧s.out.length=s.i+s.k∧s.out++mgP (A.drop s.i.toNat) (B.drop s.k.toNat)=mgP A B) (fun (s:MG)=>(A.length - s.i+B.length - s.k).toNat) (⟨0,0,[]⟩:MG) ?_
   conv=>whnf
   refine ⟨⟨[],hdA (lvL ?_) (lvL ?_)⟩,?_,fun (s:MG) ⟨i0,i1,k0,k1,ol,hs⟩=>lvN ?_⟩ <;> (try (apply Cj.mk <;> first | exact trivial | intros))
   ·refine ⟨?_,?_,?_,?_,?_,?_⟩ <;> simp
   obtain ⟨i,k,out⟩:=s
   dsimp only at *
   have cc:i < A.length→k < B.length→Pure Try.prog 78 [(nth A i).av,(nth B k).av] (I (cmpP (nth A i) (nth B k))) none:=fun q1 q2=>R4Compare_p _ _ (hA _ (nth_mem i0 q1)) (hB _ (nth_mem k0 q2))
   by_cases hL:i < A.length∧(k < B.length→cmpP (nth A i) (nth B k)≤0)
   ·have hm:=mgP_left i0 k0 hL.1 hL.2
    have hL1:=hL.1
    by_cases hk:k < B.length
    ·have hL2:=hL.2 hk
     repeat' ((first
      | refine lvK ?_
      | refine ⟨_,_,(cc (by omega) (by omega)),lvN ?_⟩
      | (refine .inl ?_;(conv=>whnf);refine ⟨_,_,(cc (by omega) (by omega)),lvN ?_⟩)
      | fail) <;> try (apply Cj.mk <;> first | exact trivial | intros))
     refine ⟨(⟨i+1,k,out++[nth A i]⟩:MG),⟨[],hdA (lvL ?_) (lvL ?_)⟩,?_,by (try dsimp only);omega,rfl⟩ <;> (try (apply Cj.mk <;> first | exact trivial | intros))
     ·dsimp only
      refine ⟨by omega,by omega,by omega,by omega,?_,?_⟩
      ·rw [List.length_append,List.length_singleton];omega
      ·rw [← hs,hm,List.append_assoc];rfl
    ·repeat' ((first
      | refine lvK ?_
      | refine ⟨_,_,(cc (by omega) (by omega)),lvN ?_⟩
      | (refine .inl ?_;(conv=>whnf);refine ⟨_,_,(cc (by omega) (by omega)),lvN ?_⟩)
      | fail) <;> try (apply Cj.mk <;> first | exact trivial | intros))
     refine ⟨(⟨i+1,k,out++[nth A i]⟩:MG),⟨[],hdA (lvL ?_) (lvL ?_)⟩,?_,by (try dsimp only);omega,rfl⟩ <;> (try (apply Cj.mk <;> first | exact trivial | intros))
     ·dsimp only
      refine ⟨by omega,by omega,by omega,by omega,?_,?_⟩
      ·rw [List.length_append,List.length_singleton];omega
      ·rw [← hs,hm,List.append_assoc];rfl
   ·by_cases hk:k < B.length
    ·have hm:=mgP_right (a:=A) i0 k0 hk (fun q q'=>hL ⟨q,fun _=>q'⟩)
     have hr:i < A.length→0 < cmpP (nth A i) (nth B k):=fun q=>by
      rcases Int.lt_or_le 0 (cmpP (nth A i) (nth B k)) with h | h
      ·exact h
      ·exact absurd ⟨q,fun _=>h⟩ hL
     by_cases hi:i < A.length
     ·have hr':=hr hi
      repeat' ((first
       | refine lvK ?_
       | refine ⟨_,_,(cc (by omega) (by omega)),lvN ?_⟩
       | (refine .inl ?_;(conv=>whnf);refine ⟨_,_,(cc (by omega) (by omega)),lvN ?_⟩)
       | fail) <;> try (apply Cj.mk <;> first | exact trivial | intros))
      refine ⟨(⟨i,k+1,out++[nth B k]⟩:MG),⟨[],hdA (lvL ?_) (lvL ?_)⟩,?_,by (try dsimp only);omega,rfl⟩ <;> (try (apply Cj.mk <;> first | exact trivial | intros))
      ·dsimp only
       refine ⟨by omega,by omega,by omega,by omega,?_,?_⟩
       ·rw [List.length_append,List.length_singleton];omega
       ·rw [← hs,hm,List.append_assoc];rfl
     ·repeat' ((first
       | refine lvK ?_
       | refine ⟨_,_,(cc (by omega) (by omega)),lvN ?_⟩
       | (refine .inl ?_;(conv=>whnf);refine ⟨_,_,(cc (by omega) (by omega)),lvN ?_⟩)
       | fail) <;> try (apply Cj.mk <;> first | exact trivial | intros))
      refine ⟨(⟨i,k+1,out++[nth B k]⟩:MG),⟨[],hdA (lvL ?_) (lvL ?_)⟩,?_,by (try dsimp only);omega,rfl⟩ <;> (try (apply Cj.mk <;> first | exact trivial | intros))
      ·dsimp only
       refine ⟨by omega,by omega,by omega,by omega,?_,?_⟩
       ·rw [List.length_append,List.length_singleton];omega
       ·rw [← hs,hm,List.append_assoc];rfl
    ·have hi:¬ i < A.length:=fun q=>hL ⟨q,fun h=>absurd h hk⟩
     have he:out=mgP A B:=by
      rw [← hs,drop_all (l:=A) (by omega),drop_all (l:=B) (by omega)]
      simp [mgP]
     rw [← he]
     repeat' ((first
      | refine lvK ?_
      | refine lvE ?_
      | fail) <;> try (apply Cj.mk <;> first | exact trivial | intros))
structure SortI (A:List Ps) (i:Int) (out:List Ps):Prop where
 asc:Asc cmpP out
 mem:∀ x,x∈out↔x∈A.take i.toNat
 len:out.length≤i.toNat
theorem sorted_nth {A:List Ps} (h:A.Pairwise fun a b=>leP a b) {j i:Int} (j0:0≤j) (hj:j < i) (hi:i < A.length):cmpP (nth A j) (nth A i)≤0:=by
 have:=List.pairwise_iff_getElem.1 h j.toNat i.toNat (by omega) (by omega) (by omega)
 have e1:nth A j=A[j.toNat]:=by unfold nth;rw [List.getD_eq_getElem?_getD,List.getElem?_eq_getElem (by omega)];rfl
 have e2:nth A i=A[i.toNat]:=by unfold nth;rw [List.getD_eq_getElem?_getD,List.getElem?_eq_getElem (by omega)];rfl
 rw [e1,e2]
 unfold leP at this
 exact of_decide_eq_true this
theorem SortI.zero (A:List Ps):SortI A 0 []:=⟨by simp [Asc],by simp,by simp⟩
theorem SortI.add {A:List Ps} (h:A.Pairwise fun a b=>leP a b) {i:Int} {out:List Ps} (i0:0≤i) (hi:i < A.length) (hs:SortI A i out) (hn:i=0∨nth A i≠nth A (i - 1)):SortI A (i+1) (out++[nth A i]):=by
 refine ⟨?_,fun x=>?_,?_⟩
 ·unfold Asc
  rw [List.pairwise_append]
  refine ⟨hs.asc,by simp,fun y hy z hz=>?_⟩
  simp only [List.mem_singleton] at hz
  subst hz
  rw [hs.mem] at hy
  obtain ⟨j,j0,j1,rfl⟩:=mem_nth hy
  rw [List.length_take] at j1
  rw [show nth (A.take i.toNat) j=nth A j by unfold nth;rw [List.getD_eq_getElem?_getD,List.getD_eq_getElem?_getD,List.getElem?_take,if_pos (by omega)]]
  have h1:=sorted_nth h j0 (show j < i by omega) hi
  rcases Int.lt_or_eq_of_le h1 with h2 | h2
  ·exact h2
  ·exfalso
   have e:=(cmpP_tot.eq0 _ _).1 h2
   rcases hn with hn | hn
   ·omega
   ·by_cases hj:j=i - 1
    ·exact hn (by rw [← e,hj])
    ·have h3:=sorted_nth h j0 (show j < i - 1 by omega) (by omega)
     have h4:=sorted_nth h (show 0≤i - 1 by omega) (show i - 1 < i by omega) hi
     rw [e] at h3
     have h5:=cmpP_tot.anti (nth A i) (nth A (i - 1))
     exact hn ((cmpP_tot.eq0 _ _).1 (by omega))
 ·rw [take_snoc i0 hi,List.mem_append,List.mem_append,hs.mem]
 ·rw [List.length_append,List.length_singleton];have:=hs.len;omega
theorem SortI.skip {A:List Ps} {i:Int} {out:List Ps} (i0:0 < i) (hi:i < A.length) (hs:SortI A i out) (hn:nth A i=nth A (i - 1)):SortI A (i+1) out:=by
 refine ⟨hs.asc,fun x=>?_,by have:=hs.len;omega⟩
 rw [take_snoc (by omega) hi,List.mem_append,hs.mem]
 refine ⟨.inl,fun hx=>?_⟩
 rcases hx with hx | hx
 ·exact hx
 ·simp only [List.mem_singleton] at hx
  subst hx
  rw [hn]
  have e:nth (A.take i.toNat) (i - 1)=nth A (i - 1):=by unfold nth;rw [List.getD_eq_getElem?_getD,List.getD_eq_getElem?_getD,List.getElem?_take,if_pos (by omega)]
  rw [← e]
  exact nth_mem (by omega) (by rw [List.length_take];omega)
structure SL where
 i:Int
 out:List Ps
instance:Inhabited SL:=⟨⟨0,[]⟩⟩
set_option maxHeartbeats 4000000 in
set_option maxRecDepth 10000 in
theorem R4Sort_p (l:List Ps) (h2:l.length≤10000000000) (h3:∀ p,p∈l→p.small):Pure Try.prog 45 [Pss l] (Pss (canon cmpP l)) none:=by
 have c:=R4half_p l.length l (by omega) h2 h3
 have hl:=halfM_len l.length l
 have hm:=mem_halfM l.length l
 have hso:=halfM_sorted l.length l (by omega)
 generalize halfM l.length l=A at *
 have hA:∀ p,p∈A→p.small:=fun p hp=>h3 p ((hm p).1 hp)
 have eA:(A.map Ps.av).length=A.length:=List.length_map _
 refine fun_of tok D_ok Try.func45 rfl Try.ntmps45 Try.results45 (by kernel_rfl) (by simp) (by simp) ?_
 conv=>whnf
 repeat' ((first
  | refine lvA ?_
  | refine ⟨_,_,c,lvN ?_⟩
  | (refine .inl ?_;(conv=>whnf);refine ⟨_,_,c,lvN ?_⟩)
  | fail) <;> try (apply Cj.mk <;> first | exact trivial | intros))
 refine .of (fun (s:SL)=>[(5,I s.i),(4,.ref 0)]) (fun (s:SL)=>[(0,.arr 5 (s.out.map Ps.av))]) 1 (fun (s:SL)=>0≤s.i∧s.i≤A.length∧SortI A s.i s.out) (fun (s:SL)=>(A.length - s.i).toNat) (⟨0,[]⟩:SL) ?_
 conv=>whnf
 refine ⟨⟨[],hdA (lvL ?_) (lvL ?_)⟩,?_,fun (s:SL) ⟨i0,i1,hs⟩=>lvN ?_⟩ <;> (try (apply Cj.mk <;> first | exact trivial | intros))
 ·exact ⟨by simp,by simp,SortI.zero A⟩
 obtain ⟨i,out⟩:=s
 dsimp only at *
 have hl':=hs.len
 have hss:i < A.length→0 < i→Pure Try.prog 62 [(nth A i).av,(nth A (i - 1)).av] (Bo (decide (nth A i=nth A (i - 1)))) none:=fun q1 q2=>R4Same_p _ _ (hA _ (nth_mem i0 q1)) (hA _ (nth_mem (by omega) (by omega)))
 by_cases hi:i < A.length
 ·by_cases h0:i=0
  ·have ha:=hs.add hso i0 hi (.inl h0)
   repeat' ((first
    | refine lvK ?_
    | fail) <;> try (apply Cj.mk <;> first | exact trivial | intros))
   refine ⟨(⟨i+1,out++[nth A i]⟩:SL),⟨[],hdA (lvL ?_) (lvL ?_)⟩,?_,by (try dsimp only);omega,rfl⟩ <;> (try (apply Cj.mk <;> first | exact trivial | intros))
   ·dsimp only;exact ⟨by omega,by omega,ha⟩
  ·have hs1:=hss hi (by omega)
   by_cases he:nth A i=nth A (i - 1)
   ·rw [decide_eq_true he] at hs1
    have ha:=hs.skip (by omega) hi he
    repeat' ((first
     | refine lvK ?_
     | refine ⟨_,_,hs1,lvN ?_⟩
     | (refine .inl ?_;(conv=>whnf);refine ⟨_,_,hs1,lvN ?_⟩)
     | fail) <;> try (apply Cj.mk <;> first | exact trivial | intros))
    refine ⟨(⟨i+1,out⟩:SL),⟨[],hdA (lvL ?_) (lvL ?_)⟩,?_,by (try dsimp only);omega,rfl⟩ <;> (try (apply Cj.mk <;> first | exact trivial | intros))
    ·dsimp only;exact ⟨by omega,by omega,ha⟩
   ·rw [decide_eq_false he] at hs1
    have ha:=hs.add hso i0 hi (.inr he)
    repeat' ((first
     | refine lvK ?_
     | refine ⟨_,_,hs1,lvN ?_⟩
     | (refine .inl ?_;(conv=>whnf);refine ⟨_,_,hs1,lvN ?_⟩)
     | fail) <;> try (apply Cj.mk <;> first | exact trivial | intros))
    refine ⟨(⟨i+1,out++[nth A i]⟩:SL),⟨[],hdA (lvL ?_) (lvL ?_)⟩,?_,by (try dsimp only);omega,rfl⟩ <;> (try (apply Cj.mk <;> first | exact trivial | intros))
    ·dsimp only;exact ⟨by omega,by omega,ha⟩
 ·have he:out=canon cmpP l:=hs.asc.canon cmpP_tot fun x=>by rw [hs.mem,take_all (by omega),hm]
  rw [← he]
  repeat' ((first
   | refine lvK ?_
   | refine lvE ?_
   | fail) <;> try (apply Cj.mk <;> first | exact trivial | intros))
set_option maxHeartbeats 2000000 in
set_option maxRecDepth 10000 in
theorem RGrid_p (w h:Int) (hw:1≤w∧w≤8) (hh:1≤h∧h≤8):Pure Try.prog 38 [I w,I h] (.tup [(gridB w h).av,I 0]) none:=by
 have p1:w * h≤8 * 8:=Int.mul_le_mul (by omega) (by omega) (by omega) (by omega)
 have p0:1 * 1≤w * h:=Int.mul_le_mul (by omega) (by omega) (by omega) (by omega)
 refine fun_of tok D_ok Try.func38 rfl Try.ntmps38 Try.results38 (by kernel_rfl) (by simp) (by simp) ?_
 conv=>whnf
 repeat' ((first
  | refine lvK ?_
  | fail) <;> try (apply Cj.mk <;> first | exact trivial | intros))
 refine .of (fun d=>[(9,I d)]) (fun d=>[(1,.arr 1 (dxs.map I)),(2,.arr 1 (dys.map I)),(3,.box [I (w * h),.ref 4,.ref 5]),(4,.arr 1 (((ints d).map fun d=>(ints (w * h)).map (gto w h d)).map Is)),(5,.arr 1 (((ints d).map fun d=>(d+4) % 8).map I))]) 6 (fun d=>0≤d∧d≤8) (fun d=>(8 - d).toNat) 0 ?_
 conv=>whnf
 refine ⟨⟨[],hdA (lvL ?_) (lvL ?_)⟩,?_,fun d ⟨d0,d1⟩=>lvN ?_⟩ <;> (try (apply Cj.mk <;> first | exact trivial | intros))
 ·exact ⟨by omega,by omega⟩
 have hl3:((ints d).map fun d=>(ints (w * h)).map (gto w h d)).length=d.toNat:=by rw [List.length_map,ints_len]
 have hl4:((ints d).map fun d=>(d+4) % 8).length=d.toNat:=by rw [List.length_map,ints_len]
 by_cases hd8:d < 8
 ·repeat' ((first
   | refine lvK ?_
   | fail) <;> try (apply Cj.mk <;> first | exact trivial | intros))
  refine .of (fun c=>[(11,I c),(10,.ref 6)]) (fun c=>[(6,.arr 1 (((ints c).map (gto w h d)).map I))]) 7 (fun c=>0≤c∧c≤w * h) (fun c=>(w * h - c).toNat) 0 ?_
  conv=>whnf
  refine ⟨⟨[],hdA (lvL ?_) (lvL ?_)⟩,?_,fun c ⟨c0,c1⟩=>lvN ?_⟩ <;> (try (apply Cj.mk <;> first | exact trivial | intros))
  ·exact ⟨by omega,by omega⟩
  have hlr:((ints c).map (gto w h d)).length=c.toNat:=by rw [List.length_map,ints_len]
  by_cases hc:c < w * h
  ·have m0:=Int.emod_nonneg c (show w≠0 by omega)
   have m1:=Int.emod_lt_of_pos c (show 0 < w by omega)
   have m2:0≤c / w:=Int.ediv_nonneg c0 (by omega)
   have m3:c / w≤c:=Int.ediv_le_self _ c0
   obtain ⟨x1,x2,y1,y2⟩:=dxy d0 (by omega)
   have e1:dxs.length=8:=rfl
   have e2:dys.length=8:=rfl
   by_cases hin:0≤c % w+nth dxs d∧c % w+nth dxs d < w∧0≤c / w+nth dys d∧c / w+nth dys d < h
   ·have hg:=gto_in hin
    have q1:(c / w+nth dys d) * w≤8 * 8:=Int.mul_le_mul (by omega) (by omega) (by omega) (by omega)
    have q0:0≤(c / w+nth dys d) * w:=Int.mul_nonneg (by omega) (by omega)
    repeat' ((first
     | refine lvK ?_
     | fail) <;> try (apply Cj.mk <;> first | exact trivial | intros))
    all_goals
     refine ⟨c+1,⟨[],hdA (lvL ?_) (lvL ?_)⟩,?_,by (try dsimp only);omega,rfl⟩ <;> (try (apply Cj.mk <;> first | exact trivial | intros))
     ·rw [map_ints_succ c0,hg]
     ·exact ⟨by omega,by omega⟩
   ·have hg:=gto_out hin
    repeat' ((first
     | refine lvK ?_
     | fail) <;> try (apply Cj.mk <;> first | exact trivial | intros))
    all_goals
     refine ⟨c+1,⟨[],hdA (lvL ?_) (lvL ?_)⟩,?_,by (try dsimp only);omega,rfl⟩ <;> (try (apply Cj.mk <;> first | exact trivial | intros))
     ·rw [map_ints_succ c0,hg]
     ·exact ⟨by omega,by omega⟩
  ·obtain rfl:c=w * h:=by omega
   repeat' ((first
    | refine lvK ?_
    | fail) <;> try (apply Cj.mk <;> first | exact trivial | intros))
   refine ⟨d+1,⟨[],hdA (lvL ?_) (lvL ?_)⟩,?_,by (try dsimp only);omega,rfl⟩ <;> (try (apply Cj.mk <;> first | exact trivial | intros))
   ·rw [map_ints_succ d0]
   ·rw [map_ints_succ d0]
   ·exact ⟨by omega,by omega⟩
 ·obtain rfl:d=8:=by omega
  repeat' ((first
   | refine lvK ?_
   | refine lvE ?_
   | fail) <;> try (apply Cj.mk <;> first | exact trivial | intros))
  all_goals rfl
end Go.Proofs.Ytejljpjdifblpaa
