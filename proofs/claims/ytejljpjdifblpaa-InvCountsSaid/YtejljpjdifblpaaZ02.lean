/- Contracts of functions of the program, proved by the checker; and plain laws. -/
import Derived.Test.YtejljpjdifblpaaZ00
import Derived.Test.YtejljpjdifblpaaZ01
set_option linter.unusedVariables false
set_option linter.unusedSimpArgs false
namespace Go.Proofs.Ytejljpjdifblpaa
open Go Go.Sk
structure Stp where
 op:Int
 n:Int
instance:Inhabited Stp:=⟨⟨0,0⟩⟩
deriving instance DecidableEq for Stp
def St1 (x:Stp):AV:=.ag [I x.op,I x.n]
def Pg (p:List Stp):AV:=.sl (p.map St1)
structure Kd where
 name:ByteArray
 progs:List (List Stp)
 keep:Bool
instance:Inhabited Kd:=⟨⟨⟨#[]⟩,[],false⟩⟩
def Kn (k:Kd):AV:=.ag [.v (.string k.name),.sl (k.progs.map Pg),Bo k.keep]
structure Cl where
 cf:Int
 kind:Int
 n:Int
 thn:Int
instance:Inhabited Cl:=⟨⟨0,0,0,0⟩⟩
def Ca (c:Cl):AV:=.ag [I c.cf,I c.kind,I c.n,I c.thn]
structure Gm where
 b:Bd
 kinds:List Kd
 rights:Int
 must:Bool
 cls:List Cl
 blocked:Int
 endless:Int
def Gm.av (g:Gm):AV:=.ag [I g.b.cells,Iss g.b.next,Is g.b.turn,.sl (g.kinds.map Kn),I g.rights,Bo g.must,.sl (g.cls.map Ca),I g.blocked,I g.endless]
structure Ps where
 ct:List Int
 h0:List Int
 h1:List Int
 rights:Int
 side:Int
instance:Inhabited Ps:=⟨⟨[],[],[],0,0⟩⟩
deriving instance DecidableEq for Ps
def Ps.av (p:Ps):AV:=.ag [Is p.ct,Is p.h0,Is p.h1,I p.rights,I p.side]
def U8 (n:Int):AV:=.v (.int .u8 n)
def Us (l:List Int):AV:=.sl (l.map U8)
def b8 (n:Int):Prop:=0≤n∧n≤255
def at8 (l:List Int) (i:Int):Int:=if i < l.length then nth l i else 0
def lib (d e k r i:Int):List Stp :=
 nth [[⟨1,d⟩,⟨3,0⟩],[⟨1,d⟩,⟨4,0⟩,⟨6,0⟩],[⟨2,d⟩],[⟨2,d⟩,⟨4,0⟩,⟨6,0⟩],[⟨1,d⟩,⟨4,0⟩,⟨6,0⟩,⟨1,d⟩],[⟨1,d⟩,⟨1,e⟩],[⟨1,d⟩,⟨7,d⟩],[⟨1,d⟩,⟨3,0⟩,⟨8,k⟩],
  [⟨9,r⟩,⟨1,d⟩,⟨1,d⟩,⟨10,r⟩],[⟨1,d⟩,⟨5,0⟩,⟨1,d⟩,⟨3,0⟩],[⟨10,r⟩,⟨1,d⟩],[⟨1,d⟩,⟨4,0⟩,⟨6,0⟩,⟨1,(d+4) % 8⟩],[⟨1,d⟩,⟨4,0⟩,⟨6,0⟩,⟨1,e⟩,⟨4,0⟩,⟨6,0⟩],[⟨2,d⟩,⟨5,0⟩,⟨1,d⟩],[⟨1,d⟩,⟨4,0⟩,⟨6,0⟩,⟨8,k⟩],[⟨1,d⟩,⟨7,d⟩,⟨1,e⟩]] i
def libL (l:List Int):List Stp:=lib (at8 l 1 % 8) (at8 l 2 % 8) (at8 l 3 % 6) (at8 l 4 % 4) (at8 l 0 % 16)
def fitS (dirs kinds rights:Int) (x:Stp):List Stp :=
 if x.op=1∨x.op=2∨x.op=7 then [⟨x.op,x.n % dirs⟩] else if x.op=8 then [⟨x.op,x.n % kinds⟩] else if x.op=9∨x.op=10 then (if rights=0 then [] else [⟨x.op,x.n % rights⟩]) else [x]
def fitL (p:List Stp) (dirs kinds rights:Int):List Stp:=p.flatMap (fitS dirs kinds rights)
def fit (p:List Stp) (dirs kinds rights:Int):List Stp:=if (fitL p dirs kinds rights).length=0 then [⟨3,0⟩] else fitL p dirs kinds rights
def progMade (n dirs kinds rights:Int):List Stp:=fit (libL [n,n / 16,n / 16+n % 5,n / 3,n]) dirs kinds rights
set_option maxRecDepth 10000 in
theorem at8_p (l:List Int) (i:Int) (h0:0≤i) (h8:∀ i:Int,0≤i→i < l.length→b8 (nth l i)):Pure Try.prog 55 [Us l,I i] (I (at8 l i)) none:=by
 refine fun_of tok D_ok Try.func55 rfl Try.ntmps55 Try.results55 (by kernel_rfl) (by simp) (by simp) ?_
 have e:(l.map U8).length=l.length:=List.length_map _
 have h:=h8 i h0
 unfold b8 at h
 conv=>whnf
 repeat' ((first
  | refine lvA ?_
  | refine lvE ?_
  | fail) <;> try (apply Cj.mk <;> first | exact trivial | intros))
 ·unfold at8;rw [if_pos (by omega)]
 ·unfold at8;rw [if_neg (by omega)]
def Ps.key (p:Ps):List (List Int):=[p.ct,p.h0,p.h1,[p.rights],[p.side]]
theorem Ps.key_inj {p q:Ps} (h:p.key=q.key):p=q:=by
 cases p;cases q
 simp only [Ps.key,List.cons.injEq,and_true] at h
 simp only [Ps.mk.injEq]
 exact h
def cmpP (p q:Ps):Int:=cmpL (cmpL cmpI) p.key q.key
theorem cmpK_tot:Tot (cmpL (cmpL cmpI)):=cmpL_tot (cmpL_tot cmpI_tot)
theorem cmpP_tot:Tot cmpP:=⟨fun a b=>⟨fun h=>Ps.key_inj ((cmpK_tot.eq0 _ _).1 h),fun h=>by subst h;exact cmpK_tot.self _⟩,fun a b=>cmpK_tot.anti _ _,fun a b d=>cmpK_tot.trans _ _ _⟩
theorem cmpP_def (p q:Ps):cmpP p q=if cmpL cmpI p.ct q.ct≠0 then cmpL cmpI p.ct q.ct else if cmpL cmpI p.h0 q.h0≠0 then cmpL cmpI p.h0 q.h0 else if cmpL cmpI p.h1 q.h1≠0 then cmpL cmpI p.h1 q.h1 else if cmpI p.rights q.rights≠0 then cmpI p.rights q.rights else cmpI p.side q.side:=by
 have h1:∀ a b,cmpL cmpI [a] [b]=cmpI a b:=fun a b=>by simp only [cmpL];split <;> rename_i e <;> simp [e]
 unfold cmpP Ps.key
 simp only [cmpL,h1]
 repeat' split
 all_goals first | rfl | contradiction | (simp_all;done) | omega
theorem drop_nth {α:Type} [Inhabited α] {l:List α} {i:Int} (h0:0≤i) (h:i < l.length):l.drop i.toNat=nth l i :: l.drop (i+1).toNat:=by
 rw [show (i+1).toNat=i.toNat+1 by omega,List.drop_eq_getElem_cons (by omega)]
 unfold nth;rw [List.getD_eq_getElem?_getD,List.getElem?_eq_getElem (by omega)];rfl
theorem drop_all {α:Type} {l:List α} {i:Int} (h:l.length≤i):l.drop i.toNat=[]:=List.drop_eq_nil_of_le (by omega)
theorem cmpL_end {a b:List Int} {i:Int} (h:i=a.length∨i=b.length) (h1:i≤a.length) (h2:i≤b.length):cmpL cmpI (a.drop i.toNat) (b.drop i.toNat)=cmpI a.length b.length:=by
 by_cases ha:i=a.length
 ·rw [drop_all (l:=a) (by omega)]
  by_cases hb:i=b.length
  ·rw [drop_all (l:=b) (by omega)]
   unfold cmpI cmpL;rw [if_neg (by omega),if_neg (by omega)]
  ·rw [drop_nth (by omega) (by omega)]
   unfold cmpI cmpL;rw [if_pos (by omega)]
 ·rw [drop_all (l:=b) (by omega),drop_nth (by omega) (by omega)]
  unfold cmpI cmpL;rw [if_neg (by omega),if_pos (by omega)]
set_option maxRecDepth 10000 in
theorem R4number_p (a b:Int):Pure Try.prog 88 [I a,I b] (I (cmpI a b)) none:=by
 refine fun_of tok D_ok Try.func88 rfl Try.ntmps88 Try.results88 (by kernel_rfl) (by simp) (by simp) ?_
 conv=>whnf
 repeat' ((first
  | refine lvA ?_
  | refine lvE ?_
  | fail) <;> try (apply Cj.mk <;> first | exact trivial | intros))
 all_goals (congr 1;unfold cmpI)
 all_goals first | rw [if_pos (by omega)] | (rw [if_neg (by omega)];first | rw [if_pos (by omega)] | rw [if_neg (by omega)])
set_option maxRecDepth 10000 in
theorem R4list_p (a b:List Int) (ha:a.length≤4611686018427387904) (hb:b.length≤4611686018427387904):Pure Try.prog 87 [Is a,Is b] (I (cmpL cmpI a b)) none:=by
 have ea:(a.map I).length=a.length:=List.length_map _
 have eb:(b.map I).length=b.length:=List.length_map _
 refine fun_of tok D_ok Try.func87 rfl Try.ntmps87 Try.results87 (by kernel_rfl) (by simp) (by simp) ?_
 conv=>whnf
 refine .of (fun i=>[(5,I i)]) (fun i=>[]) 0 (fun i=>0≤i∧i≤a.length∧i≤b.length∧cmpL cmpI (a.drop i.toNat) (b.drop i.toNat)=cmpL cmpI a b) (fun i=>(a.length - i).toNat) 0 ?_
 conv=>whnf
 refine ⟨⟨[],hdA (lvL ?_) (lvL ?_)⟩,?_,fun i ⟨i0,i1,i2,hi⟩=>lvN ?_⟩ <;> (try (apply Cj.mk <;> first | exact trivial | intros))
 ·exact ⟨by omega,by omega,by omega,by simp⟩
 have da:=drop_nth (l:=a) i0
 have db:=drop_nth (l:=b) i0
 repeat' ((first
  | refine lvA ?_
  | refine ⟨_,_,R4number_p _ _,lvN ?_⟩
  | (refine .inl ?_;(conv=>whnf);refine ⟨_,_,R4number_p _ _,lvN ?_⟩)
  | fail) <;> try (apply Cj.mk <;> first | exact trivial | intros))
 ·rename_i q1 q2 q3
  rw [← hi,da (by omega),db (by omega)]
  simp only [cmpL]
  rw [if_neg (by unfold cmpI;split <;> (try split) <;> omega)]
  refine exitS [] (by kernel_rfl) (by kernel_rfl) (by kernel_rfl) (lvL ?_) (lvL ?_) <;> (try (apply Cj.mk <;> first | exact trivial | intros))
 ·rename_i q1 q2 q3
  refine ⟨i+1,⟨[],hdA (lvL ?_) (lvL ?_)⟩,?_,by (try dsimp only);omega,rfl⟩ <;> (try (apply Cj.mk <;> first | exact trivial | intros))
  refine ⟨by omega,by omega,by omega,?_⟩
  rw [← hi,da (by omega),db (by omega)]
  simp only [cmpL]
  rw [if_pos (by unfold cmpI;rw [q3];simp)]
 all_goals
  rw [← hi,cmpL_end (by omega) (by omega) (by omega),← ea,← eb]
  refine exitS [] (by kernel_rfl) (by kernel_rfl) (by kernel_rfl) (lvL ?_) (lvL ?_) <;> (try (apply Cj.mk <;> first | exact trivial | intros))
structure Ps.small (p:Ps):Prop where
 c:p.ct.length≤1000000
 a:p.h0.length≤1000000
 b:p.h1.length≤1000000
set_option maxHeartbeats 2000000 in
set_option maxRecDepth 10000 in
theorem R4Compare_p (p q:Ps) (hp:p.small) (hq:q.small):Pure Try.prog 78 [p.av,q.av] (I (cmpP p q)) none:=by
 have c1:=R4list_p p.ct q.ct (by have:=hp.c;omega) (by have:=hq.c;omega)
 have c2:=R4list_p p.h0 q.h0 (by have:=hp.a;omega) (by have:=hq.a;omega)
 have c3:=R4list_p p.h1 q.h1 (by have:=hp.b;omega) (by have:=hq.b;omega)
 have c4:=R4number_p p.rights q.rights
 have c5:=R4number_p p.side q.side
 rw [cmpP_def]
 generalize cmpL cmpI p.ct q.ct=n1 at *
 generalize cmpL cmpI p.h0 q.h0=n2 at *
 generalize cmpL cmpI p.h1 q.h1=n3 at *
 generalize cmpI p.rights q.rights=n4 at *
 generalize cmpI p.side q.side=n5 at *
 refine fun_of tok D_ok Try.func78 rfl Try.ntmps78 Try.results78 (by kernel_rfl) (by simp) (by simp) ?_
 conv=>whnf
 repeat' ((first
  | refine lvA ?_
  | refine ⟨_,_,c1,lvN ?_⟩
  | (refine .inl ?_;(conv=>whnf);refine ⟨_,_,c1,lvN ?_⟩)
  | refine ⟨_,_,c2,lvN ?_⟩
  | (refine .inl ?_;(conv=>whnf);refine ⟨_,_,c2,lvN ?_⟩)
  | refine ⟨_,_,c3,lvN ?_⟩
  | (refine .inl ?_;(conv=>whnf);refine ⟨_,_,c3,lvN ?_⟩)
  | refine ⟨_,_,c4,lvN ?_⟩
  | (refine .inl ?_;(conv=>whnf);refine ⟨_,_,c4,lvN ?_⟩)
  | refine ⟨_,_,c5,lvN ?_⟩
  | (refine .inl ?_;(conv=>whnf);refine ⟨_,_,c5,lvN ?_⟩)
  | fail) <;> try (apply Cj.mk <;> first | exact trivial | intros))
 refine .of (fun i=>[(6,I i)]) (fun i=>[]) 2 (fun i=>0≤i∧i≤5∧(0 < i→n1=0)∧(1 < i→n2=0)∧(2 < i→n3=0)∧(3 < i→n4=0)∧(4 < i→n5=0)) (fun i=>(5 - i).toNat) 0 ?_
 conv=>whnf
 refine ⟨⟨[],hdA (lvL ?_) (lvL ?_)⟩,?_,fun i ⟨i0,i5,k1,k2,k3,k4,k5⟩=>lvN ?_⟩ <;> (try (apply Cj.mk <;> first | exact trivial | intros))
 ·refine ⟨by omega,by omega,?_,?_,?_,?_,?_⟩ <;> (intros;omega)
 have hi:i=0∨i=1∨i=2∨i=3∨i=4∨i=5:=by omega
 rcases hi with rfl | rfl | rfl | rfl | rfl | rfl
 ·repeat' ((first
   | refine lvK ?_
   | fail) <;> try (apply Cj.mk <;> first | exact trivial | intros))
  ·rename_i h
   repeat (first | rw [if_pos (by omega)] | rw [if_neg (by omega)])
   refine exitS [] (by kernel_rfl) (by kernel_rfl) (by kernel_rfl) (lvL ?_) (lvL ?_) <;> (try (apply Cj.mk <;> first | exact trivial | intros))
  ·rename_i h
   refine ⟨0+1,⟨[],hdA (lvL ?_) (lvL ?_)⟩,?_,by (try dsimp only);omega,rfl⟩ <;> (try (apply Cj.mk <;> first | exact trivial | intros))
   refine ⟨by omega,by omega,?_,?_,?_,?_,?_⟩ <;> (intros;omega)
 ·repeat' ((first
   | refine lvK ?_
   | fail) <;> try (apply Cj.mk <;> first | exact trivial | intros))
  ·rename_i h
   repeat (first | rw [if_pos (by omega)] | rw [if_neg (by omega)])
   refine exitS [] (by kernel_rfl) (by kernel_rfl) (by kernel_rfl) (lvL ?_) (lvL ?_) <;> (try (apply Cj.mk <;> first | exact trivial | intros))
  ·rename_i h
   refine ⟨1+1,⟨[],hdA (lvL ?_) (lvL ?_)⟩,?_,by (try dsimp only);omega,rfl⟩ <;> (try (apply Cj.mk <;> first | exact trivial | intros))
   refine ⟨by omega,by omega,?_,?_,?_,?_,?_⟩ <;> (intros;omega)
 ·repeat' ((first
   | refine lvK ?_
   | fail) <;> try (apply Cj.mk <;> first | exact trivial | intros))
  ·rename_i h
   repeat (first | rw [if_pos (by omega)] | rw [if_neg (by omega)])
   refine exitS [] (by kernel_rfl) (by kernel_rfl) (by kernel_rfl) (lvL ?_) (lvL ?_) <;> (try (apply Cj.mk <;> first | exact trivial | intros))
  ·rename_i h
   refine ⟨2+1,⟨[],hdA (lvL ?_) (lvL ?_)⟩,?_,by (try dsimp only);omega,rfl⟩ <;> (try (apply Cj.mk <;> first | exact trivial | intros))
   refine ⟨by omega,by omega,?_,?_,?_,?_,?_⟩ <;> (intros;omega)
 ·repeat' ((first
   | refine lvK ?_
   | fail) <;> try (apply Cj.mk <;> first | exact trivial | intros))
  ·rename_i h
   repeat (first | rw [if_pos (by omega)] | rw [if_neg (by omega)])
   refine exitS [] (by kernel_rfl) (by kernel_rfl) (by kernel_rfl) (lvL ?_) (lvL ?_) <;> (try (apply Cj.mk <;> first | exact trivial | intros))
  ·rename_i h
   refine ⟨3+1,⟨[],hdA (lvL ?_) (lvL ?_)⟩,?_,by (try dsimp only);omega,rfl⟩ <;> (try (apply Cj.mk <;> first | exact trivial | intros))
   refine ⟨by omega,by omega,?_,?_,?_,?_,?_⟩ <;> (intros;omega)
 ·repeat' ((first
   | refine lvK ?_
   | fail) <;> try (apply Cj.mk <;> first | exact trivial | intros))
  ·rename_i h
   repeat (first | rw [if_pos (by omega)] | rw [if_neg (by omega)])
   refine exitS [] (by kernel_rfl) (by kernel_rfl) (by kernel_rfl) (lvL ?_) (lvL ?_) <;> (try (apply Cj.mk <;> first | exact trivial | intros))
  ·rename_i h
   refine ⟨4+1,⟨[],hdA (lvL ?_) (lvL ?_)⟩,?_,by (try dsimp only);omega,rfl⟩ <;> (try (apply Cj.mk <;> first | exact trivial | intros))
   refine ⟨by omega,by omega,?_,?_,?_,?_,?_⟩ <;> (intros;omega)
 ·rw [k1 (by omega),k2 (by omega),k3 (by omega),k4 (by omega),k5 (by omega)]
  repeat' ((first
   | refine lvK ?_
   | refine lvE ?_
   | fail) <;> try (apply Cj.mk <;> first | exact trivial | intros))
set_option maxRecDepth 10000 in
theorem R4Same_p (p q:Ps) (hp:p.small) (hq:q.small):Pure Try.prog 62 [p.av,q.av] (Bo (decide (p=q))) none:=by
 have c:=R4Compare_p p q hp hq
 have e:(cmpP p q == 0)=decide (p=q):=by
  by_cases h:p=q
  ·rw [decide_eq_true h,(cmpP_tot.eq0 p q).2 h];rfl
  ·rw [decide_eq_false h]
   exact beq_eq_false_iff_ne.2 fun q'=>h ((cmpP_tot.eq0 _ _).1 q')
 rw [← e]
 refine fun_of tok D_ok Try.func62 rfl Try.ntmps62 Try.results62 (by kernel_rfl) (by simp) (by simp) ?_
 conv=>whnf
 repeat' ((first
  | refine lvA ?_
  | refine ⟨_,_,c,lvN ?_⟩
  | (refine .inl ?_;(conv=>whnf);refine ⟨_,_,c,lvN ?_⟩)
  | refine lvE ?_
  | fail) <;> try (apply Cj.mk <;> first | exact trivial | intros))
set_option maxHeartbeats 2000000 in
set_option maxRecDepth 10000 in
theorem Lib_p (l:List Int) (hl:l.length≤100) (h8:∀ i:Int,0≤i→i < l.length→b8 (nth l i)):Pure Try.prog 41 [Us l] (Pg (libL l)) none:=by
 have hb:∀ i,0≤i→0≤at8 l i∧at8 l i≤255:=fun i i0=>by
  unfold at8
  split
  ·exact h8 i i0 (by omega)
  ·omega
 have p0:=at8_p l 0 (by omega) h8
 have p1:=at8_p l 1 (by omega) h8
 have p2:=at8_p l 2 (by omega) h8
 have p3:=at8_p l 3 (by omega) h8
 have p4:=at8_p l 4 (by omega) h8
 have h0:=hb 0 (by omega)
 have h1:=hb 1 (by omega)
 have h2:=hb 2 (by omega)
 have h3:=hb 3 (by omega)
 have h4:=hb 4 (by omega)
 unfold libL
 generalize at8 l 0=a0 at *
 generalize at8 l 1=a1 at *
 generalize at8 l 2=a2 at *
 generalize at8 l 3=a3 at *
 generalize at8 l 4=a4 at *
 refine fun_of tok D_ok Try.func41 rfl Try.ntmps41 Try.results41 (by kernel_rfl) (by simp) (by simp) ?_
 conv=>whnf
 repeat' ((first
  | refine lvA ?_
  | refine ⟨_,_,p0,lvN ?_⟩
  | (refine .inl ?_;(conv=>whnf);refine ⟨_,_,p0,lvN ?_⟩)
  | refine ⟨_,_,p1,lvN ?_⟩
  | (refine .inl ?_;(conv=>whnf);refine ⟨_,_,p1,lvN ?_⟩)
  | refine ⟨_,_,p2,lvN ?_⟩
  | (refine .inl ?_;(conv=>whnf);refine ⟨_,_,p2,lvN ?_⟩)
  | refine ⟨_,_,p3,lvN ?_⟩
  | (refine .inl ?_;(conv=>whnf);refine ⟨_,_,p3,lvN ?_⟩)
  | refine ⟨_,_,p4,lvN ?_⟩
  | (refine .inl ?_;(conv=>whnf);refine ⟨_,_,p4,lvN ?_⟩)
  | fail) <;> try (apply Cj.mk <;> first | exact trivial | intros))
 have hm:0≤a0 % 16∧a0 % 16 < 16:=by omega
 refine And.intro (show ((16:Nat):Int)≠0 from by decide) (Calc.mk (a0 % 16) (Int.tmod_eq_emod_of_nonneg h0.1) ?_)
 generalize a0 % 16=i at *
 have hi:i=0∨i=1∨i=2∨i=3∨i=4∨i=5∨i=6∨i=7∨i=8∨i=9∨i=10∨i=11∨i=12∨i=13∨i=14∨i=15:=by omega
 rcases hi with rfl | rfl | rfl | rfl | rfl | rfl | rfl | rfl | rfl | rfl | rfl | rfl | rfl | rfl | rfl | rfl
 all_goals
  conv=>whnf
  refine ⟨by decide,(by show (_:Nat) < 16;decide),?_⟩
  conv=>whnf
  refine ⟨_,rfl,lvN ?_⟩
  apply Cj.mk <;> first | exact trivial | intros
  refine lvE ?_ <;> (try (apply Cj.mk <;> first | exact trivial | intros))
theorem fitS_len (a b c:Int) (x:Stp):(fitS a b c x).length≤1:=by
 unfold fitS
 repeat' split
 all_goals simp
theorem fitL_len (a b c:Int):∀ p:List Stp,(fitL p a b c).length≤p.length
 | []=>by simp [fitL]
 | x :: p=>by
  have h1:=fitL_len a b c p
  have h2:=fitS_len a b c x
  unfold fitL at h1 ⊢
  rw [List.flatMap_cons,List.length_append,List.length_cons]
  omega
theorem fitL_succ {a b c:Int} {p:List Stp} {i:Int} (h0:0≤i) (h:i < p.length):fitL (p.take (i+1).toNat) a b c=fitL (p.take i.toNat) a b c++fitS a b c (nth p i):=by
 unfold fitL
 rw [take_snoc h0 h,List.flatMap_append]
 simp
set_option maxHeartbeats 2000000 in
set_option maxRecDepth 10000 in
theorem Fit_p (p:List Stp) (hp:p.length≤100) (hn:∀ i:Int,0≤i→i < p.length→0≤(nth p i).n) (dirs kinds rights:Int) (h1:1≤dirs) (h2:1≤kinds) (h3:0≤rights) :
  Pure Try.prog 40 [Pg p,I dirs,I kinds,I rights] (Pg (fit p dirs kinds rights)) none:=by
 have e:(p.map St1).length=p.length:=List.length_map _
 refine fun_of tok D_ok Try.func40 rfl Try.ntmps40 Try.results40 (by kernel_rfl) (by simp) (by simp) ?_
 conv=>whnf
 refine .of (fun i=>[(10,I i),(9,.ref 0)]) (fun i=>[(0,.arr 2 ((fitL (p.take i.toNat) dirs kinds rights).map St1))]) 1 (fun i=>0≤i∧i≤p.length) (fun i=>(p.length - i).toNat) 0 ?_
 conv=>whnf
 refine ⟨⟨[],hdA (lvL ?_) (lvL ?_)⟩,?_,fun i ⟨i0,i1⟩=>lvN ?_⟩ <;> (try (apply Cj.mk <;> first | exact trivial | intros))
 ·exact ⟨by omega,by omega⟩
 have hl:=fitL_len dirs kinds rights (p.take i.toNat)
 have htl:=take_len i0 i1
 have hsu:=fun h=>fitL_succ (a:=dirs) (b:=kinds) (c:=rights) (p:=p) i0 h
 have hni:=hn i i0
 by_cases hi:i < p.length
 ·have hsu':=hsu hi
  have hni':=hni hi
  unfold fitS at hsu'
  repeat' ((first
   | refine lvK ?_
   | refine ap1 (f:=St1) (a:=⟨(nth p i).op,(nth p i).n % dirs⟩) (by decide) (by omega) rfl rfl (lvN ?_)
   | refine ap1 (f:=St1) (a:=⟨(nth p i).op,(nth p i).n % kinds⟩) (by decide) (by omega) rfl rfl (lvN ?_)
   | refine ap1 (f:=St1) (a:=⟨(nth p i).op,(nth p i).n % rights⟩) (by decide) (by omega) rfl rfl (lvN ?_)
   | refine ap1 (f:=St1) (a:=(nth p i)) (by decide) (by omega) rfl rfl (lvN ?_)
   | fail) <;> try (apply Cj.mk <;> first | exact trivial | intros))
  all_goals
   refine ⟨i+1,⟨[],hdA (lvL ?_) (lvL ?_)⟩,?_,by (try dsimp only);omega,rfl⟩ <;> (try (apply Cj.mk <;> first | exact trivial | intros))
   ·rw [hsu'];repeat (first | rw [if_pos (by omega)] | rw [if_neg (by omega)] | rw [List.append_nil])
   ·exact ⟨by omega,by omega⟩
 ·obtain rfl:i=p.length:=by omega
  rw [take_all (Int.le_refl _)] at hl ⊢
  have em:((fitL p dirs kinds rights).map St1).length=(fitL p dirs kinds rights).length:=List.length_map _
  repeat' ((first
   | refine lvK ?_
   | fail) <;> try (apply Cj.mk <;> first | exact trivial | intros))
  ·rename_i q1 q2
   unfold fit
   rw [if_pos (by omega)]
   refine lvE ?_ <;> (try (apply Cj.mk <;> first | exact trivial | intros))
  ·rename_i q1 q2
   unfold fit
   rw [if_neg (by omega)]
   refine lvE ?_ <;> (try (apply Cj.mk <;> first | exact trivial | intros))
def idx (l:List Int) (n:Int):Int:=match l.findIdx? (fun x=>x == n) with | some i=>(i:Int) | none=>-1
theorem idx_ge (l:List Int) (n:Int):decide (idx l n≥0)=l.contains n:=by
 unfold idx
 cases hf:l.findIdx? (fun x=>x == n) with
 | none =>
  rw [List.findIdx?_eq_none_iff] at hf
  have:l.contains n=false:=by
   rw [Bool.eq_false_iff]
   intro h
   rw [List.contains_iff_mem] at h
   have:=hf n h
   simp at this
  rw [this];rfl
 | some i =>
  obtain ⟨h1,h2,_⟩:=List.findIdx?_eq_some_iff_getElem.1 hf
  have:l.contains n=true:=List.contains_iff_mem.2 (by rw [← eq_of_beq h2];exact List.getElem_mem _)
  rw [this]
  exact decide_eq_true (show (i:Int)≥0 by omega)
set_option maxRecDepth 10000 in
theorem Index_p (l:List Int) (n:Int) (hl:l.length≤4611686018427387904):Pure Try.prog 91 [Is l,I n] (I (idx l n)) none:=by
 refine fun_of tok D_ok Try.func91 rfl Try.ntmps91 Try.results91 (by kernel_rfl) (by simp) (by simp) ?_
 have e:l.length=(l.map I).length:=by simp
 conv=>whnf
 refine .of (fun i=>[(8,I i)]) (fun i=>[]) 0 (fun i=>0≤i∧i≤l.length∧n ∉ l.take i.toNat) (fun i=>(l.length - i).toNat) 0 ?_
 conv=>whnf
 refine ⟨⟨[],(by kernel_rfl),(by kernel_rfl),(by kernel_rfl),?_,?_⟩,?_,fun i ⟨h0,h1,ht⟩=>?_⟩
 rotate_left 1
 focus
  conv=>whnf
  repeat' (first
   | exact trivial
   | with_reducible rfl
   | (refine srcI ?_;kernel_rfl)
   | (refine nsI ?_;kernel_rfl)
   | (with_reducible refine AltR.own (by assumption) ?_;conv=>whnf;try dsimp only [St.after,St.afterAt,St.pin,St.unpin,initSt,initT,numO,cellsA,Option.map,ren,renL,renO,St.setObj,headSt,List.cons_append,List.nil_append,List.length_nil,Nat.reduceAdd])
   | (with_reducible refine AltR.im ?_;conv=>whnf;try dsimp only [St.after,St.afterAt,St.pin,St.unpin,initSt,initT,numO,cellsA,Option.map,ren,renL,renO,St.setObj,headSt,List.cons_append,List.nil_append,List.length_nil,Nat.reduceAdd])
   | (refine And.intro ?_ ?_ <;> conv=>whnf;try dsimp only [St.after,St.afterAt,St.pin,St.unpin,initSt,initT,numO,cellsA,Option.map,ren,renL,renO,St.setObj,headSt,List.cons_append,List.nil_append,List.length_nil,Nat.reduceAdd])
   | rfl)
 rotate_right 1
 focus
  conv=>whnf
  repeat' (first
   | exact trivial
   | with_reducible rfl
   | (refine srcI ?_;kernel_rfl)
   | (refine nsI ?_;kernel_rfl)
   | (with_reducible refine AltR.own (by assumption) ?_;conv=>whnf;try dsimp only [St.after,St.afterAt,St.pin,St.unpin,initSt,initT,numO,cellsA,Option.map,ren,renL,renO,St.setObj,headSt,List.cons_append,List.nil_append,List.length_nil,Nat.reduceAdd])
   | (with_reducible refine AltR.im ?_;conv=>whnf;try dsimp only [St.after,St.afterAt,St.pin,St.unpin,initSt,initT,numO,cellsA,Option.map,ren,renL,renO,St.setObj,headSt,List.cons_append,List.nil_append,List.length_nil,Nat.reduceAdd])
   | (refine And.intro ?_ ?_ <;> conv=>whnf;try dsimp only [St.after,St.afterAt,St.pin,St.unpin,initSt,initT,numO,cellsA,Option.map,ren,renL,renO,St.setObj,headSt,List.cons_append,List.nil_append,List.length_nil,Nat.reduceAdd])
   | rfl)
 rotate_right 1
 focus
  conv=>whnf
 rotate_left 1
 ·exact ⟨by omega,by omega,by simp⟩
 repeat' ((first
  | (refine Ck.mk ?_)
  | (refine ifD (fun _=>?_) (fun _=>?_))
  | (refine ifE (fun _=>?_) (fun _=>?_))
  | (refine ifN (fun _=>?_) (fun _=>?_))
  | ((with_reducible refine natI ?_))
  | ((with_reducible refine ifNot ?_))
  | ((with_reducible refine ifAndD (fun _ _=>?_) (fun _=>?_)))
  | ((with_reducible refine ifAnd (fun _ _=>?_) (fun _=>?_)))
  | (refine ixM (by omega) (by first | omega | (simp only [List.length_set,List.length_map,List.length_append,List.length_cons,List.length_nil,List.length_replicate];omega)) rfl ?_)
  | (refine ixA (by omega) (by first | omega | (simp only [List.length_set,List.length_map,List.length_append,List.length_cons,List.length_nil,List.length_replicate];omega)) ?_)
  | (refine ltM (by omega) (by first | omega | (simp only [List.length_set,List.length_map,List.length_append,List.length_cons,List.length_nil,List.length_replicate];omega)) ?_)
  | (refine calI (by omega) ?_)
  | (refine cu8 (by omega) ?_)
  | (refine cu64 (by omega) ?_)
  | (refine And.intro (by omega) ?_;refine crem (by omega) ?_)
  | (refine And.intro (by omega) ?_;refine cquo (by omega) ?_)
  | ((with_reducible refine preI ?_);(first | refine preNil ?_ | refine preOp rfl rfl ?_ | refine preT rfl rfl rfl rfl ?_ | refine preF rfl rfl rfl rfl ?_ | refine preTS rfl rfl rfl rfl ?_ | refine preFS rfl rfl rfl rfl ?_ | refine preSkip rfl rfl rfl rfl ?_ | refine preGT rfl rfl rfl rfl ?_ | refine preGF rfl rfl rfl rfl ?_))
  | (refine AltS.own (by assumption) ?_)
  | (refine AltS.im ?_)
  | (refine AltT.own (by assumption) ?_)
  | (refine AltT.im ?_)
  | (refine AltR.own (by assumption) ?_)
  | (refine AltR.im ?_)
  | (refine NilK.mk (fun _=>?_) ?_)
  | (refine AltV.own (by assumption) ?_)
  | (refine AltV.im ?_)
  | ((first | refine drawA2 (by decide +kernel) ?_ | refine drawA (by decide +kernel) ?_ | refine drawL (by decide +kernel) ?_);conv=>whnf;(try dsimp only [St.after,St.afterAt,St.pin,St.unpin,initSt,initT,numO,cellsA,Option.map,ren,renL,renO,St.setObj,headSt,List.cons_append,List.nil_append,List.length_nil,Nat.reduceAdd]);try (conv=>enter [7,3];whnf))
  | (refine ap1 (by decide) (by omega) rfl rfl ?_)
  | (refine ap0 (by decide) rfl ?_)
  | (refine apL (by decide) (by omega) (fun _=>rfl) ?_)
  | (refine apM (by decide) (by omega) (fun _=>rfl) ?_)
  | (refine setI (z:=_) rfl ?_)
  | (refine And.intro (by omega) (And.intro (by omega) ?_))
  | (refine ifB_intro (fun _=>?_) (fun _=>?_))
  | (refine exitA (by kernel_rfl) (by kernel_rfl) ⟨?_,trivial⟩ ?_ <;> (conv=>whnf) <;> repeat' (first | exact trivial | with_reducible rfl | (refine srcI ?_;kernel_rfl) | (refine nsI ?_;kernel_rfl) | (with_reducible refine AltR.own (by assumption) ?_;conv=>whnf;try dsimp only [St.after,St.afterAt,St.pin,St.unpin,initSt,initT,numO,cellsA,Option.map,ren,renL,renO,St.setObj,headSt,List.cons_append,List.nil_append,List.length_nil,Nat.reduceAdd]) | (with_reducible refine AltR.im ?_;conv=>whnf;try dsimp only [St.after,St.afterAt,St.pin,St.unpin,initSt,initT,numO,cellsA,Option.map,ren,renL,renO,St.setObj,headSt,List.cons_append,List.nil_append,List.length_nil,Nat.reduceAdd]) | (refine And.intro ?_ ?_ <;> conv=>whnf;try dsimp only [St.after,St.afterAt,St.pin,St.unpin,initSt,initT,numO,cellsA,Option.map,ren,renL,renO,St.setObj,headSt,List.cons_append,List.nil_append,List.length_nil,Nat.reduceAdd])))) <;> (conv=>whnf;try dsimp only [St.after,St.afterAt,St.pin,St.unpin,initSt,initT,numO,cellsA,Option.map,ren,renL,renO,St.setObj,headSt,List.cons_append,List.nil_append,List.length_nil,Nat.reduceAdd]))
 ·rename_i h
  have hf:l.findIdx? (fun x=>x == n)=some i.toNat:=by
   rw [List.findIdx?_eq_some_iff_getElem]
   refine ⟨by omega,?_,fun j hj=>?_⟩
   ·have:=nth_some h0 (show i < l.length by omega)
    rw [List.getElem?_eq_getElem (by omega)] at this
    injection this with this
    rw [this,h];simp
   ·intro he
    exact ht (List.mem_take_iff_getElem.2 ⟨j,by omega,eq_of_beq he⟩)
  unfold idx
  rw [hf]
  show Value.int .i64 i=Value.int .i64 ((i.toNat:Int))
  rw [Int.toNat_of_nonneg h0]
 ·rename_i h
  refine ⟨i+1,⟨[],(by kernel_rfl),(by kernel_rfl),(by kernel_rfl),?_,?_⟩,?_,by (try dsimp only);omega,rfl⟩
  rotate_left 1
  focus
   conv=>whnf
   repeat' (first
    | exact trivial
    | with_reducible rfl
    | (refine srcI ?_;kernel_rfl)
    | (refine nsI ?_;kernel_rfl)
    | (with_reducible refine AltR.own (by assumption) ?_;conv=>whnf;try dsimp only [St.after,St.afterAt,St.pin,St.unpin,initSt,initT,numO,cellsA,Option.map,ren,renL,renO,St.setObj,headSt,List.cons_append,List.nil_append,List.length_nil,Nat.reduceAdd])
    | (with_reducible refine AltR.im ?_;conv=>whnf;try dsimp only [St.after,St.afterAt,St.pin,St.unpin,initSt,initT,numO,cellsA,Option.map,ren,renL,renO,St.setObj,headSt,List.cons_append,List.nil_append,List.length_nil,Nat.reduceAdd])
    | (refine And.intro ?_ ?_ <;> conv=>whnf;try dsimp only [St.after,St.afterAt,St.pin,St.unpin,initSt,initT,numO,cellsA,Option.map,ren,renL,renO,St.setObj,headSt,List.cons_append,List.nil_append,List.length_nil,Nat.reduceAdd]))
  rotate_right 1
  focus
   conv=>whnf
   repeat' (first
    | exact trivial
    | with_reducible rfl
    | (refine srcI ?_;kernel_rfl)
    | (refine nsI ?_;kernel_rfl)
    | (with_reducible refine AltR.own (by assumption) ?_;conv=>whnf;try dsimp only [St.after,St.afterAt,St.pin,St.unpin,initSt,initT,numO,cellsA,Option.map,ren,renL,renO,St.setObj,headSt,List.cons_append,List.nil_append,List.length_nil,Nat.reduceAdd])
    | (with_reducible refine AltR.im ?_;conv=>whnf;try dsimp only [St.after,St.afterAt,St.pin,St.unpin,initSt,initT,numO,cellsA,Option.map,ren,renL,renO,St.setObj,headSt,List.cons_append,List.nil_append,List.length_nil,Nat.reduceAdd])
    | (refine And.intro ?_ ?_ <;> conv=>whnf;try dsimp only [St.after,St.afterAt,St.pin,St.unpin,initSt,initT,numO,cellsA,Option.map,ren,renL,renO,St.setObj,headSt,List.cons_append,List.nil_append,List.length_nil,Nat.reduceAdd]))
  refine ⟨by omega,by omega,?_⟩
  rw [take_snoc h0 (by omega)]
  simp [ht,h]
 ·have hf:l.findIdx? (fun x=>x == n)=none:=by
   rw [List.findIdx?_eq_none_iff]
   intro c hc
   rw [take_all (by omega)] at ht
   simp only [beq_eq_false_iff_ne]
   rintro rfl
   exact ht hc
  unfold idx
  rw [hf]
set_option maxRecDepth 10000 in
theorem Contains_p (l:List Int) (n:Int) (hl:l.length≤4611686018427387904):Pure Try.prog 82 [Is l,I n] (Bo (l.contains n)) none:=by
 refine fun_of tok D_ok Try.func82 rfl Try.ntmps82 Try.results82 (by kernel_rfl) (by simp) (by simp) ?_
 conv=>whnf
 repeat' ((first
  | (refine Ck.mk ?_)
  | (refine ifD (fun _=>?_) (fun _=>?_))
  | (refine ifE (fun _=>?_) (fun _=>?_))
  | (refine ifN (fun _=>?_) (fun _=>?_))
  | ((with_reducible refine natI ?_))
  | ((with_reducible refine ifNot ?_))
  | ((with_reducible refine ifAndD (fun _ _=>?_) (fun _=>?_)))
  | ((with_reducible refine ifAnd (fun _ _=>?_) (fun _=>?_)))
  | (refine ixM (by omega) (by first | omega | (simp only [List.length_set,List.length_map,List.length_append,List.length_cons,List.length_nil,List.length_replicate];omega)) rfl ?_)
  | (refine ixA (by omega) (by first | omega | (simp only [List.length_set,List.length_map,List.length_append,List.length_cons,List.length_nil,List.length_replicate];omega)) ?_)
  | (refine ltM (by omega) (by first | omega | (simp only [List.length_set,List.length_map,List.length_append,List.length_cons,List.length_nil,List.length_replicate];omega)) ?_)
  | (refine calI (by omega) ?_)
  | (refine cu8 (by omega) ?_)
  | (refine cu64 (by omega) ?_)
  | (refine And.intro (by omega) ?_;refine crem (by omega) ?_)
  | (refine And.intro (by omega) ?_;refine cquo (by omega) ?_)
  | (refine ⟨_,_,Index_p l n hl,?_⟩)
  | (refine .inl ?_;(conv=>whnf);refine ⟨_,_,Index_p l n hl,?_⟩)
  | ((with_reducible refine preI ?_);(first | refine preNil ?_ | refine preOp rfl rfl ?_ | refine preT rfl rfl rfl rfl ?_ | refine preF rfl rfl rfl rfl ?_ | refine preTS rfl rfl rfl rfl ?_ | refine preFS rfl rfl rfl rfl ?_ | refine preSkip rfl rfl rfl rfl ?_ | refine preGT rfl rfl rfl rfl ?_ | refine preGF rfl rfl rfl rfl ?_))
  | (refine AltS.own (by assumption) ?_)
  | (refine AltS.im ?_)
  | (refine AltT.own (by assumption) ?_)
  | (refine AltT.im ?_)
  | (refine AltR.own (by assumption) ?_)
  | (refine AltR.im ?_)
  | (refine NilK.mk (fun _=>?_) ?_)
  | (refine AltV.own (by assumption) ?_)
  | (refine AltV.im ?_)
  | ((first | refine drawA2 (by decide +kernel) ?_ | refine drawA (by decide +kernel) ?_ | refine drawL (by decide +kernel) ?_);conv=>whnf;(try dsimp only [St.after,St.afterAt,St.pin,St.unpin,initSt,initT,numO,cellsA,Option.map,ren,renL,renO,St.setObj,headSt,List.cons_append,List.nil_append,List.length_nil,Nat.reduceAdd]);try (conv=>enter [7,3];whnf))
  | (refine ap1 (by decide) (by omega) rfl rfl ?_)
  | (refine ap0 (by decide) rfl ?_)
  | (refine apL (by decide) (by omega) (fun _=>rfl) ?_)
  | (refine apM (by decide) (by omega) (fun _=>rfl) ?_)
  | (refine setI (z:=_) rfl ?_)
  | (refine And.intro (by omega) (And.intro (by omega) ?_))
  | (refine ifB_intro (fun _=>?_) (fun _=>?_))
  | (refine exitA (by kernel_rfl) (by kernel_rfl) ⟨?_,trivial⟩ ?_ <;> (conv=>whnf) <;> repeat' (first | exact trivial | with_reducible rfl | (refine srcI ?_;kernel_rfl) | (refine nsI ?_;kernel_rfl) | (with_reducible refine AltR.own (by assumption) ?_;conv=>whnf;try dsimp only [St.after,St.afterAt,St.pin,St.unpin,initSt,initT,numO,cellsA,Option.map,ren,renL,renO,St.setObj,headSt,List.cons_append,List.nil_append,List.length_nil,Nat.reduceAdd]) | (with_reducible refine AltR.im ?_;conv=>whnf;try dsimp only [St.after,St.afterAt,St.pin,St.unpin,initSt,initT,numO,cellsA,Option.map,ren,renL,renO,St.setObj,headSt,List.cons_append,List.nil_append,List.length_nil,Nat.reduceAdd]) | (refine And.intro ?_ ?_ <;> conv=>whnf;try dsimp only [St.after,St.afterAt,St.pin,St.unpin,initSt,initT,numO,cellsA,Option.map,ren,renL,renO,St.setObj,headSt,List.cons_append,List.nil_append,List.length_nil,Nat.reduceAdd])))) <;> (conv=>whnf;try dsimp only [St.after,St.afterAt,St.pin,St.unpin,initSt,initT,numO,cellsA,Option.map,ren,renL,renO,St.setObj,headSt,List.cons_append,List.nil_append,List.length_nil,Nat.reduceAdd]))
 rw [← idx_ge]
def Bd.seq (b:Bd) (s d:Int):Nat→Int→List Int
 | 0,_=>[]
 | n+1,x=>if x < 0 then [] else x :: b.seq s d n (b.to s d x)
theorem Bd.seq_len (b:Bd) (s d:Int):∀ (n:Nat) (x:Int),(b.seq s d n x).length≤n
 | 0,_=>Nat.le_refl _
 | n+1,x=>by
  unfold Bd.seq
  split
  ·simp
  ·have:=b.seq_len s d n (b.to s d x)
   simp;omega
theorem Bd.seq_neg (b:Bd) (s d:Int) {n:Nat} {x:Int} (h:x < 0):b.seq s d (n+1) x=[]:=if_pos h
theorem Bd.seq_pos (b:Bd) (s d:Int) {n:Nat} {x:Int} (h:0≤x):b.seq s d (n+1) x=x :: b.seq s d n (b.to s d x):=if_neg (by omega)
def Bd.seqL (b:Bd) (s d c:Int):List Int:=b.seq s d 66 (b.to s d c)
structure SeqS where
 k:Nat
 x:Int
structure SeqI (b:Bd) (s d c:Int) (p:SeqS):Prop where
 k:p.k < 66
 drop:(b.seqL s d c).drop p.k=b.seq s d (66 - p.k) p.x
 lo:-1≤p.x
 kl:p.k≤(b.seqL s d c).length
theorem SeqI.zero {b:Bd} (hb:b.ok) (s d c:Int):SeqI b s d c ⟨0,b.to s d c⟩:=⟨by simp,rfl,(b.to_lt hb s d c).1,Nat.zero_le _⟩
theorem SeqI.done {b:Bd} {s d c:Int} {p:SeqS} (h:SeqI b s d c p) (hx:p.x < 0):(b.seqL s d c).length≤p.k:=by
 have h1:=h.drop
 have:=h.k
 rw [show 66 - p.k=(65 - p.k)+1 by omega,b.seq_neg s d hx] at h1
 exact List.drop_eq_nil_iff.1 h1
theorem SeqI.at {b:Bd} {s d c:Int} {p:SeqS} (h:SeqI b s d c p) (hx:0≤p.x):∃ hk:p.k < (b.seqL s d c).length,(b.seqL s d c)[p.k]=p.x:=by
 have h1:=h.drop
 have:=h.k
 rw [show 66 - p.k=(65 - p.k)+1 by omega,b.seq_pos s d hx] at h1
 have hk:p.k < (b.seqL s d c).length:=by
  rcases Nat.lt_or_ge p.k (b.seqL s d c).length with q | q
  ·exact q
  ·rw [List.drop_eq_nil_of_le q] at h1;cases h1
 refine ⟨hk,?_⟩
 rw [List.drop_eq_getElem_cons hk] at h1
 injection h1
theorem SeqI.next {b:Bd} (hb:b.ok) {s d c:Int} {p:SeqS} (h:SeqI b s d c p) (hx:0≤p.x) (hk:p.k+1 < 66):SeqI b s d c ⟨p.k+1,b.to s d p.x⟩:=by
 have h1:=h.drop
 rw [show 66 - p.k=(65 - p.k)+1 by omega,b.seq_pos s d hx] at h1
 refine ⟨hk,?_,(b.to_lt hb s d p.x).1,(h.at hx).1⟩
 show (b.seqL s d c).drop (p.k+1)=b.seq s d (66 - (p.k+1)) (b.to s d p.x)
 have h2:=congrArg (List.drop 1) h1
 rw [List.drop_drop,List.drop_one,List.tail_cons] at h2
 rw [show 66 - (p.k+1)=65 - p.k by omega,← h2]
set_option maxRecDepth 10000 in
theorem steps_p (b:Bd) (s d c:Int):Fun Try.prog 81 [] [b.av,I s,I d,I c] (.fn (.func 90) [] [.ptr 0 0,.ptr 1 0,.ptr 2 0,.ptr 3 0]) [.box [I b.cells,Iss b.next,Is b.turn],.box [I s],.box [I d],.box [I c]]:=by
 refine fun_of tok D_ok Try.func81 rfl Try.ntmps81 Try.results81 (by kernel_rfl) (by simp) (by simp) ?_
 conv=>whnf
 refine exitS [.obj 0,.obj 1,.obj 2,.obj 3] (by kernel_rfl) (by kernel_rfl) (by kernel_rfl) (lvL ?_) (lvL ?_) <;> (try (apply Cj.mk <;> first | exact trivial | intros))
set_option maxHeartbeats 1000000 in
set_option maxRecDepth 10000 in
theorem steps1_it (b:Bd) (hb:b.ok) (s d c:Int):IterC Try.prog 90 [.box [I b.cells,Iss b.next,Is b.turn],.box [I s],.box [I d],.box [I c]] [] [.ptr 0 0,.ptr 1 0,.ptr 2 0,.ptr 3 0]
  ((b.seqL s d c).map fun y=>[I y]) (decide ((b.seqL s d c).length < 66)):=by
 intro l Gh hY hG
 have hY':∀ (k:Nat) (x:Int) (hk:k < (b.seqL s d c).length),(b.seqL s d c)[k]=x→YCall Try.prog l (Gh k false) [I x] fun b=>Gh (k+1) (!b):=fun k x hk e=>by
  have:=hY k (by rw [List.length_map];exact hk)
  rw [List.getElem_map,e] at this
  exact this
 rw [List.length_map] at hG ⊢
 refine funx_of tok D_ok Try.func90 rfl Try.ntmps90 Try.results90 (by kernel_rfl) (by simp) ?_
 conv=>whnf
 repeat' ((first
  | refine lvA ?_
  | refine ⟨_,_,To15_p b hb _ _ _,lvN ?_⟩
  | (refine .inl ?_;(conv=>whnf);refine ⟨_,_,To15_p b hb _ _ _,lvN ?_⟩)
  | fail) <;> try (apply Cj.mk <;> first | exact trivial | intros))
 refine .of (fun p=>[(6,I p.x)]) (fun p=>[(4,.gh (Gh p.k false))]) 5 (fun p=>SeqI b s d c p) (fun p=>66 - p.k) (⟨0,b.to s d c⟩:SeqS) ?_
 conv=>whnf
 refine ⟨⟨[],hdA (lvL ?_) (lvL ?_)⟩,?_,fun p hp=>lvN ?_⟩ <;> (try (apply Cj.mk <;> first | exact trivial | intros))
 ·exact SeqI.zero hb s d c
 repeat' ((first
  | refine lvA ?_
  | fail) <;> try (apply Cj.mk <;> first | exact trivial | intros))
 ·rename_i hx
  obtain ⟨hk,he⟩:=hp.at (by omega)
  refine ⟨4,_,_,[I p.x],⟨rfl,rfl,rfl⟩,hY' p.k p.x hk he,?_,.inl ?_⟩
  ·by_cases h6:p.k+1 < 66
   ·refine .inl ?_
    conv=>whnf
    repeat' ((first
     | refine lvA ?_
     | refine ⟨_,_,To15_p b hb _ _ _,lvN ?_⟩
     | (refine .inl ?_;(conv=>whnf);refine ⟨_,_,To15_p b hb _ _ _,lvN ?_⟩)
     | fail) <;> try (apply Cj.mk <;> first | exact trivial | intros))
    refine ⟨(⟨p.k+1,b.to s d p.x⟩:SeqS),⟨[],hdA (lvL ?_) (lvL ?_)⟩,?_,by (try dsimp only);omega,rfl⟩ <;> (try (apply Cj.mk <;> first | exact trivial | intros))
    ·exact hp.next hb (by omega) h6
   ·refine .inr ?_
    have hl:=b.seq_len s d 66 (b.to s d c)
    have h7:p.k+1=(b.seqL s d c).length:=by unfold Bd.seqL at hk ⊢;have:=hp.k;omega
    have h8:=hG (decide_eq_false (by omega))
    rw [← h7] at h8
    exact h8
  ·conv=>whnf
   repeat' ((first
    | refine lvA ?_
    | fail) <;> try (apply Cj.mk <;> first | exact trivial | intros))
   refine ⟨.tup [],_,⟨p.k+1,true,by omega,(fun h=>by cases h),rfl⟩,by simp,?_⟩
   conv=>whnf
   refine exitS [.obj 0,.obj 1,.obj 2,.obj 3,.obj 4] (by kernel_rfl) (by kernel_rfl) (by kernel_rfl) (lvL ?_) (lvL ?_) <;> (try (apply Cj.mk <;> first | exact trivial | intros))
 ·rename_i hx
  have h1:=hp.done (by omega)
  have h2:p.k=(b.seqL s d c).length:=Nat.le_antisymm hp.kl h1
  refine ⟨.tup [],_,⟨p.k,false,by omega,fun _=>h2,rfl⟩,by simp,?_⟩
  conv=>whnf
  refine exitS [.obj 0,.obj 1,.obj 2,.obj 3,.obj 4] (by kernel_rfl) (by kernel_rfl) (by kernel_rfl) (lvL ?_) (lvL ?_) <;> (try (apply Cj.mk <;> first | exact trivial | intros))
structure LnI (b:Bd) (s d c:Int) (i:Nat) (out:List Int) (x:Int):Prop where
 len:out.length=i
 ln:b.lineI s d c out x
 sq:SeqI b s d c ⟨i,x⟩
set_option maxHeartbeats 1000000 in
set_option maxRecDepth 10000 in
theorem Line16_p (b:Bd) (hb:b.ok) (s d c:Int):Pure Try.prog 68 [b.av,I s,I d,I c] (.ref 0) (some (.arr 1 ((b.line s d c).map I))):=by
 refine fun_of tok D_ok Try.func68 rfl Try.ntmps68 Try.results68 (by kernel_rfl) (by simp) (by simp) ?_
 conv=>whnf
 repeat' ((first
  | refine lvA ?_
  | fail) <;> try (apply Cj.mk <;> first | exact trivial | intros))
 refine .inr (.inl ?_)
 conv=>whnf
 refine ⟨[],[],[b.av,I s,I d,I c],_,_,⟨rfl,rfl,rfl⟩,steps_p b s d c,?_⟩
 conv=>whnf
 repeat' ((first
  | refine lvA ?_
  | fail) <;> try (apply Cj.mk <;> first | exact trivial | intros))
 refine .mk (fun i out=>[(2,.box [.ref 7]),(7,.arr 1 (out.map I))]) 8 (fun i out=>∃ x,LnI b s d c i out x) ([]:List Int) [3,4,5,6] [.box [I b.cells,Iss b.next,Is b.turn],.box [I s],.box [I d],.box [I c]] [] [.ptr 0 0,.ptr 1 0,.ptr 2 0,.ptr 3 0] ((b.seqL s d c).map fun y=>[I y]) (decide ((b.seqL s d c).length < 66)) ?_
 conv=>whnf
 refine ⟨⟨[],(by kernel_rfl),(by kernel_rfl),(by kernel_rfl),?_,?_⟩,?_⟩
 rotate_left 1
 focus
  conv=>whnf
  repeat' (first
   | exact trivial
   | with_reducible rfl
   | (refine srcI ?_;kernel_rfl)
   | (refine nsI ?_;kernel_rfl)
   | (with_reducible refine AltR.own (by assumption) ?_;conv=>whnf;try dsimp only [St.after,St.afterAt,St.pin,St.unpin,initSt,initT,numO,cellsA,Option.map,ren,renL,renO,St.setObj,headSt,List.cons_append,List.nil_append,List.length_nil,Nat.reduceAdd])
   | (with_reducible refine AltR.im ?_;conv=>whnf;try dsimp only [St.after,St.afterAt,St.pin,St.unpin,initSt,initT,numO,cellsA,Option.map,ren,renL,renO,St.setObj,headSt,List.cons_append,List.nil_append,List.length_nil,Nat.reduceAdd])
   | (refine And.intro ?_ ?_ <;> conv=>whnf;try dsimp only [St.after,St.afterAt,St.pin,St.unpin,initSt,initT,numO,cellsA,Option.map,ren,renL,renO,St.setObj,headSt,List.cons_append,List.nil_append,List.length_nil,Nat.reduceAdd])
   | rfl)
 rotate_right 1
 focus
  conv=>whnf
  repeat' (first
   | exact trivial
   | with_reducible rfl
   | (refine srcI ?_;kernel_rfl)
   | (refine nsI ?_;kernel_rfl)
   | (with_reducible refine AltR.own (by assumption) ?_;conv=>whnf;try dsimp only [St.after,St.afterAt,St.pin,St.unpin,initSt,initT,numO,cellsA,Option.map,ren,renL,renO,St.setObj,headSt,List.cons_append,List.nil_append,List.length_nil,Nat.reduceAdd])
   | (with_reducible refine AltR.im ?_;conv=>whnf;try dsimp only [St.after,St.afterAt,St.pin,St.unpin,initSt,initT,numO,cellsA,Option.map,ren,renL,renO,St.setObj,headSt,List.cons_append,List.nil_append,List.length_nil,Nat.reduceAdd])
   | (refine And.intro ?_ ?_ <;> conv=>whnf;try dsimp only [St.after,St.afterAt,St.pin,St.unpin,initSt,initT,numO,cellsA,Option.map,ren,renL,renO,St.setObj,headSt,List.cons_append,List.nil_append,List.length_nil,Nat.reduceAdd])
   | rfl)
 rotate_right 1
 conv=>whnf
 refine ⟨⟨⟨(by kernel_rfl),(by kernel_rfl),(by kernel_rfl)⟩,(by kernel_rfl)⟩,⟨steps1_it b hb s d c,?_⟩,?_,?_,fun i out hlt ⟨x,h⟩=>?_,fun out ⟨x,h⟩=>?_⟩
 ·intro he z ⟨x,h⟩
  have h1:=of_decide_eq_false he
  have h2:=h.sq.k
  rw [List.length_map] at h2
  exact h1 h2
 ·intro i hi
  rw [List.getElem_map]
  exact ⟨rfl,trivial,trivial⟩
 ·exact ⟨_,rfl,b.lineI_zero hb s d c,SeqI.zero hb s d c⟩
 ·rw [List.length_map] at hlt
  have hx0:0≤x:=by
   rcases Int.lt_or_le x 0 with q | q
   ·have:=h.sq.done q
    simp only at this
    omega
   ·exact q
  have e:((b.seqL s d c).map fun y=>[I y])[i]=[I x]:=by rw [List.getElem_map,(h.sq.at hx0).2]
  have hln:=b.lineI_len hb h.ln
  rw [e]
  conv=>whnf
  repeat' ((first
   | refine lvA ?_
   | (refine .inl ?_;(conv=>whnf);refine ⟨_,Contains_p out x (by omega),rfl,?_⟩;conv=>whnf)
   | fail) <;> try (apply Cj.mk <;> first | exact trivial | intros))
  ·rename_i hq
   refine ⟨⟨rfl,rfl⟩,?_⟩
   conv=>whnf
   repeat' ((first
    | refine lvA ?_
    | refine lvE ?_
    | fail) <;> try (apply Cj.mk <;> first | exact trivial | intros))
   rw [b.lineI_end hb h.ln (fun q=>q.2.1 hq)]
  ·rename_i hq1 hq
   refine ⟨⟨rfl,rfl⟩,?_⟩
   conv=>whnf
   repeat' ((first
    | refine lvA ?_
    | refine lvE ?_
    | fail) <;> try (apply Cj.mk <;> first | exact trivial | intros))
   rw [b.lineI_end hb h.ln (fun q=>q.2.2 (List.contains_iff_mem.1 hq))]
  ·rename_i hq1 hq
   have hn:x ∉ out:=fun q=>by rw [List.contains_iff_mem.2 q] at hq;cases hq
   refine ⟨(out++[x]),⟨[],hdA (lvL ?_) (lvL ?_)⟩,?_,rfl⟩ <;> (try (apply Cj.mk <;> first | exact trivial | intros))
   have h2:=b.lineI_succ hb h.ln hx0 hq1 hn
   have h3:=(b.lineI_len hb h2).2
   have h4:=h.len
   rw [List.length_append,List.length_singleton] at h3
   exact ⟨_,by rw [List.length_append,h4];rfl,h2,h.sq.next hb hx0 (by show i+1 < 66;omega)⟩
 ·conv=>whnf
  have hx:x < 0:=by
   rcases Int.lt_or_le x 0 with q | q
   ·exact q
   ·have:=(h.sq.at q).1
    rw [List.length_map] at this
    exact (Nat.lt_irrefl _ this).elim
  repeat' ((first
   | refine lvA ?_
   | refine lvE ?_
   | fail) <;> try (apply Cj.mk <;> first | exact trivial | intros))
  rw [b.lineI_end hb h.ln (fun q=>by omega)]
end Go.Proofs.Ytejljpjdifblpaa
