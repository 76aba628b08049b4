/- Contracts of functions of the program, proved by the checker. -/
import Derived.Test.YthgobfncgnjimaaGreatDoorZ30
set_option linter.unusedVariables false
set_option linter.unusedSimpArgs false
namespace Go.Proofs.YthgobfncgnjimaaGreatDoor
open Go Go.Sk
def xc (c:Int):Int:=code (ofK c) (1 - ofS c)
theorem xc_at {c:Int} (h0:0≤c) (h1:c≤12):xc c=if c=0 then 0 else if (c - 1) % 2=0 then c+1 else c - 1:=by
 unfold xc code ofK ofS
 by_cases h:1≤c∧c≤12
 ·rw [if_pos h,if_pos h,if_pos (by omega)]
  split <;> (try split) <;> omega
 ·rw [if_neg h,if_neg h,if_neg (by omega),if_pos (by omega)]
theorem xc_spec {n c:Int} (h6:n≤6) (h0:0≤c) (h1:c≤2 * n):0≤xc c∧xc c≤2 * n∧xc (xc c)=c∧(xc c=0↔c=0)∧ofK (xc c)=ofK c∧(c=0→ofS (xc c)=ofS c)∧(c≠0→ofS (xc c)=1 - ofS c):=by
 have e:=xc_at h0 (by omega:c≤12)
 have hr:0≤xc c∧xc c≤2 * n:=by rw [e];split <;> (try split) <;> omega
 have e2:=xc_at hr.1 (by omega:xc c≤12)
 refine ⟨hr.1,hr.2,?_,?_,?_,?_,?_⟩
 ·rw [e2,e];repeat' split
  all_goals omega
 ·rw [e];repeat' split
  all_goals omega
 ·unfold ofK
  rw [e]
  repeat' split
  all_goals omega
 ·rintro rfl;rw [e,if_pos rfl]
 ·intro hz
  unfold ofS
  rw [e]
  repeat' split
  all_goals omega
def exP (p:Ps):Ps:=⟨p.ct.map xc,p.h1,p.h0,p.rights,1 - p.side⟩
def exS (s:Rs):Rs:={ s with p:=exP s.p }
def exO (o:Oc):Oc:=⟨exP o.p,o.took⟩
def trn (b:Bd) (x:Stp):Stp:=if x.op=1∨x.op=2∨x.op=7 then ⟨x.op,b.tn x.n⟩ else x
def Gm.turned (g:Gm):Gm:={ g with kinds:=g.kinds.map fun k=>{ k with progs:=k.progs.map (·.map (trn g.b)) } }
theorem trn_op (b:Bd) (x:Stp):(trn b x).op=x.op:=by unfold trn;split <;> rfl
theorem exP_ok {g:Gm} (hg:g.ok) {p:Ps} (h:p.ok g):(exP p).ok g:=by
 have k6:=hg.k6
 refine ⟨by show ((p.ct.map xc).length:Int)=_;rw [List.length_map];exact h.len,fun i i0 i1=>?_,h.h1,h.h0,h.r0,h.r1,by have:=h.s;show 1 - p.side=0∨1 - p.side=1;omega⟩
 have hl:=h.len
 show 0≤nth (p.ct.map xc) i∧nth (p.ct.map xc) i≤_
 rw [nth_map i0 (by omega)]
 have hc:=h.c i i0 i1
 have:=xc_spec k6 hc.1 hc.2
 exact ⟨this.1,this.2.1⟩
theorem exP_exP {g:Gm} (hg:g.ok) {p:Ps} (h:p.ok g):exP (exP p)=p:=by
 have k6:=hg.k6
 have hl:=h.len
 have e:(p.ct.map xc).map xc=p.ct:=by
  refine ext_nth (by simp) fun i i0 i1=>?_
  simp only [List.length_map] at i1
  have hc:=h.c i i0 (by omega)
  rw [nth_map i0 (by simpa using i1),nth_map i0 i1]
  exact (xc_spec k6 hc.1 hc.2).2.2.1
 obtain ⟨ct,h0,h1,r,s⟩:=p
 show (⟨(ct.map xc).map xc,h0,h1,r,1 - (1 - s)⟩:Ps)=_
 rw [show (ct.map xc).map xc=ct from e,show 1 - (1 - s)=s by omega]
theorem exS_exS {g:Gm} (hg:g.ok) {s:Rs} (h:s.ok g):exS (exS s)=s:=by
 show { s with p:=exP (exP s.p) }=s
 rw [exP_exP hg h.pos]
theorem tn_to {b:Bd} (hb:b.ok) {s d:Int} (hs:s=0∨s=1) (d0:0≤d) (d1:d < b.next.length) (c:Int):b.to (1 - s) (b.tn d) c=b.to s d c:=by
 have ht:=hb.t0 d d0 d1
 have kin:∀ s' d':Int,s'=0∨s'=1→0≤d'→d' < b.next.length→0≤c→c < b.cells→b.to s' d' c=b.nx (if s'=1 then b.tn d' else d') c:=fun s' d' h1 h2 h3 h4 h5=>if_neg (by omega)
 have kout:∀ s' d':Int,c < 0∨c≥b.cells→b.to s' d' c=-1:=fun s' d' h=>if_pos (by omega)
 by_cases hc:c < 0∨c≥b.cells
 ·rw [kout _ _ hc,kout _ _ hc]
 ·rw [kin _ _ (by omega) ht.1 ht.2.1 (by omega) (by omega),kin _ _ hs d0 d1 (by omega) (by omega)]
  rcases hs with rfl | rfl
  ·rw [if_pos (by decide:(1:Int) - 0=1),if_neg (by decide:¬ (0:Int)=1),ht.2.2]
  ·rw [if_neg (by decide:¬ (1:Int) - 1=1),if_pos rfl]
theorem tn_line {b:Bd} (hb:b.ok) {s d:Int} (hs:s=0∨s=1) (d0:0≤d) (d1:d < b.next.length) (c:Int):b.line (1 - s) (b.tn d) c=b.line s d c:=by
 have:∀ (n:Nat) (out:List Int) (x:Int),b.lineFrom (1 - s) (b.tn d) c n out x=b.lineFrom s d c n out x:=fun n=>by
  induction n with
  | zero=>intro out x;rfl
  | succ n ih =>
   intro out x
   unfold Bd.lineFrom
   rw [tn_to hb hs d0 d1,ih]
 unfold Bd.line
 rw [tn_to hb hs d0 d1]
 exact this _ _ _
theorem slide_ex {g:Gm} (hg:g.ok) {p:Ps} (h:p.ok g):∀ l:List Int,(∀ c,c∈l→0≤c∧c < g.b.cells)→slideTo (p.ct.map xc) l=slideTo p.ct l
 | [],_=>rfl
 | c :: r,hl=>by
  have hc:=hl c (by simp)
  have hn:=h.c c hc.1 hc.2
  have hx:=(xc_spec hg.k6 hn.1 hn.2).2.2.2.1
  have hlen:=h.len
  unfold slideTo
  rw [nth_map hc.1 (by omega),slide_ex hg h r fun c hc=>hl c (by simp [hc])]
  by_cases q:nth p.ct c=0
  ·rw [if_neg (fun h=>h (hx.2 q)),if_neg (fun h=>h q)]
  ·rw [if_pos (fun h=>q (hx.1 h)),if_pos q]
theorem exP_hand {p:Ps} (hs:p.side=0∨p.side=1):(exP p).hand=p.hand:=by
 unfold Ps.hand exP
 dsimp only
 rcases hs with h | h
 ·rw [if_neg (by omega),if_pos h]
 ·rw [if_pos (by omega),if_neg (by omega)]
theorem exP_setH {p:Ps} (hs:p.side=0∨p.side=1) (l:List Int):(exP p).setH l=exP (p.setH l):=by
 unfold Ps.setH exP
 dsimp only
 rcases hs with h | h
 ·rw [if_neg (by omega),if_pos h]
 ·rw [if_pos (by omega),if_neg (by omega)]
theorem map_setI {l:List Int} {f:Int→Int} {i:Nat} {v:Int}:(l.set i v).map f=(l.map f).set i (f v):=List.map_set ..
theorem turned_nk (g:Gm):g.turned.nk=g.nk:=by show ((g.kinds.map _).length:Int)=_;rw [List.length_map];rfl
theorem turned_kind (g:Gm) {k:Int} (k0:0≤k) (k1:k < g.nk):nth g.turned.kinds k={ nth g.kinds k with progs:=(nth g.kinds k).progs.map (·.map (trn g.b)) }:=nth_map (l:=g.kinds) k0 k1
theorem turned_keep (g:Gm) {k:Int} (k0:0≤k) (k1:k < g.nk):g.turned.keep k=g.keep k:=by
 unfold Gm.keep
 rw [turned_kind g k0 k1]
theorem ex_step {g:Gm} (hg:g.ok) {s:Rs} (hs:s.ok g) {x:Stp} (hx:StpOk g.nd g.nk g.rights x):g.turned.stepR (exS s) (trn g.b x)=(g.stepR s x).map exS:=by
 have k6:=hg.k6
 have u0:=hs.u0
 have u1:=hs.u1
 have hl:=hs.len
 have hsd:=hs.sd
 have hr:=hs.c s.cur u0 u1
 have hk:=ofK_rg hg hr.1 hr.2
 have ec:nth (exS s).p.ct (exS s).cur=xc (nth s.p.ct s.cur):=nth_map (l:=s.p.ct) (i:=s.cur) u0 (by omega)
 have sp:=xc_spec k6 hr.1 hr.2
 have eb:g.turned.b=g.b:=rfl
 have esd:(exS s).p.side=1 - s.p.side:=rfl
 have ecu:(exS s).cur=s.cur:=rfl
 have hO:∀ (s:Rs) (b:Bool),onlyR (exS s) b=(onlyR s b).map exS:=fun s b=>by cases b <;> rfl
 have eop:=trn_op g.b x
 rcases stp_op hx with e | e | e | e | e | e | e | e | e | e
 ·have hn:0≤x.n∧x.n < g.b.next.length:=by unfold StpOk at hx;unfold Gm.nd at hx;omega
  have et:trn g.b x=⟨x.op,g.b.tn x.n⟩:=if_pos (.inl e)
  rw [step1 _ _ (eop.trans e),step1 g s e,et,eb,esd,ecu]
  dsimp only
  rw [tn_to hg.b hsd hn.1 hn.2]
  exact hO { s with cur:=g.b.to s.p.side x.n s.cur } _
 ·have hn:0≤x.n∧x.n < g.b.next.length:=by unfold StpOk at hx;unfold Gm.nd at hx;omega
  have et:trn g.b x=⟨x.op,g.b.tn x.n⟩:=if_pos (.inr (.inl e))
  rw [step2 _ _ (eop.trans e),step2 g s e,et,eb,esd,ecu]
  dsimp only
  rw [tn_line hg.b hsd hn.1 hn.2]
  show (slideTo (s.p.ct.map xc) _).map _=_
  rw [slide_ex hg hs.pos _ (g.b.line_rg hg.b s.p.side x.n s.cur).1,List.map_map]
  rfl
 ·rw [step3 _ _ (eop.trans e),step3 g s e,ec,sp.2.2.2.2.1];exact hO _ _
 ·rw [step4 _ _ (eop.trans e),step4 g s e,ec,sp.2.2.2.2.1,esd]
  by_cases hz:nth s.p.ct s.cur=0
  ·rw [show decide (ofK (nth s.p.ct s.cur)≥0)=false by simp;omega]
   exact hO _ _
  ·rw [sp.2.2.2.2.2.2 hz,show (1 - ofS (nth s.p.ct s.cur) != 1 - s.p.side)=(ofS (nth s.p.ct s.cur) != s.p.side) by rw [Bool.eq_iff_iff,bne_iff_ne,bne_iff_ne];omega]
   exact hO _ _
 ·rw [step5 _ _ (eop.trans e),step5 g s e,ec,sp.2.2.2.2.1,esd]
  by_cases hz:nth s.p.ct s.cur=0
  ·rw [show decide (ofK (nth s.p.ct s.cur)≥0)=false by simp;omega]
   exact hO _ _
  ·rw [sp.2.2.2.2.2.2 hz,show (1 - ofS (nth s.p.ct s.cur) == 1 - s.p.side)=(ofS (nth s.p.ct s.cur) == s.p.side) by rw [Bool.eq_iff_iff,beq_iff_eq,beq_iff_eq];omega]
   exact hO _ _
 ·rw [step6 _ _ (eop.trans e),step6 g s e]
  unfold Gm.takeR
  dsimp only
  rw [ec,sp.2.2.2.2.1,esd,ecu]
  by_cases hz:ofK (nth s.p.ct s.cur) < 0
  ·rw [if_pos (.inl hz),if_pos (.inl hz)];rfl
  ·have hnz:nth s.p.ct s.cur≠0:=by omega
   have hkk:0≤ofK (nth s.p.ct s.cur)∧ofK (nth s.p.ct s.cur) < g.nk:=by omega
   rw [sp.2.2.2.2.2.2 hnz,turned_keep g hkk.1 hkk.2]
   by_cases hz2:ofS (nth s.p.ct s.cur)=s.p.side
   ·rw [if_pos (.inr (by omega)),if_pos (.inr hz2)];rfl
   ·rw [if_neg (show ¬ (ofK (nth s.p.ct s.cur) < 0∨1 - ofS (nth s.p.ct s.cur)=1 - s.p.side) by omega),if_neg (show ¬ (ofK (nth s.p.ct s.cur) < 0∨ofS (nth s.p.ct s.cur)=s.p.side) by omega)]
    have e1:(⟨(exS s).p.ct.set s.cur.toNat 0,(exS s).p.h0,(exS s).p.h1,(exS s).p.rights,1 - s.p.side⟩:Ps)=exP { s.p with ct:=s.p.ct.set s.cur.toNat 0 }:=by
     show (⟨(s.p.ct.map xc).set s.cur.toNat 0,_,_,_,_⟩:Ps)=⟨(s.p.ct.set s.cur.toNat 0).map xc,_,_,_,_⟩
     rw [map_setI];rfl
    rw [e1,exP_hand (p:={ s.p with ct:=s.p.ct.set s.cur.toNat 0 }) hsd]
    split
    ·split
     ·rfl
     ·rw [exP_setH (p:={ s.p with ct:=s.p.ct.set s.cur.toNat 0 }) hsd];rfl
    ·rfl
 ·have hn:0≤x.n∧x.n < g.b.next.length:=by unfold StpOk at hx;unfold Gm.nd at hx;omega
  have et:trn g.b x=⟨x.op,g.b.tn x.n⟩:=if_pos (.inr (.inr e))
  rw [step7 _ _ (eop.trans e),step7 g s e]
  unfold Gm.pushR
  dsimp only
  rw [et,ec,eb,esd,ecu]
  dsimp only
  rw [tn_to hg.b hsd hn.1 hn.2]
  have t1:=(g.b.to_lt hg.b s.p.side x.n s.cur).2
  generalize g.b.to s.p.side x.n s.cur=to at *
  by_cases q:nth s.p.ct s.cur=0∨to < 0
  ·rw [if_pos (by rw [sp.2.2.2.1];omega),if_pos (by omega)];rfl
  ·have hto:=hs.c to (by omega) t1
   have sp2:=xc_spec k6 hto.1 hto.2
   have eto:nth (exS s).p.ct to=xc (nth s.p.ct to):=nth_map (by omega) (by omega)
   rw [eto]
   by_cases q2:nth s.p.ct to≠0
   ·rw [if_pos (.inr (.inr (by rw [ne_eq,sp2.2.2.2.1];exact q2))),if_pos (.inr (.inr q2))];rfl
   ·rw [if_neg (by rw [ne_eq,sp.2.2.2.1,sp2.2.2.2.1];omega),if_neg (by omega)]
    show [_]=[_]
    congr 1
    show (⟨⟨((s.p.ct.map xc).set to.toNat (xc (nth s.p.ct s.cur))).set s.cur.toNat 0,_,_,_,_⟩,_,_,_⟩:Rs)=⟨⟨((s.p.ct.set to.toNat (nth s.p.ct s.cur)).set s.cur.toNat 0).map xc,_,_,_,_⟩,_,_,_⟩
    rw [map_setI,map_setI]
    rfl
 ·have et:trn g.b x=x:=if_neg (by omega)
  rw [step8 _ _ (eop.trans e),step8 g s e,et];rfl
 ·have et:trn g.b x=x:=if_neg (by omega)
  rw [step9 _ _ (eop.trans e),step9 g s e,et];exact hO _ _
 ·have et:trn g.b x=x:=if_neg (by omega)
  rw [step10 _ _ (eop.trans e),step10 g s e,et];rfl
theorem exS_inj {g:Gm} (hg:g.ok) {a b:Rs} (ha:a.ok g) (hb:b.ok g) (h:exS a=exS b):a=b:=by rw [← exS_exS hg ha,h,exS_exS hg hb]
section
variable {g:Gm} (hg:g.ok)
include hg
theorem ex_add1 {l:List Rs} {s:Rs} (hl:∀ y,y∈l→y.ok g) (hs:s.ok g):add1 (l.map exS) (exS s)=(add1 l s).map exS:=by
 unfold add1
 by_cases h:s∈l
 ·rw [if_pos h,if_pos (List.mem_map.2 ⟨s,h,rfl⟩)]
 ·rw [if_neg h,if_neg (fun h'=>by
   obtain ⟨y,hy,e⟩:=List.mem_map.1 h'
   exact h (exS_inj hg (hl y hy) hs e ▸ hy)),List.map_append]
  rfl
theorem ex_addR (more:List Rs):∀ {l:List Rs},(∀ y,y∈l→y.ok g)→(∀ y,y∈more→y.ok g)→addR (l.map exS) (more.map exS)=(addR l more).map exS:=by
 induction more with
 | nil=>intro l _ _;rfl
 | cons s r ih =>
  intro l hl hm
  unfold addR at ih ⊢
  rw [List.map_cons,List.foldl_cons,List.foldl_cons,ex_add1 hg hl (hm s (by simp))]
  refine ih (fun y hy=>?_) fun y hy=>hm y (by simp [hy])
  rcases mem_add1.1 hy with hy | rfl
  ·exact hl y hy
  ·exact hm _ (by simp)
theorem ex_all {x:Stp} (hx:StpOk g.nd g.nk g.rights x) (now:List Rs):∀ {acc:List Rs},(∀ y,y∈acc→y.ok g)→(∀ s,s∈now→s.ok g) →
  (now.map exS).foldl (g.turned.next1 (trn g.b x)) (acc.map exS)=(now.foldl (g.next1 x) acc).map exS:=by
 induction now with
 | nil=>intro acc _ _;rfl
 | cons s r ih =>
  intro acc ha hn
  have h1:=hn s (by simp)
  have e:g.turned.next1 (trn g.b x) (acc.map exS) (exS s)=(g.next1 x acc s).map exS:=by
   unfold Gm.next1
   rw [ex_step hg h1 hx]
   exact ex_addR hg _ ha fun y hy=>stepR_ok hg h1 hx hy
  rw [List.map_cons,List.foldl_cons,List.foldl_cons,e]
  refine ih (fun y hy=>?_) fun s hs=>hn s (by simp [hs])
  unfold Gm.next1 at hy
  rcases (mem_addR _).1 hy with hy | hy
  ·exact ha y hy
  ·exact stepR_ok hg h1 hx hy
theorem trn_ok {x:Stp} (hx:StpOk g.nd g.nk g.rights x):StpOk g.nd g.nk g.rights (trn g.b x):=by
 unfold trn
 split
 ·rename_i h
  have hn:0≤x.n∧x.n < g.nd:=by unfold StpOk at hx;omega
  have ht:=hg.b.t0 x.n hn.1 hn.2
  unfold StpOk Gm.nd
  dsimp only
  omega
 ·exact hx
theorem turned_ok:g.turned.ok:=by
 refine ⟨hg.b,hg.c9,by rw [turned_nk];exact hg.k1,by rw [turned_nk];exact hg.k6,fun k k0 k1=>?_,fun k k0 k1 pg hp=>?_,hg.r0,hg.r4,hg.cl,fun c hc=>?_,hg.bl,hg.en⟩
 ·rw [turned_nk] at k1
  rw [turned_kind g k0 k1,List.length_map]
  exact hg.pl k k0 k1
 ·rw [turned_nk] at k1 ⊢
  rw [turned_kind g k0 k1] at hp
  obtain ⟨q,hq,rfl⟩:=List.mem_map.1 hp
  have hpg:=hg.pg k k0 k1 q hq
  refine ⟨by rw [List.length_map];exact hpg.l1,by rw [List.length_map];exact hpg.l8,fun y hy=>?_⟩
  obtain ⟨z,hz,rfl⟩:=List.mem_map.1 hy
  exact trn_ok hg (hpg.st z hz)
 ·have:=hg.cs c hc
  exact ⟨this.t1,this.t3,by rw [turned_nk];exact this.cs⟩
theorem turned_pok {p:Ps} (hp:p.ok g):p.ok g.turned:=by
 have _u:=hg
 have hd:∀ l,HdOk g l→HdOk g.turned l:=fun l hl=>⟨by rw [turned_nk];exact hl.len,fun k k0 k1=>by
  rw [turned_nk] at k1
  have:=hl.v k k0 k1
  exact ⟨this.1,this.2.1,fun q=>by rw [turned_keep g k0 k1];exact this.2.2 q⟩⟩
 exact ⟨hp.len,fun c c0 c1=>by rw [turned_nk];exact hp.c c c0 c1,hd _ hp.h0,hd _ hp.h1,hp.r0,hp.r1,hp.s⟩
variable {p:Ps} {cell i:Int} (h:CanRun g p cell i)
include h
theorem ex_cell:nth (exP p).ct cell=xc (nth p.ct cell):=by
 have _u:=hg
 exact nth_map h.c0 (by have:=h.ok.len;have:=h.c1;omega)
theorem ex_kind:ofK (nth (exP p).ct cell)=ofK (nth p.ct cell)∧ofS (nth (exP p).ct cell)=1 - ofS (nth p.ct cell):=by
 have hc:=h.ok.c cell h.c0 h.c1
 have hk:=ofK_rg hg hc.1 hc.2
 have k0:=h.k0
 have sp:=xc_spec hg.k6 hc.1 hc.2
 rw [ex_cell hg h]
 exact ⟨sp.2.2.2.2.1,sp.2.2.2.2.2.2 (by omega)⟩
theorem ex_prog:g.turned.prog (exP p) cell i=(g.prog p cell i).map (trn g.b):=by
 unfold Gm.prog
 rw [(ex_kind hg h).1,turned_kind g h.k0 (h.k1 hg)]
 exact nth_map h.i0 h.i1
theorem ex_run:CanRun g.turned (exP p) cell i:=by
 have hk:=ex_kind hg h
 refine ⟨turned_pok hg (exP_ok hg h.ok),h.c0,h.c1,by rw [hk.1];exact h.k0,by rw [hk.2,h.sd];rfl,h.i0,?_⟩
 rw [hk.1,turned_kind g h.k0 (h.k1 hg),List.length_map]
 exact h.i1
theorem ex_now:∀ n:Nat,n≤(g.prog p cell i).length→g.turned.now (exP p) cell i n=(g.now p cell i n).map exS
 | 0,_=>by
  have hk:=ex_kind hg h
  show [run0 (exP p) cell]=[exS (run0 p cell)]
  congr 1
  unfold run0 exS
  rw [hk.1]
  show (⟨⟨(p.ct.map xc).set cell.toNat 0,_,_,_,_⟩,_,_,_⟩:Rs)=⟨⟨(p.ct.set cell.toNat 0).map xc,_,_,_,_⟩,_,_,_⟩
  rw [map_setI]
  rfl
 | n+1,hn=>by
  have ih:=ex_now n (by omega)
  have e:((n+1:Nat):Int)=(n:Int)+1:=by omega
  have hp:=ex_prog hg h
  have hx:=(h.pg hg).st _ (nth_mem (l:=g.prog p cell i) (i:=n) (by omega) (by omega))
  have hok:=(now_ok hg h n (by omega)).1
  rw [e,Gm.now_succ _ _ cell i (by omega) (by rw [hp,List.length_map];omega),g.now_succ p cell i (by omega) (by omega),hp,ih,nth_map (by omega) (by omega)]
  exact ex_all hg hx _ (acc:=[]) (by simp) hok
theorem ex_mem {o:Oc}:o∈g.turned.runsR (exP p) cell i↔∃ q,q∈g.runsR p cell i∧o=exO q:=by
 have hp:=ex_prog hg h
 have hn:=ex_now hg h _ (Nat.le_refl _)
 have hok:=(now_ok hg h _ (Nat.le_refl _)).1
 have hsd:=h.ok.s
 have k6:=hg.k6
 unfold Gm.runsR
 rw [hp,List.length_map,hn,insL_mem]
 have hf:∀ s,s∈g.now p cell i (g.prog p cell i).length→(nth (exS s).p.ct (exS s).cur=0↔nth s.p.ct s.cur=0)∧fin (exP p).side (exS s)=exO (fin p.side s):=fun s hs=>by
  have h1:=hok s hs
  have u0:=h1.u0
  have u1:=h1.u1
  have hl:=h1.len
  have hr:=h1.c s.cur u0 u1
  have sp:=xc_spec k6 hr.1 hr.2
  have ec:nth (exS s).p.ct (exS s).cur=xc (nth s.p.ct s.cur):=nth_map (l:=s.p.ct) (i:=s.cur) u0 (by omega)
  have c0:=h1.k0
  have c1:=h1.k1
  have hcode:=code_rg c0 c1 k6 hsd
  have hcode2:=code_rg (s:=1 - p.side) c0 c1 k6 (by omega)
  have hxc:code s.kind (1 - p.side)=xc (code s.kind p.side):=by
   rw [hcode2,hcode,xc_at (by omega) (by omega),if_neg (by omega)]
   split <;> omega
  refine ⟨by rw [ec];exact sp.2.2.2.1,?_⟩
  unfold fin exO
  show (⟨⟨(s.p.ct.map xc).set s.cur.toNat (code s.kind (1 - p.side)),_,_,_,_⟩,_⟩:Oc)=⟨⟨(s.p.ct.set s.cur.toNat (code s.kind p.side)).map xc,_,_,_,_⟩,_⟩
  rw [map_setI,hxc]
  rfl
 constructor
 ·rintro (ho | ⟨t,ht,hz,rfl⟩)
  ·simp at ho
  ·obtain ⟨s,hs,rfl⟩:=List.mem_map.1 ht
   exact ⟨fin p.side s,(insL_mem _ _).2 (.inr ⟨s,hs,(hf s hs).1.1 hz,rfl⟩),(hf s hs).2⟩
 ·rintro ⟨q,hq,rfl⟩
  rcases (insL_mem _ _).1 hq with hq | ⟨s,hs,hz,rfl⟩
  ·simp at hq
  ·exact .inr ⟨exS s,List.mem_map.2 ⟨s,hs,rfl⟩,(hf s hs).1.2 hz,((hf s hs).2).symm⟩
theorem ex_back:(g.turned.runsR (exP p) cell i).foldl (fun acc o=>put cmpO (exO o) acc) []=g.runsR p cell i:=by
 have hfold:∀ (l acc:List Oc),Asc cmpO acc→Asc cmpO (l.foldl (fun acc o=>put cmpO (exO o) acc) acc)∧∀ x,x∈l.foldl (fun acc o=>put cmpO (exO o) acc) acc↔x∈acc∨∃ o,o∈l∧x=exO o:=fun l=>by
  induction l with
  | nil=>intro acc ha;exact ⟨ha,by simp⟩
  | cons o r ih =>
   intro acc ha
   have:=ih (put cmpO (exO o) acc) (put_asc cmpO_tot ha)
   refine ⟨this.1,fun x=>?_⟩
   rw [List.foldl_cons,this.2,mem_put cmpO_tot]
   constructor
   ·rintro ((rfl | h) | ⟨q,h1,h2⟩)
    ·exact .inr ⟨o,by simp,rfl⟩
    ·exact .inl h
    ·exact .inr ⟨q,by simp [h1],h2⟩
   ·rintro (h | ⟨q,h1,h2⟩)
    ·exact .inl (.inr h)
    ·rcases List.mem_cons.1 h1 with rfl | h1
     ·exact .inl (.inl h2)
     ·exact .inr ⟨q,h1,h2⟩
 have hf:=hfold (g.turned.runsR (exP p) cell i) [] List.Pairwise.nil
 refine Asc.uniq cmpO_tot hf.1 (runs_asc g p cell i) fun x=>?_
 rw [hf.2]
 have hxx:∀ q,q∈g.runsR p cell i→exO (exO q)=q:=fun q hq=>by
  show (⟨exP (exP q.p),q.took⟩:Oc)=q
  rw [exP_exP hg (runsR_ok hg h hq)]
 constructor
 ·rintro (h' | ⟨o,ho,rfl⟩)
  ·simp at h'
  ·obtain ⟨q,hq,rfl⟩:=(ex_mem hg h).1 ho
   rw [hxx q hq];exact hq
 ·intro hx
  exact .inr ⟨exO x,(ex_mem hg h).2 ⟨x,hx,rfl⟩,(hxx x hx).symm⟩
end
end Go.Proofs.YthgobfncgnjimaaGreatDoor
