/- Contracts of functions of the program, proved by the checker. -/
import Derived.Test.YthgobfncgnjimaaGreatDoorZ30
import Derived.Test.YthgobfncgnjimaaGreatDoorZ16
set_option linter.unusedVariables false
set_option linter.unusedSimpArgs false
namespace Go.Proofs.YthgobfncgnjimaaGreatDoor
open Go Go.Sk
def mixC (n:Int) (S o ct:List Int):List Int:=(ints n).map fun c=>if c∈S then nth ct c else nth o c
theorem mixC_len (n:Int) (S o ct:List Int):(mixC n S o ct).length=n.toNat:=by unfold mixC;rw [List.length_map,ints_len]
theorem mixC_nth {n:Int} (S o ct:List Int) {c:Int} (c0:0≤c) (c1:c < n):nth (mixC n S o ct) c=if c∈S then nth ct c else nth o c:=nth_map_ints c0 c1
theorem mixC_at {n:Int} {S:List Int} (o ct:List Int) {c:Int} (c0:0≤c) (c1:c < n) (h:c∈S):nth (mixC n S o ct) c=nth ct c:=by rw [mixC_nth S o ct c0 c1,if_pos h]
theorem mixC_set {n:Int} {S:List Int} (o:List Int) {ct:List Int} {x v:Int} (hl:(ct.length:Int)=n) (x0:0≤x) (x1:x < n) (h:x∈S):mixC n S o (ct.set x.toNat v)=(mixC n S o ct).set x.toNat v:=by
 refine ext_nth (by rw [List.length_set,mixC_len,mixC_len]) fun c c0 c1=>?_
 rw [mixC_len] at c1
 rw [mixC_nth _ _ _ c0 (by omega),nth_set x0 c0 (by omega),nth_set x0 c0 (by rw [mixC_len];omega),mixC_nth _ _ _ c0 (by omega)]
 by_cases e:x=c
 ·subst e;rw [if_pos h,if_pos rfl,if_pos rfl]
 ·rw [if_neg e,if_neg e]
structure FarC (n:Int) (S p0 ct:List Int):Prop where
 len:(ct.length:Int)=n
 eq:∀ c:Int,0≤c→c < n→c ∉ S→nth ct c=nth p0 c
theorem FarC.set {n:Int} {S p0 ct:List Int} (h:FarC n S p0 ct) {x v:Int} (x0:0≤x) (x1:x < n) (hx:x∈S):FarC n S p0 (ct.set x.toNat v):=by
 have hl:=h.len
 refine ⟨by rw [List.length_set];exact h.len,fun c c0 c1 hc=>?_⟩
 rw [nth_set x0 c0 (by omega),if_neg (fun e=>hc (by rw [← e];exact hx))]
 exact h.eq c c0 c1 hc
theorem mixC_inj {n:Int} {S o p0 a b:List Int} (ha:FarC n S p0 a) (hb:FarC n S p0 b) (h:mixC n S o a=mixC n S o b):a=b:=by
 have h1:=ha.len
 have h2:=hb.len
 refine ext_nth (by omega) fun c c0 c1=>?_
 by_cases hc:c∈S
 ·rw [← mixC_at o a c0 (by omega:c < n) hc,h,mixC_at o b c0 (by omega) hc]
 ·rw [ha.eq c c0 (by omega) hc,hb.eq c c0 (by omega) hc]
def mixP (n:Int) (S o:List Int) (p:Ps):Ps:={ p with ct:=mixC n S o p.ct }
def mixS (n:Int) (S o:List Int) (s:Rs):Rs:={ s with p:=mixP n S o s.p }
theorem mixS_inj {n:Int} {S o p0:List Int} {a b:Rs} (ha:FarC n S p0 a.p.ct) (hb:FarC n S p0 b.p.ct) (h:mixS n S o a=mixS n S o b):a=b:=by
 have e:=mixC_inj (o:=o) ha hb (congrArg (fun s:Rs=>s.p.ct) h)
 obtain ⟨⟨c1,h1,g1,r1,s1⟩,k1,u1,t1⟩:=a
 obtain ⟨⟨c2,h2,g2,r2,s2⟩,k2,u2,t2⟩:=b
 simp only [mixS,mixP,Rs.mk.injEq,Ps.mk.injEq] at h e ⊢
 exact ⟨⟨e,h.1.2⟩,h.2⟩
theorem slide_mix {n:Int} {S o ct:List Int}:∀ l:List Int,(∀ c,c∈l→0≤c∧c < n)→(∀ c,c∈slideTo ct l→c∈S)→slideTo (mixC n S o ct) l=slideTo ct l
 | [],_,_=>rfl
 | c :: r,h,hs=>by
  have hc:=h c (by simp)
  have hm:c∈S:=hs c (by unfold slideTo;split <;> simp)
  unfold slideTo
  rw [mixC_at o ct hc.1 hc.2 hm]
  split
  ·rfl
  ·rename_i q
   rw [slide_mix r (fun c hc=>h c (by simp [hc])) fun c hc=>hs c (by unfold slideTo;rw [if_neg q];simp [hc])]
theorem mix_step {g:Gm} (hg:g.ok) {S o:List Int} {s:Rs} (hs:s.ok g) {x:Stp} (hx:StpOk g.nd g.nk g.rights x) (hc:s.cur∈S)
  (h7:x.op=7→nth s.p.ct s.cur≠0→0≤g.b.to s.p.side x.n s.cur→g.b.to s.p.side x.n s.cur∈S) (h2:∀ y,y∈g.stepR s x→y.cur∈S) :
  g.stepR (mixS g.b.cells S o s) x=(g.stepR s x).map (mixS g.b.cells S o):=by
 have u0:=hs.u0
 have u1:=hs.u1
 have hl:=hs.len
 have ec:nth (mixS g.b.cells S o s).p.ct (mixS g.b.cells S o s).cur=nth s.p.ct s.cur:=mixC_at o s.p.ct u0 u1 hc
 have hO:∀ (s:Rs) (b:Bool),onlyR (mixS g.b.cells S o s) b=(onlyR s b).map (mixS g.b.cells S o):=fun s b=>by cases b <;> rfl
 rcases stp_op hx with e | e | e | e | e | e | e | e | e | e
 ·rw [step1 g _ e,step1 g _ e];exact hO { s with cur:=g.b.to s.p.side x.n s.cur } _
 ·rw [step2 g s e] at h2
  have hsl:=slide_mix (o:=o) (ct:=s.p.ct) (S:=S) (n:=g.b.cells) (g.b.line s.p.side x.n s.cur) (g.b.line_rg hg.b s.p.side x.n s.cur).1 fun c hc=>h2 { s with cur:=c } (List.mem_map.2 ⟨c,hc,rfl⟩)
  rw [step2 g _ e,step2 g _ e]
  show (slideTo (mixC g.b.cells S o s.p.ct) (g.b.line s.p.side x.n s.cur)).map _=_
  rw [hsl,List.map_map]
  rfl
 ·rw [step3 g _ e,step3 g _ e,ec];exact hO _ _
 ·rw [step4 g _ e,step4 g _ e,ec];exact hO _ _
 ·rw [step5 g _ e,step5 g _ e,ec];exact hO _ _
 ·rw [step6 g _ e,step6 g _ e]
  unfold Gm.takeR
  rw [ec]
  dsimp only
  have hset:(mixS g.b.cells S o s).p.ct.set (mixS g.b.cells S o s).cur.toNat 0=mixC g.b.cells S o (s.p.ct.set s.cur.toNat 0):=(mixC_set o hl u0 u1 hc).symm
  rw [hset]
  show (if ofK (nth s.p.ct s.cur) < 0∨ofS (nth s.p.ct s.cur)=s.p.side then _ else _)=_
  split
  ·rfl
  ·split
   ·show (if nth (Ps.hand { s.p with ct:=s.p.ct.set s.cur.toNat 0 }) _+1 > 8 then _ else _)=_
    split
    ·rfl
    ·have hsH:∀ (q:Ps) (l:List Int),mixP g.b.cells S o (q.setH l)=(mixP g.b.cells S o q).setH l:=fun q l=>by
      unfold Ps.setH mixP
      dsimp only
      split <;> rfl
     show [_]=[_]
     congr 1
     show (⟨_,_,_,_⟩:Rs)=⟨mixP g.b.cells S o (Ps.setH _ _),_,_,_⟩
     rw [hsH]
     rfl
   ·rfl
 ·rw [step7 g _ e,step7 g _ e]
  unfold Gm.pushR
  rw [ec,show g.b.to (mixS g.b.cells S o s).p.side x.n (mixS g.b.cells S o s).cur=g.b.to s.p.side x.n s.cur from rfl]
  dsimp only
  show (if nth s.p.ct s.cur=0∨g.b.to s.p.side x.n s.cur < 0∨nth (mixC g.b.cells S o s.p.ct) (g.b.to s.p.side x.n s.cur)≠0 then _ else _)=_
  by_cases q:nth s.p.ct s.cur=0∨g.b.to s.p.side x.n s.cur < 0
  ·rw [if_pos (by rcases q with q | q;exact .inl q;exact .inr (.inl q)),if_pos (by rcases q with q | q;exact .inl q;exact .inr (.inl q))];rfl
  ·have t0:0≤g.b.to s.p.side x.n s.cur:=by omega
   have hm:=h7 e (fun e=>q (.inl e)) t0
   have t1:=(g.b.to_lt hg.b s.p.side x.n s.cur).2
   generalize g.b.to s.p.side x.n s.cur=to at *
   rw [mixC_at o s.p.ct t0 t1 hm]
   split
   ·rfl
   ·show [_]=[_]
    congr 1
    show (⟨⟨((mixC g.b.cells S o s.p.ct).set to.toNat (nth s.p.ct s.cur)).set s.cur.toNat 0,_,_,_,_⟩,_,_,_⟩:Rs)=⟨⟨mixC g.b.cells S o ((s.p.ct.set to.toNat (nth s.p.ct s.cur)).set s.cur.toNat 0),_,_,_,_⟩,_,_,_⟩
    rw [mixC_set o (by rw [List.length_set];exact hl) u0 u1 hc,mixC_set o hl t0 t1 hm]
    rfl
 ·rw [step8 g _ e,step8 g _ e];rfl
 ·rw [step9 g _ e,step9 g _ e];exact hO _ _
 ·rw [step10 g _ e,step10 g _ e];rfl
theorem far_step {g:Gm} (hg:g.ok) {S p0:List Int} {s:Rs} (hs:s.ok g) {x:Stp} (hx:StpOk g.nd g.nk g.rights x) (hc:s.cur∈S)
  (h7:x.op=7→nth s.p.ct s.cur≠0→0≤g.b.to s.p.side x.n s.cur→g.b.to s.p.side x.n s.cur∈S) (hf:FarC g.b.cells S p0 s.p.ct) {y:Rs} (hy:y∈g.stepR s x):FarC g.b.cells S p0 y.p.ct:=by
 have u0:=hs.u0
 have u1:=hs.u1
 rcases stp_op hx with e | e | e | e | e | e | e | e | e | e
 ·rw [step1 g s e] at hy
  obtain ⟨rfl,_⟩:=onlyR_mem hy
  exact hf
 ·rw [step2 g s e] at hy
  obtain ⟨c,_,rfl⟩:=List.mem_map.1 hy
  exact hf
 ·rw [step3 g s e] at hy
  obtain ⟨rfl,_⟩:=onlyR_mem hy
  exact hf
 ·rw [step4 g s e] at hy
  obtain ⟨rfl,_⟩:=onlyR_mem hy
  exact hf
 ·rw [step5 g s e] at hy
  obtain ⟨rfl,_⟩:=onlyR_mem hy
  exact hf
 ·rw [step6 g s e] at hy
  have hct:y.p.ct=s.p.ct.set s.cur.toNat 0:=by
   unfold Gm.takeR at hy
   dsimp only at hy
   repeat' split at hy
   ·simp at hy
   ·simp at hy
   ·simp only [List.mem_singleton] at hy
    subst hy
    exact (setH_rights { s.p with ct:=s.p.ct.set s.cur.toNat 0 } _).2.2
   ·simp only [List.mem_singleton] at hy
    subst hy
    rfl
  rw [hct]
  exact hf.set u0 u1 hc
 ·rw [step7 g s e] at hy
  unfold Gm.pushR at hy
  dsimp only at hy
  split at hy
  ·simp at hy
  ·rename_i q
   simp only [List.mem_singleton] at hy
   subst hy
   have t1:=(g.b.to_lt hg.b s.p.side x.n s.cur).2
   have hm:=h7 e (fun e=>q (.inl e)) (by omega)
   exact (hf.set (by omega) t1 hm).set u0 u1 hc
 ·rw [step8 g s e,List.mem_singleton] at hy
  subst hy
  exact hf
 ·rw [step9 g s e] at hy
  obtain ⟨rfl,_⟩:=onlyR_mem hy
  exact hf
 ·rw [step10 g s e,List.mem_singleton] at hy
  subst hy
  exact hf
section
variable {n:Int} {S o p0:List Int}
theorem mix_add1 {l:List Rs} {s:Rs} (hl:∀ y,y∈l→FarC n S p0 y.p.ct) (hs:FarC n S p0 s.p.ct):add1 (l.map (mixS n S o)) (mixS n S o s)=(add1 l s).map (mixS n S o):=by
 unfold add1
 by_cases h:s∈l
 ·rw [if_pos h,if_pos (List.mem_map.2 ⟨s,h,rfl⟩)]
 ·rw [if_neg h,if_neg (fun h'=>by
   obtain ⟨y,hy,e⟩:=List.mem_map.1 h'
   exact h (mixS_inj (hl y hy) hs e ▸ hy)),List.map_append]
  rfl
theorem mix_addR (more:List Rs):∀ {l:List Rs},(∀ y,y∈l→FarC n S p0 y.p.ct)→(∀ y,y∈more→FarC n S p0 y.p.ct)→addR (l.map (mixS n S o)) (more.map (mixS n S o))=(addR l more).map (mixS n S o):=by
 induction more with
 | nil=>intro l _ _;rfl
 | cons s r ih =>
  intro l hl hm
  unfold addR at ih ⊢
  rw [List.map_cons,List.foldl_cons,List.foldl_cons,mix_add1 hl (hm s (by simp))]
  refine ih (fun y hy=>?_) fun y hy=>hm y (by simp [hy])
  rcases mem_add1.1 hy with hy | rfl
  ·exact hl y hy
  ·exact hm _ (by simp)
theorem mix_all {g:Gm} {x:Stp} (now:List Rs):∀ {acc:List Rs},(∀ y,y∈acc→FarC n S p0 y.p.ct)→(∀ s,s∈now→g.stepR (mixS n S o s) x=(g.stepR s x).map (mixS n S o)∧∀ y,y∈g.stepR s x→FarC n S p0 y.p.ct) →
  (now.map (mixS n S o)).foldl (g.next1 x) (acc.map (mixS n S o))=(now.foldl (g.next1 x) acc).map (mixS n S o):=by
 induction now with
 | nil=>intro acc _ _;rfl
 | cons s r ih =>
  intro acc ha hn
  have h1:=hn s (by simp)
  have e:g.next1 x (acc.map (mixS n S o)) (mixS n S o s)=(g.next1 x acc s).map (mixS n S o):=by
   unfold Gm.next1
   rw [h1.1]
   exact mix_addR _ ha h1.2
  rw [List.map_cons,List.foldl_cons,List.foldl_cons,e]
  refine ih (fun y hy=>?_) fun s hs=>hn s (by simp [hs])
  unfold Gm.next1 at hy
  rcases (mem_addR _).1 hy with hy | hy
  ·exact ha y hy
  ·exact h1.2 y hy
end
theorem in_reads {g:Gm} {p:Ps} {cell i:Int} {k:Int} (k0:0≤k) (k1:k≤(g.prog p cell i).length) {s:Rs} (hs:s∈g.now p cell i k) {c:Int} (hc:c∈g.readX p.side (g.stepAt p cell i k) s):c∈g.readsL p cell i:=by
 unfold Gm.readsL Gm.readN
 refine List.mem_flatMap.2 ⟨k,mem_ints.2 ⟨k0,by omega⟩,?_⟩
 unfold Gm.readK Gm.readS
 exact List.mem_flatMap.2 ⟨s,hs,hc⟩
theorem stepAt_lt {g:Gm} {p:Ps} {cell i k:Int} (h:k < (g.prog p cell i).length):g.stepAt p cell i k=nth (g.prog p cell i) k:=if_pos h
structure NowI (g:Gm) (p q:Ps) (o:List Int) (cell i k:Int):Prop where
 now:g.now q cell i k=(g.now p cell i k).map (mixS g.b.cells (g.readsL p cell i) o)
 far:∀ s,s∈g.now p cell i k→FarC g.b.cells (g.readsL p cell i) p.ct s.p.ct
theorem cell_read {g:Gm} {p:Ps} {cell i:Int}:cell∈g.readsL p cell i:=by
 refine in_reads (k:=0) (Int.le_refl _) (by omega) (s:=run0 p cell) (by simp [Gm.now]) ?_
 unfold Gm.readX
 simp [run0]
theorem mix_prog {g:Gm} {p:Ps} {cell i:Int} (o:List Int) (h:CanRun g p cell i):g.prog (mixP g.b.cells (g.readsL p cell i) o p) cell i=g.prog p cell i:=by
 unfold Gm.prog
 show nth (nth g.kinds (ofK (nth (mixC g.b.cells (g.readsL p cell i) o p.ct) cell))).progs i=_
 rw [mixC_at o p.ct h.c0 h.c1 cell_read]
theorem mix_now {g:Gm} (hg:g.ok) {p:Ps} {cell i:Int} (o:List Int) (h:CanRun g p cell i):∀ n:Nat,n≤(g.prog p cell i).length→NowI g p (mixP g.b.cells (g.readsL p cell i) o p) o cell i n
 | 0,_=>by
  have hc:=cell_read (g:=g) (p:=p) (cell:=cell) (i:=i)
  have hl:=h.ok.len
  refine ⟨?_,fun s hs=>?_⟩
  ·show [run0 (mixP g.b.cells (g.readsL p cell i) o p) cell]=[mixS g.b.cells (g.readsL p cell i) o (run0 p cell)]
   congr 1
   unfold run0 mixS mixP
   dsimp only
   rw [mixC_set o hl h.c0 h.c1 hc,mixC_at o p.ct h.c0 h.c1 hc]
  ·simp [Gm.now] at hs
   subst hs
   exact FarC.set ⟨hl,fun c _ _ _=>rfl⟩ h.c0 h.c1 hc
 | n+1,hn=>by
  have ih:=mix_now hg o h n (by omega)
  have e:((n+1:Nat):Int)=(n:Int)+1:=by omega
  have hp:=mix_prog o h
  have hx:=(h.pg hg).st _ (nth_mem (l:=g.prog p cell i) (i:=n) (by omega) (by omega))
  have hok:=(now_ok hg h n (by omega)).1
  have hsd:=now_rs hg h n (by omega)
  have hcur:∀ s,s∈g.now p cell i n→s.cur∈g.readsL p cell i:=fun s hs=>in_reads (k:=n) (by omega) (by omega) hs (by unfold Gm.readX;simp)
  have hpush:∀ s,s∈g.now p cell i n→(nth (g.prog p cell i) n).op=7→nth s.p.ct s.cur≠0→0≤g.b.to s.p.side (nth (g.prog p cell i) n).n s.cur→g.b.to s.p.side (nth (g.prog p cell i) n).n s.cur∈g.readsL p cell i:=fun s hs h7 hz h0=>by
   rw [(hsd s hs).2.1] at h0 ⊢
   refine in_reads (k:=n) (by omega) (by omega) hs ?_
   rw [stepAt_lt (by omega)]
   unfold Gm.readX
   rw [if_pos ⟨h7,hz,h0⟩]
   simp
  have hnext:∀ y,y∈g.now p cell i (n+1)→y.cur∈g.readsL p cell i:=fun y hy=>in_reads (k:=(n:Int)+1) (by omega) (by omega) hy (by unfold Gm.readX;simp)
  rw [g.now_succ p cell i (by omega) (by omega)] at hnext
  have hst:∀ s,s∈g.now p cell i n→g.stepR (mixS g.b.cells (g.readsL p cell i) o s) (nth (g.prog p cell i) n)=(g.stepR s (nth (g.prog p cell i) n)).map (mixS g.b.cells (g.readsL p cell i) o)∧∀ y,y∈g.stepR s (nth (g.prog p cell i) n)→FarC g.b.cells (g.readsL p cell i) p.ct y.p.ct:=fun s hs =>
   ⟨mix_step hg (hok s hs) hx (hcur s hs) (hpush s hs) fun y hy=>hnext y (mem_all1.2 ⟨s,hs,hy⟩),fun y hy=>far_step hg (hok s hs) hx (hcur s hs) (hpush s hs) (ih.far s hs) hy⟩
  refine ⟨?_,fun s hs=>?_⟩
  ·rw [e,g.now_succ _ cell i (by omega) (by rw [hp];omega),g.now_succ p cell i (by omega) (by omega),hp,ih.now]
   exact mix_all _ (acc:=[]) (by simp) hst
  ·rw [e,g.now_succ p cell i (by omega) (by omega)] at hs
   obtain ⟨t,ht,hy⟩:=mem_all1.1 hs
   exact (hst t ht).2 s hy
theorem mix_reads {g:Gm} (hg:g.ok) {p:Ps} {cell i:Int} (o:List Int) (h:CanRun g p cell i):g.readsR (mixP g.b.cells (g.readsL p cell i) o p) cell i=g.readsR p cell i:=by
 have hp:=mix_prog o h
 have hnow:=fun n hn=>(mix_now hg o h n hn).now
 have hsd:(mixP g.b.cells (g.readsL p cell i) o p).side=p.side:=rfl
 have hcur:∀ n:Nat,n≤(g.prog p cell i).length→∀ s,s∈g.now p cell i n→s.cur∈g.readsL p cell i:=fun n hn s hs=>in_reads (k:=n) (by omega) (by omega) hs (by unfold Gm.readX;simp)
 generalize mixP g.b.cells (g.readsL p cell i) o p=q at *
 have e:g.readsL q cell i=g.readsL p cell i:=by
  generalize hS:g.readsL p cell i=S at *
  rw [← hS]
  show g.readN q cell i ((g.prog q cell i).length+1)=g.readN p cell i ((g.prog p cell i).length+1)
  unfold Gm.readN
  rw [hp]
  have:∀ l:List Int,(∀ k,k∈l→0≤k∧k≤(g.prog p cell i).length)→l.flatMap (g.readK q cell i)=l.flatMap (g.readK p cell i):=fun l=>by
   induction l with
   | nil=>intro _;rfl
   | cons k r ih =>
    intro hl
    rw [List.flatMap_cons,List.flatMap_cons,ih fun k hk=>hl k (by simp [hk])]
    congr 1
    have hk:=hl k (by simp)
    obtain ⟨n,rfl⟩:=Int.eq_ofNat_of_zero_le hk.1
    have hn:=hnow n (by omega)
    have hcr:=hcur n (by omega)
    have hok:=(now_ok hg h n (by omega)).1
    unfold Gm.readK
    have hsa:g.stepAt q cell i n=g.stepAt p cell i n:=by unfold Gm.stepAt;rw [hp]
    rw [hn,hsa,hsd]
    generalize g.now p cell i n=now at *
    unfold Gm.readS
    rw [List.flatMap_map]
    have:∀ l:List Rs,(∀ s,s∈l→s.ok g∧s.cur∈S)→l.flatMap (fun s=>g.readX p.side (g.stepAt p cell i n) (mixS g.b.cells S o s))=l.flatMap (g.readX p.side (g.stepAt p cell i n)):=fun l=>by
     induction l with
     | nil=>intro _;rfl
     | cons s r ih =>
      intro hl
      have hs:=hl s (by simp)
      rw [List.flatMap_cons,List.flatMap_cons,ih fun s hs=>hl s (by simp [hs])]
      congr 1
      unfold Gm.readX
      show s.cur :: (if _∧nth (mixC g.b.cells S o s.p.ct) s.cur≠0∧_ then _ else _)=_
      simp only [mixC_at o s.p.ct hs.1.u0 hs.1.u1 hs.2]
      rfl
    exact this _ fun s hs=>⟨hok s hs,hcr s hs⟩
  refine this _ fun k hk=>?_
  have:=mem_ints.1 hk
  omega
 unfold Gm.readsR
 rw [e]
theorem cmpL_mix {n:Int} {S o p0 a b:List Int} (ha:FarC n S p0 a) (hb:FarC n S p0 b):cmpL cmpI (mixC n S o a) (mixC n S o b)=cmpL cmpI a b:=by
 have key:∀ a b a' b':List Int,a.length=a'.length→b.length=b'.length→a.length=b.length→(∀ k:Nat,k < a.length→(a'.getD k 0=a.getD k 0∧b'.getD k 0=b.getD k 0)∨(a.getD k 0=b.getD k 0∧a'.getD k 0=b'.getD k 0))→cmpL cmpI a' b'=cmpL cmpI a b:=fun a=>by
  induction a with
  | nil =>
   intro b a' b' h1 h2 h3 _
   have e1:=List.eq_nil_of_length_eq_zero h1.symm
   have e3:=List.eq_nil_of_length_eq_zero (l:=b) (by rw [← h3];rfl)
   subst e1;subst e3
   have e2:=List.eq_nil_of_length_eq_zero h2.symm
   subst e2
   rfl
  | cons x r ih =>
   intro b a' b' h1 h2 h3 hk
   cases b with
   | nil=>simp at h3
   | cons y s =>
    cases a' with
    | nil=>simp at h1
    | cons x' r' =>
     cases b' with
     | nil=>simp at h2
     | cons y' s' =>
      have h0:=hk 0 (by simp)
      have hr:=ih s r' s' (by simpa using h1) (by simpa using h2) (by simpa using h3) fun k hk'=>by simpa using hk (k+1) (by simpa using hk')
      simp only [List.getD_cons_zero] at h0
      show (if cmpI x' y'=0 then _ else _)=(if cmpI x y=0 then _ else _)
      rw [hr]
      rcases h0 with ⟨rfl,rfl⟩ | ⟨rfl,rfl⟩
      ·rfl
      ·rw [cmpI_tot.self,cmpI_tot.self]
 have l1:=ha.len
 have l2:=hb.len
 refine key _ _ _ _ (by rw [mixC_len];omega) (by rw [mixC_len];omega) (by omega) fun k hk=>?_
 have e1:∀ l:List Int,l.getD k 0=nth l (k:Int):=fun l=>rfl
 rw [e1,e1,e1,e1,mixC_nth _ _ _ (by omega) (by omega),mixC_nth _ _ _ (by omega) (by omega)]
 by_cases h:(k:Int)∈S
 ·rw [if_pos h,if_pos h];exact .inl ⟨rfl,rfl⟩
 ·rw [if_neg h,if_neg h,ha.eq _ (by omega) (by omega) h,hb.eq _ (by omega) (by omega) h];exact .inr ⟨rfl,rfl⟩
def mixO (n:Int) (S o:List Int) (x:Oc):Oc:=⟨mixP n S o x.p,x.took⟩
theorem cmpO_mix {n:Int} {S o p0:List Int} {a b:Oc} (ha:FarC n S p0 a.p.ct) (hb:FarC n S p0 b.p.ct):cmpO (mixO n S o a) (mixO n S o b)=cmpO a b:=by
 have e:cmpP (mixP n S o a.p) (mixP n S o b.p)=cmpP a.p b.p:=by
  unfold cmpP Ps.key
  show (if cmpL cmpI (mixC n S o a.p.ct) (mixC n S o b.p.ct)=0 then _ else cmpL cmpI (mixC n S o a.p.ct) (mixC n S o b.p.ct))=(if cmpL cmpI a.p.ct b.p.ct=0 then _ else cmpL cmpI a.p.ct b.p.ct)
  rw [cmpL_mix ha hb]
  rfl
 unfold cmpO
 show (if cmpP (mixP n S o a.p) (mixP n S o b.p)=0 then _ else cmpP (mixP n S o a.p) (mixP n S o b.p))=_
 rw [e]
 rfl
theorem put_mix {n:Int} {S o p0:List Int} {x:Oc} (hx:FarC n S p0 x.p.ct):∀ l:List Oc,(∀ y,y∈l→FarC n S p0 y.p.ct)→put cmpO (mixO n S o x) (l.map (mixO n S o))=(put cmpO x l).map (mixO n S o)
 | [],_=>rfl
 | y :: r,h=>by
  have ih:=put_mix (o:=o) hx r fun y hy=>h y (by simp [hy])
  rw [List.map_cons]
  unfold put
  rw [cmpO_mix hx (h y (by simp)),ih]
  repeat' split
  all_goals rfl
theorem mix_runs {g:Gm} (hg:g.ok) {p:Ps} {cell i:Int} (o:List Int) (h:CanRun g p cell i):g.runsR (mixP g.b.cells (g.readsL p cell i) o p) cell i=(g.runsR p cell i).map (mixO g.b.cells (g.readsL p cell i) o)∧∀ y,y∈g.runsR p cell i→FarC g.b.cells (g.readsL p cell i) p.ct y.p.ct:=by
 have hp:=mix_prog o h
 have hn:=mix_now hg o h _ (Nat.le_refl _)
 have hok:=(now_ok hg h _ (Nat.le_refl _)).1
 have hcur:∀ s,s∈g.now p cell i (g.prog p cell i).length→s.cur∈g.readsL p cell i:=fun s hs=>in_reads (k:=(g.prog p cell i).length) (by omega) (by omega) hs (by unfold Gm.readX;simp)
 have hfar:=hn.far
 have key:∀ (now:List Rs) (acc:List Oc),(∀ s,s∈now→s.ok g∧s.cur∈g.readsL p cell i∧FarC g.b.cells (g.readsL p cell i) p.ct s.p.ct)→(∀ y,y∈acc→FarC g.b.cells (g.readsL p cell i) p.ct y.p.ct) →
   (now.map (mixS g.b.cells (g.readsL p cell i) o)).foldl (ins p.side) (acc.map (mixO g.b.cells (g.readsL p cell i) o))=(now.foldl (ins p.side) acc).map (mixO g.b.cells (g.readsL p cell i) o)∧∀ y,y∈now.foldl (ins p.side) acc→FarC g.b.cells (g.readsL p cell i) p.ct y.p.ct:=fun now=>by
  induction now with
  | nil=>intro acc _ ha;exact ⟨rfl,ha⟩
  | cons s r ih =>
   intro acc hs ha
   have h1:=hs s (by simp)
   have hfin:FarC g.b.cells (g.readsL p cell i) p.ct (fin p.side s).p.ct:=h1.2.2.set h1.1.u0 h1.1.u1 h1.2.1
   have e:ins p.side (acc.map (mixO g.b.cells (g.readsL p cell i) o)) (mixS g.b.cells (g.readsL p cell i) o s)=(ins p.side acc s).map (mixO g.b.cells (g.readsL p cell i) o):=by
    unfold ins
    show (if nth (mixC g.b.cells (g.readsL p cell i) o s.p.ct) s.cur≠0 then _ else _)=_
    rw [mixC_at o s.p.ct h1.1.u0 h1.1.u1 h1.2.1]
    have ef:fin p.side (mixS g.b.cells (g.readsL p cell i) o s)=mixO g.b.cells (g.readsL p cell i) o (fin p.side s):=by
     unfold fin mixO mixP mixS
     dsimp only
     rw [mixC_set o h1.1.len h1.1.u0 h1.1.u1 h1.2.1]
     rfl
    rw [ef,put_mix hfin _ ha]
    split <;> rfl
   rw [List.map_cons,List.foldl_cons,List.foldl_cons,e]
   refine ih _ (fun s hs'=>hs s (by simp [hs'])) fun y hy=>?_
   unfold ins at hy
   split at hy
   ·exact ha y hy
   ·rcases (mem_put cmpO_tot).1 hy with rfl | hy
    ·exact hfin
    ·exact ha y hy
 have:=key (g.now p cell i (g.prog p cell i).length) [] (fun s hs=>⟨hok s hs,hcur s hs,hfar s hs⟩) (by simp)
 unfold Gm.runsR
 rw [hp,hn.now]
 exact this
end Go.Proofs.YthgobfncgnjimaaGreatDoor
