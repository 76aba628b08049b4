/- Contracts of functions of the program, proved by the checker; and plain laws. -/
import Derived.Test.YtejljpjdifblpaaZ06
import Derived.Test.YtejljpjdifblpaaZ07
import Derived.Test.YtejljpjdifblpaaZ08
import Derived.Test.YtejljpjdifblpaaZ04
import Derived.Test.YtejljpjdifblpaaZ03
set_option linter.unusedVariables false
set_option linter.unusedSimpArgs false
namespace Go.Proofs.Ytejljpjdifblpaa
open Go Go.Sk
theorem Bd.line_nd (b:Bd) (s d c:Int):(b.line s d c).Nodup:=by
 have:∀ (n:Nat) (out:List Int) (x:Int),out.Nodup→(b.lineFrom s d c n out x).Nodup:=fun n=>by
  induction n with
  | zero=>intro out x h;exact h
  | succ n ih =>
   intro out x h
   unfold Bd.lineFrom
   split
   ·rename_i q
    refine ih _ _ ?_
    rw [List.nodup_append]
    exact ⟨h,by simp,fun a ha b hb=>by simp at hb;subst hb;rintro rfl;exact q.2.2 ha⟩
   ·exact h
 exact this _ _ _ List.nodup_nil
theorem Bd.line_len {b:Bd} (hb:b.ok) (s d c:Int):(b.line s d c).length≤b.cells.toNat:=cells_len (b.line_nd s d c) (b.line_rg hb s d c).1
theorem onlyR_len (s:Rs) (b:Bool):(onlyR s b).length≤1:=by cases b <;> simp [onlyR]
theorem mem_onlyR {s x:Rs} {b:Bool} (h:x∈onlyR s b):x=s:=by cases b <;> simp [onlyR] at h;exact h
theorem takeR_len (g:Gm) (s:Rs):(g.takeR s).length≤1:=by
 unfold Gm.takeR
 dsimp only
 repeat' split
 all_goals simp
theorem pushR_len (g:Gm) (s:Rs) (n:Int):(g.pushR s n).length≤1:=by
 unfold Gm.pushR
 dsimp only
 split <;> simp
theorem stepR_len {g:Gm} (hg:g.ok) (s:Rs) (x:Stp):(g.stepR s x).length≤9:=by
 have h1:=onlyR_len
 have h2:=takeR_len g s
 have h3:=pushR_len g s x.n
 have h4:=slideTo_len s.p.ct (g.b.line s.p.side x.n s.cur)
 have h5:=g.b.line_len hg.b s.p.side x.n s.cur
 have:=hg.c9
 unfold Gm.stepR
 dsimp only
 repeat' split
 all_goals first
  | (refine Nat.le_trans (h1 _ _) (by omega))
  | (rw [List.length_map];omega)
  | omega
  | simp
theorem clrR_rg {r n:Int} (h:0≤r):0≤clrR r n∧clrR r n≤r:=by
 have h1:(0:Int) < 2 ^ n.toNat:=Int.pow_pos (by decide)
 have h2:0≤bitR r n:=Int.emod_nonneg _ (by decide)
 have h3:0≤r / 2 ^ n.toNat:=Int.ediv_nonneg h (Int.le_of_lt h1)
 have h4:bitR r n≤r / 2 ^ n.toNat:=by unfold bitR;omega
 have h5:bitR r n * 2 ^ n.toNat≤r / 2 ^ n.toNat * 2 ^ n.toNat:=Int.mul_le_mul_of_nonneg_right h4 (Int.le_of_lt h1)
 have h6:=Int.ediv_mul_le r (show (2:Int) ^ n.toNat≠0 by omega)
 have h7:0≤bitR r n * 2 ^ n.toNat:=Int.mul_nonneg h2 (Int.le_of_lt h1)
 unfold clrR
 omega
theorem Ps.ok.setC {g:Gm} {p:Ps} (h:p.ok g) {i v:Int} (i0:0≤i) (v0:0≤v) (v1:v≤2 * g.nk):({ p with ct:=p.ct.set i.toNat v }:Ps).ok g:=by
 refine ⟨by show ((p.ct.set i.toNat v).length:Int)=_;rw [List.length_set];exact h.len,fun j j0 j1=>?_,h.h0,h.h1,h.r0,h.r1,h.s⟩
 show 0≤nth (p.ct.set i.toNat v) j∧nth (p.ct.set i.toNat v) j≤2 * g.nk
 by_cases hi:i < p.ct.length
 ·rw [nth_set i0 j0 hi]
  split
  ·exact ⟨v0,v1⟩
  ·exact h.c j j0 j1
 ·rw [List.set_eq_of_length_le (by omega)]
  exact h.c j j0 j1
theorem HdOk.set {g:Gm} {l:List Int} (h:HdOk g l) {k v:Int} (k0:0≤k) (k1:k < g.nk) (v0:0≤v) (v1:v≤8) (hk:g.keep k=true):HdOk g (l.set k.toNat v):=by
 refine ⟨by rw [List.length_set];exact h.len,fun j j0 j1=>?_⟩
 rw [nth_set k0 j0 (by rw [h.len];exact k1)]
 split
 ·rename_i e;subst e;exact ⟨v0,v1,fun _=>hk⟩
 ·exact h.v j j0 j1
theorem takeR_ok {g:Gm} (hg:g.ok) {s:Rs} (hs:s.ok g) {x:Rs} (hx:x∈g.takeR s):x.ok g:=by
 have hr:=hs.c s.cur hs.u0 hs.u1
 have hk:=ofK_rg hg hr.1 hr.2
 have hp:=hs.pos.setC (v:=0) hs.u0 (Int.le_refl _) (by have:=hg.k1;omega)
 unfold Gm.takeR at hx
 dsimp only at hx
 split at hx
 ·simp at hx
 ·rename_i q1
  have k0:0≤ofK (nth s.p.ct s.cur)∧ofK (nth s.p.ct s.cur) < g.nk:=by omega
  split at hx
  ·rename_i q2
   split at hx
   ·simp at hx
   ·rename_i q3
    simp only [List.mem_singleton] at hx
    subst hx
    refine Rs.ok.of ?_ hs.u0 hs.u1 hs.k0 hs.k1
    show Ps.ok g (Ps.setH _ _)
    unfold Ps.setH
    unfold Ps.hand at q3 ⊢
    dsimp only at q3 ⊢
    split
    ·rename_i hz
     rw [if_pos hz] at q3
     try simp only [if_pos hz]
     exact ⟨hp.len,hp.c,hs.h0.set k0.1 k0.2 (by have:=hs.h0.v _ k0.1 k0.2;omega) (by omega) q2,hp.h1,hp.r0,hp.r1,hp.s⟩
    ·rename_i hz
     rw [if_neg hz] at q3
     try simp only [if_neg hz]
     exact ⟨hp.len,hp.c,hp.h0,hs.h1.set k0.1 k0.2 (by have:=hs.h1.v _ k0.1 k0.2;omega) (by omega) q2,hp.r0,hp.r1,hp.s⟩
  ·simp only [List.mem_singleton] at hx
   subst hx
   exact Rs.ok.of hp hs.u0 hs.u1 hs.k0 hs.k1
theorem stepR_ok {g:Gm} (hg:g.ok) {s:Rs} (hs:s.ok g) {x:Stp} (hx:StpOk g.nd g.nk g.rights x) {y:Rs} (hy:y∈g.stepR s x):y.ok g:=by
 unfold StpOk at hx
 unfold Gm.stepR at hy
 dsimp only at hy
 have ht:=g.b.to_lt hg.b s.p.side x.n s.cur
 split at hy
 ·have hb:decide (g.b.to s.p.side x.n s.cur≥0)=true:=by
   cases h:decide (g.b.to s.p.side x.n s.cur≥0) with
   | true=>rfl
   | false=>rw [h] at hy;simp [onlyR] at hy
  obtain rfl:=mem_onlyR hy
  exact Rs.ok.of hs.pos (by have:=of_decide_eq_true hb;omega) ht.2 hs.k0 hs.k1
 ·split at hy
  ·obtain ⟨c,hc,rfl⟩:=List.mem_map.1 hy
   have:=(g.b.line_rg hg.b s.p.side x.n s.cur).1 c (mem_slideTo hc)
   exact Rs.ok.of hs.pos this.1 this.2 hs.k0 hs.k1
  ·split at hy
   ·obtain rfl:=mem_onlyR hy;exact hs
   ·split at hy
    ·obtain rfl:=mem_onlyR hy;exact hs
    ·split at hy
     ·obtain rfl:=mem_onlyR hy;exact hs
     ·split at hy
      ·exact takeR_ok hg hs hy
      ·split at hy
       ·unfold Gm.pushR at hy
        dsimp only at hy
        split at hy
        ·simp at hy
        ·rename_i q
         simp only [List.mem_singleton] at hy
         subst hy
         have hc:=hs.c s.cur hs.u0 hs.u1
         exact Rs.ok.of ((hs.pos.setC (by omega) hc.1 hc.2).setC (v:=0) hs.u0 (Int.le_refl _) (by have:=hg.k1;omega)) hs.u0 hs.u1 hs.k0 hs.k1
       ·split at hy
        ·simp only [List.mem_singleton] at hy
         subst hy
         exact Rs.ok.of hs.pos hs.u0 hs.u1 (by show 0≤x.n;omega) (by show x.n < g.nk;omega)
        ·split at hy
         ·obtain rfl:=mem_onlyR hy;exact hs
         ·simp only [List.mem_singleton] at hy
          subst hy
          have:=clrR_rg (n:=x.n) hs.r0
          have hr1:=hs.r1
          exact Rs.ok.of ⟨hs.len,hs.c,hs.h0,hs.h1,this.1,by show clrR s.p.rights x.n < _;omega,hs.sd⟩ hs.u0 hs.u1 hs.k0 hs.k1
def add1 (l:List Rs) (s:Rs):List Rs:=if s∈l then l else l++[s]
def addR (l more:List Rs):List Rs:=more.foldl add1 l
theorem addR_succ (l:List Rs) {more:List Rs} {i:Int} (h0:0≤i) (h:i < more.length):addR l (more.take (i+1).toNat)=add1 (addR l (more.take i.toNat)) (nth more i):=by
 unfold addR
 rw [take_snoc h0 h,List.foldl_append];rfl
theorem add1_len (l:List Rs) (s:Rs):(add1 l s).length≤l.length+1:=by unfold add1;split <;> simp
theorem addR_len (more:List Rs):∀ l:List Rs,(addR l more).length≤l.length+more.length:=by
 induction more with
 | nil=>intro l;simp [addR]
 | cons s r ih =>
  intro l
  have h1:=ih (add1 l s)
  have h2:=add1_len l s
  unfold addR at h1 ⊢
  rw [List.foldl_cons,List.length_cons]
  omega
theorem mem_add1 {l:List Rs} {s x:Rs}:x∈add1 l s↔x∈l∨x=s:=by
 unfold add1
 split
 ·rename_i h
  exact ⟨.inl,fun h'=>h'.elim id fun e=>e ▸ h⟩
 ·simp
theorem mem_addR {x:Rs} (more:List Rs):∀ {l:List Rs},x∈addR l more↔x∈l∨x∈more:=by
 induction more with
 | nil=>intro l;simp [addR]
 | cons s r ih =>
  intro l
  have:=ih (l:=add1 l s)
  unfold addR at this ⊢
  rw [List.foldl_cons,this,mem_add1,List.mem_cons,or_assoc]
set_option maxHeartbeats 4000000 in
set_option maxRecDepth 10000 in
theorem add_p (l more:List Rs) (hl:l.length+more.length≤34359738000) (h1:∀ s,s∈l→s.p.small) (h2:∀ s,s∈more→s.p.small) :
  Fun Try.prog 84 [.arr 8 (l.map Sa)] [.ref 0,Sas more] (.ref 1) [.dead,.arr 8 ((addR l more).map Sa)]:=by
 have em:(more.map Sa).length=more.length:=List.length_map _
 refine fun_of_mv [0] tok D_ok Try.func84 rfl Try.ntmps84 Try.results84 (by kernel_rfl) (by simp) (by simp) ?_
 conv=>whnf
 try dsimp only [St.mv,mvT,mvA,mvL,mvO,mvOs,Nat.beq_refl]
 repeat' ((first
  | refine lvK ?_
  | refine lvE ?_
  | fail) <;> try (apply Cj.mk <;> first | exact trivial | intros))
 refine .of (fun i=>[(5,I i),(0,.ref 1)]) (fun i=>[(1,.arr 8 ((addR l (more.take i.toNat)).map Sa))]) 2 (fun i=>0≤i∧i≤more.length) (fun i=>(more.length - i).toNat) 0 ?_
 conv=>whnf
 refine ⟨⟨[],hdA (lvL ?_) (lvL ?_)⟩,?_,fun i ⟨i0,i1⟩=>lvN ?_⟩ <;> (try (apply Cj.mk <;> first | exact trivial | intros))
 ·exact ⟨by omega,by omega⟩
 by_cases hi:i < more.length
 ·have hsu:=addR_succ l i0 hi
  have hsm:∀ s,s∈addR l (more.take i.toNat)→s.p.small:=fun s hs=>((mem_addR _).1 hs).elim (h1 s) fun h=>h2 s (List.mem_of_mem_take h)
  have hxm:=h2 _ (nth_mem i0 hi)
  have hle:=addR_len (more.take i.toNat) l
  rw [List.length_take] at hle
  generalize addR l (more.take i.toNat)=a at *
  have ea:(a.map Sa).length=a.length:=List.length_map _
  repeat' ((first
   | refine lvK ?_
   | refine lvE ?_
   | fail) <;> try (apply Cj.mk <;> first | exact trivial | intros))
  refine .of (fun k=>[(7,I k),(6,Bo (decide (nth more i∈a.take k.toNat)))]) (fun k=>[(1,.arr 8 (a.map Sa))]) 2 (fun k=>0≤k∧k≤a.length) (fun k=>(a.length - k).toNat) 0 ?_
  conv=>whnf
  refine ⟨⟨[],hdA (lvL ?_) (lvL ?_)⟩,?_,fun k ⟨k0,k1⟩=>lvN ?_⟩ <;> (try (apply Cj.mk <;> first | exact trivial | intros))
  ·exact ⟨by omega,by omega⟩
  have hss:k < a.length→Pure Try.prog 93 [Sa (nth a k),Sa (nth more i)] (Bo (decide (nth a k=nth more i))) none:=fun h=>same_p _ _ (hsm _ (nth_mem k0 h)) hxm
  by_cases hk:k < a.length
  ·have hts:=take_snoc k0 hk
   have hs1:=hss hk
   by_cases hf:nth more i∈a.take k.toNat
   ·rw [decide_eq_true hf]
    have hf':decide (nth more i∈a.take (k+1).toNat)=true:=decide_eq_true (by rw [hts];exact List.mem_append_left _ hf)
    repeat' ((first
     | refine lvK ?_
     | refine ⟨_,_,hs1,lvN ?_⟩
     | (refine .inl ?_;(conv=>whnf);refine ⟨_,_,hs1,lvN ?_⟩)
     | refine lvE ?_
     | fail) <;> try (apply Cj.mk <;> first | exact trivial | intros))
    refine ⟨k+1,⟨[],hdA (lvL ?_) (lvL ?_)⟩,?_,by (try dsimp only);omega,rfl⟩ <;> (try (apply Cj.mk <;> first | exact trivial | intros))
    ·rw [hf']
    ·exact ⟨by omega,by omega⟩
   ·rw [decide_eq_false hf]
    have hf':decide (nth more i∈a.take (k+1).toNat)=decide (nth a k=nth more i):=by
     rw [hts]
     have:nth more i∈List.take k.toNat a++[nth a k]↔nth a k=nth more i:=by
      rw [List.mem_append,List.mem_singleton]
      exact ⟨fun h=>(h.resolve_left hf).symm,fun h=>.inr h.symm⟩
     simp only [this]
    repeat' ((first
     | refine lvK ?_
     | refine ⟨_,_,hs1,lvN ?_⟩
     | (refine .inl ?_;(conv=>whnf);refine ⟨_,_,hs1,lvN ?_⟩)
     | refine lvE ?_
     | fail) <;> try (apply Cj.mk <;> first | exact trivial | intros))
    refine ⟨k+1,⟨[],hdA (lvL ?_) (lvL ?_)⟩,?_,by (try dsimp only);omega,rfl⟩ <;> (try (apply Cj.mk <;> first | exact trivial | intros))
    ·rw [hf']
    ·exact ⟨by omega,by omega⟩
  ·obtain rfl:k=a.length:=by omega
   rw [take_all (Int.le_refl _)]
   unfold add1 at hsu
   by_cases hf:nth more i∈a
   ·rw [decide_eq_true hf]
    rw [if_pos hf] at hsu
    repeat' ((first
     | refine lvK ?_
     | refine lvE ?_
     | fail) <;> try (apply Cj.mk <;> first | exact trivial | intros))
    refine ⟨i+1,⟨[],hdA (lvL ?_) (lvL ?_)⟩,?_,by (try dsimp only);omega,rfl⟩ <;> (try (apply Cj.mk <;> first | exact trivial | intros))
    ·rw [hsu]
    ·exact ⟨by omega,by omega⟩
   ·rw [decide_eq_false hf]
    rw [if_neg hf] at hsu
    repeat' ((first
     | refine lvK ?_
     | refine ap1 (f:=Sa) (a:=(nth more i)) (by decide) (by omega) rfl rfl (lvN ?_)
     | refine lvE ?_
     | fail) <;> try (apply Cj.mk <;> first | exact trivial | intros))
    refine ⟨i+1,⟨[],hdA (lvL ?_) (lvL ?_)⟩,?_,by (try dsimp only);omega,rfl⟩ <;> (try (apply Cj.mk <;> first | exact trivial | intros))
    ·rw [hsu]
    ·exact ⟨by omega,by omega⟩
 ·obtain rfl:i=more.length:=by omega
  rw [take_all (Int.le_refl _)]
  repeat' ((first
   | refine lvK ?_
   | refine lvE ?_
   | fail) <;> try (apply Cj.mk <;> first | exact trivial | intros))
theorem R3Made_p (x:R3) (hx:x.ok):Pure Try.prog 15 [.ag x.cs] x.made.av none:=by
 by_cases h:x.k1.length > 0
 ·exact R3Made_2 x hx h
 ·exact R3Made_1 x hx h
theorem fitS_ok {dirs kinds rights:Int} (h1:1≤dirs) (h2:1≤kinds) (h3:0≤rights) {y x:Stp} (hy:LibOk y) (hx:x∈fitS dirs kinds rights y):StpOk dirs kinds rights x:=by
 have o1:=hy.o1
 have o2:=hy.o2
 have z:=hy.z
 have d0:=Int.emod_nonneg y.n (show dirs≠0 by omega)
 have d1:=Int.emod_lt_of_pos y.n (show 0 < dirs by omega)
 have k0:=Int.emod_nonneg y.n (show kinds≠0 by omega)
 have k1:=Int.emod_lt_of_pos y.n (show 0 < kinds by omega)
 unfold fitS at hx
 unfold StpOk
 split at hx
 ·simp only [List.mem_singleton] at hx;subst hx;dsimp only;omega
 ·split at hx
  ·simp only [List.mem_singleton] at hx;subst hx;dsimp only;omega
  ·split at hx
   ·split at hx
    ·simp at hx
    ·have r0:=Int.emod_nonneg y.n (show rights≠0 by omega)
     have r1:=Int.emod_lt_of_pos y.n (show 0 < rights by omega)
     simp only [List.mem_singleton] at hx;subst hx;dsimp only;omega
   ·simp only [List.mem_singleton] at hx;subst hx
    have:=z (by omega) (by omega)
    omega
theorem fitS_len1 (a b c:Int) (x:Stp):(fitS a b c x).length≤1:=by
 unfold fitS
 repeat' split
 all_goals simp
theorem fitL_len1 (a b c:Int):∀ p:List Stp,(fitL p a b c).length≤p.length
 | []=>by simp [fitL]
 | x :: p=>by
  have h1:=fitL_len1 a b c p
  have h2:=fitS_len1 a b c x
  unfold fitL at h1 ⊢
  rw [List.flatMap_cons,List.length_append,List.length_cons]
  omega
theorem fit_ok {dirs kinds rights:Int} (h1:1≤dirs) (h2:1≤kinds) (h3:0≤rights) {p:List Stp} (hl:p.length≤8) (hp:∀ x,x∈p→LibOk x):PgOk dirs kinds rights (fit p dirs kinds rights):=by
 have hf:=fitL_len1 dirs kinds rights p
 unfold fit
 split
 ·refine ⟨by simp,by simp,fun x hx=>?_⟩
  simp only [List.mem_singleton] at hx;subst hx
  unfold StpOk;dsimp only;omega
 ·refine ⟨by omega,by omega,fun x hx=>?_⟩
  unfold fitL at hx
  obtain ⟨y,hy,hxy⟩:=List.mem_flatMap.1 hx
  exact fitS_ok h1 h2 h3 (hp y hy) hxy
theorem progMade_ok {n dirs kinds rights:Int} (hn:b8 n) (h1:1≤dirs) (h2:1≤kinds) (h3:0≤rights):PgOk dirs kinds rights (progMade n dirs kinds rights):=by
 have ls:=libL_spec (pm_b hn)
 exact fit_ok h1 h2 h3 (by omega) ls.2
theorem R3.nk_12 (x:R3):x.nk=1∨x.nk=2:=by unfold R3.nk;split <;> omega
theorem R3.made_nk (x:R3):x.made.nk=x.nk:=by
 have:=x.nk_12
 show ((((ints x.nk).map x.kd).length:Nat):Int)=x.nk
 rw [List.length_map,ints_len];omega
theorem R3.made_ok {x:R3} (hx:x.ok):x.made.ok:=by
 have hb:=bdMade_ok hx.w hx.h hx.cut
 have hk:=x.nk_12
 have mk:=x.made_nk
 have hf0:=hx.f0
 have hf3:=hx.f3
 have hf4:=hx.f4
 unfold b8 at hf0 hf3 hf4
 have hr:x.made.rights=x.f0 % 3:=rfl
 have hd:x.made.nd=8:=by show (((bdMade x.w x.h x.cut).next.length:Nat):Int)=8;rw [hb.2.2];rfl
 have hkd:∀ k:Int,0≤k→k < x.made.nk→nth x.made.kinds k=x.kd k:=fun k k0 k1=>nth_map_ints k0 (by omega)
 have hkl:∀ k i:Int,0≤i→i < (x.kl k).length→b8 (nth (x.kl k) i):=fun k i i0 i1=>by
  unfold R3.kl at i1 ⊢
  split at i1
  ·rw [if_pos (by assumption)];exact hx.k0 i i0 i1
  ·rw [if_neg (by assumption)];exact hx.k1 i i0 i1
 refine ⟨hb.1,hb.2.1,by omega,by omega,fun k k0 k1=>?_,fun k k0 k1 p hp=>?_,by omega,by omega,?_,fun c hc=>?_,?_,?_⟩
 ·rw [hkd k k0 k1]
  show (((x.kl k).take 4).map _).length≤8
  rw [List.length_map,List.length_take];omega
 ·rw [hkd k k0 k1] at hp
  obtain ⟨n,hn,rfl⟩:=List.mem_map.1 hp
  rw [hd,mk]
  have hn':=List.mem_of_mem_take hn
  obtain ⟨i,i0,i1,rfl⟩:=mem_nth hn'
  exact progMade_ok (hkl k i i0 i1) (by omega) (by omega) (by show 0≤x.f0 % 3;omega)
 ·show ((x.c.take 3).map x.cl).length≤6
  rw [List.length_map,List.length_take];omega
 ·obtain ⟨y,hy,rfl⟩:=List.mem_map.1 hc
  obtain ⟨i,i0,i1,rfl⟩:=mem_nth (List.mem_of_mem_take hy)
  have hy':=hx.c i i0 i1
  unfold b8 at hy'
  have hcs:x.made.b.cells=x.b.cells:=rfl
  have hc1:1≤x.b.cells:=hb.1.c1
  have m0:=Int.emod_nonneg (nth x.c i).b (show x.nk≠0 by omega)
  have m1:=Int.emod_lt_of_pos (nth x.c i).b (show 0 < x.nk by omega)
  have m2:=Int.emod_nonneg (nth x.c i).c (show x.b.cells≠0 by omega)
  have m3:=Int.emod_lt_of_pos (nth x.c i).c (show 0 < x.b.cells by omega)
  have hcf:(nth x.c i).a % 3=0∨(nth x.c i).a % 3=1∨(nth x.c i).a % 3=2:=by omega
  refine ⟨by show 1≤1+(nth x.c i).a / 4 % 3;omega,by show 1+(nth x.c i).a / 4 % 3≤3;omega,?_⟩
  rw [mk,hcs]
  unfold R3.cl
  dsimp only
  rcases hcf with h | h | h <;> rw [h]
  ·left
   exact ⟨rfl,by rw [if_pos (by omega)];exact m0,by rw [if_pos (by omega)];exact m1,by rw [if_neg (by omega),if_neg (by omega)]⟩
  ·right;left
   exact ⟨rfl,by rw [if_pos (by omega)];exact m0,by rw [if_pos (by omega)];exact m1,by rw [if_pos (by omega)];exact m2,by rw [if_pos (by omega)];exact m3⟩
  ·right;right
   refine ⟨rfl,by rw [if_neg (by omega)],?_,?_⟩
   ·rw [if_neg (by omega),if_pos (by omega)];omega
   ·rw [if_neg (by omega),if_pos (by omega)];omega
 ·show 1≤(if x.f3 % 4=3 then 1+x.f3 / 4 % 3 else 3)∧(if x.f3 % 4=3 then 1+x.f3 / 4 % 3 else 3)≤3
  split <;> omega
 ·show 1≤(if x.f4 % 4=3 then 1+x.f4 / 4 % 3 else 2)∧(if x.f4 % 4=3 then 1+x.f4 / 4 % 3 else 2)≤3
  split <;> omega
end Go.Proofs.Ytejljpjdifblpaa
