/- Contracts of functions of the program, proved by the checker; and plain laws. -/
import Derived.Test.YthgobfncgnjimaaGreatDoorZ04
import Derived.Test.YthgobfncgnjimaaGreatDoorZ03
import Derived.Test.YthgobfncgnjimaaGreatDoorZ02
import Derived.Test.YthgobfncgnjimaaGreatDoorZ00
import Derived.Test.YthgobfncgnjimaaGreatDoorZ07
import Derived.Test.YthgobfncgnjimaaGreatDoorZ08
import Derived.Test.YthgobfncgnjimaaGreatDoorZ05
import Derived.Test.YthgobfncgnjimaaGreatDoorZ06
set_option linter.unusedVariables false
set_option linter.unusedSimpArgs false
namespace Go.Proofs.YthgobfncgnjimaaGreatDoor
open Go Go.Sk
set_option maxRecDepth 10000 in
theorem GCode_p (k s:Int):Pure Tryz.prog 45 [I k,I s] (I (code k s)) none:=by
 refine fun_of tok D_ok Tryz.func45 rfl Tryz.ntmps45 Tryz.results45 (by kernel_rfl) (by simp) (by simp) ?_
 conv=>whnf
 repeat' (first | (refine lvA ?_;apply Cj.mk <;> first | exact trivial | intros) | (refine lvE ?_;apply Cj.mk <;> first | exact trivial | intros) | fail)
 all_goals (congr 1;unfold code)
 all_goals first | rw [if_pos (by omega)] | rw [if_neg (by omega)]
set_option maxRecDepth 10000 in
theorem own_p (s:Rs) (hp:s.p.small):Fun Tryz.prog 44 [] [Sa s] (.ag [.ref 0,.ref 1,.ref 2,I s.p.rights,I s.p.side,I s.kind,I s.cur,Bo s.took]) [.arr 1 (s.p.ct.map I),.arr 1 (s.p.h0.map I),.arr 1 (s.p.h1.map I)]:=by
 have h1:=Clone_p s.p.ct (by have:=hp.c;omega)
 have h2:=Clone_p s.p.h0 (by have:=hp.a;omega)
 have h3:=Clone_p s.p.h1 (by have:=hp.b;omega)
 refine fun_of tok D_ok Tryz.func44 rfl Tryz.ntmps44 Tryz.results44 (by kernel_rfl) (by simp) (by simp) ?_
 conv=>whnf
 repeat' (first | ((first | refine lvK ?_ | refine ⟨_,_,h1,lvN ?_⟩ | refine ⟨_,_,h2,lvN ?_⟩ | refine ⟨_,_,h3,lvN ?_⟩ | (refine .inl ?_;(conv=>whnf);first | refine ⟨_,_,h1,lvN ?_⟩ | refine ⟨_,_,h2,lvN ?_⟩ | refine ⟨_,_,h3,lvN ?_⟩));apply Cj.mk <;> first | exact trivial | intros) | (refine lvE ?_;apply Cj.mk <;> first | exact trivial | intros) | fail)
set_option maxRecDepth 10000 in
theorem provided_p (s:Rs) (b:Bool):Pure Tryz.prog 140 [Sa s,Bo b] (Sas (onlyR s b)) none:=by
 refine fun_of tok D_ok Tryz.func140 rfl Tryz.ntmps140 Tryz.results140 (by kernel_rfl) (by simp) (by simp) ?_
 conv=>whnf
 repeat' (first | (refine lvA ?_;apply Cj.mk <;> first | exact trivial | intros) | (refine lvE ?_;apply Cj.mk <;> first | exact trivial | intros) | fail)
 all_goals (rename_i h;subst h;rfl)
set_option maxRecDepth 10000 in
theorem sman_p (g:Gm) (hg:g.ok) (s:Rs) (hs:s.ok g):Pure Tryz.prog 142 [Sa s] (.tup [I (ofK (nth s.p.ct s.cur)),I (ofS (nth s.p.ct s.cur))]) none:=by
 have hr:=hs.c s.cur hs.u0 hs.u1
 have hm:=Man_p (nth s.p.ct s.cur) (by have:=hg.k6;omega)
 have ec:(s.p.ct.map I).length=s.p.ct.length:=List.length_map _
 have hlen:=hs.len
 have hu0:=hs.u0
 have hu1:=hs.u1
 refine fun_of tok D_ok Tryz.func142 rfl Tryz.ntmps142 Tryz.results142 (by kernel_rfl) (by simp) (by simp) ?_
 conv=>whnf
 repeat' (first | ((first | refine lvA ?_ | refine ⟨_,_,hm,lvN ?_⟩ | (refine .inl ?_;(conv=>whnf);first | refine ⟨_,_,hm,lvN ?_⟩));apply Cj.mk <;> first | exact trivial | intros) | (refine lvE ?_;apply Cj.mk <;> first | exact trivial | intros) | fail)
theorem enemy_eq {g:Gm} (hg:g.ok) {c sd:Int} (h0:0≤c) (h1:c≤2 * g.nk) (hs:sd=0∨sd=1):(ofS c == 1 - sd)=(decide (ofK c≥0) && ofS c != sd):=by
 rw [Bool.eq_iff_iff]
 simp only [beq_iff_eq,Bool.and_eq_true,decide_eq_true_eq,bne_iff_ne]
 rcases ofK_rg hg h0 h1 with ⟨_,h2,h3⟩ | ⟨_,h2,_,_,h3,_⟩ <;> omega
theorem friend_eq {g:Gm} (hg:g.ok) {c sd:Int} (h0:0≤c) (h1:c≤2 * g.nk) (hs:sd=0∨sd=1):(ofS c == sd)=(decide (ofK c≥0) && ofS c == sd):=by
 rw [Bool.eq_iff_iff]
 simp only [beq_iff_eq,Bool.and_eq_true,decide_eq_true_eq]
 rcases ofK_rg hg h0 h1 with ⟨_,h2,h3⟩ | ⟨_,h2,_,_,h3,_⟩ <;> omega
theorem empty_eq {g:Gm} (hg:g.ok) {c:Int} (h0:0≤c) (h1:c≤2 * g.nk):(c == 0)=decide (ofK c < 0):=by
 rw [Bool.eq_iff_iff]
 simp only [beq_iff_eq,decide_eq_true_eq]
 rcases ofK_rg hg h0 h1 with ⟨_,h2,h3⟩ | ⟨_,h2,_,_,h3,_⟩ <;> omega
section
variable (g:Gm) (hg:g.ok) (s:Rs) (hs:s.ok g) (n:Int)
include hg hs
set_option maxRecDepth 10000 in
theorem swalk_p:Pure Tryz.prog 97 [Sa s,g.av,I n] (Sas (g.stepR s ⟨1,n⟩)) none:=by
 have _u:=And.intro hg hs
 have ht:=To15_p g.b hg.b s.p.side n s.cur
 have hp:=provided_p { s with cur:=g.b.to s.p.side n s.cur } (decide (g.b.to s.p.side n s.cur≥0))
 unfold Gm.stepR
 rw [if_pos rfl]
 dsimp only
 generalize g.b.to s.p.side n s.cur=to at *
 refine fun_of tok D_ok Tryz.func97 rfl Tryz.ntmps97 Tryz.results97 (by kernel_rfl) (by simp) (by simp) ?_
 conv=>whnf
 repeat' (first | ((first | refine lvK ?_ | refine ⟨_,_,ht,lvN ?_⟩ | refine ⟨_,_,hp,lvN ?_⟩ | (refine .inl ?_;(conv=>whnf);first | refine ⟨_,_,ht,lvN ?_⟩ | refine ⟨_,_,hp,lvN ?_⟩));apply Cj.mk <;> first | exact trivial | intros) | (refine lvE ?_;apply Cj.mk <;> first | exact trivial | intros) | fail)
set_option maxRecDepth 10000 in
theorem sempty_p:Pure Tryz.prog 99 [Sa s,g.av,I n] (Sas (g.stepR s ⟨3,n⟩)) none:=by
 have _u:=And.intro hg hs
 have ec:(s.p.ct.map I).length=s.p.ct.length:=List.length_map _
 have hlen:=hs.len
 have hu0:=hs.u0
 have hu1:=hs.u1
 have hr:=hs.c s.cur hs.u0 hs.u1
 have hp:=provided_p s (nth s.p.ct s.cur == 0)
 rw [show g.stepR s ⟨3,n⟩=onlyR s (decide (ofK (nth s.p.ct s.cur) < 0)) from rfl,← empty_eq hg hr.1 hr.2]
 refine fun_of tok D_ok Tryz.func99 rfl Tryz.ntmps99 Tryz.results99 (by kernel_rfl) (by simp) (by simp) ?_
 conv=>whnf
 repeat' (first | ((first | refine lvK ?_ | refine ⟨_,_,hp,lvN ?_⟩ | (refine .inl ?_;(conv=>whnf);first | refine ⟨_,_,hp,lvN ?_⟩));apply Cj.mk <;> first | exact trivial | intros) | (refine lvE ?_;apply Cj.mk <;> first | exact trivial | intros) | fail)
set_option maxRecDepth 10000 in
theorem senemy_p:Pure Tryz.prog 100 [Sa s,g.av,I n] (Sas (g.stepR s ⟨4,n⟩)) none:=by
 have _u:=And.intro hg hs
 have hr:=hs.c s.cur hs.u0 hs.u1
 have hsd:=hs.sd
 have hm:=sman_p g hg s hs
 have hp:=provided_p s (ofS (nth s.p.ct s.cur) == 1 - s.p.side)
 rw [show g.stepR s ⟨4,n⟩=onlyR s (decide (ofK (nth s.p.ct s.cur)≥0) && ofS (nth s.p.ct s.cur) != s.p.side) from rfl,← enemy_eq hg hr.1 hr.2 hs.sd]
 refine fun_of tok D_ok Tryz.func100 rfl Tryz.ntmps100 Tryz.results100 (by kernel_rfl) (by simp) (by simp) ?_
 conv=>whnf
 repeat' (first | ((first | refine lvK ?_ | refine ⟨_,_,hm,lvN ?_⟩ | refine ⟨_,_,hp,lvN ?_⟩ | (refine .inl ?_;(conv=>whnf);first | refine ⟨_,_,hm,lvN ?_⟩ | refine ⟨_,_,hp,lvN ?_⟩));apply Cj.mk <;> first | exact trivial | intros) | (refine lvE ?_;apply Cj.mk <;> first | exact trivial | intros) | fail)
set_option maxRecDepth 10000 in
theorem sfriend_p:Pure Tryz.prog 101 [Sa s,g.av,I n] (Sas (g.stepR s ⟨5,n⟩)) none:=by
 have _u:=And.intro hg hs
 have hr:=hs.c s.cur hs.u0 hs.u1
 have hsd:=hs.sd
 have hm:=sman_p g hg s hs
 have hp:=provided_p s (ofS (nth s.p.ct s.cur) == s.p.side)
 rw [show g.stepR s ⟨5,n⟩=onlyR s (decide (ofK (nth s.p.ct s.cur)≥0) && ofS (nth s.p.ct s.cur) == s.p.side) from rfl,← friend_eq hg hr.1 hr.2 hs.sd]
 refine fun_of tok D_ok Tryz.func101 rfl Tryz.ntmps101 Tryz.results101 (by kernel_rfl) (by simp) (by simp) ?_
 conv=>whnf
 repeat' (first | ((first | refine lvK ?_ | refine ⟨_,_,hm,lvN ?_⟩ | refine ⟨_,_,hp,lvN ?_⟩ | (refine .inl ?_;(conv=>whnf);first | refine ⟨_,_,hm,lvN ?_⟩ | refine ⟨_,_,hp,lvN ?_⟩));apply Cj.mk <;> first | exact trivial | intros) | (refine lvE ?_;apply Cj.mk <;> first | exact trivial | intros) | fail)
theorem sbecome_p:Pure Tryz.prog 104 [Sa s,g.av,I n] (Sas (g.stepR s ⟨8,n⟩)) none:=by
 have _u:=And.intro hg hs
 refine fun_of tok D_ok Tryz.func104 rfl Tryz.ntmps104 Tryz.results104 (by kernel_rfl) (by simp) (by simp) ?_
 conv=>whnf
 repeat' (first | (refine lvK ?_;apply Cj.mk <;> first | exact trivial | intros) | (refine lvE ?_;apply Cj.mk <;> first | exact trivial | intros) | fail)
set_option maxHeartbeats 4000000 in
set_option maxRecDepth 10000 in
theorem sneed_p (h0:0≤n) (h1:n < g.rights):Pure Tryz.prog 105 [Sa s,g.av,I n] (Sas (g.stepR s ⟨9,n⟩)) none:=by
 have _u:=And.intro hg hs
 have r0:=hs.r0
 have r1:=hs.r1
 have g4:=hg.r4
 have r16:s.p.rights < 16:=by
  have:(2:Int) ^ g.rights.toNat≤2 ^ 4:=by exact_mod_cast Nat.pow_le_pow_right (by decide) (by omega)
  omega
 have hp:=provided_p s (bitR s.p.rights n == 1)
 refine fun_of tok D_ok Tryz.func105 rfl Tryz.ntmps105 Tryz.results105 (by kernel_rfl) (by simp) (by simp) ?_
 conv=>whnf
 repeat' (first | ((first | refine lvK ?_ | refine ⟨_,_,hp,lvN ?_⟩ | (refine .inl ?_;(conv=>whnf);first | refine ⟨_,_,hp,lvN ?_⟩));apply Cj.mk <;> first | exact trivial | intros) | (refine lvE ?_;apply Cj.mk <;> first | exact trivial | intros) | fail)
set_option maxHeartbeats 4000000 in
set_option maxRecDepth 10000 in
theorem slose_p (h0:0≤n) (h1:n < g.rights):Pure Tryz.prog 106 [Sa s,g.av,I n] (Sas (g.stepR s ⟨10,n⟩)) none:=by
 have _u:=And.intro hg hs
 have r0:=hs.r0
 have r1:=hs.r1
 have g4:=hg.r4
 have r16:s.p.rights < 16:=by
  have:(2:Int) ^ g.rights.toNat≤2 ^ 4:=by exact_mod_cast Nat.pow_le_pow_right (by decide) (by omega)
  omega
 refine fun_of tok D_ok Tryz.func106 rfl Tryz.ntmps106 Tryz.results106 (by kernel_rfl) (by simp) (by simp) ?_
 conv=>whnf
 repeat' (first | (refine lvK ?_;apply Cj.mk <;> first | exact trivial | intros) | (refine lvE ?_;apply Cj.mk <;> first | exact trivial | intros) | fail)
set_option maxHeartbeats 4000000 in
set_option maxRecDepth 10000 in
theorem sslide_p:Pure Tryz.prog 98 [Sa s,g.av,I n] (Sas (g.stepR s ⟨2,n⟩)) none:=by
 have _u:=And.intro hg hs
 have hl:=Line16_p g.b hg.b s.p.side n s.cur
 have hr:=g.b.line_rg hg.b s.p.side n s.cur
 rw [show g.stepR s ⟨2,n⟩=(slideTo s.p.ct (g.b.line s.p.side n s.cur)).map fun c=>{ s with cur:=c } from rfl]
 generalize g.b.line s.p.side n s.cur=l at *
 have el:(l.map I).length=l.length:=List.length_map _
 have ec:(s.p.ct.map I).length=s.p.ct.length:=List.length_map _
 have hlen:=hs.len
 have hc9:=hg.c9
 refine fun_of tok D_ok Tryz.func98 rfl Tryz.ntmps98 Tryz.results98 (by kernel_rfl) (by simp) (by simp) ?_
 conv=>whnf
 repeat' (first | ((first | refine lvK ?_ | refine ⟨_,_,hl,lvN ?_⟩ | (refine .inl ?_;(conv=>whnf);first | refine ⟨_,_,hl,lvN ?_⟩));apply Cj.mk <;> first | exact trivial | intros) | fail)
 refine .of (fun i=>[(21,I i),(7,.ref 3)]) (fun i=>[(3,.arr 8 (((l.take i.toNat).map fun c=>{ s with cur:=c }).map Sa))]) 4 (fun i=>0≤i∧i≤l.length∧∀ j:Int,0≤j→j < i→nth s.p.ct (nth l j)=0) (fun i=>(l.length - i).toNat) 0 ?_
 conv=>whnf
 refine ⟨⟨[],hdA (lvL ?_) (lvL ?_)⟩,?_,fun i ⟨i0,i1,hi⟩=>lvN ?_⟩ <;> (try (apply Cj.mk <;> first | exact trivial | intros))
 ·exact ⟨by omega,by omega,fun j _ _=>by omega⟩
 have hlt:((l.take i.toNat).map fun c=>({ s with cur:=c }:Rs)).length=i.toNat:=by rw [List.length_map,List.length_take];omega
 by_cases h:i < l.length
 ·have hc:=hr.1 _ (nth_mem i0 h)
  have hts:=take_snoc i0 h
  repeat' (first | ((first | refine lvK ?_ | refine ap1 (f:=Sa) (a:=({ s with cur:=nth l i }:Rs)) (by decide) (by omega) rfl rfl (lvN ?_));apply Cj.mk <;> first | exact trivial | intros) | fail)
  ·rename_i q
   rw [slideTo_go i0 h hi q,hts,List.map_append]
   refine exitS [] (by kernel_rfl) (by kernel_rfl) (by kernel_rfl) (lvL ?_) (lvL ?_) <;> (try (apply Cj.mk <;> first | exact trivial | intros))
   rw [List.map_append,List.map_append];rfl
  ·rename_i q
   refine ⟨i+1,⟨[],hdA (lvL ?_) (lvL ?_)⟩,?_,by (try dsimp only);omega,rfl⟩ <;> (try (apply Cj.mk <;> first | exact trivial | intros))
   ·rw [hts,List.map_append,List.map_append,List.map_append];rfl
   ·refine ⟨by omega,by omega,fun j j0 j1=>?_⟩
    by_cases e:j=i
    ·rw [e];exact q
    ·exact hi j j0 (by omega)
 ·rw [show l.take i.toNat=slideTo s.p.ct l by rw [take_all (by omega),slideTo_all fun j j0 j1=>hi j j0 (by omega)]]
  repeat' (first | (refine lvK ?_;apply Cj.mk <;> first | exact trivial | intros) | (refine lvE ?_;apply Cj.mk <;> first | exact trivial | intros) | fail)
end
theorem Bd.line_nd (b:Bd) (s d c:Int):(b.line s d c).Nodup:=by
 have:∀ (n:Nat) (out:List Int) (x:Int),out.Nodup→(b.lineFrom s d c n out x).Nodup:=fun n=>by
  induction n with
  | zero=>intro out x h;exact h
  | succ n ih =>
   intro out x h
   unfold Bd.lineFrom
   split
   ·rename_i q
    refine ih _ _ ?_
    rw [List.nodup_append]
    exact ⟨h,by simp,fun a ha b hb=>by simp at hb;subst hb;rintro rfl;exact q.2.2 ha⟩
   ·exact h
 exact this _ _ _ List.nodup_nil
theorem Bd.line_len {b:Bd} (hb:b.ok) (s d c:Int):(b.line s d c).length≤b.cells.toNat:=cells_len (b.line_nd s d c) (b.line_rg hb s d c).1
theorem onlyR_len (s:Rs) (b:Bool):(onlyR s b).length≤1:=by cases b <;> simp [onlyR]
theorem mem_onlyR {s x:Rs} {b:Bool} (h:x∈onlyR s b):x=s:=by cases b <;> simp [onlyR] at h;exact h
theorem takeR_len (g:Gm) (s:Rs):(g.takeR s).length≤1:=by
 unfold Gm.takeR
 dsimp only
 repeat' split
 all_goals simp
theorem pushR_len (g:Gm) (s:Rs) (n:Int):(g.pushR s n).length≤1:=by
 unfold Gm.pushR
 dsimp only
 split <;> simp
theorem stepR_len {g:Gm} (hg:g.ok) (s:Rs) (x:Stp):(g.stepR s x).length≤9:=by
 have h1:=onlyR_len
 have h2:=takeR_len g s
 have h3:=pushR_len g s x.n
 have h4:=slideTo_len s.p.ct (g.b.line s.p.side x.n s.cur)
 have h5:=g.b.line_len hg.b s.p.side x.n s.cur
 have:=hg.c9
 unfold Gm.stepR
 dsimp only
 repeat' split
 all_goals first
  | (refine Nat.le_trans (h1 _ _) (by omega))
  | (rw [List.length_map];omega)
  | omega
  | simp
theorem clrR_rg {r n:Int} (h:0≤r):0≤clrR r n∧clrR r n≤r:=by
 have h1:(0:Int) < 2 ^ n.toNat:=Int.pow_pos (by decide)
 have h2:0≤bitR r n:=Int.emod_nonneg _ (by decide)
 have h3:0≤r / 2 ^ n.toNat:=Int.ediv_nonneg h (Int.le_of_lt h1)
 have h4:bitR r n≤r / 2 ^ n.toNat:=by unfold bitR;omega
 have h5:bitR r n * 2 ^ n.toNat≤r / 2 ^ n.toNat * 2 ^ n.toNat:=Int.mul_le_mul_of_nonneg_right h4 (Int.le_of_lt h1)
 have h6:=Int.ediv_mul_le r (show (2:Int) ^ n.toNat≠0 by omega)
 have h7:0≤bitR r n * 2 ^ n.toNat:=Int.mul_nonneg h2 (Int.le_of_lt h1)
 unfold clrR
 omega
theorem Ps.ok.setC {g:Gm} {p:Ps} (h:p.ok g) {i v:Int} (i0:0≤i) (v0:0≤v) (v1:v≤2 * g.nk):({ p with ct:=p.ct.set i.toNat v }:Ps).ok g:=by
 refine ⟨by show ((p.ct.set i.toNat v).length:Int)=_;rw [List.length_set];exact h.len,fun j j0 j1=>?_,h.h0,h.h1,h.r0,h.r1,h.s⟩
 show 0≤nth (p.ct.set i.toNat v) j∧nth (p.ct.set i.toNat v) j≤2 * g.nk
 by_cases hi:i < p.ct.length
 ·rw [nth_set i0 j0 hi]
  split
  ·exact ⟨v0,v1⟩
  ·exact h.c j j0 j1
 ·rw [List.set_eq_of_length_le (by omega)]
  exact h.c j j0 j1
theorem HdOk.set {g:Gm} {l:List Int} (h:HdOk g l) {k v:Int} (k0:0≤k) (k1:k < g.nk) (v0:0≤v) (v1:v≤8) (hk:g.keep k=true):HdOk g (l.set k.toNat v):=by
 refine ⟨by rw [List.length_set];exact h.len,fun j j0 j1=>?_⟩
 rw [nth_set k0 j0 (by rw [h.len];exact k1)]
 split
 ·rename_i e;subst e;exact ⟨v0,v1,fun _=>hk⟩
 ·exact h.v j j0 j1
theorem takeR_ok {g:Gm} (hg:g.ok) {s:Rs} (hs:s.ok g) {x:Rs} (hx:x∈g.takeR s):x.ok g:=by
 have hr:=hs.c s.cur hs.u0 hs.u1
 have hk:=ofK_rg hg hr.1 hr.2
 have hp:=hs.pos.setC (v:=0) hs.u0 (Int.le_refl _) (by have:=hg.k1;omega)
 unfold Gm.takeR at hx
 dsimp only at hx
 split at hx
 ·simp at hx
 ·rename_i q1
  have k0:0≤ofK (nth s.p.ct s.cur)∧ofK (nth s.p.ct s.cur) < g.nk:=by omega
  split at hx
  ·rename_i q2
   split at hx
   ·simp at hx
   ·rename_i q3
    simp only [List.mem_singleton] at hx
    subst hx
    refine Rs.ok.of ?_ hs.u0 hs.u1 hs.k0 hs.k1
    show Ps.ok g (Ps.setH _ _)
    unfold Ps.setH
    unfold Ps.hand at q3 ⊢
    dsimp only at q3 ⊢
    split
    ·rename_i hz
     rw [if_pos hz] at q3
     try simp only [if_pos hz]
     exact ⟨hp.len,hp.c,hs.h0.set k0.1 k0.2 (by have:=hs.h0.v _ k0.1 k0.2;omega) (by omega) q2,hp.h1,hp.r0,hp.r1,hp.s⟩
    ·rename_i hz
     rw [if_neg hz] at q3
     try simp only [if_neg hz]
     exact ⟨hp.len,hp.c,hp.h0,hs.h1.set k0.1 k0.2 (by have:=hs.h1.v _ k0.1 k0.2;omega) (by omega) q2,hp.r0,hp.r1,hp.s⟩
  ·simp only [List.mem_singleton] at hx
   subst hx
   exact Rs.ok.of hp hs.u0 hs.u1 hs.k0 hs.k1
theorem stepR_ok {g:Gm} (hg:g.ok) {s:Rs} (hs:s.ok g) {x:Stp} (hx:StpOk g.nd g.nk g.rights x) {y:Rs} (hy:y∈g.stepR s x):y.ok g:=by
 unfold StpOk at hx
 unfold Gm.stepR at hy
 dsimp only at hy
 have ht:=g.b.to_lt hg.b s.p.side x.n s.cur
 split at hy
 ·have hb:decide (g.b.to s.p.side x.n s.cur≥0)=true:=by
   cases h:decide (g.b.to s.p.side x.n s.cur≥0) with
   | true=>rfl
   | false=>rw [h] at hy;simp [onlyR] at hy
  obtain rfl:=mem_onlyR hy
  exact Rs.ok.of hs.pos (by have:=of_decide_eq_true hb;omega) ht.2 hs.k0 hs.k1
 ·split at hy
  ·obtain ⟨c,hc,rfl⟩:=List.mem_map.1 hy
   have:=(g.b.line_rg hg.b s.p.side x.n s.cur).1 c (mem_slideTo hc)
   exact Rs.ok.of hs.pos this.1 this.2 hs.k0 hs.k1
  ·split at hy
   ·obtain rfl:=mem_onlyR hy;exact hs
   ·split at hy
    ·obtain rfl:=mem_onlyR hy;exact hs
    ·split at hy
     ·obtain rfl:=mem_onlyR hy;exact hs
     ·split at hy
      ·exact takeR_ok hg hs hy
      ·split at hy
       ·unfold Gm.pushR at hy
        dsimp only at hy
        split at hy
        ·simp at hy
        ·rename_i q
         simp only [List.mem_singleton] at hy
         subst hy
         have hc:=hs.c s.cur hs.u0 hs.u1
         exact Rs.ok.of ((hs.pos.setC (by omega) hc.1 hc.2).setC (v:=0) hs.u0 (Int.le_refl _) (by have:=hg.k1;omega)) hs.u0 hs.u1 hs.k0 hs.k1
       ·split at hy
        ·simp only [List.mem_singleton] at hy
         subst hy
         exact Rs.ok.of hs.pos hs.u0 hs.u1 (by show 0≤x.n;omega) (by show x.n < g.nk;omega)
        ·split at hy
         ·obtain rfl:=mem_onlyR hy;exact hs
         ·simp only [List.mem_singleton] at hy
          subst hy
          have:=clrR_rg (n:=x.n) hs.r0
          have hr1:=hs.r1
          exact Rs.ok.of ⟨hs.len,hs.c,hs.h0,hs.h1,this.1,by show clrR s.p.rights x.n < _;omega,hs.sd⟩ hs.u0 hs.u1 hs.k0 hs.k1
def add1 (l:List Rs) (s:Rs):List Rs:=if s∈l then l else l++[s]
def addR (l more:List Rs):List Rs:=more.foldl add1 l
theorem addR_succ (l:List Rs) {more:List Rs} {i:Int} (h0:0≤i) (h:i < more.length):addR l (more.take (i+1).toNat)=add1 (addR l (more.take i.toNat)) (nth more i):=by
 unfold addR
 rw [take_snoc h0 h,List.foldl_append];rfl
theorem add1_len (l:List Rs) (s:Rs):(add1 l s).length≤l.length+1:=by unfold add1;split <;> simp
theorem addR_len (more:List Rs):∀ l:List Rs,(addR l more).length≤l.length+more.length:=by
 induction more with
 | nil=>intro l;simp [addR]
 | cons s r ih =>
  intro l
  have h1:=ih (add1 l s)
  have h2:=add1_len l s
  unfold addR at h1 ⊢
  rw [List.foldl_cons,List.length_cons]
  omega
theorem mem_add1 {l:List Rs} {s x:Rs}:x∈add1 l s↔x∈l∨x=s:=by
 unfold add1
 split
 ·rename_i h
  exact ⟨.inl,fun h'=>h'.elim id fun e=>e ▸ h⟩
 ·simp
theorem mem_addR {x:Rs} (more:List Rs):∀ {l:List Rs},x∈addR l more↔x∈l∨x∈more:=by
 induction more with
 | nil=>intro l;simp [addR]
 | cons s r ih =>
  intro l
  have:=ih (l:=add1 l s)
  unfold addR at this ⊢
  rw [List.foldl_cons,this,mem_add1,List.mem_cons,or_assoc]
set_option maxHeartbeats 4000000 in
set_option maxRecDepth 10000 in
theorem add_p (l more:List Rs) (hl:l.length+more.length≤34359738000) (h1:∀ s,s∈l→s.p.small) (h2:∀ s,s∈more→s.p.small) :
  Fun Tryz.prog 79 [.arr 8 (l.map Sa)] [.ref 0,Sas more] (.ref 1) [.dead,.arr 8 ((addR l more).map Sa)]:=by
 have em:(more.map Sa).length=more.length:=List.length_map _
 refine fun_of_mv [0] tok D_ok Tryz.func79 rfl Tryz.ntmps79 Tryz.results79 (by kernel_rfl) (by simp) (by simp) ?_
 conv=>whnf
 try dsimp only [St.mv,mvT,mvA,mvL,mvO,mvOs,Nat.beq_refl]
 repeat' (first | (refine lvK ?_;apply Cj.mk <;> first | exact trivial | intros) | (refine lvE ?_;apply Cj.mk <;> first | exact trivial | intros) | fail)
 refine .of (fun i=>[(5,I i),(0,.ref 1)]) (fun i=>[(1,.arr 8 ((addR l (more.take i.toNat)).map Sa))]) 2 (fun i=>0≤i∧i≤more.length) (fun i=>(more.length - i).toNat) 0 ?_
 conv=>whnf
 refine ⟨⟨[],hdA (lvL ?_) (lvL ?_)⟩,?_,fun i ⟨i0,i1⟩=>lvN ?_⟩ <;> (try (apply Cj.mk <;> first | exact trivial | intros))
 ·exact ⟨by omega,by omega⟩
 by_cases hi:i < more.length
 ·have hsu:=addR_succ l i0 hi
  have hsm:∀ s,s∈addR l (more.take i.toNat)→s.p.small:=fun s hs=>((mem_addR _).1 hs).elim (h1 s) fun h=>h2 s (List.mem_of_mem_take h)
  have hxm:=h2 _ (nth_mem i0 hi)
  have hle:=addR_len (more.take i.toNat) l
  rw [List.length_take] at hle
  generalize addR l (more.take i.toNat)=a at *
  have ea:(a.map Sa).length=a.length:=List.length_map _
  repeat' (first | (refine lvK ?_;apply Cj.mk <;> first | exact trivial | intros) | (refine lvE ?_;apply Cj.mk <;> first | exact trivial | intros) | fail)
  refine .of (fun k=>[(7,I k),(6,Bo (decide (nth more i∈a.take k.toNat)))]) (fun k=>[(1,.arr 8 (a.map Sa))]) 2 (fun k=>0≤k∧k≤a.length) (fun k=>(a.length - k).toNat) 0 ?_
  conv=>whnf
  refine ⟨⟨[],hdA (lvL ?_) (lvL ?_)⟩,?_,fun k ⟨k0,k1⟩=>lvN ?_⟩ <;> (try (apply Cj.mk <;> first | exact trivial | intros))
  ·exact ⟨by omega,by omega⟩
  have hss:k < a.length→Pure Tryz.prog 131 [Sa (nth a k),Sa (nth more i)] (Bo (decide (nth a k=nth more i))) none:=fun h=>same_p _ _ (hsm _ (nth_mem k0 h)) hxm
  by_cases hk:k < a.length
  ·have hts:=take_snoc k0 hk
   have hs1:=hss hk
   by_cases hf:nth more i∈a.take k.toNat
   ·rw [decide_eq_true hf]
    have hf':decide (nth more i∈a.take (k+1).toNat)=true:=decide_eq_true (by rw [hts];exact List.mem_append_left _ hf)
    repeat' (first | ((first | refine lvK ?_ | refine ⟨_,_,hs1,lvN ?_⟩ | (refine .inl ?_;(conv=>whnf);first | refine ⟨_,_,hs1,lvN ?_⟩));apply Cj.mk <;> first | exact trivial | intros) | (refine lvE ?_;apply Cj.mk <;> first | exact trivial | intros) | fail)
    refine ⟨k+1,⟨[],hdA (lvL ?_) (lvL ?_)⟩,?_,by (try dsimp only);omega,rfl⟩ <;> (try (apply Cj.mk <;> first | exact trivial | intros))
    ·rw [hf']
    ·exact ⟨by omega,by omega⟩
   ·rw [decide_eq_false hf]
    have hf':decide (nth more i∈a.take (k+1).toNat)=decide (nth a k=nth more i):=by
     rw [hts]
     have:nth more i∈List.take k.toNat a++[nth a k]↔nth a k=nth more i:=by
      rw [List.mem_append,List.mem_singleton]
      exact ⟨fun h=>(h.resolve_left hf).symm,fun h=>.inr h.symm⟩
     simp only [this]
    repeat' (first | ((first | refine lvK ?_ | refine ⟨_,_,hs1,lvN ?_⟩ | (refine .inl ?_;(conv=>whnf);first | refine ⟨_,_,hs1,lvN ?_⟩));apply Cj.mk <;> first | exact trivial | intros) | (refine lvE ?_;apply Cj.mk <;> first | exact trivial | intros) | fail)
    refine ⟨k+1,⟨[],hdA (lvL ?_) (lvL ?_)⟩,?_,by (try dsimp only);omega,rfl⟩ <;> (try (apply Cj.mk <;> first | exact trivial | intros))
    ·rw [hf']
    ·exact ⟨by omega,by omega⟩
  ·obtain rfl:k=a.length:=by omega
   rw [take_all (Int.le_refl _)]
   unfold add1 at hsu
   by_cases hf:nth more i∈a
   ·rw [decide_eq_true hf]
    rw [if_pos hf] at hsu
    repeat' (first | (refine lvK ?_;apply Cj.mk <;> first | exact trivial | intros) | (refine lvE ?_;apply Cj.mk <;> first | exact trivial | intros) | fail)
    refine ⟨i+1,⟨[],hdA (lvL ?_) (lvL ?_)⟩,?_,by (try dsimp only);omega,rfl⟩ <;> (try (apply Cj.mk <;> first | exact trivial | intros))
    ·rw [hsu]
    ·exact ⟨by omega,by omega⟩
   ·rw [decide_eq_false hf]
    rw [if_neg hf] at hsu
    repeat' (first | ((first | refine lvK ?_ | refine ap1 (f:=Sa) (a:=(nth more i)) (by decide) (by omega) rfl rfl (lvN ?_));apply Cj.mk <;> first | exact trivial | intros) | (refine lvE ?_;apply Cj.mk <;> first | exact trivial | intros) | fail)
    refine ⟨i+1,⟨[],hdA (lvL ?_) (lvL ?_)⟩,?_,by (try dsimp only);omega,rfl⟩ <;> (try (apply Cj.mk <;> first | exact trivial | intros))
    ·rw [hsu]
    ·exact ⟨by omega,by omega⟩
 ·obtain rfl:i=more.length:=by omega
  rw [take_all (Int.le_refl _)]
  repeat' (first | (refine lvK ?_;apply Cj.mk <;> first | exact trivial | intros) | (refine lvE ?_;apply Cj.mk <;> first | exact trivial | intros) | fail)
theorem dg_data {n:Int} (h0:0≤n) (h1:n < 10):(dg n).data.toList=[UInt8.ofNat (48+n.toNat)]:=by
 have:n=0∨n=1∨n=2∨n=3∨n=4∨n=5∨n=6∨n=7∨n=8∨n=9:=by omega
 rcases this with rfl | rfl | rfl | rfl | rfl | rfl | rfl | rfl | rfl | rfl <;> decide +kernel
theorem u8_inj {a b:Nat} (ha:a < 256) (hb:b < 256) (h:UInt8.ofNat a=UInt8.ofNat b):a=b:=by
 have:=congrArg UInt8.toNat h
 simp only [UInt8.toNat_ofNat'] at this
 omega
theorem nums_mem {g:Gm} (hg:g.ok) {p:Ps} (h:p.ok g):p.by:=by
 have hl:=h.len
 have l0:=h.h0.len
 have l1:=h.h1.len
 have c9:=hg.c9
 have k6:=hg.k6
 have r4:=hg.r4
 refine ⟨by omega,by omega,by omega,fun x hx=>?_⟩
 simp only [nums,List.flatten_cons,List.flatten_nil,List.append_nil,List.mem_append,List.mem_cons,List.not_mem_nil,or_false] at hx
 have hd:∀ l,HdOk g l→x∈l→0≤x∧x≤255:=fun l hh hm=>by
  obtain ⟨i,i0,i1,rfl⟩:=mem_nth hm
  have:=hh.v i i0 (by have:=hh.len;omega)
  omega
 rcases hx with hx | hx | hx | rfl | rfl
 ·obtain ⟨i,i0,i1,rfl⟩:=mem_nth hx
  have:=h.c i i0 (by omega)
  omega
 ·exact hd _ h.h0 hx
 ·exact hd _ h.h1 hx
 ·have:(2:Int) ^ g.rights.toNat≤2 ^ 4:=by exact_mod_cast Nat.pow_le_pow_right (by decide) (by omega)
  have:=h.r0;have:=h.r1
  omega
 ·have:=h.s
  omega
theorem map_inj_on {α β:Type} {f:α→β}:∀ {l r:List α},(∀ x,x∈l→∀ y,y∈r→f x=f y→x=y)→l.map f=r.map f→l=r
 | [],[],_,_=>rfl
 | [],_ :: _,_,h=>by cases h
 | _ :: _,[],_,h=>by cases h
 | a :: l,b :: r,hi,h=>by
  simp only [List.map_cons,List.cons.injEq] at h
  rw [hi a (by simp) b (by simp) h.1,map_inj_on (fun x hx y hy=>hi x (by simp [hx]) y (by simp [hy])) h.2]
theorem key_inj {g:Gm} (hg:g.ok) {s t:Rs} (hs:s.ok g) (ht:t.ok g) (h:keyB s=keyB t):s=t:=by
 have c9:=hg.c9
 have k6:=hg.k6
 have d:=congrArg (fun b:ByteArray=>b.data.toList) h
 simp only [keyB,ByteArray.data_append,Array.toList_append,dg_data hs.k0 (by have:=hs.k1;omega),dg_data ht.k0 (by have:=ht.k1;omega),dg_data hs.u0 (by have:=hs.u1;omega),dg_data ht.u0 (by have:=ht.u1;omega),strOfNums_data,sp,List.append_assoc,List.cons_append,List.nil_append,List.cons.injEq] at d
 obtain ⟨d1,_,d2,_,d3⟩:=d
 have e1:=u8_inj (by have:=hs.k1;have:=hs.k0;omega) (by have:=ht.k1;have:=ht.k0;omega) d1
 have e2:=u8_inj (by have:=hs.u1;have:=hs.u0;omega) (by have:=ht.u1;have:=ht.u0;omega) d2
 have ht2:s.took=t.took:=by
  cases hst:s.took <;> cases htt:t.took
  ·rfl
  ·rw [hst,htt] at d3;simp [fbT] at d3
  ·rw [hst,htt] at d3;simp [fbT] at d3
  ·rfl
 rw [ht2] at d3
 have d4:=List.append_cancel_left d3
 simp only [List.cons.injEq,true_and] at d4
 have n1:=nums_mem hg hs.pos
 have n2:=nums_mem hg ht.pos
 have d5:=map_inj_on (fun x hx y hy q=>by
  have:=n1.n x hx;have:=n2.n y hy
  have:=u8_inj (by omega) (by omega) q
  omega) d4
 have lc:s.p.ct.length=t.p.ct.length:=by have:=hs.len;have:=ht.len;omega
 have l0:s.p.h0.length=t.p.h0.length:=by have:=hs.h0.len;have:=ht.h0.len;omega
 have l1:s.p.h1.length=t.p.h1.length:=by have:=hs.h1.len;have:=ht.h1.len;omega
 simp only [nums,List.flatten_cons,List.flatten_nil,List.append_nil] at d5
 obtain ⟨q1,d6⟩:=List.append_inj d5 lc
 obtain ⟨q2,d7⟩:=List.append_inj d6 l0
 obtain ⟨q3,d8⟩:=List.append_inj d7 l1
 simp only [List.cons.injEq,and_true] at d8
 have k0:=hs.k0;have k1:=ht.k0;have u0:=hs.u0;have u1:=ht.u0
 obtain ⟨⟨ct,h0,h1,rr,sd⟩,kd,cu,tk⟩:=s
 obtain ⟨⟨ct',h0',h1',rr',sd'⟩,kd',cu',tk'⟩:=t
 dsimp only at *
 obtain rfl:kd=kd':=by omega
 obtain rfl:cu=cu':=by omega
 rw [q1,q2,q3,d8.1,d8.2,ht2]
section
variable {β:Type} [Inhabited β] [DecidableEq β]
def ddP (l:List β) (i:Int):Bool:=decide (i=0) || decide (nth l i≠nth l (i - 1))
def ddI (l:List β) (n:Int):List β:=((ints n).filter (ddP l)).map (nth l)
theorem ddI_succ (l:List β) {n:Int} (h:0≤n):ddI l (n+1)=if ddP l n then ddI l n++[nth l n] else ddI l n:=by
 unfold ddI
 rw [ints_succ h,List.filter_append,List.map_append]
 by_cases hp:ddP l n=true
 ·rw [if_pos hp];simp [hp]
 ·rw [if_neg hp];simp [hp]
theorem ddI_len (l:List β) {n:Int} (h:0≤n):((ddI l n).length:Int)≤n:=by
 unfold ddI
 rw [List.length_map]
 have:=List.length_filter_le (ddP l) (ints n)
 rw [ints_len] at this
 omega
theorem ddI_all (l:List β) {n:Int} (h0:0≤n) (h1:n≤l.length) (h:∀ i:Int,1≤i→i < n→nth l i≠nth l (i - 1)):ddI l n=l.take n.toNat:=by
 obtain ⟨m,rfl⟩:=Int.eq_ofNat_of_zero_le h0
 induction m with
 | zero=>simp [ddI,ints]
 | succ m ih =>
  have e:((m+1:Nat):Int)=(m:Int)+1:=by omega
  rw [e,ddI_succ l (by omega),ih (by omega) (by omega) (fun i i0 i1=>h i i0 (by omega)),if_pos,← take_snoc (by omega) (by omega)]
  unfold ddP
  by_cases hm:(m:Int)=0
  ·simp [hm]
  ·rw [Bool.or_eq_true];right;simp;exact h m (by omega) (by omega)
end
theorem eqO_true (a b:Oc):(cmpO a b == 0)=decide (a=b):=by
 rw [Bool.eq_iff_iff,decide_eq_true_eq]
 simp only [beq_iff_eq]
 exact cmpO_tot.eq0 a b
set_option maxRecDepth 10000 in
theorem orderO_p (a b:Oc) (ha:a.p.small) (hb:b.p.small):Pure Tryz.prog 47 [Ou a,Ou b] (I (cmpO a b)) none:=by
 obtain ⟨p,u⟩:=a
 obtain ⟨q,v⟩:=b
 cases u <;> cases v
 ·exact order_falsefalse p q ha hb
 ·exact order_falsetrue p q ha hb
 ·exact order_truefalse p q ha hb
 ·exact order_truetrue p q ha hb
set_option maxRecDepth 10000 in
theorem sameO_p (a b:Oc) (ha:a.p.small) (hb:b.p.small):Pure Tryz.prog 49 [Ou a,Ou b] (Bo (decide (a=b))) none:=by
 have h:=orderO_p a b ha hb
 rw [← eqO_true]
 generalize cmpO a b=z at *
 refine fun_of tok D_ok Tryz.func49 rfl Tryz.ntmps49 Tryz.results49 (by kernel_rfl) (by simp) (by simp) ?_
 conv=>whnf
 repeat' (first | ((first | refine lvK ?_ | refine ⟨_,_,h,lvN ?_⟩ | (refine .inl ?_;(conv=>whnf);first | refine ⟨_,_,h,lvN ?_⟩));apply Cj.mk <;> first | exact trivial | intros) | (refine lvE ?_;apply Cj.mk <;> first | exact trivial | intros) | fail)
theorem take_eq_all {α:Type} {a b:List α} {i:Int} (hl:a.length=b.length) (h:a.length≤i) (ht:a.take i.toNat=b.take i.toNat):a=b:=by
 rwa [take_all h,take_all (by omega)] at ht
theorem take_eq_succ {α:Type} [Inhabited α] {a b:List α} {i:Int} (h0:0≤i) (h1:i < a.length) (h2:i < b.length) (ht:a.take i.toNat=b.take i.toNat) (h:nth a i=nth b i):a.take (i+1).toNat=b.take (i+1).toNat:=by
 rw [take_snoc h0 h1,take_snoc h0 h2,ht,h]
theorem oc_ext {a b:Oc} (h:a.p=b.p) (h2:a.took=b.took):a=b:=by cases a;cases b;simp_all
set_option maxRecDepth 10000 in
theorem Ints5_p (a b:List Int) (ha:a.length≤4611686018427387904):Pure Tryz.prog 23 [Is a,Is b] (Bo (decide (a=b))) none:=by
 have e1:(a.map I).length=a.length:=by simp
 have e2:(b.map I).length=b.length:=by simp
 by_cases hl:a.length=b.length
 ·refine fun_of tok D_ok Tryz.func23 rfl Tryz.ntmps23 Tryz.results23 (by kernel_rfl) (by simp) (by simp) ?_
  conv=>whnf
  repeat' (first | (refine lvK ?_;apply Cj.mk <;> first | exact trivial | intros) | (refine lvE ?_;apply Cj.mk <;> first | exact trivial | intros) | fail)
  refine .of (fun i=>[(5,I i)]) (fun i=>[]) 0 (fun i=>0≤i∧i≤a.length∧a.take i.toNat=b.take i.toNat) (fun i=>(a.length - i).toNat) 0 ?_
  conv=>whnf
  refine ⟨⟨[],hdA (lvL ?_) (lvL ?_)⟩,?_,fun i ⟨h0,h1,ht⟩=>lvN ?_⟩ <;> (try (apply Cj.mk <;> first | exact trivial | intros))
  ·exact ⟨by omega,by omega,rfl⟩
  by_cases hi:i < a.length
  ·by_cases h4:nth a i=nth b i
   ·repeat' (first
     | (refine lvK ?_;apply Cj.mk <;> first | exact trivial | intros)
     | (refine lvE ?_;apply Cj.mk <;> first | exact trivial | intros)
     | fail)
    refine ⟨i+1,⟨[],hdA (lvL ?_) (lvL ?_)⟩,?_,by (try dsimp only);omega,rfl⟩ <;> (try (apply Cj.mk <;> first | exact trivial | intros))
    exact ⟨by omega,by omega,take_eq_succ h0 (by omega) (by omega) ht h4⟩
   ·rw [decide_eq_false (show ¬ a=b from fun q=>h4 (by rw [q]))]
    repeat' (first | (refine lvK ?_;apply Cj.mk <;> first | exact trivial | intros) | (refine lvE ?_;apply Cj.mk <;> first | exact trivial | intros) | fail)
  ·rw [decide_eq_true (take_eq_all hl (by omega) ht)]
   repeat' (first | (refine lvK ?_;apply Cj.mk <;> first | exact trivial | intros) | (refine lvE ?_;apply Cj.mk <;> first | exact trivial | intros) | fail)
 ·rw [decide_eq_false (show ¬ a=b from fun q=>hl (by rw [q]))]
  refine fun_of tok D_ok Tryz.func23 rfl Tryz.ntmps23 Tryz.results23 (by kernel_rfl) (by simp) (by simp) ?_
  conv=>whnf
  repeat' (first | (refine lvK ?_;apply Cj.mk <;> first | exact trivial | intros) | (refine lvE ?_;apply Cj.mk <;> first | exact trivial | intros) | fail)
set_option maxHeartbeats 4000000 in
set_option maxRecDepth 10000 in
theorem SameOut_p (a b:List Oc) (ha:a.length≤4611686018427387904) (h1:∀ o,o∈a→o.p.small) (h2:∀ o,o∈b→o.p.small):Pure Tryz.prog 28 [Ous a,Ous b] (Bo (decide (a=b))) none:=by
 have e1:(a.map Ou).length=a.length:=by simp
 have e2:(b.map Ou).length=b.length:=by simp
 by_cases hl:a.length=b.length
 ·refine fun_of tok D_ok Tryz.func28 rfl Tryz.ntmps28 Tryz.results28 (by kernel_rfl) (by simp) (by simp) ?_
  conv=>whnf
  repeat' (first | (refine lvK ?_;apply Cj.mk <;> first | exact trivial | intros) | (refine lvE ?_;apply Cj.mk <;> first | exact trivial | intros) | fail)
  refine .of (fun i=>[(5,I i)]) (fun i=>[]) 0 (fun i=>0≤i∧i≤a.length∧a.take i.toNat=b.take i.toNat) (fun i=>(a.length - i).toNat) 0 ?_
  conv=>whnf
  refine ⟨⟨[],hdA (lvL ?_) (lvL ?_)⟩,?_,fun i ⟨h0,h1',ht⟩=>lvN ?_⟩ <;> (try (apply Cj.mk <;> first | exact trivial | intros))
  ·exact ⟨by omega,by omega,rfl⟩
  by_cases hi:i < a.length
  ·have hc:=R4Compare_p (nth a i).p (nth b i).p (h1 _ (nth_mem h0 hi)) (h2 _ (nth_mem h0 (by omega)))
   by_cases h4:cmpP (nth a i).p (nth b i).p=0
   ·have hp:=(cmpP_tot.eq0 _ _).1 h4
    by_cases h5:(nth a i).took=(nth b i).took
    ·have h6:nth a i=nth b i:=oc_ext hp h5
     rw [h4] at hc
     repeat' (first | ((first | refine lvK ?_ | refine ⟨_,_,hc,lvN ?_⟩ | (refine .inl ?_;(conv=>whnf);first | refine ⟨_,_,hc,lvN ?_⟩));apply Cj.mk <;> first | exact trivial | intros) | (refine lvE ?_;apply Cj.mk <;> first | exact trivial | intros) | fail)
     all_goals (try (exfalso;simp_all;done))
     refine ⟨i+1,⟨[],hdA (lvL ?_) (lvL ?_)⟩,?_,by (try dsimp only);omega,rfl⟩ <;> (try (apply Cj.mk <;> first | exact trivial | intros))
     exact ⟨by omega,by omega,take_eq_succ h0 (by omega) (by omega) ht h6⟩
    ·rw [decide_eq_false (show ¬ a=b from fun q=>h5 (by rw [q]))]
     rw [h4] at hc
     repeat' (first | ((first | refine lvK ?_ | refine ⟨_,_,hc,lvN ?_⟩ | (refine .inl ?_;(conv=>whnf);first | refine ⟨_,_,hc,lvN ?_⟩));apply Cj.mk <;> first | exact trivial | intros) | (refine lvE ?_;apply Cj.mk <;> first | exact trivial | intros) | fail)
     all_goals (try (exfalso;simp_all;done))
   ·rw [decide_eq_false (show ¬ a=b from fun q=>h4 (by rw [q];exact cmpP_tot.self _))]
    generalize cmpP (nth a i).p (nth b i).p=c at *
    repeat' (first | ((first | refine lvK ?_ | refine ⟨_,_,hc,lvN ?_⟩ | (refine .inl ?_;(conv=>whnf);first | refine ⟨_,_,hc,lvN ?_⟩));apply Cj.mk <;> first | exact trivial | intros) | (refine lvE ?_;apply Cj.mk <;> first | exact trivial | intros) | fail)
  ·rw [decide_eq_true (take_eq_all hl (by omega) ht)]
   repeat' (first | (refine lvK ?_;apply Cj.mk <;> first | exact trivial | intros) | (refine lvE ?_;apply Cj.mk <;> first | exact trivial | intros) | fail)
 ·rw [decide_eq_false (show ¬ a=b from fun q=>hl (by rw [q]))]
  refine fun_of tok D_ok Tryz.func28 rfl Tryz.ntmps28 Tryz.results28 (by kernel_rfl) (by simp) (by simp) ?_
  conv=>whnf
  repeat' (first | (refine lvK ?_;apply Cj.mk <;> first | exact trivial | intros) | (refine lvE ?_;apply Cj.mk <;> first | exact trivial | intros) | fail)
set_option maxHeartbeats 4000000 in
set_option maxRecDepth 10000 in
theorem SamePos_p (a b:List Ps) (ha:a.length≤4611686018427387904) (h1:∀ o,o∈a→o.small) (h2:∀ o,o∈b→o.small):Pure Tryz.prog 34 [Pss a,Pss b] (Bo (decide (a=b))) none:=by
 have e1:(a.map Ps.av).length=a.length:=by simp
 have e2:(b.map Ps.av).length=b.length:=by simp
 by_cases hl:a.length=b.length
 ·refine fun_of tok D_ok Tryz.func34 rfl Tryz.ntmps34 Tryz.results34 (by kernel_rfl) (by simp) (by simp) ?_
  conv=>whnf
  repeat' (first | (refine lvK ?_;apply Cj.mk <;> first | exact trivial | intros) | (refine lvE ?_;apply Cj.mk <;> first | exact trivial | intros) | fail)
  refine .of (fun i=>[(5,I i)]) (fun i=>[]) 0 (fun i=>0≤i∧i≤a.length∧a.take i.toNat=b.take i.toNat) (fun i=>(a.length - i).toNat) 0 ?_
  conv=>whnf
  refine ⟨⟨[],hdA (lvL ?_) (lvL ?_)⟩,?_,fun i ⟨h0,h1',ht⟩=>lvN ?_⟩ <;> (try (apply Cj.mk <;> first | exact trivial | intros))
  ·exact ⟨by omega,by omega,rfl⟩
  by_cases hi:i < a.length
  ·have hc:=R4Compare_p (nth a i) (nth b i) (h1 _ (nth_mem h0 hi)) (h2 _ (nth_mem h0 (by omega)))
   by_cases h4:cmpP (nth a i) (nth b i)=0
   ·have h6:=(cmpP_tot.eq0 _ _).1 h4
    rw [h4] at hc
    repeat' (first | ((first | refine lvK ?_ | refine ⟨_,_,hc,lvN ?_⟩ | (refine .inl ?_;(conv=>whnf);first | refine ⟨_,_,hc,lvN ?_⟩));apply Cj.mk <;> first | exact trivial | intros) | (refine lvE ?_;apply Cj.mk <;> first | exact trivial | intros) | fail)
    refine ⟨i+1,⟨[],hdA (lvL ?_) (lvL ?_)⟩,?_,by (try dsimp only);omega,rfl⟩ <;> (try (apply Cj.mk <;> first | exact trivial | intros))
    exact ⟨by omega,by omega,take_eq_succ h0 (by omega) (by omega) ht h6⟩
   ·rw [decide_eq_false (show ¬ a=b from fun q=>h4 (by rw [q];exact cmpP_tot.self _))]
    generalize cmpP (nth a i) (nth b i)=c at *
    repeat' (first | ((first | refine lvK ?_ | refine ⟨_,_,hc,lvN ?_⟩ | (refine .inl ?_;(conv=>whnf);first | refine ⟨_,_,hc,lvN ?_⟩));apply Cj.mk <;> first | exact trivial | intros) | (refine lvE ?_;apply Cj.mk <;> first | exact trivial | intros) | fail)
  ·rw [decide_eq_true (take_eq_all hl (by omega) ht)]
   repeat' (first | (refine lvK ?_;apply Cj.mk <;> first | exact trivial | intros) | (refine lvE ?_;apply Cj.mk <;> first | exact trivial | intros) | fail)
 ·rw [decide_eq_false (show ¬ a=b from fun q=>hl (by rw [q]))]
  refine fun_of tok D_ok Tryz.func34 rfl Tryz.ntmps34 Tryz.results34 (by kernel_rfl) (by simp) (by simp) ?_
  conv=>whnf
  repeat' (first | (refine lvK ?_;apply Cj.mk <;> first | exact trivial | intros) | (refine lvE ?_;apply Cj.mk <;> first | exact trivial | intros) | fail)
theorem R3Made_p (x:R3) (hx:x.ok):Pure Tryz.prog 40 [.ag x.cs] x.made.av none:=by
 by_cases h:x.k1.length > 0
 ·exact R3Made_2 x hx h
 ·exact R3Made_1 x hx h
theorem fitS_ok {dirs kinds rights:Int} (h1:1≤dirs) (h2:1≤kinds) (h3:0≤rights) {y x:Stp} (hy:LibOk y) (hx:x∈fitS dirs kinds rights y):StpOk dirs kinds rights x:=by
 have o1:=hy.o1
 have o2:=hy.o2
 have z:=hy.z
 have d0:=Int.emod_nonneg y.n (show dirs≠0 by omega)
 have d1:=Int.emod_lt_of_pos y.n (show 0 < dirs by omega)
 have k0:=Int.emod_nonneg y.n (show kinds≠0 by omega)
 have k1:=Int.emod_lt_of_pos y.n (show 0 < kinds by omega)
 unfold fitS at hx
 unfold StpOk
 split at hx
 ·simp only [List.mem_singleton] at hx;subst hx;dsimp only;omega
 ·split at hx
  ·simp only [List.mem_singleton] at hx;subst hx;dsimp only;omega
  ·split at hx
   ·split at hx
    ·simp at hx
    ·have r0:=Int.emod_nonneg y.n (show rights≠0 by omega)
     have r1:=Int.emod_lt_of_pos y.n (show 0 < rights by omega)
     simp only [List.mem_singleton] at hx;subst hx;dsimp only;omega
   ·simp only [List.mem_singleton] at hx;subst hx
    have:=z (by omega) (by omega)
    omega
theorem fitS_len1 (a b c:Int) (x:Stp):(fitS a b c x).length≤1:=by
 unfold fitS
 repeat' split
 all_goals simp
theorem fitL_len1 (a b c:Int):∀ p:List Stp,(fitL p a b c).length≤p.length
 | []=>by simp [fitL]
 | x :: p=>by
  have h1:=fitL_len1 a b c p
  have h2:=fitS_len1 a b c x
  unfold fitL at h1 ⊢
  rw [List.flatMap_cons,List.length_append,List.length_cons]
  omega
theorem fit_ok {dirs kinds rights:Int} (h1:1≤dirs) (h2:1≤kinds) (h3:0≤rights) {p:List Stp} (hl:p.length≤8) (hp:∀ x,x∈p→LibOk x):PgOk dirs kinds rights (fit p dirs kinds rights):=by
 have hf:=fitL_len1 dirs kinds rights p
 unfold fit
 split
 ·refine ⟨by simp,by simp,fun x hx=>?_⟩
  simp only [List.mem_singleton] at hx;subst hx
  unfold StpOk;dsimp only;omega
 ·refine ⟨by omega,by omega,fun x hx=>?_⟩
  unfold fitL at hx
  obtain ⟨y,hy,hxy⟩:=List.mem_flatMap.1 hx
  exact fitS_ok h1 h2 h3 (hp y hy) hxy
theorem progMade_ok {n dirs kinds rights:Int} (hn:b8 n) (h1:1≤dirs) (h2:1≤kinds) (h3:0≤rights):PgOk dirs kinds rights (progMade n dirs kinds rights):=by
 have ls:=libL_spec (pm_b hn)
 exact fit_ok h1 h2 h3 (by omega) ls.2
theorem R3.nk_12 (x:R3):x.nk=1∨x.nk=2:=by unfold R3.nk;split <;> omega
theorem R3.made_nk (x:R3):x.made.nk=x.nk:=by
 have:=x.nk_12
 show ((((ints x.nk).map x.kd).length:Nat):Int)=x.nk
 rw [List.length_map,ints_len];omega
theorem R3.made_ok {x:R3} (hx:x.ok):x.made.ok:=by
 have hb:=bdMade_ok hx.w hx.h hx.cut
 have hk:=x.nk_12
 have mk:=x.made_nk
 have hf0:=hx.f0
 have hf3:=hx.f3
 have hf4:=hx.f4
 unfold b8 at hf0 hf3 hf4
 have hr:x.made.rights=x.f0 % 3:=rfl
 have hd:x.made.nd=8:=by show (((bdMade x.w x.h x.cut).next.length:Nat):Int)=8;rw [hb.2.2];rfl
 have hkd:∀ k:Int,0≤k→k < x.made.nk→nth x.made.kinds k=x.kd k:=fun k k0 k1=>nth_map_ints k0 (by omega)
 have hkl:∀ k i:Int,0≤i→i < (x.kl k).length→b8 (nth (x.kl k) i):=fun k i i0 i1=>by
  unfold R3.kl at i1 ⊢
  split at i1
  ·rw [if_pos (by assumption)];exact hx.k0 i i0 i1
  ·rw [if_neg (by assumption)];exact hx.k1 i i0 i1
 refine ⟨hb.1,hb.2.1,by omega,by omega,fun k k0 k1=>?_,fun k k0 k1 p hp=>?_,by omega,by omega,?_,fun c hc=>?_,?_,?_⟩
 ·rw [hkd k k0 k1]
  show (((x.kl k).take 4).map _).length≤8
  rw [List.length_map,List.length_take];omega
 ·rw [hkd k k0 k1] at hp
  obtain ⟨n,hn,rfl⟩:=List.mem_map.1 hp
  rw [hd,mk]
  have hn':=List.mem_of_mem_take hn
  obtain ⟨i,i0,i1,rfl⟩:=mem_nth hn'
  exact progMade_ok (hkl k i i0 i1) (by omega) (by omega) (by show 0≤x.f0 % 3;omega)
 ·show ((x.c.take 3).map x.cl).length≤6
  rw [List.length_map,List.length_take];omega
 ·obtain ⟨y,hy,rfl⟩:=List.mem_map.1 hc
  obtain ⟨i,i0,i1,rfl⟩:=mem_nth (List.mem_of_mem_take hy)
  have hy':=hx.c i i0 i1
  unfold b8 at hy'
  have hcs:x.made.b.cells=x.b.cells:=rfl
  have hc1:1≤x.b.cells:=hb.1.c1
  have m0:=Int.emod_nonneg (nth x.c i).b (show x.nk≠0 by omega)
  have m1:=Int.emod_lt_of_pos (nth x.c i).b (show 0 < x.nk by omega)
  have m2:=Int.emod_nonneg (nth x.c i).c (show x.b.cells≠0 by omega)
  have m3:=Int.emod_lt_of_pos (nth x.c i).c (show 0 < x.b.cells by omega)
  have hcf:(nth x.c i).a % 3=0∨(nth x.c i).a % 3=1∨(nth x.c i).a % 3=2:=by omega
  refine ⟨by show 1≤1+(nth x.c i).a / 4 % 3;omega,by show 1+(nth x.c i).a / 4 % 3≤3;omega,?_⟩
  rw [mk,hcs]
  unfold R3.cl
  dsimp only
  rcases hcf with h | h | h <;> rw [h]
  ·left
   exact ⟨rfl,by rw [if_pos (by omega)];exact m0,by rw [if_pos (by omega)];exact m1,by rw [if_neg (by omega),if_neg (by omega)]⟩
  ·right;left
   exact ⟨rfl,by rw [if_pos (by omega)];exact m0,by rw [if_pos (by omega)];exact m1,by rw [if_pos (by omega)];exact m2,by rw [if_pos (by omega)];exact m3⟩
  ·right;right
   refine ⟨rfl,by rw [if_neg (by omega)],?_,?_⟩
   ·rw [if_neg (by omega),if_pos (by omega)];omega
   ·rw [if_neg (by omega),if_pos (by omega)];omega
 ·show 1≤(if x.f3 % 4=3 then 1+x.f3 / 4 % 3 else 3)∧(if x.f3 % 4=3 then 1+x.f3 / 4 % 3 else 3)≤3
  split <;> omega
 ·show 1≤(if x.f4 % 4=3 then 1+x.f4 / 4 % 3 else 2)∧(if x.f4 % 4=3 then 1+x.f4 / 4 % 3 else 2)≤3
  split <;> omega
end Go.Proofs.YthgobfncgnjimaaGreatDoor
