/- Contracts of functions of the program, proved by the checker. -/
import Derived.Test.YthgobfncgnjimaaGreatDoorZ15
import Derived.Test.YthgobfncgnjimaaGreatDoorZ22
set_option linter.unusedVariables false
set_option linter.unusedSimpArgs false
namespace Go.Proofs.YthgobfncgnjimaaGreatDoor
open Go Go.Sk
def subR (a b:Int):Prop:=∀ n:Nat,n < 4→bitR a n≤bitR b n
instance (a b:Int):Decidable (subR a b):=inferInstanceAs (Decidable (∀ n:Nat,n < 4→bitR a n≤bitR b n))
theorem subR.refl (a:Int):subR a a:=fun _ _=>Int.le_refl _
theorem subR.trans {a b c:Int} (h1:subR a b) (h2:subR b c):subR a c:=fun n hn=>Int.le_trans (h1 n hn) (h2 n hn)
theorem clr_tab:∀ r:Nat,r < 16→∀ n:Nat,n < 4→subR (clrR r n) r:=by decide +kernel
theorem clr_sub {r n:Int} (r0:0≤r) (r1:r < 16) (n0:0≤n) (n1:n < 4):subR (clrR r n) r:=by
 obtain ⟨a,rfl⟩:=Int.eq_ofNat_of_zero_le r0
 obtain ⟨b,rfl⟩:=Int.eq_ofNat_of_zero_le n0
 exact clr_tab a (by omega) b (by omega)
theorem andn_tab:∀ a:Nat,a < 16→∀ b:Nat,b < 16→subR a b→(IntKind.i64.wrap (BitVec.ofInt IntKind.i64.bits (a:Int) &&& ~~~ (BitVec.ofInt IntKind.i64.bits (b:Int))).toNat)=0:=by decide +kernel
theorem candn0 {a b:Int} {K:Int→Prop} (h:0≤a∧a < 16∧0≤b∧b < 16) (hs:subR a b) (k:K 0):Calc (IntKind.i64.wrap (BitVec.ofInt IntKind.i64.bits a &&& ~~~ (BitVec.ofInt IntKind.i64.bits b)).toNat) K:=by
 obtain ⟨x,rfl⟩:=Int.eq_ofNat_of_zero_le h.1
 obtain ⟨y,rfl⟩:=Int.eq_ofNat_of_zero_le h.2.2.1
 exact .mk _ (andn_tab x (by omega) y (by omega) hs) k
theorem rights16 {g:Gm} (hg:g.ok) {p:Ps} (h:p.ok g):0≤p.rights∧p.rights < 16:=by
 have h4:=hg.r4
 have:(2:Int) ^ g.rights.toNat≤2 ^ 4:=by exact_mod_cast Nat.pow_le_pow_right (by decide) (by omega)
 exact ⟨h.r0,by have:=h.r1;omega⟩
theorem setH_rights (p:Ps) (l:List Int):(p.setH l).rights=p.rights∧(p.setH l).side=p.side∧(p.setH l).ct=p.ct:=by unfold Ps.setH;split <;> exact ⟨rfl,rfl,rfl⟩
theorem onlyR_mem {s y:Rs} {b:Bool} (h:y∈onlyR s b):y=s∧b=true:=by cases b <;> simp [onlyR] at h;exact ⟨h,rfl⟩
theorem take_rs {g:Gm} {s y:Rs} (hy:y∈g.takeR s):y.p.rights=s.p.rights∧y.p.side=s.p.side:=by
 unfold Gm.takeR at hy
 dsimp only at hy
 repeat' split at hy
 ·simp at hy
 ·simp at hy
 ·simp only [List.mem_singleton] at hy
  subst hy
  have:=setH_rights { s.p with ct:=s.p.ct.set s.cur.toNat 0 }
  exact ⟨(this _).1,(this _).2.1⟩
 ·simp only [List.mem_singleton] at hy
  subst hy
  exact ⟨rfl,rfl⟩
theorem push_rs {g:Gm} {s y:Rs} {n:Int} (hy:y∈g.pushR s n):y.p.rights=s.p.rights∧y.p.side=s.p.side:=by
 unfold Gm.pushR at hy
 dsimp only at hy
 split at hy
 ·simp at hy
 ·simp only [List.mem_singleton] at hy
  subst hy
  exact ⟨rfl,rfl⟩
theorem stp_op {d k r:Int} {x:Stp} (hx:StpOk d k r x):x.op=1∨x.op=2∨x.op=3∨x.op=4∨x.op=5∨x.op=6∨x.op=7∨x.op=8∨x.op=9∨x.op=10:=by unfold StpOk at hx;omega
section
variable (g:Gm) (s:Rs) {x:Stp}
theorem step1 (e:x.op=1):g.stepR s x=onlyR { s with cur:=g.b.to s.p.side x.n s.cur } (decide (g.b.to s.p.side x.n s.cur≥0)):=by unfold Gm.stepR;dsimp only;rw [if_pos e]
theorem step2 (e:x.op=2):g.stepR s x=(slideTo s.p.ct (g.b.line s.p.side x.n s.cur)).map fun c=>{ s with cur:=c }:=by unfold Gm.stepR;dsimp only;rw [if_neg (by omega),if_pos e]
theorem step3 (e:x.op=3):g.stepR s x=onlyR s (decide (ofK (nth s.p.ct s.cur) < 0)):=by unfold Gm.stepR;dsimp only;rw [if_neg (by omega),if_neg (by omega),if_pos e]
theorem step4 (e:x.op=4):g.stepR s x=onlyR s (decide (ofK (nth s.p.ct s.cur)≥0) && ofS (nth s.p.ct s.cur) != s.p.side):=by unfold Gm.stepR;dsimp only;rw [if_neg (by omega),if_neg (by omega),if_neg (by omega),if_pos e]
theorem step5 (e:x.op=5):g.stepR s x=onlyR s (decide (ofK (nth s.p.ct s.cur)≥0) && ofS (nth s.p.ct s.cur) == s.p.side):=by unfold Gm.stepR;dsimp only;rw [if_neg (by omega),if_neg (by omega),if_neg (by omega),if_neg (by omega),if_pos e]
theorem step6 (e:x.op=6):g.stepR s x=g.takeR s:=by unfold Gm.stepR;dsimp only;rw [if_neg (by omega),if_neg (by omega),if_neg (by omega),if_neg (by omega),if_neg (by omega),if_pos e]
theorem step7 (e:x.op=7):g.stepR s x=g.pushR s x.n:=by unfold Gm.stepR;dsimp only;rw [if_neg (by omega),if_neg (by omega),if_neg (by omega),if_neg (by omega),if_neg (by omega),if_neg (by omega),if_pos e]
theorem step8 (e:x.op=8):g.stepR s x=[{ s with kind:=x.n }]:=by unfold Gm.stepR;dsimp only;rw [if_neg (by omega),if_neg (by omega),if_neg (by omega),if_neg (by omega),if_neg (by omega),if_neg (by omega),if_neg (by omega),if_pos e]
theorem step9 (e:x.op=9):g.stepR s x=onlyR s (bitR s.p.rights x.n == 1):=by unfold Gm.stepR;dsimp only;rw [if_neg (by omega),if_neg (by omega),if_neg (by omega),if_neg (by omega),if_neg (by omega),if_neg (by omega),if_neg (by omega),if_neg (by omega),if_pos e]
theorem step10 (e:x.op=10):g.stepR s x=[{ s with p:={ s.p with rights:=clrR s.p.rights x.n } }]:=by unfold Gm.stepR;dsimp only;rw [if_neg (by omega),if_neg (by omega),if_neg (by omega),if_neg (by omega),if_neg (by omega),if_neg (by omega),if_neg (by omega),if_neg (by omega),if_neg (by omega)]
end
theorem step_rs {g:Gm} (hg:g.ok) {s:Rs} (hs:s.ok g) {x:Stp} (hx:StpOk g.nd g.nk g.rights x) {y:Rs} (hy:y∈g.stepR s x):subR y.p.rights s.p.rights∧y.p.side=s.p.side∧(x.op=9→bitR s.p.rights x.n=1):=by
 have h16:=rights16 hg hs.pos
 have h4:=hg.r4
 rcases stp_op hx with e | e | e | e | e | e | e | e | e | e
 ·rw [step1 g s e] at hy
  obtain ⟨rfl,_⟩:=onlyR_mem hy
  exact ⟨subR.refl _,rfl,fun q=>by omega⟩
 ·rw [step2 g s e] at hy
  obtain ⟨c,_,rfl⟩:=List.mem_map.1 hy
  exact ⟨subR.refl _,rfl,fun q=>by omega⟩
 ·rw [step3 g s e] at hy
  obtain ⟨rfl,_⟩:=onlyR_mem hy
  exact ⟨subR.refl _,rfl,fun q=>by omega⟩
 ·rw [step4 g s e] at hy
  obtain ⟨rfl,_⟩:=onlyR_mem hy
  exact ⟨subR.refl _,rfl,fun q=>by omega⟩
 ·rw [step5 g s e] at hy
  obtain ⟨rfl,_⟩:=onlyR_mem hy
  exact ⟨subR.refl _,rfl,fun q=>by omega⟩
 ·rw [step6 g s e] at hy
  have:=take_rs hy
  rw [this.1]
  exact ⟨subR.refl _,this.2,fun q=>by omega⟩
 ·rw [step7 g s e] at hy
  have:=push_rs hy
  rw [this.1]
  exact ⟨subR.refl _,this.2,fun q=>by omega⟩
 ·rw [step8 g s e] at hy
  rw [List.mem_singleton] at hy
  subst hy
  exact ⟨subR.refl _,rfl,fun q=>by omega⟩
 ·rw [step9 g s e] at hy
  obtain ⟨rfl,hb⟩:=onlyR_mem hy
  exact ⟨subR.refl _,rfl,fun _=>by simpa using hb⟩
 ·rw [step10 g s e] at hy
  rw [List.mem_singleton] at hy
  subst hy
  unfold StpOk at hx
  exact ⟨clr_sub h16.1 h16.2 (by omega) (by omega),rfl,fun q=>by omega⟩
theorem mem_next {g:Gm} {x:Stp} {y:Rs} (now:List Rs):∀ acc:List Rs,y∈now.foldl (g.next1 x) acc↔y∈acc∨∃ s,s∈now∧y∈g.stepR s x:=by
 induction now with
 | nil=>intro acc;simp
 | cons s r ih =>
  intro acc
  rw [List.foldl_cons,ih]
  unfold Gm.next1
  rw [mem_addR]
  constructor
  ·rintro ((h | h) | ⟨t,h1,h2⟩)
   ·exact .inl h
   ·exact .inr ⟨s,by simp,h⟩
   ·exact .inr ⟨t,by simp [h1],h2⟩
  ·rintro (h | ⟨t,h1,h2⟩)
   ·exact .inl (.inl h)
   ·rcases List.mem_cons.1 h1 with rfl | h1
    ·exact .inl (.inr h2)
    ·exact .inr ⟨t,h1,h2⟩
theorem mem_all1 {g:Gm} {x:Stp} {y:Rs} {now:List Rs}:y∈g.all1 now x↔∃ s,s∈now∧y∈g.stepR s x:=by
 unfold Gm.all1
 rw [mem_next]
 simp
theorem now_rs {g:Gm} (hg:g.ok) {p:Ps} {cell i:Int} (h:CanRun g p cell i):∀ n:Nat,n≤(g.prog p cell i).length→∀ s,s∈g.now p cell i n→subR s.p.rights p.rights∧s.p.side=p.side∧∀ k:Int,0≤k→k < n→(nth (g.prog p cell i) k).op=9→bitR p.rights (nth (g.prog p cell i) k).n=1
 | 0,_,s,hs=>by
  simp [Gm.now] at hs
  subst hs
  exact ⟨subR.refl _,rfl,fun k k0 k1=>by omega⟩
 | n+1,hn,s,hs=>by
  have e:((n+1:Nat):Int)=(n:Int)+1:=by omega
  rw [e,g.now_succ p cell i (by omega) (by omega)] at hs
  obtain ⟨t,ht,hst⟩:=mem_all1.1 hs
  have ih:=now_rs hg h n (by omega) t ht
  have hx:=(h.pg hg).st _ (nth_mem (l:=g.prog p cell i) (i:=n) (by omega) (by omega))
  have htok:=(now_ok hg h n (by omega)).1 t ht
  have hr:=step_rs hg htok hx hst
  refine ⟨hr.1.trans ih.1,hr.2.1.trans ih.2.1,fun k k0 k1 k9=>?_⟩
  by_cases hk:k=n
  ·subst hk
   have h1:=hr.2.2 k9
   unfold StpOk at hx
   have h4:=hg.r4
   have hb:∀ r:Int,bitR r (nth (g.prog p cell i) n).n≤1:=fun r=>by unfold bitR;omega
   have h2:=ih.1 (nth (g.prog p cell i) n).n.toNat (by omega)
   rw [show (((nth (g.prog p cell i) n).n.toNat:Nat):Int)=(nth (g.prog p cell i) n).n by omega] at h2
   have h3:=hb p.rights
   omega
  ·exact ih.2.2 k k0 (by omega) k9
theorem runs_rs {g:Gm} (hg:g.ok) {p:Ps} {cell i:Int} (h:CanRun g p cell i) {o:Oc} (ho:o∈g.runsR p cell i):subR o.p.rights p.rights∧o.p.side=1 - p.side∧∀ k:Int,0≤k→k < (g.prog p cell i).length→(nth (g.prog p cell i) k).op=9→bitR p.rights (nth (g.prog p cell i) k).n=1:=by
 unfold Gm.runsR at ho
 rcases (insL_mem _ _).1 ho with ho | ⟨s,hs,_,rfl⟩
 ·simp at ho
 ·have:=now_rs hg h _ (Nat.le_refl _) s hs
  exact ⟨this.1,rfl,this.2.2⟩
theorem runs_asc (g:Gm) (p:Ps) (cell i:Int):Asc cmpO (g.runsR p cell i):=insL_asc _ [] List.Pairwise.nil
theorem pick_run {g:Gm} (hg:g.ok) {p:Ps} (h:p.ok g) (n:Int) (hne:g.chs p≠[]):CanRun g p (g.pick p n).1 (g.pick p n).2:=by
 refine (mem_chs hg h).1 ?_
 show g.pick p n∈g.chs p
 have hl:0 < (g.chs p).length:=List.length_pos_iff.2 hne
 unfold Gm.pick
 exact nth_mem (Int.emod_nonneg _ (by omega)) (Int.emod_lt_of_pos _ (by omega))
end Go.Proofs.YthgobfncgnjimaaGreatDoor
