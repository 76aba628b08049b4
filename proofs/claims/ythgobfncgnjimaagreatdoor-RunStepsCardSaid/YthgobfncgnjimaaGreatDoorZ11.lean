/- Contracts of functions of the program, proved by the checker; and plain laws. -/
import Derived.Test.YthgobfncgnjimaaGreatDoorZ10
import Derived.Test.YthgobfncgnjimaaGreatDoorZ04
import Derived.Test.YthgobfncgnjimaaGreatDoorZ09
import Derived.Test.YthgobfncgnjimaaGreatDoorMkA
import Derived.Test.YthgobfncgnjimaaGreatDoorSk18
import Derived.Test.YthgobfncgnjimaaGreatDoorZ03
set_option linter.unusedVariables false
set_option linter.unusedSimpArgs false
namespace Go.Proofs.YthgobfncgnjimaaGreatDoor
open Go Go.Sk
def fin (side:Int) (s:Rs):Oc:=⟨{ s.p with ct:=s.p.ct.set s.cur.toNat (code s.kind side),side:=1 - side },s.took⟩
def ins (side:Int) (acc:List Oc) (s:Rs):List Oc:=if nth s.p.ct s.cur≠0 then acc else put cmpO (fin side s) acc
def Gm.runsR (g:Gm) (p:Ps) (cell i:Int):List Oc:=(g.now p cell i (g.prog p cell i).length).foldl (ins p.side) []
theorem code_rg {g:Gm} {k s:Int} (k0:0≤k) (k1:k < g.nk) (h6:g.nk≤6) (hs:s=0∨s=1):code k s=1+2 * k+s:=by unfold code;rw [if_pos (by omega)]
theorem fin_ok {g:Gm} (hg:g.ok) {s:Rs} (hs:s.ok g) {side:Int} (hsd:side=0∨side=1):(fin side s).p.ok g:=by
 have h6:=hg.k6
 have k0:=hs.k0
 have k1:=hs.k1
 have hc:=code_rg hs.k0 hs.k1 h6 hsd
 have:=hs.pos.setC (v:=code s.kind side) hs.u0 (by omega) (by omega)
 exact ⟨this.len,this.c,this.h0,this.h1,this.r0,this.r1,by show 1 - side=0∨1 - side=1;omega⟩
theorem insL_mem {side:Int} {o:Oc} (now:List Rs):∀ acc:List Oc,o∈now.foldl (ins side) acc↔o∈acc∨∃ s,s∈now∧nth s.p.ct s.cur=0∧o=fin side s:=by
 induction now with
 | nil=>intro acc;simp
 | cons s r ih =>
  intro acc
  rw [List.foldl_cons,ih]
  unfold ins
  constructor
  ·rintro (h | ⟨t,h1,h2,h3⟩)
   ·split at h
    ·exact .inl h
    ·rename_i q
     rcases (mem_put cmpO_tot).1 h with h | h
     ·exact .inr ⟨s,by simp,by omega,h⟩
     ·exact .inl h
   ·exact .inr ⟨t,by simp [h1],h2,h3⟩
  ·rintro (h | ⟨t,h1,h2,h3⟩)
   ·left
    split
    ·exact h
    ·exact (mem_put cmpO_tot).2 (.inr h)
   ·rcases List.mem_cons.1 h1 with rfl | h1
    ·left
     rw [if_neg (by omega)]
     exact (mem_put cmpO_tot).2 (.inl h3)
    ·exact .inr ⟨t,h1,h2,h3⟩
theorem insL_len {side:Int} (now:List Rs):∀ acc:List Oc,(now.foldl (ins side) acc).length≤acc.length+now.length:=by
 induction now with
 | nil=>intro acc;simp
 | cons s r ih =>
  intro acc
  have h1:=ih (ins side acc s)
  have h2:(ins side acc s).length≤acc.length+1:=by
   unfold ins
   split
   ·omega
   ·exact put_len
  rw [List.foldl_cons,List.length_cons]
  omega
theorem insL_asc {side:Int} (now:List Rs):∀ acc:List Oc,Asc cmpO acc→Asc cmpO (now.foldl (ins side) acc):=by
 induction now with
 | nil=>intro acc h;exact h
 | cons s r ih =>
  intro acc h
  rw [List.foldl_cons]
  refine ih _ ?_
  unfold ins
  split
  ·exact h
  ·exact put_asc cmpO_tot h
theorem runsR_ok {g:Gm} (hg:g.ok) {p:Ps} {cell i:Int} (h:CanRun g p cell i) {o:Oc} (ho:o∈g.runsR p cell i):o.p.ok g:=by
 unfold Gm.runsR at ho
 rcases (insL_mem _ _).1 ho with ho | ⟨s,hs,_,rfl⟩
 ·simp at ho
 ·exact fin_ok hg ((now_ok hg h _ (Nat.le_refl _)).1 s hs) h.ok.s
theorem runsR_len {g:Gm} (hg:g.ok) {p:Ps} {cell i:Int} (h:CanRun g p cell i):(g.runsR p cell i).length≤43046721:=by
 have h1:=insL_len (side:=p.side) (g.now p cell i (g.prog p cell i).length) []
 have h2:=now_len hg h (k:=(g.prog p cell i).length) (by omega) (Int.le_refl _)
 unfold Gm.runsR
 rw [List.length_nil] at h1
 omega
set_option maxHeartbeats 4000000 in
set_option maxRecDepth 10000 in
theorem Runs_p (g:Gm) (hg:g.ok) (p:Ps) (cell i:Int) (h:CanRun g p cell i):Pure Tryz.prog 32 [g.av,p.av,I cell,I i] (.tup [Ous (g.runsR p cell i),I 0]) none:=by
 have hrun:=Run_p g hg p cell i h
 have hli:=ints_len ((g.prog p cell i).length+1)
 have hsd:=h.ok.s
 have hnl:=now_len hg h (k:=(g.prog p cell i).length) (by omega) (Int.le_refl _)
 have hno:=(now_ok hg h _ (Nat.le_refl _)).1
 have hlast:nth (ints ((g.prog p cell i).length+1)) (g.prog p cell i).length=(g.prog p cell i).length:=nth_ints (by omega) (by omega)
 have el8:=(h.pg hg).l8
 have elm:((ints ((g.prog p cell i).length+1)).map fun k=>Sas (g.now p cell i k)).length=((g.prog p cell i).length+1:Nat):=by rw [List.length_map,hli];omega
 unfold Gm.runsR
 unfold Gm.stepsAV at hrun
 generalize (g.prog p cell i).length=m at *
 refine fun_of tok D_ok Tryz.func32 rfl Tryz.ntmps32 Tryz.results32 (by kernel_rfl) (by simp) (by simp) ?_
 conv=>whnf
 have hidx:nth (ints ((m:Int)+1)) ((((ints ((m:Int)+1)).map fun k=>Sas (g.now p cell i k)).length:Int) - 1)=m:=by rw [elm,show (((m+1:Nat):Int) - 1)=m by omega];exact hlast
 repeat' (first | ((first | refine lvK ?_ | refine ⟨_,_,hrun,lvN ?_⟩ | (refine .inl ?_;(conv=>whnf);first | refine ⟨_,_,hrun,lvN ?_⟩));apply Cj.mk <;> first | exact trivial | intros) | (refine lvE ?_;apply Cj.mk <;> first | exact trivial | intros) | fail)
 rw [hidx]
 generalize g.now p cell i m=l at *
 have el:(l.map Sa).length=l.length:=List.length_map _
 have h6:=hg.k6
 refine .of (fun k=>[(13,I k),(11,Ous ((l.take k.toNat).foldl (ins p.side) []))]) (fun k=>[]) 3 (fun k=>0≤k∧k≤l.length) (fun k=>(l.length - k).toNat) 0 ?_
 conv=>whnf
 refine ⟨⟨[],hdA (lvL ?_) (lvL ?_)⟩,?_,fun k ⟨k0,k1⟩=>lvN ?_⟩ <;> (try (apply Cj.mk <;> first | exact trivial | intros))
 ·exact ⟨by omega,by omega⟩
 by_cases hk:k < l.length
 ·have hs:=hno _ (nth_mem k0 hk)
  have hts:=take_snoc k0 hk
  have cp:=copied_p (nth l k).p (hs.pos.small hg)
  have hcode:=Code_p (nth l k).kind p.side
  have hlen:=hs.len
  have hu0:=hs.u0
  have hu1:=hs.u1
  have e2:((nth l k).p.ct.map I).length=(nth l k).p.ct.length:=List.length_map _
  have hacl:=insL_len (side:=p.side) (l.take k.toNat) []
  rw [List.length_take,List.length_nil] at hacl
  have hacs:∀ o,o∈(l.take k.toNat).foldl (ins p.side) []→o.p.small:=fun o ho=>by
   rcases (insL_mem _ _).1 ho with ho | ⟨s,hs,_,rfl⟩
   ·simp at ho
   ·exact (fin_ok hg (hno s (List.mem_of_mem_take hs)) hsd).small hg
  have hin:=Insert_p ((l.take k.toNat).foldl (ins p.side) []) (fin p.side (nth l k)) (by omega) hacs ((fin_ok hg hs hsd).small hg)
  by_cases hz:nth (nth l k).p.ct (nth l k).cur=0
  ·have hsu:(l.take (k+1).toNat).foldl (ins p.side) []=put cmpO (fin p.side (nth l k)) ((l.take k.toNat).foldl (ins p.side) []):=by rw [hts,List.foldl_append];show ins _ _ _=_;unfold ins;rw [if_neg (by omega)]
   repeat' (first | ((first | refine lvK ?_ | refine ⟨_,_,hcode,lvN ?_⟩ | (refine .inl ?_;(conv=>whnf);first | refine ⟨_,_,hcode,lvN ?_⟩) | (refine .inr (.inl ?_);(conv=>whnf);refine ⟨[],[],[(nth l k).p.av],_,_,⟨rfl,rfl,rfl⟩,cp,lvN ?_⟩) | (refine .inr (.inl ?_);(conv=>whnf);refine ⟨_,_,hin,lvN ?_⟩));apply Cj.mk <;> first | exact trivial | intros) | (refine lvE ?_;apply Cj.mk <;> first | exact trivial | intros) | fail)
   refine ⟨k+1,⟨[],hdA (lvL ?_) (lvL ?_)⟩,?_,by (try dsimp only);omega,rfl⟩ <;> (try (apply Cj.mk <;> first | exact trivial | intros))
   ·rw [hsu]
   ·exact ⟨by omega,by omega⟩
  ·have hsu:(l.take (k+1).toNat).foldl (ins p.side) []=(l.take k.toNat).foldl (ins p.side) []:=by rw [hts,List.foldl_append];show ins _ _ _=_;unfold ins;rw [if_pos (by omega)]
   repeat' (first | (refine lvK ?_;apply Cj.mk <;> first | exact trivial | intros) | (refine lvE ?_;apply Cj.mk <;> first | exact trivial | intros) | fail)
   refine ⟨k+1,⟨[],hdA (lvL ?_) (lvL ?_)⟩,?_,by (try dsimp only);omega,rfl⟩ <;> (try (apply Cj.mk <;> first | exact trivial | intros))
   ·rw [hsu]
   ·exact ⟨by omega,by omega⟩
 ·obtain rfl:k=l.length:=by omega
  rw [take_all (Int.le_refl _)]
  repeat' (first | (refine lvK ?_;apply Cj.mk <;> first | exact trivial | intros) | (refine lvE ?_;apply Cj.mk <;> first | exact trivial | intros) | fail)
section
variable {β:Type} [Inhabited β] [DecidableEq β]
def cpR (l:List β) (n:Int):List β:=ddI l n++l.drop (ddI l n).length
theorem cpR_len {l:List β} {n:Int} (h0:0≤n) (h:n≤l.length):(cpR l n).length=l.length:=by
 have:=ddI_len l h0
 unfold cpR
 rw [List.length_append,List.length_drop]
 omega
theorem cpR_nth {l:List β} {n j:Int} (h0:0≤n) (h1:((ddI l n).length:Int)≤j) (h:n≤l.length) (hj:j < l.length):nth (cpR l n) j=nth l j:=by
 have:=ddI_len l h0
 unfold nth cpR
 rw [List.getD_eq_getElem?_getD,List.getD_eq_getElem?_getD,List.getElem?_append_right (by omega),List.getElem?_drop]
 congr 2
 omega
theorem cpR_same {l:List β} {n:Int} (h0:0≤n) (h:ddP l n=false):cpR l (n+1)=cpR l n:=by
 unfold cpR
 rw [ddI_succ l h0,if_neg (by rw [h];simp)]
theorem cpR_next {l:List β} {n:Int} (h0:0≤n) (hn:n < l.length) (h:ddP l n=true):(cpR l n).set (ddI l n).length (nth l n)=cpR l (n+1):=by
 have:=ddI_len l h0
 unfold cpR
 rw [ddI_succ l h0,if_pos h,List.set_append_right _ _ (Nat.le_refl _),List.append_assoc,List.length_append]
 congr 1
 rw [Nat.sub_self,List.length_singleton,List.drop_eq_getElem_cons (by omega)]
 rfl
theorem ddP_ne {l:List β} {n:Int} (h:0 < n):ddP l n=!decide (nth l n=nth l (n - 1)):=by
 unfold ddP
 rw [decide_eq_false (by omega:¬ n=0),Bool.false_or]
 by_cases q:nth l n=nth l (n - 1) <;> simp [q]
end
theorem ixV {α:Type} [Inhabited α] {l:List α} {f:α→AV} {a b:Int} {K:AV→Prop} (h0:0≤a) (h1:0≤b) (h2:a+b < l.length) (k:K (f (nth l (a+b)))):∃ y,(l.map f)[a.toNat+b.toNat]?=some y∧K y :=
 ⟨_,by rw [show a.toNat+b.toNat=(a+b).toNat by omega,List.getElem?_map,nth_some (by omega) h2];rfl,k⟩
def ocZ:Oc:=⟨⟨[],[],[],0,0⟩,false⟩
theorem clr_eq {β:Type} [Inhabited β] [DecidableEq β] {l:List β} {n:Int} {f:β→AV} {c m:Nat} (h:(ddI l n).length=c) (z:β) {y:AV} (hz:y=f z):List.take c ((cpR l n).map f)++List.replicate m y=(ddI l n++List.replicate m z).map f:=by
 subst h
 unfold cpR
 rw [List.map_append,List.take_left' (List.length_map _),List.map_append,List.map_replicate,hz]
set_option maxHeartbeats 8000000 in
set_option maxRecDepth 10000 in
theorem CompactO_p (l:List Oc) (hl:l.length≤1000000000) (hs:∀ o,o∈l→o.p.small) :
  Fun Tryz.prog 48 [.arr 6 (l.map Ou)] [.ref 0,.v (.func (.func 49) #[] #[])] (.ref 1) [.dead,.arr 6 ((ddI l l.length).map Ou)]:=by
 have el:(l.map Ou).length=l.length:=List.length_map _
 have hint:SubHint:=⟨⟩
 by_cases h2:l.length < 2
 ·have hd:ddI l l.length=l:=by
   rw [ddI_all l (by omega) (Int.le_refl _) (fun i i0 i1=>by omega),take_all (Int.le_refl _)]
  rw [hd]
  refine fun_of_mv [0] tok D_ok Tryz.func48 rfl Tryz.ntmps48 Tryz.results48 (by kernel_rfl) (by simp) (by simp) ?_
  conv=>whnf
  try dsimp only [St.mv,mvT,mvA,mvL,mvO,mvOs,Nat.beq_refl]
  repeat' (first | (refine lvK ?_;apply Cj.mk <;> first | exact trivial | intros) | fail)
  refine exitS [.obj 0,.obj 1] (by kernel_rfl) (by kernel_rfl) (by kernel_rfl) (lvL ?_) (lvL ?_) <;> (try (apply Cj.mk <;> first | exact trivial | intros))
 refine fun_of_mv [0] tok D_ok Tryz.func48 rfl Tryz.ntmps48 Tryz.results48 (by kernel_rfl) (by simp) (by simp) ?_
 conv=>whnf
 try dsimp only [St.mv,mvT,mvA,mvL,mvO,mvOs,Nat.beq_refl]
 repeat' (first | (refine lvK ?_;apply Cj.mk <;> first | exact trivial | intros) | fail)
 refine .of (fun k=>[(5,I k)]) (fun k=>[(1,.arr 6 (l.map Ou))]) 2 (fun k=>1≤k∧k≤l.length∧∀ i:Int,1≤i→i < k→nth l i≠nth l (i - 1)) (fun k=>(l.length - k).toNat) 1 ?_
 conv=>whnf
 refine ⟨⟨[],hdA (lvL ?_) (lvL ?_)⟩,?_,fun k ⟨k0,k1,hk⟩=>lvN ?_⟩ <;> (try (apply Cj.mk <;> first | exact trivial | intros))
 ·exact ⟨by omega,by omega,fun i i0 i1=>by omega⟩
 have hd:=ddI_all l (n:=k) (by omega) k1 hk
 by_cases hkl:k < l.length
 ·have heq:=sameO_p (nth l k) (nth l (k - 1)) (hs _ (nth_mem (by omega) hkl)) (hs _ (nth_mem (by omega) (by omega)))
  by_cases hq:nth l k=nth l (k - 1)
  ·rw [decide_eq_true hq] at heq
   have hp:ddP l k=false:=by rw [ddP_ne (by omega),decide_eq_true hq];rfl
   have hc1:cpR l (k+1)=l:=by
    rw [cpR_same (by omega) hp]
    unfold cpR
    rw [hd,List.length_take,Nat.min_eq_left (by omega),List.take_append_drop]
   have hcl:(ddI l (k+1)).length=k.toNat:=by rw [ddI_succ l (by omega),if_neg (by rw [hp];simp),hd,List.length_take];omega
   repeat' (first | ((first | refine lvK ?_ | refine ⟨_,_,heq,lvN ?_⟩ | (refine .inl ?_;(conv=>whnf);first | refine ⟨_,_,heq,lvN ?_⟩) | refine And.intro ⟨by omega,by omega,by omega,by omega⟩ (lvN ?_));apply Cj.mk <;> first | exact trivial | intros) | fail)
   refine .of (fun n=>[(7,I n),(5,I (ddI l (k+n)).length)]) (fun n=>[(1,.arr 6 ((cpR l (k+n)).map Ou))]) 2 (fun n=>1≤n∧k+n≤l.length∧((ddI l (k+n)).length:Int)≤k+n - 1) (fun n=>(l.length - n).toNat) 1 ?_
   conv=>whnf
   refine ⟨⟨[],hdA (lvL ?_) (lvL ?_)⟩,?_,fun n ⟨n0,n1,n2⟩=>lvN ?_⟩ <;> (try (apply Cj.mk <;> first | exact trivial | intros))
   ·rw [hcl];simp;omega
   ·rw [hc1]
   ·exact ⟨by omega,by omega,by rw [hcl];omega⟩
   have hcr:=cpR_len (l:=l) (n:=k+n) (by omega) n1
   have ecr:((cpR l (k+n)).map Ou).length=(cpR l (k+n)).length:=List.length_map _
   have hnt:=fun (j:Int) (h1:((ddI l (k+n)).length:Int)≤j) (h2:j < l.length)=>cpR_nth (l:=l) (n:=k+n) (j:=j) (by omega) h1 n1 h2
   by_cases hn:k+n < l.length
   ·have heq2:=sameO_p (nth l (k+n)) (nth l (k+n - 1)) (hs _ (nth_mem (by omega) hn)) (hs _ (nth_mem (by omega) (by omega)))
    rw [← hnt (k+n) (by omega) hn,← hnt (k+n - 1) (by omega) (by omega),show k+n - 1=k+(n - 1) by omega] at heq2
    have e1:nth (cpR l (k+n)) (k+n)=nth l (k+n):=hnt _ (by omega) hn
    have e2:nth (cpR l (k+n)) (k+(n - 1))=nth l (k+n - 1):=by rw [hnt _ (by omega) (by omega)];congr 1;omega
    have hA:k+(n+1)=k+n+1:=by omega
    by_cases hq2:nth l (k+n)=nth l (k+n - 1)
    ·rw [decide_eq_true (by rw [e1,e2];exact hq2)] at heq2
     have hpp:ddP l (k+n)=false:=by rw [ddP_ne (by omega),decide_eq_true hq2];rfl
     have hsm:=cpR_same (l:=l) (n:=k+n) (by omega) hpp
     have hds:=ddI_succ l (n:=k+n) (by omega)
     rw [if_neg (by rw [hpp];simp)] at hds
     repeat' (first | ((first | refine lvK ?_ | refine ⟨_,_,heq2,lvN ?_⟩ | (refine .inl ?_;(conv=>whnf);first | refine ⟨_,_,heq2,lvN ?_⟩) | refine ixV (by omega) (by omega) (by omega) (lvN ?_));apply Cj.mk <;> first | exact trivial | intros) | fail)
     refine ⟨n+1,⟨[],hdA (lvL ?_) (lvL ?_)⟩,?_,by (try dsimp only);omega,rfl⟩ <;> (try (apply Cj.mk <;> first | exact trivial | intros))
     ·rw [hA,hds]
     ·rw [hA,hsm]
     ·rw [hA,hds];exact ⟨by omega,by omega,by omega⟩
    ·rw [decide_eq_false (by rw [e1,e2];exact hq2)] at heq2
     have hpp:ddP l (k+n)=true:=by rw [ddP_ne (by omega),decide_eq_false hq2];rfl
     have hnx:=cpR_next (l:=l) (n:=k+n) (by omega) hn hpp
     have hds:=ddI_succ l (n:=k+n) (by omega)
     rw [if_pos hpp] at hds
     have hdl:(ddI l (k+n+1)).length=(ddI l (k+n)).length+1:=by rw [hds];simp
     repeat' (first | ((first | refine lvK ?_ | refine ⟨_,_,heq2,lvN ?_⟩ | (refine .inl ?_;(conv=>whnf);first | refine ⟨_,_,heq2,lvN ?_⟩) | refine ixV (by omega) (by omega) (by omega) (lvN ?_) | (refine CalcL.mk ((cpR l (k+n+1)).map Ou) (by rw [← hnx,List.map_set,← e1];rfl) (lvN ?_)));apply Cj.mk <;> first | exact trivial | intros) | fail)
     refine ⟨n+1,⟨[],hdA (lvL ?_) (lvL ?_)⟩,?_,by (try dsimp only);omega,rfl⟩ <;> (try (apply Cj.mk <;> first | exact trivial | intros))
     ·rw [hA,hdl,Int.natCast_add];rfl
     ·rw [hA]
     ·rw [hA,hdl];exact ⟨by omega,by omega,by omega⟩
   ·have hkn:k+n=l.length:=by omega
    rw [← hkn]
    repeat' (first | ((first | refine lvK ?_ | (refine CalcL.mk _ (clr_eq rfl ocZ rfl) ?_;clear hint;refine lvN ?_) | (refine And.intro (by simp only [List.length_map,List.length_append];omega) (lvN ?_)));apply Cj.mk <;> first | exact trivial | intros) | fail)
    refine exitS [.obj 0,.obj 2] (by kernel_rfl) (by kernel_rfl) (by kernel_rfl) (lvL ?_) (lvL ?_) <;> (try (apply Cj.mk <;> first | exact trivial | intros))
    rw [show Int.toNat 0=0 from rfl,List.drop_zero,Int.toNat_natCast,List.map_append,List.take_left' (List.length_map _)]
  ·rw [decide_eq_false hq] at heq
   repeat' (first | ((first | refine lvK ?_ | refine ⟨_,_,heq,lvN ?_⟩ | (refine .inl ?_;(conv=>whnf);first | refine ⟨_,_,heq,lvN ?_⟩));apply Cj.mk <;> first | exact trivial | intros) | fail)
   refine ⟨k+1,⟨[],hdA (lvL ?_) (lvL ?_)⟩,?_,by (try dsimp only);omega,rfl⟩ <;> (try (apply Cj.mk <;> first | exact trivial | intros))
   refine ⟨by omega,by omega,fun i i0 i1=>?_⟩
   by_cases e:i=k
   ·rw [e];exact hq
   ·exact hk i i0 (by omega)
 ·obtain rfl:k=l.length:=by omega
  rw [hd,take_all (Int.le_refl _)]
  repeat' (first | (refine lvK ?_;apply Cj.mk <;> first | exact trivial | intros) | fail)
  refine exitS [.obj 0,.obj 1] (by kernel_rfl) (by kernel_rfl) (by kernel_rfl) (lvL ?_) (lvL ?_) <;> (try (apply Cj.mk <;> first | exact trivial | intros))
open Go Go.Sk Go.RowKit
theorem Tot.le {α:Type} {c:α→α→Int} (h:Tot c) {a b d:α} (h1:c a b≤0) (h2:c b d≤0):c a d≤0:=by
 rcases Int.lt_or_eq_of_le h1 with h1 | h1
 ·rcases Int.lt_or_eq_of_le h2 with h2 | h2
  ·exact Int.le_of_lt (h.trans _ _ _ h1 h2)
  ·rw [← (h.eq0 _ _).1 h2];omega
 ·rw [(h.eq0 _ _).1 h1];exact h2
def sortC {α:Type} (c:α→α→Int) (l:List α):List α:=l.mergeSort fun x y=>decide (c x y≤0)
theorem sortC_perm {α:Type} (c:α→α→Int) (l:List α):(sortC c l).Perm l:=List.mergeSort_perm l _
theorem sortC_len {α:Type} (c:α→α→Int) (l:List α):(sortC c l).length=l.length:=(sortC_perm c l).length_eq
theorem sortC_mem {α:Type} {c:α→α→Int} {l:List α} {x:α}:x∈sortC c l↔x∈l:=(sortC_perm c l).mem_iff
theorem sortC_sorted {α:Type} {c:α→α→Int} (h:Tot c) (l:List α):(sortC c l).Pairwise fun a b=>c a b≤0:=by
 have h1:=List.pairwise_mergeSort (le:=fun x y=>decide (c x y≤0)) (fun a b d h1 h2=>by
  simp only [decide_eq_true_eq] at *
  exact Tot.le h h1 h2) (fun a b=>by
  have:=h.anti a b
  simp only [Bool.or_eq_true,decide_eq_true_eq];omega) l
 exact h1.imp fun h=>by simpa using h
theorem pw_nth {α:Type} [Inhabited α] {R:α→α→Prop} {l:List α} (h:l.Pairwise R) {j i:Int} (j0:0≤j) (hj:j < i) (hi:i < l.length):R (nth l j) (nth l i):=by
 have h1:=List.pairwise_iff_getElem.1 h j.toNat i.toNat (by omega) (by omega) (by omega)
 have e1:nth l j=l[j.toNat]:=by unfold nth;rw [List.getD_eq_getElem?_getD,List.getElem?_eq_getElem (by omega)];rfl
 have e2:nth l i=l[i.toNat]:=by unfold nth;rw [List.getD_eq_getElem?_getD,List.getElem?_eq_getElem (by omega)];rfl
 rw [e1,e2];exact h1
theorem mem_take_nth {α:Type} [Inhabited α] {l:List α} {n:Int} {x:α} (hn:n≤l.length) (h:x∈l.take n.toNat):∃ j:Int,0≤j∧j < n∧x=nth l j:=by
 obtain ⟨j,hj,e⟩:=List.getElem_of_mem h
 rw [List.length_take] at hj
 refine ⟨j,by omega,by omega,?_⟩
 rw [← e,List.getElem_take]
 unfold nth
 rw [List.getD_eq_getElem?_getD,Int.toNat_natCast,List.getElem?_eq_getElem (by omega)];rfl
theorem ddI_asc {α:Type} [Inhabited α] [DecidableEq α] {c:α→α→Int} (h:Tot c) {l:List α} (hs:l.Pairwise fun a b=>c a b≤0):∀ n:Nat,n≤l.length→Asc c (ddI l n)∧∀ x,x∈ddI l n↔x∈l.take n
 | 0,_=>by simp [ddI,ints,Asc]
 | n+1,hn=>by
  obtain ⟨i1,i2⟩:=ddI_asc h hs n (by omega)
  have hts:l.take ((n:Int)+1).toNat=l.take (n:Int).toNat++[nth l n]:=take_snoc (by omega) (by omega)
  rw [show ((n:Int)+1).toNat=n+1 by omega,Int.toNat_natCast] at hts
  rw [show ((n+1:Nat):Int)=(n:Int)+1 by omega,ddI_succ l (by omega),hts]
  by_cases hp:ddP l n=true
  ·rw [if_pos hp]
   refine ⟨?_,fun x=>by rw [List.mem_append,List.mem_append,i2]⟩
   unfold Asc
   rw [List.pairwise_append]
   refine ⟨i1,by simp,fun a ha b hb=>?_⟩
   rw [List.mem_singleton] at hb
   subst hb
   obtain ⟨j,j0,j1,rfl⟩:=mem_take_nth (l:=l) (n:=n) (by omega) (by rw [Int.toNat_natCast];exact (i2 a).1 ha)
   have h1:=pw_nth hs j0 j1 (by omega:(n:Int) < l.length)
   rcases Int.lt_or_eq_of_le h1 with h2 | h2
   ·exact h2
   ·exfalso
    have he:=(h.eq0 _ _).1 h2
    have hd:=ddP_ne (l:=l) (n:=n) (by omega)
    rw [hp] at hd
    have hd:nth l n≠nth l (n - 1):=by simpa using hd.symm
    have h3:c (nth l j) (nth l (n - 1))≤0:=by
     by_cases e:j=n - 1
     ·rw [e,h.self];omega
     ·exact pw_nth hs j0 (by omega) (by omega)
    have h4:c (nth l (n - 1)) (nth l n)≤0:=pw_nth hs (by omega) (by omega) (by omega)
    rw [he] at h3
    have h5:=h.anti (nth l n) (nth l (n - 1))
    exact hd ((h.eq0 _ _).1 (by omega))
  ·rw [if_neg hp]
   refine ⟨i1,fun x=>?_⟩
   rw [List.mem_append,i2,List.mem_singleton]
   refine ⟨.inl,fun q=>q.elim id fun q=>?_⟩
   have hn0:(0:Int) < n:=by
    rcases Nat.eq_zero_or_pos n with rfl | h0
    ·exact absurd (by simp [ddP]) hp
    ·omega
   rw [ddP_ne hn0] at hp
   have he:nth l n=nth l (n - 1):=by simpa using hp
   rw [q,he]
   have hts2:l.take (((n:Int) - 1)+1).toNat=l.take ((n:Int) - 1).toNat++[nth l (n - 1)]:=take_snoc (by omega) (by omega)
   rw [show (((n:Int) - 1)+1).toNat=n by omega] at hts2
   rw [hts2];simp
theorem ddI_sort {α:Type} [Inhabited α] [DecidableEq α] {c:α→α→Int} (h:Tot c) (l:List α):ddI (sortC c l) (sortC c l).length=canon c l:=by
 obtain ⟨h1,h2⟩:=ddI_asc h (sortC_sorted h l) (sortC c l).length (Nat.le_refl _)
 refine Asc.canon h h1 fun x=>?_
 rw [h2,List.take_length,sortC_mem]
section
variable {P:Program} {ρ:Go.Shelf.Ren}
theorem sortC_fun (L:Go.Proofs.SlLaysF0.n6 P ρ) {k:Nat} (hk0:0 < k) (aE:∀ w,(isAgg (ρ.t 24)).run P w=.ok true w) (zE:∀ w,(Go.sizeOf (ρ.t 24)).run P w=.ok k w) {fid:FuncId} (hfid:ρ.f 6=fid) (hen:Go.Sk.Enters P fid)
  {β:Type} (E:β→List AV) (hE:∀ b,(E b).length=k) (c:β→β→Int) (h:Tot c) {g:FuncId} {l:List β} (hlen:l.length < 4611686018427387904)
  (hg:∀ a b,a∈l→b∈l→Go.Sk.Pure P g [.ag (E a),.ag (E b)] (.v (.int .i64 (c a b))) none) :
  Fun P fid [.arr k (l.map fun b=>.ag (E b))] [.ref 0,.v (.func (.func g) #[] #[])] (.tup []) [.arr k ((sortC c l).map fun b=>.ag (E b))]:=by
 have hlt:∀ a b,Go.Proofs.ltOf c a b=decide (c a b < 0):=fun _ _=>rfl
 by_cases hne:l=[]
 ·subst hne
  have hs0:sortC c []=[]:=by unfold sortC;exact List.mergeSort_nil
  rw [hs0]
  subst hfid
  refine fun_same hen fun N w V vs hsz hown hrep=>?_
  have hsz2:vs.size=2:=hsz
  have h0:=hrep 0 (by simp) (by omega)
  have h1:=hrep 1 (by simp) (by omega)
  simp only [List.getElem_cons_zero,List.getElem_cons_succ] at h0 h1
  have hv1:vs[1]=.func (.func g) #[] #[]:=eval_v h1
  have hv0:vs[0]=V 0:=by
   generalize vs[0]=v at h0
   cases h0 with
   | im h=>cases h
   | ref _ h=>rfl
  have hvs:vs=#[V 0,.func (.func g) #[] #[]]:=by
   apply Array.ext (by simp [hsz2])
   intro i i1 i2
   have:i=0∨i=1:=by omega
   rcases this with rfl | rfl
   ·exact hv0
   ·exact hv1
  rw [hvs]
  obtain ⟨p,cap,hp⟩:∃ p cap,V 0=.slice p 0 cap:=by
   rcases (hown.obs 0 _ rfl).2 with ⟨a,h1,_⟩ | ⟨b,o,cap,arr,Ty,h1,_⟩
   ·exact ⟨a,0,h1⟩
   ·exact ⟨_,_,h1⟩
  rw [hp]
  exact Go.Proofs.AnyF.slices_SortFunc_none L p cap _ w
 ·exact sortFunc_fun L hk0 aE zE hfid hen E hE c ⟨fun x=>by rw [hlt,h.self];rfl,fun x y z h1 h2=>by
   simp only [hlt,decide_eq_true_eq] at *
   exact h.trans _ _ _ h1 h2,fun x y z h1 h2=>by
   simp only [hlt,decide_eq_false_iff_not] at *
   have a1:=h.anti x y
   have a2:=h.anti y z
   have a3:=h.anti x z
   have:=Tot.le h (a:=z) (b:=y) (d:=x) (by omega) (by omega)
   omega⟩ (fun a b h1 h2=>by
   simp only [hlt,decide_eq_false_iff_not] at *
   have a1:=h.anti a b
   exact (h.eq0 _ _).1 (by omega)) hne hlen hg (sortC_perm c l) ((sortC_sorted h l).imp fun {a b} q=>by
   rw [hlt,decide_eq_false_iff_not]
   have:=h.anti b a
   omega)
end
theorem SortO_p (l:List Oc) (hl:l.length≤1000000000) (hs:∀ o,o∈l→o.p.small) :
  Fun Tryz.prog 46 [.arr 6 (l.map Ou)] [.ref 0,.v (.func (.func 47) #[] #[])] (.tup []) [.arr 6 ((sortC cmpO l).map Ou)] :=
 sortC_fun (fid:=46) (g:=47) (l:=l) Go.Proofs.Tryz.sortOA (k:=6) (by decide) (fun w=>Go.Sk.run_isAgg (T:=tab) (t:=55) (i:=ti55) tok rfl) (fun w=>Go.Sk.run_sizeOf (T:=tab) (t:=55) (i:=ti55) tok rfl) rfl ⟨_,Tryz.func46,by kernel_rfl,by kernel_rfl⟩ (fun (o:Oc)=>[Is o.p.ct,Is o.p.h0,Is o.p.h1,I o.p.rights,I o.p.side,Bo o.took]) (fun _=>rfl) cmpO cmpO_tot (by omega) fun a b ha hb=>orderO_p a b (hs a ha) (hs b hb)
theorem SortP_p (l:List Ps) (hl:l.length≤1000000000) (hs:∀ o,o∈l→o.small) :
  Fun Tryz.prog 82 [.arr 5 (l.map Ps.av)] [.ref 0,.v (.func (.func 76) #[] #[])] (.tup []) [.arr 5 ((sortC cmpP l).map Ps.av)] :=
 sortC_fun (fid:=82) (g:=76) (l:=l) Go.Proofs.Tryz.sortPA (k:=5) (by decide) (fun w=>Go.Sk.run_isAgg (T:=tab) (t:=44) (i:=ti44) tok rfl) (fun w=>Go.Sk.run_sizeOf (T:=tab) (t:=44) (i:=ti44) tok rfl) rfl ⟨_,Tryz.func82,by kernel_rfl,by kernel_rfl⟩ (fun (p:Ps)=>[Is p.ct,Is p.h0,Is p.h1,I p.rights,I p.side]) (fun _=>rfl) cmpP cmpP_tot (by omega) fun a b ha hb=>PCompare_p a b (hs a ha) (hs b hb)
theorem SortI_p (l:List Int) (hl:l.length≤1000000000):Fun Tryz.prog 54 [.arr 1 (l.map I)] [.ref 0] (.tup []) [.arr 1 ((l.mergeSort fun x y=>decide (x≤y)).map I)] :=
 sortI_fun Go.Proofs.Tryz.sortA rfl ⟨_,Tryz.func54,by kernel_rfl,by kernel_rfl⟩ l (by omega)
set_option maxHeartbeats 8000000 in
set_option maxRecDepth 10000 in
theorem CompactI_p (l:List Int) (hl:l.length≤1000000000) :
  Fun Tryz.prog 55 [.arr 1 (l.map I)] [.ref 0] (.ref 1) [.dead,.arr 1 ((ddI l l.length).map I)]:=by
 have el:(l.map I).length=l.length:=List.length_map _
 have hint:SubHint:=⟨⟩
 by_cases h2:l.length < 2
 ·have hd:ddI l l.length=l:=by
   rw [ddI_all l (by omega) (Int.le_refl _) (fun i i0 i1=>by omega),take_all (Int.le_refl _)]
  rw [hd]
  refine fun_of_mv [0] tok D_ok Tryz.func55 rfl Tryz.ntmps55 Tryz.results55 (by kernel_rfl) (by simp) (by simp) ?_
  conv=>whnf
  try dsimp only [St.mv,mvT,mvA,mvL,mvO,mvOs,Nat.beq_refl]
  repeat' (first | (refine lvK ?_;apply Cj.mk <;> first | exact trivial | intros) | fail)
  refine exitS [.obj 0,.obj 1] (by kernel_rfl) (by kernel_rfl) (by kernel_rfl) (lvL ?_) (lvL ?_) <;> (try (apply Cj.mk <;> first | exact trivial | intros))
 refine fun_of_mv [0] tok D_ok Tryz.func55 rfl Tryz.ntmps55 Tryz.results55 (by kernel_rfl) (by simp) (by simp) ?_
 conv=>whnf
 try dsimp only [St.mv,mvT,mvA,mvL,mvO,mvOs,Nat.beq_refl]
 repeat' (first | (refine lvK ?_;apply Cj.mk <;> first | exact trivial | intros) | fail)
 refine .of (fun k=>[(3,I k)]) (fun k=>[(1,.arr 1 (l.map I))]) 2 (fun k=>1≤k∧k≤l.length∧∀ i:Int,1≤i→i < k→nth l i≠nth l (i - 1)) (fun k=>(l.length - k).toNat) 1 ?_
 conv=>whnf
 refine ⟨⟨[],hdA (lvL ?_) (lvL ?_)⟩,?_,fun k ⟨k0,k1,hk⟩=>lvN ?_⟩ <;> (try (apply Cj.mk <;> first | exact trivial | intros))
 ·exact ⟨by omega,by omega,fun i i0 i1=>by omega⟩
 have hd:=ddI_all l (n:=k) (by omega) k1 hk
 by_cases hkl:k < l.length
 ·by_cases hq:nth l k=nth l (k - 1)
  ·have hp:ddP l k=false:=by rw [ddP_ne (by omega),decide_eq_true hq];rfl
   have hc1:cpR l (k+1)=l:=by
    rw [cpR_same (by omega) hp]
    unfold cpR
    rw [hd,List.length_take,Nat.min_eq_left (by omega),List.take_append_drop]
   have hcl:(ddI l (k+1)).length=k.toNat:=by rw [ddI_succ l (by omega),if_neg (by rw [hp];simp),hd,List.length_take];omega
   repeat' (first | ((first | refine lvK ?_ | refine And.intro ⟨by omega,by omega,by omega,by omega⟩ (lvN ?_));apply Cj.mk <;> first | exact trivial | intros) | fail)
   refine .of (fun n=>[(5,I n),(3,I (ddI l (k+n)).length)]) (fun n=>[(1,.arr 1 ((cpR l (k+n)).map I))]) 2 (fun n=>1≤n∧k+n≤l.length∧((ddI l (k+n)).length:Int)≤k+n - 1) (fun n=>(l.length - n).toNat) 1 ?_
   conv=>whnf
   refine ⟨⟨[],hdA (lvL ?_) (lvL ?_)⟩,?_,fun n ⟨n0,n1,n2⟩=>lvN ?_⟩ <;> (try (apply Cj.mk <;> first | exact trivial | intros))
   ·rw [hcl];simp;omega
   ·rw [hc1]
   ·exact ⟨by omega,by omega,by rw [hcl];omega⟩
   have hcr:=cpR_len (l:=l) (n:=k+n) (by omega) n1
   have ecr:((cpR l (k+n)).map I).length=(cpR l (k+n)).length:=List.length_map _
   have hnt:=fun (j:Int) (h1:((ddI l (k+n)).length:Int)≤j) (h2:j < l.length)=>cpR_nth (l:=l) (n:=k+n) (j:=j) (by omega) h1 n1 h2
   by_cases hn:k+n < l.length
   ·have e1:nth (cpR l (k+n)) (k+n)=nth l (k+n):=hnt _ (by omega) hn
    have e2:nth (cpR l (k+n)) (k+(n - 1))=nth l (k+n - 1):=by rw [hnt _ (by omega) (by omega)];congr 1;omega
    have hA:k+(n+1)=k+n+1:=by omega
    by_cases hq2:nth l (k+n)=nth l (k+n - 1)
    ·have hpp:ddP l (k+n)=false:=by rw [ddP_ne (by omega),decide_eq_true hq2];rfl
     have hsm:=cpR_same (l:=l) (n:=k+n) (by omega) hpp
     have hds:=ddI_succ l (n:=k+n) (by omega)
     rw [if_neg (by rw [hpp];simp)] at hds
     repeat' (first | ((first | refine lvK ?_ | refine ixV (by omega) (by omega) (by omega) (lvN ?_));apply Cj.mk <;> first | exact trivial | intros) | fail)
     refine ⟨n+1,⟨[],hdA (lvL ?_) (lvL ?_)⟩,?_,by (try dsimp only);omega,rfl⟩ <;> (try (apply Cj.mk <;> first | exact trivial | intros))
     ·rw [hA,hds]
     ·rw [hA,hsm]
     ·rw [hA,hds];exact ⟨by omega,by omega,by omega⟩
    ·have hpp:ddP l (k+n)=true:=by rw [ddP_ne (by omega),decide_eq_false hq2];rfl
     have hnx:=cpR_next (l:=l) (n:=k+n) (by omega) hn hpp
     have hds:=ddI_succ l (n:=k+n) (by omega)
     rw [if_pos hpp] at hds
     have hdl:(ddI l (k+n+1)).length=(ddI l (k+n)).length+1:=by rw [hds];simp
     repeat' (first | ((first | refine lvK ?_ | refine ixV (by omega) (by omega) (by omega) (lvN ?_) | (refine CalcL.mk ((cpR l (k+n+1)).map I) (by rw [← hnx,List.map_set,← e1];rfl) (lvN ?_)));apply Cj.mk <;> first | exact trivial | intros) | fail)
     refine ⟨n+1,⟨[],hdA (lvL ?_) (lvL ?_)⟩,?_,by (try dsimp only);omega,rfl⟩ <;> (try (apply Cj.mk <;> first | exact trivial | intros))
     ·rw [hA,hdl,Int.natCast_add];rfl
     ·rw [hA,Int.toNat_natCast,e1,hnx]
     ·rw [hA,hdl];exact ⟨by omega,by omega,by omega⟩
   ·have hkn:k+n=l.length:=by omega
    rw [← hkn]
    repeat' (first | ((first | refine lvK ?_ | (refine CalcL.mk _ (clr_eq rfl (0:Int) rfl) ?_;clear hint;refine lvN ?_) | (refine And.intro (by simp only [List.length_map,List.length_append];omega) (lvN ?_)));apply Cj.mk <;> first | exact trivial | intros) | fail)
    refine exitS [.obj 0,.obj 2] (by kernel_rfl) (by kernel_rfl) (by kernel_rfl) (lvL ?_) (lvL ?_) <;> (try (apply Cj.mk <;> first | exact trivial | intros))
    rw [show Int.toNat 0=0 from rfl,List.drop_zero,Int.toNat_natCast,List.map_append,List.take_left' (List.length_map _)]
  ·repeat' (first
    | (refine lvK ?_;apply Cj.mk <;> first | exact trivial | intros)
    | fail)
   refine ⟨k+1,⟨[],hdA (lvL ?_) (lvL ?_)⟩,?_,by (try dsimp only);omega,rfl⟩ <;> (try (apply Cj.mk <;> first | exact trivial | intros))
   refine ⟨by omega,by omega,fun i i0 i1=>?_⟩
   by_cases e:i=k
   ·rw [e];exact hq
   ·exact hk i i0 (by omega)
 ·obtain rfl:k=l.length:=by omega
  rw [hd,take_all (Int.le_refl _)]
  repeat' (first | (refine lvK ?_;apply Cj.mk <;> first | exact trivial | intros) | fail)
  refine exitS [.obj 0,.obj 1] (by kernel_rfl) (by kernel_rfl) (by kernel_rfl) (lvL ?_) (lvL ?_) <;> (try (apply Cj.mk <;> first | exact trivial | intros))
end Go.Proofs.YthgobfncgnjimaaGreatDoor
