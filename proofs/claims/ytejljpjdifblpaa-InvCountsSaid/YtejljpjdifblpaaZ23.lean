/- Contracts of functions of the program, proved by the checker; and plain laws. -/
import Derived.Test.YtejljpjdifblpaaZ22
import Derived.Test.YtejljpjdifblpaaZ00
import Derived.Test.YtejljpjdifblpaaZ21
import Derived.Test.YtejljpjdifblpaaZ18
import Derived.Test.YtejljpjdifblpaaZ01
set_option linter.unusedVariables false
set_option linter.unusedSimpArgs false
namespace Go.Proofs.Ytejljpjdifblpaa
open Go Go.Sk
def NilF:AV:=.v .nilFunc
def actsA:List AV:=[NilF,NilF,NilF,NilF,NilF,NilF,.fn (.func 69) [.ptr 0 0] [],.fn (.func 70) [.ptr 0 0] [],.fn (.func 73) [] [.ptr 2 0],.fn (.func 72) [] [.ptr 2 0],.fn (.func 71) [.ptr 0 0] []]
set_option maxHeartbeats 4000000 in
set_option maxRecDepth 10000 in
theorem macts_p (g:Gm) (x:Iv) (last:List Int) (side now:Int):Fun Try.prog 53 [.box (mvC g x side now (.ref 1)),.arr 1 (last.map I)] [.ptr 0 0] (.ag actsA) [.box (mvC g x side now (.ref 1)),.arr 1 (last.map I),.box [.ptr 0 0]]:=by
 unfold mvC actsA NilF
 refine fun_of tok D_ok Try.func53 rfl Try.ntmps53 Try.results53 (by kernel_rfl) (by simp) (by simp) ?_
 conv=>whnf
 repeat' ((first
  | refine lvK ?_
  | fail) <;> try (apply Cj.mk <;> first | exact trivial | intros))
 refine exitS [.obj 0,.obj 1,.obj 2] (by kernel_rfl) (by kernel_rfl) (by kernel_rfl) (lvL ?_) (lvL ?_) <;> (try (apply Cj.mk <;> first | exact trivial | intros))
def Iv.stepK (x:Iv) (g:Gm) (side:Int) (s:Kp) (a:Ac):Kp:=⟨s.sum+nth (x.actL g side s.last a) 0,nowR side s.now a,lastR s.last a⟩
theorem runA_snoc (x:Iv) (g:Gm) (side:Int) (a:Ac):∀ (l:List Ac) (s:Kp),x.runA g side (l++[a]) s=x.stepK g side (x.runA g side l s) a
 | [],_=>rfl
 | _ :: r,_=>runA_snoc x g side a r _
theorem keepsAB_snoc (x:Iv) (g:Gm) (side:Int) (a:Ac):∀ (l:List Ac) (s:Kp),x.keepsAB g side (l++[a]) s=(x.keepsAB g side l s && sameB x.mod (x.actL g side (x.runA g side l s).last a))
 | [],s=>by simp [Iv.keepsAB,Iv.runA]
 | b :: r,s=>by
  show (sameB x.mod _ && x.keepsAB g side (r++[a]) _)=(sameB x.mod _ && x.keepsAB g side r _ && sameB x.mod _)
  rw [keepsAB_snoc x g side a r,Bool.and_assoc];rfl
theorem keepsAB_app (x:Iv) (g:Gm) (side:Int) (q:List Ac):∀ (l:List Ac) (s:Kp),x.keepsAB g side (l++q) s=true→x.keepsAB g side l s=true
 | [],_,_=>rfl
 | b :: r,s,h=>by
  have h:(sameB x.mod (x.actL g side s.last b) && x.keepsAB g side (r++q) _)=true:=h
  rw [Bool.and_eq_true] at h
  show (sameB x.mod (x.actL g side s.last b) && x.keepsAB g side r _)=true
  rw [h.1,keepsAB_app x g side q r _ h.2];rfl
theorem Iv.ok.lift_rg {g:Gm} (hg:g.ok) {x:Iv} (hx:x.ok g) {n c:Int} (n0:0≤n) (n1:n≤2 * g.nk) (c0:0≤c) (c1:c < g.b.cells):-1000 < x.lift n c∧x.lift n c < 1000:=by
 obtain ⟨n0,n1,c0,c1,c2,a0,a1,b0,b1⟩:=hx.mvR hg n0 n1 c0 c1
 unfold Iv.lift Iv.mn
 omega
theorem Iv.ok.act_rg {g:Gm} (hg:g.ok) {x:Iv} (hx:x.ok g) {side:Int} (hs:side=0∨side=1) (last:List Int) {a:Ac} (ha:AcOk g a):∀ n,n∈x.actL g side last a→-3000≤n∧n≤3000:=fun n hn=>by
 have m3:=hx.m3
 unfold Iv.actL at hn
 split at hn
 ·rename_i h6
  have hr:=ha.1 h6
  obtain ⟨k,hk,rfl⟩:=List.mem_map.1 hn
  have hk:=mem_ints.1 hk
  have hl:=hx.lift_rg hg (n:=code k (1 - side)) (c:=a.a) (by unfold code;omega) (by unfold code;omega) hr.1 hr.2
  have hh:=hx.hd side k hk.1 hk.2
  split <;> omega
 ·split at hn
  ·rename_i h7
   have hr:=ha.2.1 h7
   obtain ⟨k,hk,rfl⟩:=List.mem_map.1 hn
   have hk:=mem_ints.1 hk
   have h1:=hx.lift_rg hg (n:=k+1) (c:=a.a) (by omega) (by omega) hr.1 hr.2.1
   have h2:=hx.lift_rg hg (n:=k+1) (c:=a.b) (by omega) (by omega) hr.2.2.1 hr.2.2.2
   omega
  ·split at hn
   ·rename_i h10
    have hr:=ha.2.2.1 (.inr h10)
    have hv:=hx.rt a.a hr.1 hr.2
    unfold Iv.loseL at hn
    split at hn
    ·simp at hn;omega
    ·split at hn
     ·simp at hn;omega
     ·simp at hn;omega
   ·simp at hn
theorem nth0_rg {l:List Int} {b:Int} (hb:0≤b) (h:∀ n,n∈l→-b≤n∧n≤b):-b≤nth l 0∧nth l 0≤b:=by
 cases l with
 | nil=>show -b≤(0:Int)∧(0:Int)≤b;omega
 | cons a r=>exact h a (by simp)
theorem runA_rg {g:Gm} (hg:g.ok) {x:Iv} (hx:x.ok g) {side:Int} (hs:side=0∨side=1):∀ (l:List Ac) (s:Kp),(∀ a,a∈l→AcOk g a)→(x.runA g side l s).last.length=s.last.length∧s.sum - 3000 * (l.length:Int)≤(x.runA g side l s).sum∧(x.runA g side l s).sum≤s.sum+3000 * (l.length:Int)
 | [],s,_=>by
  show s.last.length=s.last.length∧_≤s.sum∧s.sum≤_
  simp
 | a :: r,s,ha=>by
  have h:=runA_rg hg hx hs r (x.stepK g side s a) fun b hb=>ha b (by simp [hb])
  have h0:=nth0_rg (by omega) (hx.act_rg hg hs s.last (ha a (by simp)))
  have hl:(x.stepK g side s a).last.length=s.last.length:=by
   show (lastR s.last a).length=_
   unfold lastR;split
   ·rw [List.length_set]
   ·rfl
  have hsum:(x.stepK g side s a).sum=s.sum+nth (x.actL g side s.last a) 0:=rfl
  rw [hl,hsum] at h
  show (x.runA g side r (x.stepK g side s a)).last.length=_∧_≤(x.runA g side r (x.stepK g side s a)).sum∧(x.runA g side r (x.stepK g side s a)).sum≤_
  rw [List.length_cons]
  omega
def FnStep:AV:=.fn (.func 49) [] [.ptr 0 0,.ptr 1 0,.ptr 2 0]
set_option maxRecDepth 10000 in
theorem step1_p (b:Bd) (hb:b.ok) (h9:b.cells≤9) (side:Int) (x:Stp) (p:Pth) (hp:p.acts.length≤100) :
  Fun Try.prog 49 [.box [I b.cells,Iss b.next,Is b.turn],.box [I side],.box [I x.op,I x.n]] [Pa p,.ptr 0 0,.ptr 1 0,.ptr 2 0] (Pas (extR b side p x)) [.box [I b.cells,Iss b.next,Is b.turn],.box [I side],.box [I x.op,I x.n]]:=by
 have h:=extend_p b hb h9 side p hp x
 have hl:=extR_len hb h9 side p x
 generalize extR b side p x=l at *
 refine fun_of tok D_ok Try.func49 rfl Try.ntmps49 Try.results49 (by kernel_rfl) (by simp) (by simp) ?_
 conv=>whnf
 repeat' ((first
  | refine lvK ?_
  | refine ⟨_,_,h,lvN ?_⟩
  | (refine .inl ?_;(conv=>whnf);refine ⟨_,_,h,lvN ?_⟩)
  | refine lvE ?_
  | fail) <;> try (apply Cj.mk <;> first | exact trivial | intros))
set_option maxHeartbeats 4000000 in
set_option maxRecDepth 10000 in
theorem flatP_p (b:Bd) (hb:b.ok) (h9:b.cells≤9) (side:Int) (x:Stp) (l:List Pth) (hl:l.length≤43046721) (hp:∀ p,p∈l→p.acts.length≤100) :
  Fun Try.prog 48 [.box [I b.cells,Iss b.next,Is b.turn],.box [I side],.box [I x.op,I x.n],.arr 2 (l.map Pa)] [.ref 3,FnStep] (.ref 4) [.box [I b.cells,Iss b.next,Is b.turn],.box [I side],.box [I x.op,I x.n],.arr 2 (l.map Pa),.arr 2 ((l.flatMap (extR b side · x)).map Pa)]:=by
 have e:(l.map Pa).length=l.length:=List.length_map _
 have hb9:∀ i:Int,0≤i→i≤l.length→((l.take i.toNat).flatMap (extR b side · x)).length≤i.toNat * 9:=fun i i0 i1=>by
  have:=flatMap_len (f:=(extR b side · x)) (n:=9) (l:=l.take i.toNat) fun a _=>extR_len hb h9 side a x
  rw [List.length_take] at this
  rwa [show min i.toNat l.length=i.toNat by omega] at this
 unfold FnStep
 refine fun_of tok D_ok Try.func48 rfl Try.ntmps48 Try.results48 (by kernel_rfl) (by simp) (by simp) ?_
 conv=>whnf
 repeat' ((first
  | refine lvK ?_
  | refine lvE ?_
  | fail) <;> try (apply Cj.mk <;> first | exact trivial | intros))
 refine .of (fun i=>[(10,I i),(5,.ref 4)]) (fun i=>[(4,.arr 2 (((l.take i.toNat).flatMap (extR b side · x)).map Pa))]) 5 (fun i=>0≤i∧i≤l.length) (fun i=>(l.length - i).toNat) 0 ?_
 conv=>whnf
 refine ⟨⟨[],hdA (lvL ?_) (lvL ?_)⟩,?_,fun i ⟨i0,i1⟩=>lvN ?_⟩ <;> (try (apply Cj.mk <;> first | exact trivial | intros))
 ·exact ⟨by omega,by omega⟩
 by_cases hi:i < l.length
 ·have hs:=flatMap_snoc (f:=(extR b side · x)) i0 hi
  have hc:=step1_p b hb h9 side x (nth l i) (hp _ (nth_mem i0 hi))
  have hle:=extR_len hb h9 side (nth l i) x
  have hbi:=hb9 i i0 i1
  have hxl:((extR b side (nth l i) x).map Pa).length=(extR b side (nth l i) x).length:=List.length_map _
  have hyl:(((l.take i.toNat).flatMap (extR b side · x)).map Pa).length=((l.take i.toNat).flatMap (extR b side · x)).length:=List.length_map _
  repeat' ((first
   | refine lvK ?_
   | (refine .inl ?_;(conv=>whnf);refine ⟨[0,1,2],_,[Pa (nth l i),.ptr 0 0,.ptr 1 0,.ptr 2 0],_,_,⟨rfl,rfl,rfl⟩,hc,lvN ?_⟩)
   | refine lvE ?_
   | fail) <;> try (apply Cj.mk <;> first | exact trivial | intros))
  refine ⟨i+1,⟨[],hdA (lvL ?_) (lvL ?_)⟩,?_,by (try dsimp only);omega,rfl⟩ <;> (try (apply Cj.mk <;> first | exact trivial | intros))
  ·rw [hs]
  ·exact ⟨by omega,by omega⟩
 ·obtain rfl:i=l.length:=by omega
  rw [take_all (Int.le_refl _)]
  repeat' ((first
   | refine lvK ?_
   | refine lvE ?_
   | fail) <;> try (apply Cj.mk <;> first | exact trivial | intros))
set_option maxHeartbeats 4000000 in
set_option maxRecDepth 10000 in
theorem paths_p (b:Bd) (hb:b.ok) (h9:b.cells≤9) (side:Int) (pg:List Stp) (h8:pg.length≤8) (cell:Int):Pure Try.prog 34 [b.av,I side,Pg pg,I cell] (Pas (pathsR b side pg cell)) none:=by
 have e:(pg.map St1).length=pg.length:=List.length_map _
 refine fun_of tok D_ok Try.func34 rfl Try.ntmps34 Try.results34 (by kernel_rfl) (by simp) (by simp) ?_
 conv=>whnf
 repeat' ((first
  | refine lvK ?_
  | refine lvE ?_
  | fail) <;> try (apply Cj.mk <;> first | exact trivial | intros))
 refine .of (fun i=>[(17,I i),(9,.ref 2)]) (fun i=>[(2,.arr 2 ((pathsT b side pg cell i).map Pa))]) 3 (fun i=>0≤i∧i≤pg.length) (fun i=>(pg.length - i).toNat) 0 ?_
 conv=>whnf
 refine ⟨⟨[],hdA (lvL ?_) (lvL ?_)⟩,?_,fun i ⟨i0,i1⟩=>lvN ?_⟩ <;> (try (apply Cj.mk <;> first | exact trivial | intros))
 ·exact ⟨by omega,by omega⟩
 have hl:=pathsT_len hb h9 side h8 cell i0 i1
 by_cases hi:i < pg.length
 ·have hs:=pathsT_succ b side pg cell i0 hi
  have hc:=flatP_p b hb h9 side (nth pg i) (pathsT b side pg cell i) hl.1 (fun p hp=>by have:=hl.2 p hp;omega)
  rw [← hs] at hc
  repeat' ((first
   | refine lvK ?_
   | (refine .inl ?_;(conv=>whnf);refine ⟨[0,1,3,2],_,[.ref 3,FnStep],_,_,⟨rfl,rfl,rfl⟩,hc,lvN ?_⟩)
   | refine lvE ?_
   | fail) <;> try (apply Cj.mk <;> first | exact trivial | intros))
  refine ⟨i+1,⟨[],hdA (lvL ?_) (lvL ?_)⟩,?_,by (try dsimp only);omega,rfl⟩ <;> (try (apply Cj.mk <;> first | exact trivial | intros))
  exact ⟨by omega,by omega⟩
 ·rw [pathsT_all b side pg cell (by omega)]
  repeat' ((first
   | refine lvK ?_
   | refine lvE ?_
   | fail) <;> try (apply Cj.mk <;> first | exact trivial | intros))
theorem backOw {l:List (List Int)} {i p:Nat} {r:List Int}:((l.map Ow).set i (.ref p)).set i (.own 1 (r.map I))=(l.set i r).map Ow:=by
 rw [List.set_set,List.map_set];rfl
theorem outOw {l:List (List Int)} {n:Int} (n0:0≤n) (n1:n < l.length):(l.map Ow)[n.toNat]?=some (Ow (nth l n)):=by rw [List.getElem?_map,nth_some n0 n1];rfl
theorem refOw {l:List (List Int)} {n:Int} {p:Nat} (n0:0≤n) (n1:n < l.length):((l.map Ow).set n.toNat (.ref p))[n.toNat]?=some (.ref p):=List.getElem?_set_self (by rw [List.length_map];omega)
theorem renOw (f:Nat→Nat) (l:List (List Int)):renL f (l.map Ow)=l.map Ow:=by
 induction l with
 | nil=>rfl
 | cons x l ih=>exact congrArg (List.cons _) ih
def cntT (g:Gm) (w:Int→Int) (cs:List Int) (n c:Int):List (List Int):=tabL (2 * g.nk+1) g.b.cells fun m d=>if (1≤m∧m∈cs)∧(m < n∨m=n∧d < c) then w d else 0
def cntH (g:Gm) (ks:List Int) (k:Int):List Int:=(ints g.nk).map fun j=>if j < k∧j∈ks then 1 else 0
structure TabM (g:Gm) (w:Int→Int) (cs:List Int) (T:Int→Int→List (List Int)):Prop where
 tl:∀ n c:Int,((T n c).length:Int)=2 * g.nk+1
 rl:∀ n c m:Int,0≤m→m≤2 * g.nk→((nth (T n c) m).length:Int)=g.b.cells
 t0:T 1 0=(zeroI g 0).men
 ts:∀ n c:Int,1≤n→n≤2 * g.nk→0≤c→c < g.b.cells→cs.contains n=true→(T n c).set n.toNat ((nth (T n c) n).set c.toNat (w c))=T n (c+1)
 ty:∀ n:Int,T n g.b.cells=T (n+1) 0
 tn:∀ n:Int,cs.contains n=false→T n 0=T (n+1) 0
 te:T (2 * g.nk+1) 0=(ints (2 * g.nk+1)).map fun n=>(ints g.b.cells).map fun c=>if 1≤n∧n∈cs then w c else 0
structure HanM (g:Gm) (ks:List Int) (H:Int→List Int):Prop where
 hl:∀ k:Int,((H k).length:Int)=g.nk
 h0:H 0=zeroL g.nk
 hs:∀ k:Int,0≤k→k < g.nk→ks.contains k=true→(H k).set k.toNat 1=H (k+1)
 hn:∀ k:Int,ks.contains k=false→H k=H (k+1)
 he:H g.nk=(ints g.nk).map fun k=>if k∈ks then 1 else 0
def InR (b:Bd) (l:List Int):Prop:=(l.length:Int)=b.cells∧∀ v,v∈l→0≤v∧v < b.cells
theorem InR.at {b:Bd} {l:List Int} (h:InR b l) {i:Int} (i0:0≤i) (i1:i < b.cells):0≤nth l i∧nth l i < b.cells:=h.2 _ (nth_mem i0 (by have:=h.1;omega))
def colR (g:Gm):List Int:=(ints g.b.cells).map fun c=>max (nth (nth g.b.far (nth g.b.parts c)) c) 0 % 2
end Go.Proofs.Ytejljpjdifblpaa
