/- Contracts of functions of the program, proved by the checker; and plain laws. -/
import Derived.Test.YtejljpjdifblpaaZ09
import Derived.Test.YtejljpjdifblpaaZ10
set_option linter.unusedVariables false
set_option linter.unusedSimpArgs false
namespace Go.Proofs.Ytejljpjdifblpaa
open Go Go.Sk
def Gm.prog (g:Gm) (p:Ps) (cell i:Int):List Stp:=nth (nth g.kinds (ofK (nth p.ct cell))).progs i
def run0 (p:Ps) (cell:Int):Rs:=⟨{ p with ct:=p.ct.set cell.toNat 0 },ofK (nth p.ct cell),cell,false⟩
def Gm.next1 (g:Gm) (x:Stp) (acc:List Rs) (s:Rs):List Rs:=addR acc (g.stepR s x)
def Gm.all1 (g:Gm) (now:List Rs) (x:Stp):List Rs:=now.foldl (g.next1 x) []
def Gm.now (g:Gm) (p:Ps) (cell i k:Int):List Rs:=((g.prog p cell i).take k.toNat).foldl g.all1 [run0 p cell]
structure CanRun (g:Gm) (p:Ps) (cell i:Int):Prop where
 ok:p.ok g
 c0:0≤cell
 c1:cell < g.b.cells
 k0:0≤ofK (nth p.ct cell)
 sd:ofS (nth p.ct cell)=p.side
 i0:0≤i
 i1:i < (nth g.kinds (ofK (nth p.ct cell))).progs.length
theorem CanRun.k1 {g:Gm} (hg:g.ok) {p:Ps} {cell i:Int} (h:CanRun g p cell i):ofK (nth p.ct cell) < g.nk:=by
 have:=h.ok.c cell h.c0 h.c1
 have:=ofK_rg hg this.1 this.2
 have:=h.k0
 omega
theorem CanRun.pg {g:Gm} (hg:g.ok) {p:Ps} {cell i:Int} (h:CanRun g p cell i):PgOk g.nd g.nk g.rights (g.prog p cell i):=hg.pg _ h.k0 (h.k1 hg) _ (nth_mem h.i0 h.i1)
theorem CanRun.run0 {g:Gm} (hg:g.ok) {p:Ps} {cell i:Int} (h:CanRun g p cell i):(run0 p cell).ok g :=
 Rs.ok.of (h.ok.setC (v:=0) h.c0 (Int.le_refl _) (by have:=hg.k1;omega)) h.c0 h.c1 h.k0 (h.k1 hg)
theorem Gm.now_succ (g:Gm) (p:Ps) (cell i:Int) {k:Int} (k0:0≤k) (k1:k < (g.prog p cell i).length):g.now p cell i (k+1)=g.all1 (g.now p cell i k) (nth (g.prog p cell i) k):=by
 unfold Gm.now
 rw [take_snoc k0 k1,List.foldl_append];rfl
theorem next_ok {g:Gm} (hg:g.ok) {x:Stp} (hx:StpOk g.nd g.nk g.rights x) (now:List Rs):∀ acc:List Rs,(∀ s,s∈acc→s.ok g)→(∀ s,s∈now→s.ok g)→∀ s,s∈now.foldl (g.next1 x) acc→s.ok g:=by
 induction now with
 | nil=>intro acc h _ s hs;exact h s hs
 | cons y r ih =>
  intro acc h h2 s hs
  rw [List.foldl_cons] at hs
  refine ih _ (fun z hz=>?_) (fun z hz=>h2 z (List.mem_cons_of_mem _ hz)) s hs
  rcases (mem_addR _).1 hz with hz | hz
  ·exact h z hz
  ·exact stepR_ok hg (h2 y (by simp)) hx hz
theorem next_len {g:Gm} (hg:g.ok) (x:Stp) (now:List Rs):∀ acc:List Rs,(now.foldl (g.next1 x) acc).length≤acc.length+9 * now.length:=by
 induction now with
 | nil=>intro acc;simp
 | cons y r ih =>
  intro acc
  have h1:=ih (g.next1 x acc y)
  have h2:=addR_len (g.stepR y x) acc
  have h3:=stepR_len hg y x
  rw [List.foldl_cons,List.length_cons]
  unfold Gm.next1 at h1 ⊢
  omega
theorem now_ok {g:Gm} (hg:g.ok) {p:Ps} {cell i:Int} (h:CanRun g p cell i):∀ n:Nat,n≤(g.prog p cell i).length→(∀ s,s∈g.now p cell i n→s.ok g)∧(g.now p cell i n).length≤9 ^ n
 | 0,_=>by
  refine ⟨fun s hs=>?_,by simp [Gm.now]⟩
  simp [Gm.now] at hs
  subst hs
  exact h.run0 hg
 | n+1,hn=>by
  have ih:=now_ok hg h n (by omega)
  rw [show ((n+1:Nat):Int)=(n:Int)+1 by omega,g.now_succ p cell i (by omega) (by omega)]
  unfold Gm.all1
  refine ⟨next_ok hg ((h.pg hg).st _ (nth_mem (by omega) (by omega))) _ [] (by simp) ih.1,?_⟩
  have:=next_len hg (nth (g.prog p cell i) n) (g.now p cell i n) []
  rw [Nat.pow_succ]
  simp only [List.length_nil] at this
  omega
theorem now_len {g:Gm} (hg:g.ok) {p:Ps} {cell i:Int} (h:CanRun g p cell i) {k:Int} (k0:0≤k) (k1:k≤(g.prog p cell i).length):(g.now p cell i k).length≤43046721:=by
 obtain ⟨n,rfl⟩:=Int.eq_ofNat_of_zero_le k0
 have h1:=(now_ok hg h n (by omega)).2
 have h2:9 ^ n≤9 ^ 8:=Nat.pow_le_pow_right (by decide) (by have:=(h.pg hg).l8;omega)
 omega
def Gm.stepsAV (g:Gm) (p:Ps) (cell i n:Int):List AV:=(ints n).map fun k=>Sas (g.now p cell i k)
set_option maxHeartbeats 4000000 in
set_option maxRecDepth 10000 in
theorem Run_p (g:Gm) (hg:g.ok) (p:Ps) (cell i:Int) (h:CanRun g p cell i):Pure Try.prog 76 [g.av,p.av,I cell,I i] (.ag [.sl (g.stepsAV p cell i ((g.prog p cell i).length+1)),I 0]) none:=by
 have hv:=R4Valid_p g hg p
 rw [decide_eq_true h.ok] at hv
 have hnk:g.nk=g.kinds.length:=rfl
 have en:(g.kinds.map Kn).length=g.kinds.length:=List.length_map _
 have el:(p.ct.map I).length=p.ct.length:=List.length_map _
 have hlen:=h.ok.len
 have k6:=hg.k6
 have c9:=hg.c9
 have c0:=h.c0
 have c1:=h.c1
 have k0:=h.k0
 have k1:=h.k1 hg
 have sd:=h.sd
 have i0:=h.i0
 have i1:=h.i1
 have hr:=h.ok.c cell c0 c1
 have ho:=Of_p (nth p.ct cell) (by omega)
 have cp:=copied_p p (h.ok.small hg)
 have e1:((nth g.kinds (ofK (nth p.ct cell))).progs.map Pg).length=(nth g.kinds (ofK (nth p.ct cell))).progs.length:=List.length_map _
 refine fun_of tok D_ok Try.func76 rfl Try.ntmps76 Try.results76 (by kernel_rfl) (by simp) (by simp) ?_
 conv=>whnf
 repeat' ((first
  | refine lvD ?_
  | refine ⟨_,_,hv,lvN ?_⟩
  | (refine .inl ?_;(conv=>whnf);refine ⟨_,_,hv,lvN ?_⟩)
  | refine ⟨_,_,ho,lvN ?_⟩
  | (refine .inl ?_;(conv=>whnf);refine ⟨_,_,ho,lvN ?_⟩)
  | (refine .inr (.inl ?_);(conv=>whnf);refine ⟨[],[],[p.av],_,_,⟨rfl,rfl,rfl⟩,cp,lvN ?_⟩)
  | refine ShowsJ.mk (by kernel_rfl) (by kernel_rfl) (by kernel_rfl) (lvL ?_) (lvL ?_) rfl
  | refine lvE ?_
  | fail) <;> try (apply Cj.mk <;> first | exact trivial | intros))
 refine drawJ [2,3,4] [⟨3,3,0,I (ofK (nth p.ct cell))⟩] [(10,.ptr 4 0)] [(4,.box [.ref 5,.ref 6,.ref 7,I p.rights,I p.side,I (ofK (nth p.ct cell)),I cell,Bo false]),(5,.arr 1 (p.ct.map I)),(6,.arr 1 (p.h0.map I)),(7,.arr 1 (p.h1.map I))] 8 (by decide +kernel) ?_
 conv=>whnf
 refine And.intro ?_ ?_
 ·repeat' ((first
   | refine lvD ?_
   | (refine .inr (.inl ?_);(conv=>whnf);refine ⟨[],[],[p.av],_,_,⟨rfl,rfl,rfl⟩,cp,lvN ?_⟩)
   | refine ShowsJ.mk (by kernel_rfl) (by kernel_rfl) (by kernel_rfl) (lvL ?_) (lvL ?_) rfl
   | refine lvE ?_
   | fail) <;> try (apply Cj.mk <;> first | exact trivial | intros))
 repeat' ((first
  | refine lvD ?_
  | refine ShowsJ.mk (by kernel_rfl) (by kernel_rfl) (by kernel_rfl) (lvL ?_) (lvL ?_) rfl
  | refine lvE ?_
  | fail) <;> try (apply Cj.mk <;> first | exact trivial | intros))
 refine drawP [5,6,7] ?_
 conv=>whnf
 try dsimp only [St.after,St.afterAt,St.pin,St.unpin,initSt,initT,numO,cellsA,Option.map,ren,renL,renO,St.setObj,headSt,List.cons_append,List.nil_append,List.length_nil,Nat.reduceAdd]
 refine drawJ [0,4] (pinAll 4 0 [.ref 5,.ref 6,.ref 7,I p.rights,I p.side,I (ofK (nth p.ct cell)),I cell,Bo false]) [(11,.ptr 8 0),(12,Sas [run0 p cell])] [(8,.box [.ref 9,I 0]),(9,.arr 1 [Sas [run0 p cell]])] 10 (by decide +kernel) ?_
 conv=>whnf
 refine And.intro ?_ ?_
 ·have hint:OwnHint:=⟨⟩
  repeat' ((first
   | refine lvD ?_
   | refine ShowsJ.mk (by kernel_rfl) (by kernel_rfl) (by kernel_rfl) (lvL ?_) (lvL ?_) rfl
   | refine lvE ?_
   | fail) <;> try (apply Cj.mk <;> first | exact trivial | intros))
 have hpg:=h.pg hg
 have el8:=hpg.l8
 have e2:((g.prog p cell i).map St1).length=(g.prog p cell i).length:=List.length_map _
 have hprog:g.prog p cell i=nth (nth g.kinds (ofK (nth p.ct cell))).progs i:=rfl
 repeat' ((first
  | refine lvD ?_
  | refine ShowsJ.mk (by kernel_rfl) (by kernel_rfl) (by kernel_rfl) (lvL ?_) (lvL ?_) rfl
  | refine lvE ?_
  | fail) <;> try (apply Cj.mk <;> first | exact trivial | intros))
 rw [← hprog]
 refine .of (fun k=>[(14,I k),(12,Sas (g.now p cell i k))]) (fun k=>[(8,.box [.ref 9,I 0]),(9,.arr 1 (g.stepsAV p cell i (k+1)))]) 10 (fun k=>0≤k∧k≤(g.prog p cell i).length) (fun k=>((g.prog p cell i).length - k).toNat) 0 ?_
 conv=>whnf
 refine ⟨⟨[],hdA (lvL ?_) (lvL ?_)⟩,?_,fun k ⟨q0,q1⟩=>lvN ?_⟩ <;> (try (apply Cj.mk <;> first | exact trivial | intros))
 ·exact ⟨by omega,by omega⟩
 have hnl:=now_len hg h q0 q1
 have hsl:(g.stepsAV p cell i (k+1)).length=(k+1).toNat:=by unfold Gm.stepsAV;rw [List.length_map,ints_len]
 by_cases hk:k < (g.prog p cell i).length
 ·have hsu:=g.now_succ p cell i q0 hk
  have hst:=hpg.st _ (nth_mem q0 hk)
  have hok:∀ s,s∈g.now p cell i k→s.ok g:=by
   obtain ⟨n,rfl⟩:=Int.eq_ofNat_of_zero_le q0
   exact (now_ok hg h n (by omega)).1
  unfold Gm.all1 at hsu
  have en2:((g.now p cell i k).map Sa).length=(g.now p cell i k).length:=List.length_map _
  repeat' ((first
   | refine lvD ?_
   | refine ShowsJ.mk (by kernel_rfl) (by kernel_rfl) (by kernel_rfl) (lvL ?_) (lvL ?_) rfl
   | refine lvE ?_
   | fail) <;> try (apply Cj.mk <;> first | exact trivial | intros))
  refine .of (fun n=>[(16,I n),(15,.ref 10)]) (fun n=>[(10,.arr 8 ((((g.now p cell i k).take n.toNat).foldl (g.next1 (nth (g.prog p cell i) k)) []).map Sa))]) 11 (fun n=>0≤n∧n≤(g.now p cell i k).length) (fun n=>((g.now p cell i k).length - n).toNat) 0 ?_
  conv=>whnf
  refine ⟨⟨[],hdA (lvL ?_) (lvL ?_)⟩,?_,fun n ⟨n0,n1⟩=>lvN ?_⟩ <;> (try (apply Cj.mk <;> first | exact trivial | intros))
  ·exact ⟨by omega,by omega⟩
  by_cases hn:n < (g.now p cell i k).length
  ·have hsn:=take_snoc n0 hn
   have hso:=hok _ (nth_mem n0 hn)
   have hstep:=Step_p g hg _ hso _ hst
   have hacc:∀ s,s∈((g.now p cell i k).take n.toNat).foldl (g.next1 (nth (g.prog p cell i) k)) []→s.ok g:=next_ok hg hst _ [] (by simp) fun s hs=>hok s (List.mem_of_mem_take hs)
   have hlen2:=next_len hg (nth (g.prog p cell i) k) ((g.now p cell i k).take n.toNat) []
   have hlen3:=stepR_len hg (nth (g.now p cell i k) n) (nth (g.prog p cell i) k)
   rw [List.length_take,List.length_nil] at hlen2
   have hadd:=add_p (((g.now p cell i k).take n.toNat).foldl (g.next1 (nth (g.prog p cell i) k)) []) (g.stepR (nth (g.now p cell i k) n) (nth (g.prog p cell i) k)) (by omega) (fun s hs=>(hacc s hs).pos.small hg) (fun s hs=>(stepR_ok hg hso hst hs).pos.small hg)
   repeat' ((first
    | refine lvD ?_
    | refine ShowsJ.mk (by kernel_rfl) (by kernel_rfl) (by kernel_rfl) (lvL ?_) (lvL ?_) rfl
    | refine lvE ?_
    | fail) <;> try (apply Cj.mk <;> first | exact trivial | intros))
   refine drawN 11 (by decide +kernel) ?_
   conv=>whnf
   try dsimp only [St.after,St.afterAt,St.pin,St.unpin,initSt,initT,numO,cellsA,Option.map,ren,renL,renO,St.setObj,headSt,List.cons_append,List.nil_append,List.length_nil,Nat.reduceAdd]
   try (conv=>enter [7,3];whnf)
   repeat' ((first
    | refine lvK ?_
    | refine ⟨_,_,hstep,lvN ?_⟩
    | (refine .inl ?_;(conv=>whnf);refine ⟨_,_,hstep,lvN ?_⟩)
    | (refine .inr (.inr (.inl ?_));(conv=>whnf);refine ⟨[10],_,[.ref 0,Sas (g.stepR (nth (g.now p cell i k) n) (nth (g.prog p cell i) k))],_,_,⟨rfl,rfl,rfl⟩,hadd,lvN ?_⟩)
    | refine lvE ?_
    | fail) <;> try (apply Cj.mk <;> first | exact trivial | intros))
   refine ⟨n+1,⟨[],hdA (lvL ?_) (lvL ?_)⟩,?_,by (try dsimp only);omega,rfl⟩ <;> (try (apply Cj.mk <;> first | exact trivial | intros))
   ·rw [hsn,List.foldl_append];rfl
   ·exact ⟨by omega,by omega⟩
  ·obtain rfl:n=(g.now p cell i k).length:=by omega
   rw [take_all (Int.le_refl _),← hsu]
   have hli:=ints_len (k+1)
   unfold Gm.stepsAV
   repeat' ((first
    | refine lvD ?_
    | refine ap1 (f:=fun k=>Sas (g.now p cell i k)) (a:=k+1) (by decide) (by omega) rfl rfl (lvN ?_)
    | refine ShowsJ.mk (by kernel_rfl) (by kernel_rfl) (by kernel_rfl) (lvL ?_) (lvL ?_) rfl
    | refine lvE ?_
    | fail) <;> try (apply Cj.mk <;> first | exact trivial | intros))
   refine ⟨k+1,⟨[],hdA (lvL ?_) (lvL ?_)⟩,?_,by (try dsimp only);omega,rfl⟩ <;> (try (apply Cj.mk <;> first | exact trivial | intros))
   ·rw [show k+1+1=(k+1)+1 from rfl,ints_succ (show 0≤k+1 by omega)]
   ·exact ⟨by omega,by omega⟩
 ·obtain rfl:k=(g.prog p cell i).length:=by omega
  repeat' ((first
   | refine lvD ?_
   | refine ShowsJ.mk (by kernel_rfl) (by kernel_rfl) (by kernel_rfl) (lvL ?_) (lvL ?_) rfl
   | refine lvE ?_
   | fail) <;> try (apply Cj.mk <;> first | exact trivial | intros))
end Go.Proofs.Ytejljpjdifblpaa
