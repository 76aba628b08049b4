/- Contracts of functions of the program, proved by the checker; and plain laws. -/
import Derived.Test.YthgobfncgnjimaaGreatDoorZ15
import Derived.Test.YthgobfncgnjimaaGreatDoorZ16
set_option linter.unusedVariables false
set_option linter.unusedSimpArgs false
namespace Go.Proofs.YthgobfncgnjimaaGreatDoor
open Go Go.Sk
theorem readX_len (g:Gm) (side:Int) (x:Stp) (s:Rs):(g.readX side x s).length≤2:=by unfold Gm.readX;split <;> simp
theorem readS_len (g:Gm) (side:Int) (x:Stp) (l:List Rs):(g.readS side x l).length≤2 * l.length:=by
 unfold Gm.readS
 induction l with
 | nil=>simp
 | cons s r ih =>
  have:=readX_len g side x s
  rw [List.flatMap_cons,List.length_append,List.length_cons]
  omega
theorem readN_len {g:Gm} (hg:g.ok) {p:Ps} {cell i:Int} (h:CanRun g p cell i):∀ n:Nat,n≤(g.prog p cell i).length+1→(g.readN p cell i n).length≤n * 86093442
 | 0,_=>by simp [Gm.readN,ints]
 | n+1,hn=>by
  have h1:=readN_len hg h n (by omega)
  have h2:=now_len hg h (k:=n) (by omega) (by omega)
  have h3:=readS_len g p.side (g.stepAt p cell i n) (g.now p cell i n)
  unfold Gm.readN at h1 ⊢
  rw [show ((n+1:Nat):Int)=(n:Int)+1 by omega,flat_succ _ (by omega),List.length_append]
  unfold Gm.readK at h1 ⊢
  omega
def fnL2:AV:=.fn (.func 52) [] [.ptr 2 0,.ptr 0 0,.ptr 1 0]
set_option maxHeartbeats 8000000 in
set_option maxRecDepth 10000 in
theorem run2_p (g:Gm) (hg:g.ok) (p:Ps) (cell i:Int) (h:CanRun g p cell i) :
  Fun Tryz.prog 42 [.box (cellsA g.av),.box p.cs,.box [.ref 3],.arr 1 (([]:List Int).map I)] [g.av,p.av,I cell,I i,fnL2] (I 0)
   [.box (cellsA g.av),.box p.cs,.box [.ref 4],.dead,.arr 1 ((g.readsL p cell i).map I)]:=by
 have hlen:=h.ok.len
 have k6:=hg.k6
 have c9:=hg.c9
 have hv:=PValid_p g hg p (by omega)
 rw [decide_eq_true h.ok] at hv
 have hnk:g.nk=g.kinds.length:=rfl
 have en:(g.kinds.map Kn).length=g.kinds.length:=List.length_map _
 have el:(p.ct.map I).length=p.ct.length:=List.length_map _
 have c0:=h.c0
 have c1:=h.c1
 have k0:=h.k0
 have k1:=h.k1 hg
 have sd:=h.sd
 have i0:=h.i0
 have i1:=h.i1
 have hr:=h.ok.c cell c0 c1
 have hm:=Man_p (nth p.ct cell) (by omega)
 have cp:=own_p ⟨p,ofK (nth p.ct cell),cell,false⟩ (h.ok.small hg)
 have e1:((nth g.kinds (ofK (nth p.ct cell))).progs.map Pg).length=(nth g.kinds (ofK (nth p.ct cell))).progs.length:=List.length_map _
 have hprog:g.prog p cell i=nth (nth g.kinds (ofK (nth p.ct cell))).progs i:=rfl
 have hpg:=h.pg hg
 have el8:=hpg.l8
 have hrun0:run0 p cell=⟨{ p with ct:=p.ct.set cell.toNat 0 },ofK (nth p.ct cell),cell,false⟩:=rfl
 have e2:((g.prog p cell i).map St1).length=(g.prog p cell i).length:=List.length_map _
 generalize hkk:ofK (nth p.ct cell)=kk at *
 generalize hks:ofS (nth p.ct cell)=ks at *
 subst sd
 refine fun_cut 8 [3] tok D_ok Tryz.func42 rfl Tryz.ntmps42 Tryz.results42 (by kernel_rfl) (by simp) (by simp) fun R hR=>?_
 conv=>whnf
 try dsimp only [St.mv,mvT,mvA,mvL,mvO,mvOs,Nat.beq_refl]
 repeat' (first | ((first | refine lvK ?_ | refine ⟨_,_,hv,lvN ?_⟩ | refine ⟨_,_,hm,lvN ?_⟩ | (refine .inl ?_;(conv=>whnf);first | refine ⟨_,_,hv,lvN ?_⟩ | refine ⟨_,_,hm,lvN ?_⟩));apply Cj.mk <;> first | exact trivial | intros) | fail)
 refine .inr (.inr (.inl ⟨{ tmps:=[(70,Sa ⟨p,kk,cell,false⟩),(2,I cell),(3,I i),(4,fnL2),(5,.ptr 5 0),(6,.ptr 6 0),(11,I kk)],objs:=[(0,.box (cellsA g.av)),(1,.box p.cs),(2,.box [.ref 4]),(4,.arr 1 (([]:List Int).map I)),(5,.box (cellsA g.av)),(6,.box p.cs)],next:=7,size:=140,par:=[0,1,2,3] },exitS [.obj 0,.obj 1,.obj 2,.obj 3,.obj 4,.obj 5,.obj 6] (by kernel_rfl) (by kernel_rfl) (by kernel_rfl) (lvL ?_) (lvL ?_),.inl ?_⟩))
 ·apply Cj.mk <;> first | exact trivial | intros
 ·apply Cj.mk <;> first | exact trivial | intros
 conv=>whnf
 refine ⟨[],[],[Sa ⟨p,kk,cell,false⟩],_,_,⟨rfl,rfl,rfl⟩,cp,?_⟩
 conv=>whnf
 repeat' (first | (refine lvK ?_;apply Cj.mk <;> first | exact trivial | intros) | fail)
 refine hR _ ?_
 conv=>whnf
 repeat' (first | (refine lvK ?_;apply Cj.mk <;> first | exact trivial | intros) | fail)
 rw [← hprog]
 refine .of (fun k=>[(89,I k),(14,.ref 11)]) (fun k=>[(11,.arr 8 ((g.now p cell i k).map Sa)),(2,.box [.ref 4]),(4,.arr 1 ((g.readN p cell i k).map I))]) 12 (fun k=>0≤k∧k≤(g.prog p cell i).length) (fun k=>((g.prog p cell i).length - k).toNat) 0 ?_
 conv=>whnf
 refine ⟨⟨[],hdA (lvL ?_) (lvL ?_)⟩,?_,fun k ⟨q0,q1⟩=>lvN ?_⟩ <;> (try (apply Cj.mk <;> first | exact trivial | intros))
 ·show _=[Sa (run0 p cell)]
  rw [hrun0]
  rfl
 ·exact ⟨by omega,by omega⟩
 have hnl:=now_len hg h q0 q1
 have hrl:(g.readN p cell i k).length≤774840978:=by
  obtain ⟨n,rfl⟩:=Int.eq_ofNat_of_zero_le q0
  have:=readN_len hg h n (by omega)
  omega
 by_cases hk:k < (g.prog p cell i).length
 ·have hsu:=g.now_succ p cell i q0 hk
  have hst:=hpg.st _ (nth_mem q0 hk)
  have hok:∀ s,s∈g.now p cell i k→s.ok g:=by
   obtain ⟨n,rfl⟩:=Int.eq_ofNat_of_zero_le q0
   exact (now_ok hg h n (by omega)).1
  unfold Gm.all1 at hsu
  have en2:((g.now p cell i k).map Sa).length=(g.now p cell i k).length:=List.length_map _
  repeat' (first | (refine lvK ?_;apply Cj.mk <;> first | exact trivial | intros) | fail)
  refine .of (fun n=>[(96,I n),(17,.ref 14)]) (fun n=>[(13,.mp .string (kvs (((g.now p cell i k).take n.toNat).foldl (g.next1 (nth (g.prog p cell i) k)) [])) (kxs (((g.now p cell i k).take n.toNat).foldl (g.next1 (nth (g.prog p cell i) k)) []))),(14,.arr 8 ((((g.now p cell i k).take n.toNat).foldl (g.next1 (nth (g.prog p cell i) k)) []).map Sa)),(2,.box [.ref 4]),(4,.arr 1 ((g.readN p cell i k++g.readS p.side (nth (g.prog p cell i) k) ((g.now p cell i k).take n.toNat)).map I))]) 15 (fun n=>0≤n∧n≤(g.now p cell i k).length) (fun n=>((g.now p cell i k).length - n).toNat) 0 ?_
  conv=>whnf
  refine ⟨⟨[],hdA (lvL ?_) (lvL ?_)⟩,?_,fun n ⟨n0,n1⟩=>lvN ?_⟩ <;> (try (apply Cj.mk <;> first | exact trivial | intros))
  ·show _=(g.readN p cell i k++[]).map I
   rw [List.append_nil]
  ·exact ⟨by omega,by omega⟩
  by_cases hn:n < (g.now p cell i k).length
  ·have hsn:=take_snoc n0 hn
   have hso:=hok _ (nth_mem n0 hn)
   have hop:1≤(nth (g.prog p cell i) k).op∧(nth (g.prog p cell i) k).op≤10:=by have:=hst;unfold StpOk at this;omega
   have hrs:=readS_len g p.side (nth (g.prog p cell i) k) ((g.now p cell i k).take n.toNat)
   rw [List.length_take] at hrs
   have hral:(g.readN p cell i k++g.readS p.side (nth (g.prog p cell i) k) ((g.now p cell i k).take n.toNat)).length=(g.readN p cell i k).length+(g.readS p.side (nth (g.prog p cell i) k) ((g.now p cell i k).take n.toNat)).length:=List.length_append
   have look:=lookR_p g hg p (nth (g.now p cell i k) n) hso (nth (g.prog p cell i) k) (g.readN p cell i k++g.readS p.side (nth (g.prog p cell i) k) ((g.now p cell i k).take n.toNat)) (by omega)
   have hrd:g.readN p cell i k++g.readS p.side (nth (g.prog p cell i) k) ((g.now p cell i k).take (n+1).toNat)=(g.readN p cell i k++g.readS p.side (nth (g.prog p cell i) k) ((g.now p cell i k).take n.toNat))++g.readX p.side (nth (g.prog p cell i) k) (nth (g.now p cell i k) n):=by rw [readS_succ g p.side _ n0 hn,List.append_assoc]
   have hstep:=sstep_p g hg _ hso _ hst
   have hAok:∀ s,s∈((g.now p cell i k).take n.toNat).foldl (g.next1 (nth (g.prog p cell i) k)) []→s.ok g:=next_ok hg hst _ [] (by simp) fun s hs=>hok s (List.mem_of_mem_take hs)
   have hMok:∀ s,s∈g.stepR (nth (g.now p cell i k) n) (nth (g.prog p cell i) k)→s.ok g:=fun s hs=>stepR_ok hg hso hst hs
   have hAl:=next_len hg (nth (g.prog p cell i) k) ((g.now p cell i k).take n.toNat) []
   have hMl:=stepR_len hg (nth (g.now p cell i k) n) (nth (g.prog p cell i) k)
   rw [List.length_take,List.length_nil] at hAl
   repeat' (first | ((first | refine lvK ?_ | refine ⟨_,_,hstep,lvN ?_⟩ | (refine .inl ?_;(conv=>whnf);first | refine ⟨_,_,hstep,lvN ?_⟩) | (refine .inl ?_;(conv=>whnf);refine ⟨[0,1,2,4],_,[Sa (nth (g.now p cell i k) n),St1 (nth (g.prog p cell i) k),.ptr 2 0,.ptr 0 0,.ptr 1 0],_,_,⟨rfl,rfl,rfl⟩,look,lvN ?_⟩));apply Cj.mk <;> first | exact trivial | intros) | fail)
   generalize hA:((g.now p cell i k).take n.toNat).foldl (g.next1 (nth (g.prog p cell i) k)) []=A at *
   generalize hM:g.stepR (nth (g.now p cell i k) n) (nth (g.prog p cell i) k)=M at *
   have em:(M.map Sa).length=M.length:=List.length_map _
   refine .of (fun m=>[(109,I m),(17,.ref 14)]) (fun m=>[(13,.mp .string (kvs (addR A (M.take m.toNat))) (kxs (addR A (M.take m.toNat)))),(14,.arr 8 ((addR A (M.take m.toNat)).map Sa))]) 17 (fun m=>0≤m∧m≤M.length) (fun m=>(M.length - m).toNat) 0 ?_
   conv=>whnf
   refine ⟨⟨[],hdA (lvL ?_) (lvL ?_)⟩,?_,fun m ⟨m0,m1⟩=>lvN ?_⟩ <;> (try (apply Cj.mk <;> first | exact trivial | intros))
   ·exact ⟨by omega,by omega⟩
   by_cases hm':m < M.length
   ·have hsu:=addR_succ A m0 hm'
    have hms:=hMok _ (nth_mem m0 hm')
    have hkey:=key_p (nth M m) (nums_mem hg hms.pos) hms.k0 (by have:=hms.k1;omega) hms.u0 (by have:=hms.u1;omega)
    have hBok:∀ s,s∈addR A (M.take m.toNat)→s.ok g:=fun s hs=>((mem_addR _).1 hs).elim (hAok s) fun h=>hMok s (List.mem_of_mem_take h)
    have hBl:=addR_len (M.take m.toNat) A
    rw [List.length_take] at hBl
    have hkm:=kvs_mem hg hBok hms
    unfold add1 at hsu
    generalize hB:addR A (M.take m.toNat)=B at *
    by_cases hf:nth M m∈B
    ·rw [if_pos hf] at hsu
     obtain ⟨q,hq,hq1⟩:=List.getElem_of_mem (hkm.2 hf)
     have hq1:(kvs B)[q]?=some (.string (keyB (nth M m))):=by rw [List.getElem?_eq_getElem hq,hq1]
     have hq2:(kxs B)[q]?=some (Bo true):=by
      unfold kvs at hq;unfold kxs
      rw [List.length_map] at hq
      rw [List.getElem?_map,List.getElem?_eq_getElem hq];rfl
     repeat' (first | ((first | refine lvK ?_ | refine ⟨_,_,hkey,lvN ?_⟩ | (refine .inl ?_;(conv=>whnf);first | refine ⟨_,_,hkey,lvN ?_⟩) | refine ⟨rfl,trivial,LookR.get q _ hq1 hq2 rfl (lvN ?_)⟩);apply Cj.mk <;> first | exact trivial | intros) | fail)
     refine ⟨m+1,⟨[],hdA (lvL ?_) (lvL ?_)⟩,?_,by (try dsimp only);omega,rfl⟩ <;> (try (apply Cj.mk <;> first | exact trivial | intros))
     ·rw [hsu]
     ·rw [hsu]
     ·rw [hsu]
     ·exact ⟨by omega,by omega⟩
    ·rw [if_neg hf] at hsu
     have hno:=fun z=>hf (hkm.1 z)
     have hks:kvs (addR A (M.take (m+1).toNat))=kvs B++[.string (keyB (nth M m))]:=by rw [hsu];unfold kvs;rw [List.map_append];rfl
     have hxs:kxs (addR A (M.take (m+1).toNat))=kxs B++[Bo true]:=by rw [hsu];unfold kxs;rw [List.map_append];rfl
     repeat' (first | ((first | refine lvK ?_ | refine ⟨_,_,hkey,lvN ?_⟩ | (refine .inl ?_;(conv=>whnf);first | refine ⟨_,_,hkey,lvN ?_⟩) | refine ⟨rfl,trivial,LookR.no hno (lvN ?_)⟩ | (refine ⟨rfl,trivial,?_⟩;(conv=>whnf);refine UpdR.new hno _ _ hks hxs (lvN ?_)) | refine ap1 (f:=Sa) (a:=(nth M m)) (by decide) (by omega) rfl rfl (lvN ?_));apply Cj.mk <;> first | exact trivial | intros) | fail)
     refine ⟨m+1,⟨[],hdA (lvL ?_) (lvL ?_)⟩,?_,by (try dsimp only);omega,rfl⟩ <;> (try (apply Cj.mk <;> first | exact trivial | intros))
     ·rw [hsu]
     ·exact ⟨by omega,by omega⟩
   ·obtain rfl:m=M.length:=by omega
    rw [take_all (Int.le_refl _)]
    have hfin:((g.now p cell i k).take (n+1).toNat).foldl (g.next1 (nth (g.prog p cell i) k)) []=addR A M:=by
     rw [hsn,List.foldl_append,hA]
     show g.next1 _ A _=_
     unfold Gm.next1
     rw [hM]
    repeat' (first | (refine lvK ?_;apply Cj.mk <;> first | exact trivial | intros) | fail)
    refine ⟨n+1,⟨[],hdA (lvL ?_) (lvL ?_)⟩,?_,by (try dsimp only);omega,rfl⟩ <;> (try (apply Cj.mk <;> first | exact trivial | intros))
    ·rw [hfin]
    ·rw [hfin]
    ·rw [hfin]
    ·rw [hrd]
    ·exact ⟨by omega,by omega⟩
  ·obtain rfl:n=(g.now p cell i k).length:=by omega
   have hrn:g.readN p cell i (k+1)=g.readN p cell i k++g.readS p.side (nth (g.prog p cell i) k) (g.now p cell i k):=by
    unfold Gm.readN
    rw [flat_succ _ q0]
    congr 1
    show g.readS p.side (g.stepAt p cell i k) _=_
    rw [show g.stepAt p cell i k=nth (g.prog p cell i) k from if_pos hk]
   rw [take_all (Int.le_refl _),← hsu]
   repeat' (first | (refine lvK ?_;apply Cj.mk <;> first | exact trivial | intros) | fail)
   refine ⟨k+1,⟨[],hdA (lvL ?_) (lvL ?_)⟩,?_,by (try dsimp only);omega,rfl⟩ <;> (try (apply Cj.mk <;> first | exact trivial | intros))
   ·rw [hrn]
   exact ⟨by omega,by omega⟩
 ·obtain rfl:k=(g.prog p cell i).length:=by omega
  have hol:=now_len hg h (k:=(g.prog p cell i).length) (by omega) (Int.le_refl _)
  have hno:=(now_ok hg h _ (Nat.le_refl _)).1
  have hrk:g.readsL p cell i=g.readN p cell i (g.prog p cell i).length++g.readS p.side ⟨0,0⟩ (g.now p cell i (g.prog p cell i).length):=by
   unfold Gm.readsL Gm.readN
   rw [flat_succ _ q0]
   congr 1
   show g.readS p.side (g.stepAt p cell i (g.prog p cell i).length) _=_
   rw [show g.stepAt p cell i (g.prog p cell i).length=⟨0,0⟩ from if_neg (by omega)]
  rw [hrk]
  generalize g.now p cell i (g.prog p cell i).length=l at *
  generalize g.readN p cell i (g.prog p cell i).length=rd at *
  have el2:(l.map Sa).length=l.length:=List.length_map _
  repeat' (first | (refine lvK ?_;apply Cj.mk <;> first | exact trivial | intros) | fail)
  refine .of (fun j=>[(131,I j)]) (fun j=>[(2,.box [.ref 4]),(4,.arr 1 ((rd++g.readS p.side ⟨0,0⟩ (l.take j.toNat)).map I))]) 12 (fun j=>0≤j∧j≤l.length) (fun j=>(l.length - j).toNat) 0 ?_
  conv=>whnf
  refine ⟨⟨[],hdA (lvL ?_) (lvL ?_)⟩,?_,fun j ⟨j0,j1⟩=>lvN ?_⟩ <;> (try (apply Cj.mk <;> first | exact trivial | intros))
  ·show _=(rd++[]).map I
   rw [List.append_nil]
  ·exact ⟨by omega,by omega⟩
  have hul:=readS_len g p.side ⟨0,0⟩ (l.take j.toNat)
  rw [List.length_take] at hul
  have hral:(rd++g.readS p.side ⟨0,0⟩ (l.take j.toNat)).length=rd.length+(g.readS p.side ⟨0,0⟩ (l.take j.toNat)).length:=List.length_append
  by_cases hj:j < l.length
  ·have hts:=readS_succ g p.side ⟨0,0⟩ j0 hj
   have look:=lookR_p g hg p (nth l j) (hno _ (nth_mem j0 hj)) ⟨0,0⟩ (rd++g.readS p.side ⟨0,0⟩ (l.take j.toNat)) (by omega)
   repeat' (first | ((first | refine lvK ?_ | (refine .inl ?_;(conv=>whnf);refine ⟨[0,1,2,4],_,[Sa (nth l j),St1 ⟨0,0⟩,.ptr 2 0,.ptr 0 0,.ptr 1 0],_,_,⟨rfl,rfl,rfl⟩,look,lvN ?_⟩));apply Cj.mk <;> first | exact trivial | intros) | fail)
   refine ⟨j+1,⟨[],hdA (lvL ?_) (lvL ?_)⟩,?_,by (try dsimp only);omega,rfl⟩ <;> (try (apply Cj.mk <;> first | exact trivial | intros))
   ·rw [hts,List.append_assoc]
   ·exact ⟨by omega,by omega⟩
  ·obtain rfl:j=l.length:=by omega
   rw [take_all (Int.le_refl _)]
   repeat' (first | (refine lvK ?_;apply Cj.mk <;> first | exact trivial | intros) | fail)
   refine exitS [.obj 0,.obj 1,.obj 2,.obj 3,.obj 4] (by kernel_rfl) (by kernel_rfl) (by kernel_rfl) (lvL ?_) (lvL ?_) <;> (try (apply Cj.mk <;> first | exact trivial | intros))
end Go.Proofs.YthgobfncgnjimaaGreatDoor
