/- Contracts of functions of the program, proved by the checker. -/
import Derived.Test.YthgobfncgnjimaaGreatDoorZ47
import Derived.Test.YthgobfncgnjimaaGreatDoorZ30
set_option linter.unusedVariables false
set_option linter.unusedSimpArgs false
namespace Go.Proofs.YthgobfncgnjimaaGreatDoor
open Go Go.Sk
theorem wantO_succ (r:Int) {L:List Oc} {k:Int} (k0:0≤k) (k1:k < L.length):wantO r (L.take (k+1).toNat)=put cmpO (clrO r (nth L k)) (wantO r (L.take k.toNat)):=by
 unfold wantO
 rw [take_snoc k0 k1,List.foldl_append]
 rfl
theorem wantO_len (r:Int) (l:List Oc):∀ acc:List Oc,(l.foldl (fun acc o=>put cmpO (clrO r o) acc) acc).length≤acc.length+l.length:=by
 induction l with
 | nil=>intro acc;simp
 | cons o s ih =>
  intro acc
  have h1:=ih (put cmpO (clrO r o) acc)
  have h2:=put_len (c:=cmpO) (x:=clrO r o) (l:=acc)
  rw [List.foldl_cons,List.length_cons]
  omega
theorem clrO_ok {g:Gm} {r:Int} {o:Oc} (h:o.p.ok g):(clrO r o).p.ok g:=by
 have h1:=clrR_rg (n:=r) h.r0
 have h2:=h.r1
 exact ⟨h.len,h.c,h.h0,h.h1,h1.1,by show clrR o.p.rights r < _;omega,h.s⟩
theorem filt_succ (f:Oc→Bool) {L:List Oc} {k:Int} (k0:0≤k) (k1:k < L.length):(L.take (k+1).toNat).filter f=(L.take k.toNat).filter f++(if f (nth L k) then [nth L k] else []):=by
 rw [take_snoc k0 k1,List.filter_append]
 congr 1
 cases h:f (nth L k) <;> simp [h]
set_option maxHeartbeats 16000000 in
set_option maxRecDepth 10000 in
theorem RunSteps_p (x:R6) (hx:x.ok) (n:Int) (hn:0≤n∧n≤255) (r:Int) (hr:0≤r∧r≤255):Pure Tryz.prog 8 [.ag x.cs,U8 n,U8 r] (Bo true) none:=by
 have hmade:=Made6_p x hx
 have hg:=R6.gm_ok hx
 have hp:=R6.ps_ok hx
 have hup:=sanity5_p
 have hnk:=x.gm_nk
 generalize x.gm=g at *
 generalize x.ps=p at *
 by_cases hne:g.chs p=[]
 ·have hpk:=Pick0_p g hg p hp n hne
  refine fun_of tok D_ok Tryz.func8 rfl Tryz.ntmps8 Tryz.results8 (by kernel_rfl) (by simp) (by simp) ?_
  conv=>whnf
  repeat' (first | ((first | refine lvK ?_ | refine ⟨_,_,hup,lvN ?_⟩ | refine ⟨_,_,hmade,lvN ?_⟩ | refine ⟨_,_,hpk,lvN ?_⟩ | (refine .inl ?_;(conv=>whnf);first | refine ⟨_,_,hup,lvN ?_⟩ | refine ⟨_,_,hmade,lvN ?_⟩ | refine ⟨_,_,hpk,lvN ?_⟩));apply Cj.mk <;> first | exact trivial | intros) | (refine lvE ?_;apply Cj.mk <;> first | exact trivial | intros) | fail)
 have hpk:=Pick_p g hg p hp n hn hne
 have hcr:=pick_run hg hp n hne
 generalize g.pick p n=c at *
 obtain ⟨cell,i⟩:=c
 dsimp only at hcr
 have q1:=PRuns_p g hg p _ _ hcr
 have q2:=PReads_p g hg p _ _ hcr
 have hrl:=runsR_len hg hcr
 have hok:=fun o (ho:o∈g.runsR p cell i)=>runsR_ok hg hcr ho
 have hlen:=hp.len
 have c9:=hg.c9
 have k6:=hg.k6
 have c0:=hcr.c0
 have c1:=hcr.c1
 have k0:=hcr.k0
 have k1:=hcr.k1 hg
 have i0:=hcr.i0
 have i1:=hcr.i1
 have hr0:=hp.c cell c0 c1
 have ho:=Of_p (nth p.ct cell) (by omega)
 have hkn:g.nk=g.kinds.length:=rfl
 have en:(g.kinds.map Kn).length=g.kinds.length:=List.length_map _
 have el:(p.ct.map I).length=p.ct.length:=List.length_map _
 have e1:((nth g.kinds (ofK (nth p.ct cell))).progs.map Pg).length=(nth g.kinds (ofK (nth p.ct cell))).progs.length:=List.length_map _
 have e2:((g.prog p cell i).map St1).length=(g.prog p cell i).length:=List.length_map _
 have hprog:g.prog p cell i=nth (nth g.kinds (ofK (nth p.ct cell))).progs i:=rfl
 have e3:((nth (nth g.kinds (ofK (nth p.ct cell))).progs i).map St1).length=(g.prog p cell i).length:=List.length_map _
 by_cases h7:7 < (g.prog p cell i).length
 ·refine fun_of tok D_ok Tryz.func8 rfl Tryz.ntmps8 Tryz.results8 (by kernel_rfl) (by simp) (by simp) ?_
  conv=>whnf
  repeat' (first | ((first | refine lvK ?_ | refine ⟨_,_,hup,lvN ?_⟩ | refine ⟨_,_,hmade,lvN ?_⟩ | refine ⟨_,_,hpk,lvN ?_⟩ | refine ⟨_,_,ho,lvN ?_⟩ | (refine .inl ?_;(conv=>whnf);first | refine ⟨_,_,hup,lvN ?_⟩ | refine ⟨_,_,hmade,lvN ?_⟩ | refine ⟨_,_,hpk,lvN ?_⟩ | refine ⟨_,_,ho,lvN ?_⟩));apply Cj.mk <;> first | exact trivial | intros) | (refine lvE ?_;apply Cj.mk <;> first | exact trivial | intros) | fail)
 have hl7:(g.prog p cell i).length≤7:=by omega
 have hmore:=fun op n=>More_p g hg hnk (ofK (nth p.ct cell)) cell i k0 k1 i0 i1 (g.prog p cell i) hl7 op n
 have hL3:Longer g p cell i ⟨3,0⟩:=⟨hg,hcr,hl7,by unfold StpOk;dsimp only;omega⟩
 have hL4:Longer g p cell i ⟨4,0⟩:=⟨hg,hcr,hl7,by unfold StpOk;dsimp only;omega⟩
 have hL5:Longer g p cell i ⟨5,0⟩:=⟨hg,hcr,hl7,by unfold StpOk;dsimp only;omega⟩
 have q3:=PRuns_p _ (longer_ok hL3) p _ _ (longer_run hL3)
 rw [longer_empty hL3] at q3
 have q3r:=PReads_p _ (longer_ok hL3) p _ _ (longer_run hL3)
 rw [longer_reads hL3] at q3r
 have q4:=PRuns_p _ (longer_ok hL4) p _ _ (longer_run hL4)
 rw [longer_none hL4 (.inl rfl)] at q4
 have q5:=PRuns_p _ (longer_ok hL5) p _ _ (longer_run hL5)
 rw [longer_none hL5 (.inr rfl)] at q5
 have hLsm:∀ o,o∈g.runsR p cell i→o.p.small:=fun o ho=>(hok o ho).small hg
 have hRl:=seenI_len g.b.cells (g.readsL p cell i)
 rw [show seenI g.b.cells (g.readsL p cell i)=g.readsR p cell i from rfl] at hRl
 have hso:=SameOut_p (g.runsR p cell i) (g.runsR p cell i) (by omega) hLsm hLsm
 have hin:=Ints5_p (g.readsR p cell i) (g.readsR p cell i) (by omega)
 rw [decide_eq_true rfl] at hso hin
 have q10:∀ rt:Int,0≤rt→rt < g.rights→Pure Tryz.prog 14 [(g.longer p cell i ⟨10,rt⟩).av,p.av,I cell,I i] (.tup [Ous (wantO rt (g.runsR p cell i)),I 0]) none:=fun rt h0 h1=>by
  have hL:Longer g p cell i ⟨10,rt⟩:=⟨hg,hcr,hl7,by unfold StpOk;dsimp only;omega⟩
  have:=PRuns_p _ (longer_ok hL) p _ _ (longer_run hL)
  rw [longer_lose hL] at this
  exact this
 have q9:∀ rt:Int,0≤rt→rt < g.rights→Pure Tryz.prog 14 [(g.longer p cell i ⟨9,rt⟩).av,p.av,I cell,I i] (.tup [Ous ((g.runsR p cell i).filter fun o=>bitR o.p.rights rt == 1),I 0]) none:=fun rt h0 h1=>by
  have hL:Longer g p cell i ⟨9,rt⟩:=⟨hg,hcr,hl7,by unfold StpOk;dsimp only;omega⟩
  have:=PRuns_p _ (longer_ok hL) p _ _ (longer_run hL)
  rw [longer_need hL] at this
  exact this
 have e0:(List.map Ou []).length=0:=rfl
 have m3:=hmore 3 0
 have m4:=hmore 4 0
 have m5:=hmore 5 0
 refine fun_of tok D_ok Tryz.func8 rfl Tryz.ntmps8 Tryz.results8 (by kernel_rfl) (by simp) (by simp) ?_
 conv=>whnf
 repeat' (first | ((first | refine lvD ?_ | refine ⟨_,_,hup,lvN ?_⟩ | refine ⟨_,_,hmade,lvN ?_⟩ | refine ⟨_,_,hpk,lvN ?_⟩ | refine ⟨_,_,ho,lvN ?_⟩ | (refine .inl ?_;(conv=>whnf);first | refine ⟨_,_,hup,lvN ?_⟩ | refine ⟨_,_,hmade,lvN ?_⟩ | refine ⟨_,_,hpk,lvN ?_⟩ | refine ⟨_,_,ho,lvN ?_⟩));apply Cj.mk <;> first | exact trivial | intros) | (refine ShowsJ.mk (by kernel_rfl) (by kernel_rfl) (by kernel_rfl) (lvL ?_) (lvL ?_) rfl <;> (try (apply Cj.mk <;> first | exact trivial | intros))) | (refine lvE ?_;apply Cj.mk <;> first | exact trivial | intros) | fail)
 refine drawA2 (by decide +kernel) ?_
 conv=>whnf
 repeat' (first | ((first | refine lvD ?_ | refine ⟨_,_,ho,lvN ?_⟩ | refine ⟨_,_,q1,lvN ?_⟩ | refine ⟨_,_,q2,lvN ?_⟩ | (refine .inl ?_;(conv=>whnf);first | refine ⟨_,_,ho,lvN ?_⟩ | refine ⟨_,_,q1,lvN ?_⟩ | refine ⟨_,_,q2,lvN ?_⟩));apply Cj.mk <;> first | exact trivial | intros) | (refine ShowsJ.mk (by kernel_rfl) (by kernel_rfl) (by kernel_rfl) (lvL ?_) (lvL ?_) rfl <;> (try (apply Cj.mk <;> first | exact trivial | intros))) | (refine lvE ?_;apply Cj.mk <;> first | exact trivial | intros) | fail)
 refine drawJ [0,3,4,5,6] [⟨0,3,0,I cell⟩,⟨0,3,1,I i⟩] [(18,Ous (g.runsR p cell i)),(19,I 0)] [] 16 (by decide +kernel) ?_
 conv=>whnf
 refine And.intro ?_ ?_
 ·repeat' (first
   | (refine lvD ?_;apply Cj.mk <;> first | exact trivial | intros)
   | (refine .inl ?_;(conv=>whnf);refine ⟨[1,4,3,15],_,[I _,I _,.ptr 0 0,.ptr 1 0,.ptr 2 0,.ptr 3 0],_,_,⟨rfl,rfl,rfl⟩,m3,lvN ?_⟩;apply Cj.mk <;> first | exact trivial | intros)
   | (refine ⟨_,_,q3,lvN ?_⟩;apply Cj.mk <;> first | exact trivial | intros)
   | (refine .inl ?_;(conv=>whnf);refine ⟨_,_,q3,lvN ?_⟩;apply Cj.mk <;> first | exact trivial | intros)
   | (refine ShowsJ.mk (by kernel_rfl) (by kernel_rfl) (by kernel_rfl) (lvL ?_) (lvL ?_) rfl <;> (try (apply Cj.mk <;> first | exact trivial | intros)))
   | (refine lvE ?_;apply Cj.mk <;> first | exact trivial | intros)
   | fail)
 conv=>whnf
 refine drawJ [0,3,4,5,6] [⟨0,3,0,I cell⟩,⟨0,3,1,I i⟩] [(20,Is (g.readsR p cell i)),(21,I 0)] [] 16 (by decide +kernel) ?_
 conv=>whnf
 refine And.intro ?_ ?_
 ·repeat' (first
   | (refine lvD ?_;apply Cj.mk <;> first | exact trivial | intros)
   | (refine .inl ?_;(conv=>whnf);refine ⟨[1,4,3,15],_,[I _,I _,.ptr 0 0,.ptr 1 0,.ptr 2 0,.ptr 3 0],_,_,⟨rfl,rfl,rfl⟩,m3,lvN ?_⟩;apply Cj.mk <;> first | exact trivial | intros)
   | (refine ⟨_,_,q3r,lvN ?_⟩;apply Cj.mk <;> first | exact trivial | intros)
   | (refine .inl ?_;(conv=>whnf);refine ⟨_,_,q3r,lvN ?_⟩;apply Cj.mk <;> first | exact trivial | intros)
   | (refine ShowsJ.mk (by kernel_rfl) (by kernel_rfl) (by kernel_rfl) (lvL ?_) (lvL ?_) rfl <;> (try (apply Cj.mk <;> first | exact trivial | intros)))
   | (refine lvE ?_;apply Cj.mk <;> first | exact trivial | intros)
   | fail)
 conv=>whnf
 refine drawJ [0,3,4,5,6] [⟨0,3,0,I cell⟩,⟨0,3,1,I i⟩] [(22,Ous []),(23,I 0)] [] 16 (by decide +kernel) ?_
 conv=>whnf
 refine And.intro ?_ ?_
 ·repeat' (first
   | (refine lvD ?_;apply Cj.mk <;> first | exact trivial | intros)
   | (refine .inl ?_;(conv=>whnf);refine ⟨[1,4,3,15],_,[I _,I _,.ptr 0 0,.ptr 1 0,.ptr 2 0,.ptr 3 0],_,_,⟨rfl,rfl,rfl⟩,m5,lvN ?_⟩;apply Cj.mk <;> first | exact trivial | intros)
   | (refine ⟨_,_,q5,lvN ?_⟩;apply Cj.mk <;> first | exact trivial | intros)
   | (refine .inl ?_;(conv=>whnf);refine ⟨_,_,q5,lvN ?_⟩;apply Cj.mk <;> first | exact trivial | intros)
   | (refine ShowsJ.mk (by kernel_rfl) (by kernel_rfl) (by kernel_rfl) (lvL ?_) (lvL ?_) rfl <;> (try (apply Cj.mk <;> first | exact trivial | intros)))
   | (refine lvE ?_;apply Cj.mk <;> first | exact trivial | intros)
   | fail)
 conv=>whnf
 refine drawJ [0,3,4,5,6] [⟨0,3,0,I cell⟩,⟨0,3,1,I i⟩] [(24,Ous []),(25,I 0)] [] 16 (by decide +kernel) ?_
 conv=>whnf
 refine And.intro ?_ ?_
 ·repeat' (first
   | (refine lvD ?_;apply Cj.mk <;> first | exact trivial | intros)
   | (refine .inl ?_;(conv=>whnf);refine ⟨[1,4,3,15],_,[I _,I _,.ptr 0 0,.ptr 1 0,.ptr 2 0,.ptr 3 0],_,_,⟨rfl,rfl,rfl⟩,m4,lvN ?_⟩;apply Cj.mk <;> first | exact trivial | intros)
   | (refine ⟨_,_,q4,lvN ?_⟩;apply Cj.mk <;> first | exact trivial | intros)
   | (refine .inl ?_;(conv=>whnf);refine ⟨_,_,q4,lvN ?_⟩;apply Cj.mk <;> first | exact trivial | intros)
   | (refine ShowsJ.mk (by kernel_rfl) (by kernel_rfl) (by kernel_rfl) (lvL ?_) (lvL ?_) rfl <;> (try (apply Cj.mk <;> first | exact trivial | intros)))
   | (refine lvE ?_;apply Cj.mk <;> first | exact trivial | intros)
   | fail)
 conv=>whnf
 by_cases hrt:g.rights=0
 ·repeat' (first
   | (refine lvK ?_;apply Cj.mk <;> first | exact trivial | intros)
   | (refine ⟨_,_,hso,lvN ?_⟩;apply Cj.mk <;> first | exact trivial | intros)
   | (refine .inl ?_;(conv=>whnf);refine ⟨_,_,hso,lvN ?_⟩;apply Cj.mk <;> first | exact trivial | intros)
   | (refine ⟨_,_,hin,lvN ?_⟩;apply Cj.mk <;> first | exact trivial | intros)
   | (refine .inl ?_;(conv=>whnf);refine ⟨_,_,hin,lvN ?_⟩;apply Cj.mk <;> first | exact trivial | intros)
   | (refine lvE ?_;apply Cj.mk <;> first | exact trivial | intros)
   | fail)
 have hrg:=hg.r4
 have hrg0:=hg.r0
 have x0:=Int.emod_nonneg r hrt
 have x1:=Int.emod_lt_of_pos r (show 0 < g.rights by omega)
 have q10:=q10 (r % g.rights) x0 x1
 have q9:=q9 (r % g.rights) x0 x1
 have m10:=hmore 10 (r % g.rights)
 have m9:=hmore 9 (r % g.rights)
 repeat' (first | ((first | refine lvD ?_ | refine ⟨_,_,hso,lvN ?_⟩ | refine ⟨_,_,hin,lvN ?_⟩ | (refine .inl ?_;(conv=>whnf);first | refine ⟨_,_,hso,lvN ?_⟩ | refine ⟨_,_,hin,lvN ?_⟩));apply Cj.mk <;> first | exact trivial | intros) | (refine ShowsJ.mk (by kernel_rfl) (by kernel_rfl) (by kernel_rfl) (lvL ?_) (lvL ?_) rfl <;> (try (apply Cj.mk <;> first | exact trivial | intros))) | (refine lvE ?_;apply Cj.mk <;> first | exact trivial | intros) | fail)
 generalize r % g.rights=rt at *
 refine drawJ [0,1,4,5,6,7] [⟨0,3,0,I cell⟩,⟨0,3,1,I i⟩] [(27,Ous (wantO rt (g.runsR p cell i))),(28,I 0)] [] 16 (by decide +kernel) ?_
 conv=>whnf
 refine And.intro ?_ ?_
 ·repeat' (first
   | (refine lvD ?_;apply Cj.mk <;> first | exact trivial | intros)
   | (refine .inl ?_;(conv=>whnf);refine ⟨[1,4,3,15],_,[I _,I _,.ptr 0 0,.ptr 1 0,.ptr 2 0,.ptr 3 0],_,_,⟨rfl,rfl,rfl⟩,m10,lvN ?_⟩;apply Cj.mk <;> first | exact trivial | intros)
   | (refine ⟨_,_,q10,lvN ?_⟩;apply Cj.mk <;> first | exact trivial | intros)
   | (refine .inl ?_;(conv=>whnf);refine ⟨_,_,q10,lvN ?_⟩;apply Cj.mk <;> first | exact trivial | intros)
   | (refine ShowsJ.mk (by kernel_rfl) (by kernel_rfl) (by kernel_rfl) (lvL ?_) (lvL ?_) rfl <;> (try (apply Cj.mk <;> first | exact trivial | intros)))
   | (refine lvE ?_;apply Cj.mk <;> first | exact trivial | intros)
   | fail)
 conv=>whnf
 refine drawJ [0,1,4,5,6,7] [⟨0,3,0,I cell⟩,⟨0,3,1,I i⟩] [(29,Ous ((g.runsR p cell i).filter fun o=>bitR o.p.rights rt == 1)),(30,I 0)] [] 16 (by decide +kernel) ?_
 conv=>whnf
 refine And.intro ?_ ?_
 ·repeat' (first
   | (refine lvD ?_;apply Cj.mk <;> first | exact trivial | intros)
   | (refine .inl ?_;(conv=>whnf);refine ⟨[1,4,3,15],_,[I _,I _,.ptr 0 0,.ptr 1 0,.ptr 2 0,.ptr 3 0],_,_,⟨rfl,rfl,rfl⟩,m9,lvN ?_⟩;apply Cj.mk <;> first | exact trivial | intros)
   | (refine ⟨_,_,q9,lvN ?_⟩;apply Cj.mk <;> first | exact trivial | intros)
   | (refine .inl ?_;(conv=>whnf);refine ⟨_,_,q9,lvN ?_⟩;apply Cj.mk <;> first | exact trivial | intros)
   | (refine ShowsJ.mk (by kernel_rfl) (by kernel_rfl) (by kernel_rfl) (lvL ?_) (lvL ?_) rfl <;> (try (apply Cj.mk <;> first | exact trivial | intros)))
   | (refine lvE ?_;apply Cj.mk <;> first | exact trivial | intros)
   | fail)
 conv=>whnf
 generalize g.runsR p cell i=L at *
 repeat' (first | (refine lvD ?_;apply Cj.mk <;> first | exact trivial | intros) | (refine ShowsJ.mk (by kernel_rfl) (by kernel_rfl) (by kernel_rfl) (lvL ?_) (lvL ?_) rfl <;> (try (apply Cj.mk <;> first | exact trivial | intros))) | (refine lvE ?_;apply Cj.mk <;> first | exact trivial | intros) | fail)
 refine .of (fun m=>[(33,I m),(31,Ous (wantO rt (L.take m.toNat))),(32,.ref 16)]) (fun m=>[(16,.arr 6 (((L.take m.toNat).filter fun o=>bitR o.p.rights rt == 1).map Ou))]) 17 (fun m=>0≤m∧m≤L.length) (fun m=>(L.length - m).toNat) 0 ?_
 conv=>whnf
 refine ⟨⟨[],hdA (lvL ?_) (lvL ?_)⟩,?_,fun m ⟨m0,m1⟩=>lvN ?_⟩ <;> (try (apply Cj.mk <;> first | exact trivial | intros))
 ·exact ⟨by omega,by omega⟩
 have eL:(L.map Ou).length=L.length:=List.length_map _
 have hfl:((L.take m.toNat).filter fun o=>bitR o.p.rights rt == 1).length≤L.length:=Nat.le_trans (List.length_filter_le _ _) (by rw [List.length_take];omega)
 by_cases hm:m < L.length
 ·have hmm:=nth_mem (l:=L) m0 hm
  have hmo:=hok _ hmm
  have hm16:=rights16 hg hmo
  have hv:=R4Valid_p g hg (clrO rt (nth L m)).p
  rw [decide_eq_true (clrO_ok hmo)] at hv
  have hwl:=wantO_len rt (L.take m.toNat) []
  have hins:=Insert_p (wantO rt (L.take m.toNat)) (clrO rt (nth L m)) (by unfold wantO;rw [List.length_take] at hwl;simp at hwl;omega) (fun o ho=>by
   rcases (mem_wantO _ _).1 ho with ho | ⟨q,hq,rfl⟩
   ·simp at ho
   ·exact (clrO_ok (hok q (List.mem_of_mem_take hq))).small hg) ((clrO_ok hmo).small hg)
  rw [← wantO_succ rt m0 hm] at hins
  have hfs:=filt_succ (fun o=>bitR o.p.rights rt == 1) m0 hm
  by_cases hb:bitR (nth L m).p.rights rt=1
  ·rw [if_pos (by simpa using hb)] at hfs
   unfold bitR at hb
   repeat' (first | ((first | refine lvK ?_ | refine ⟨_,_,hv,lvN ?_⟩ | refine ⟨_,_,hins,lvN ?_⟩ | (refine .inl ?_;(conv=>whnf);first | refine ⟨_,_,hv,lvN ?_⟩ | refine ⟨_,_,hins,lvN ?_⟩) | refine ap1 (f:=Ou) (a:=(nth L m)) (by decide) (by omega) rfl rfl (lvN ?_));apply Cj.mk <;> first | exact trivial | intros) | (refine lvE ?_;apply Cj.mk <;> first | exact trivial | intros) | fail)
   refine ⟨m+1,⟨[],hdA (lvL ?_) (lvL ?_)⟩,?_,by (try dsimp only);omega,rfl⟩ <;> (try (apply Cj.mk <;> first | exact trivial | intros))
   ·rw [hfs]
   ·exact ⟨by omega,by omega⟩
  ·rw [if_neg (by simpa using hb),List.append_nil] at hfs
   unfold bitR at hb
   repeat' (first | ((first | refine lvK ?_ | refine ⟨_,_,hv,lvN ?_⟩ | refine ⟨_,_,hins,lvN ?_⟩ | (refine .inl ?_;(conv=>whnf);first | refine ⟨_,_,hv,lvN ?_⟩ | refine ⟨_,_,hins,lvN ?_⟩) | refine ap1 (f:=Ou) (a:=(nth L m)) (by decide) (by omega) rfl rfl (lvN ?_));apply Cj.mk <;> first | exact trivial | intros) | (refine lvE ?_;apply Cj.mk <;> first | exact trivial | intros) | fail)
   refine ⟨m+1,⟨[],hdA (lvL ?_) (lvL ?_)⟩,?_,by (try dsimp only);omega,rfl⟩ <;> (try (apply Cj.mk <;> first | exact trivial | intros))
   ·rw [hfs]
   ·exact ⟨by omega,by omega⟩
 obtain rfl:m=L.length:=by omega
 rw [take_all (Int.le_refl _)] at hfl
 rw [take_all (Int.le_refl _)]
 have hwl:=wantO_len rt L []
 have hws:∀ o,o∈wantO rt L→o.p.small:=fun o ho=>by
  rcases (mem_wantO _ _).1 ho with ho | ⟨q,hq,rfl⟩
  ·simp at ho
  ·exact (clrO_ok (hok q hq)).small hg
 have hfm:∀ o,o∈(L.filter fun o=>bitR o.p.rights rt == 1)→o.p.small:=fun o ho=>hLsm o (List.mem_filter.1 ho).1
 have hs2:=SameOut_p (wantO rt L) (wantO rt L) (by unfold wantO;simp at hwl;omega) hws hws
 have hs3:=SameOut_p (L.filter fun o=>bitR o.p.rights rt == 1) (L.filter fun o=>bitR o.p.rights rt == 1) (by omega) hfm hfm
 rw [decide_eq_true rfl] at hs2 hs3
 repeat' (first | ((first | refine lvK ?_ | refine ⟨_,_,hs2,lvN ?_⟩ | (refine .inl ?_;(conv=>whnf);first | refine ⟨_,_,hs2,lvN ?_⟩) | (refine .inl ?_;(conv=>whnf);refine ⟨_,hs3,rfl,lvN ?_⟩) | refine ⟨_,hs3,rfl,lvN ?_⟩);apply Cj.mk <;> first | exact trivial | intros) | (refine lvE ?_;apply Cj.mk <;> first | exact trivial | intros) | fail)
end Go.Proofs.YthgobfncgnjimaaGreatDoor
