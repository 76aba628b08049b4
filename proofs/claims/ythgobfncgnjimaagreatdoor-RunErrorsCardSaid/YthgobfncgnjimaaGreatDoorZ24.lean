/- Contracts of functions of the program, proved by the checker. -/
import Derived.Test.YthgobfncgnjimaaGreatDoorZ21
import Derived.Test.YthgobfncgnjimaaGreatDoorZ18
import Derived.Test.YthgobfncgnjimaaGreatDoorZ22
import Derived.Test.YthgobfncgnjimaaGreatDoorZ16
set_option linter.unusedVariables false
set_option linter.unusedSimpArgs false
namespace Go.Proofs.YthgobfncgnjimaaGreatDoor
open Go Go.Sk
set_option maxHeartbeats 8000000 in
set_option maxRecDepth 10000 in
theorem PValidL_p (g:Gm) (hg:g.ok) (p:Ps) (h1:¬ (p.ct.length:Int)=g.b.cells):Pure Tryz.prog 68 [g.av,p.av] (Bo false) none:=by
 have hnk:g.nk=g.kinds.length:=rfl
 have en:(g.kinds.map Kn).length=g.kinds.length:=List.length_map _
 have el:(p.ct.map I).length=p.ct.length:=List.length_map _
 have k6:=hg.k6
 have c9:=hg.c9
 have r0:=hg.r0
 have r4:=hg.r4
 have q0:=phand_p g hg p.h0
 have q1:=phand_p g hg p.h1
 refine fun_of tok D_ok Tryz.func68 rfl Tryz.ntmps68 Tryz.results68 (by kernel_rfl) (by simp) (by simp) ?_
 conv=>whnf
 repeat' (first | (refine lvD ?_;apply Cj.mk <;> first | exact trivial | intros) | (refine ShowsJ.mk (by kernel_rfl) (by kernel_rfl) (by kernel_rfl) (lvL ?_) (lvL ?_) rfl <;> (try (apply Cj.mk <;> first | exact trivial | intros))) | (refine lvE ?_;apply Cj.mk <;> first | exact trivial | intros) | fail)
 refine drawJE [0,3,4,5] [(8,[7]),(10,[7]),(16,[14]),(17,[14,16]),(23,[21]),(24,[21,23]),(29,[28]),(30,[28,29]),(31,[28,30]),(34,[33]),(35,[33,34]),(36,[33]),(37,[33,36]),(38,[33,37]),(39,[33,35,38]),(42,[41]),(43,[41,42]),(44,[41,43]),(45,[41,44]),(46,[45]),(47,[45,46]),(48,[45,47])] [⟨0,0,0,I g.b.cells⟩,⟨0,0,4,I g.rights⟩,⟨0,1,3,I p.rights⟩,⟨0,1,4,I p.side⟩] [(4,Bo false)] [] 4 (by decide +kernel) ?_
 conv=>whnf
 refine And.intro ?_ ?_
 ·repeat' (first
   | (refine lvD ?_;apply Cj.mk <;> first | exact trivial | intros)
   | (refine ⟨_,_,q0,lvN ?_⟩;apply Cj.mk <;> first | exact trivial | intros)
   | (refine .inl ?_;(conv=>whnf);refine ⟨_,_,q0,lvN ?_⟩;apply Cj.mk <;> first | exact trivial | intros)
   | (refine ⟨_,_,q1,lvN ?_⟩;apply Cj.mk <;> first | exact trivial | intros)
   | (refine .inl ?_;(conv=>whnf);refine ⟨_,_,q1,lvN ?_⟩;apply Cj.mk <;> first | exact trivial | intros)
   | (refine ShowsJ.mk (by kernel_rfl) (by kernel_rfl) (by kernel_rfl) (lvL ?_) (lvL ?_) rfl <;> (try (apply Cj.mk <;> first | exact trivial | intros)))
   | (refine lvE ?_;apply Cj.mk <;> first | exact trivial | intros)
   | fail)
 ·repeat' (first
   | (refine lvK ?_;apply Cj.mk <;> first | exact trivial | intros)
   | (refine lvE ?_;apply Cj.mk <;> first | exact trivial | intros)
   | fail)
set_option maxHeartbeats 8000000 in
set_option maxRecDepth 10000 in
theorem runEL1_p (g:Gm) (hg:g.ok) (p:Ps) (h1:¬ (p.ct.length:Int)=g.b.cells) (cell i:Int) (os:List AO) (hos:os=OS1 g p) :
  Fun Tryz.prog 42 os [g.av,p.av,I cell,I i,fnL1] (I 40) os:=by
 subst hos
 have hv:=PValidL_p g hg p h1
 refine fun_cut 8 [] tok D_ok Tryz.func42 rfl Tryz.ntmps42 Tryz.results42 (by kernel_rfl) (by simp) (by simp) fun R hR=>?_
 conv=>whnf
 repeat' (first | ((first | refine lvA ?_ | refine ⟨_,_,hv,lvN ?_⟩ | (refine .inl ?_;(conv=>whnf);first | refine ⟨_,_,hv,lvN ?_⟩));apply Cj.mk <;> first | exact trivial | intros) | (refine lvE ?_;apply Cj.mk <;> first | exact trivial | intros) | fail)
set_option maxHeartbeats 8000000 in
set_option maxRecDepth 10000 in
theorem runEL2_p (g:Gm) (hg:g.ok) (p:Ps) (h1:¬ (p.ct.length:Int)=g.b.cells) (cell i:Int) (os:List AO) (hos:os=OS2 g p) :
  Fun Tryz.prog 42 os [g.av,p.av,I cell,I i,fnL2] (I 40) os:=by
 subst hos
 have hv:=PValidL_p g hg p h1
 refine fun_cut 8 [] tok D_ok Tryz.func42 rfl Tryz.ntmps42 Tryz.results42 (by kernel_rfl) (by simp) (by simp) fun R hR=>?_
 conv=>whnf
 repeat' (first | ((first | refine lvA ?_ | refine ⟨_,_,hv,lvN ?_⟩ | (refine .inl ?_;(conv=>whnf);first | refine ⟨_,_,hv,lvN ?_⟩));apply Cj.mk <;> first | exact trivial | intros) | (refine lvE ?_;apply Cj.mk <;> first | exact trivial | intros) | fail)
set_option maxHeartbeats 4000000 in
set_option maxRecDepth 10000 in
theorem runs_bad (g:Gm) (hg:g.ok) (p:Ps) (h:¬ p.ok g) (cell i:Int):Pure Tryz.prog 14 [g.av,p.av,I cell,I i] (.tup [.sl [],I 40]) none:=by
 by_cases h1:(p.ct.length:Int)=g.b.cells
 ·have c9:=hg.c9
  have q:=PRuns_err g hg p (by omega) cell i (fun q=>h q.ok)
  rwa [show g.errR p=40 from if_neg h] at q
 ·have hr:=runEL1_p g hg p h1 cell i _ rfl
  unfold OS1 at hr
  refine fun_of tok D_ok Tryz.func14 rfl Tryz.ntmps14 Tryz.results14 (by kernel_rfl) (by simp) (by simp) ?_
  conv=>whnf
  repeat' (first | ((first | refine lvK ?_ | (refine .inl ?_;(conv=>whnf);refine ⟨[1,2],_,[g.av,p.av,I cell,I i,fnL1],_,_,⟨rfl,rfl,rfl⟩,hr,lvN ?_⟩));apply Cj.mk <;> first | exact trivial | intros) | (refine lvE ?_;apply Cj.mk <;> first | exact trivial | intros) | fail)
set_option maxHeartbeats 4000000 in
set_option maxRecDepth 10000 in
theorem reads_bad (g:Gm) (hg:g.ok) (p:Ps) (h:¬ p.ok g) (cell i:Int):Pure Tryz.prog 21 [g.av,p.av,I cell,I i] (.tup [.sl [],I 40]) none:=by
 by_cases h1:(p.ct.length:Int)=g.b.cells
 ·have c9:=hg.c9
  have q:=PReads_err g hg p (by omega) cell i (fun q=>h q.ok)
  rwa [show g.errR p=40 from if_neg h] at q
 ·have hr:=runEL2_p g hg p h1 cell i _ rfl
  unfold OS2 at hr
  refine fun_of tok D_ok Tryz.func21 rfl Tryz.ntmps21 Tryz.results21 (by kernel_rfl) (by simp) (by simp) ?_
  conv=>whnf
  repeat' (first | ((first | refine lvK ?_ | (refine .inl ?_;(conv=>whnf);refine ⟨[0,1,2],_,[g.av,p.av,I cell,I i,fnL2],_,_,⟨rfl,rfl,rfl⟩,hr,lvN ?_⟩));apply Cj.mk <;> first | exact trivial | intros) | (refine lvE ?_;apply Cj.mk <;> first | exact trivial | intros) | fail)
theorem canRun_iff {g:Gm} (hg:g.ok) {p:Ps} (hp:p.ok g) {w0 w1:Int} (h0:0≤w0) (h1:w0 < g.b.cells) (k0:0≤ofK (nth p.ct w0)) (sd:ofS (nth p.ct w0)=p.side) (i0:0≤w1) (i1:w1 < (nth g.kinds (ofK (nth p.ct w0))).progs.length):CanRun g p w0 w1:=⟨hp,h0,h1,k0,sd,i0,i1⟩
set_option maxHeartbeats 8000000 in
set_option maxRecDepth 10000 in
theorem RunErrors_p (x:R6) (hx:x.ok) (w0 w1:Int) (y:Ps) (hy:y.ct.length≤9223372036854775807∧y.h0.length≤9223372036854775807∧y.h1.length≤9223372036854775807):Pure Tryz.prog 7 [.ag x.cs,.ag [I w0,I w1],y.av] (Bo true) none:=by
 have hmade:=Made6_p x hx
 have hg:=R6.gm_ok hx
 have hp:=R6.ps_ok hx
 have hup:=sanity5_p
 generalize x.gm=g at *
 generalize x.ps=p at *
 have hlen:=hp.len
 have c9:=hg.c9
 have hnk:g.nk=g.kinds.length:=rfl
 have en:(g.kinds.map Kn).length=g.kinds.length:=List.length_map _
 have el:(p.ct.map I).length=p.ct.length:=List.length_map _
 have k6:=hg.k6
 have hv:=R4Valid_p g hg y
 by_cases hcr:CanRun g p w0 w1
 ·have c0:=hcr.c0
  have c1:=hcr.c1
  have k0:=hcr.k0
  have k1:=hcr.k1 hg
  have sd:=hcr.sd
  have i0:=hcr.i0
  have i1:=hcr.i1
  have hr:=hp.c w0 c0 c1
  have ho:=Of_p (nth p.ct w0) (by omega)
  have e1:((nth g.kinds (ofK (nth p.ct w0))).progs.map Pg).length=(nth g.kinds (ofK (nth p.ct w0))).progs.length:=List.length_map _
  have q1:=PRuns_p g hg p _ _ hcr
  have q2:=PReads_p g hg p _ _ hcr
  by_cases hok:y.ok g
  ·rw [decide_eq_true hok] at hv
   refine fun_of tok D_ok Tryz.func7 rfl Tryz.ntmps7 Tryz.results7 (by kernel_rfl) (by simp) (by simp) ?_
   conv=>whnf
   repeat' (first | ((first | refine lvK ?_ | refine ⟨_,_,hup,lvN ?_⟩ | refine ⟨_,_,hmade,lvN ?_⟩ | refine ⟨_,_,ho,lvN ?_⟩ | refine ⟨_,_,q1,lvN ?_⟩ | refine ⟨_,_,q2,lvN ?_⟩ | refine ⟨_,_,hv,lvN ?_⟩ | (refine .inl ?_;(conv=>whnf);first | refine ⟨_,_,hup,lvN ?_⟩ | refine ⟨_,_,hmade,lvN ?_⟩ | refine ⟨_,_,ho,lvN ?_⟩ | refine ⟨_,_,q1,lvN ?_⟩ | refine ⟨_,_,q2,lvN ?_⟩ | refine ⟨_,_,hv,lvN ?_⟩));apply Cj.mk <;> first | exact trivial | intros) | (refine lvE ?_;apply Cj.mk <;> first | exact trivial | intros) | fail)
  ·rw [decide_eq_false hok] at hv
   have b1:=runs_bad g hg y hok w0 w1
   have b2:=reads_bad g hg y hok w0 w1
   refine fun_of tok D_ok Tryz.func7 rfl Tryz.ntmps7 Tryz.results7 (by kernel_rfl) (by simp) (by simp) ?_
   conv=>whnf
   repeat' (first | ((first | refine lvK ?_ | refine ⟨_,_,hup,lvN ?_⟩ | refine ⟨_,_,hmade,lvN ?_⟩ | refine ⟨_,_,ho,lvN ?_⟩ | refine ⟨_,_,q1,lvN ?_⟩ | refine ⟨_,_,q2,lvN ?_⟩ | refine ⟨_,_,hv,lvN ?_⟩ | refine ⟨_,_,b1,lvN ?_⟩ | refine ⟨_,_,b2,lvN ?_⟩ | (refine .inl ?_;(conv=>whnf);first | refine ⟨_,_,hup,lvN ?_⟩ | refine ⟨_,_,hmade,lvN ?_⟩ | refine ⟨_,_,ho,lvN ?_⟩ | refine ⟨_,_,q1,lvN ?_⟩ | refine ⟨_,_,q2,lvN ?_⟩ | refine ⟨_,_,hv,lvN ?_⟩ | refine ⟨_,_,b1,lvN ?_⟩ | refine ⟨_,_,b2,lvN ?_⟩));apply Cj.mk <;> first | exact trivial | intros) | (refine lvE ?_;apply Cj.mk <;> first | exact trivial | intros) | fail)
 ·have q1:=PRuns_err g hg p (by omega) _ _ hcr
  have q2:=PReads_err g hg p (by omega) _ _ hcr
  rw [show g.errR p=50 from if_pos hp] at q1 q2
  by_cases hc:0≤w0∧w0 < g.b.cells
  ·have hr:=hp.c w0 hc.1 hc.2
   have ho:=Of_p (nth p.ct w0) (by omega)
   have e1:((nth g.kinds (ofK (nth p.ct w0))).progs.map Pg).length=(nth g.kinds (ofK (nth p.ct w0))).progs.length:=List.length_map _
   by_cases hm:ofK (nth p.ct w0) < 0∨ofS (nth p.ct w0)≠p.side
   ·by_cases hok:y.ok g
    ·rw [decide_eq_true hok] at hv
     refine fun_of tok D_ok Tryz.func7 rfl Tryz.ntmps7 Tryz.results7 (by kernel_rfl) (by simp) (by simp) ?_
     conv=>whnf
     repeat' (first | ((first | refine lvA ?_ | refine ⟨_,_,hup,lvN ?_⟩ | refine ⟨_,_,hmade,lvN ?_⟩ | refine ⟨_,_,ho,lvN ?_⟩ | refine ⟨_,_,q1,lvN ?_⟩ | refine ⟨_,_,q2,lvN ?_⟩ | refine ⟨_,_,hv,lvN ?_⟩ | (refine .inl ?_;(conv=>whnf);first | refine ⟨_,_,hup,lvN ?_⟩ | refine ⟨_,_,hmade,lvN ?_⟩ | refine ⟨_,_,ho,lvN ?_⟩ | refine ⟨_,_,q1,lvN ?_⟩ | refine ⟨_,_,q2,lvN ?_⟩ | refine ⟨_,_,hv,lvN ?_⟩));apply Cj.mk <;> first | exact trivial | intros) | (refine lvE ?_;apply Cj.mk <;> first | exact trivial | intros) | fail)
     all_goals (try (exfalso;omega))
    ·rw [decide_eq_false hok] at hv
     have b1:=runs_bad g hg y hok w0 w1
     have b2:=reads_bad g hg y hok w0 w1
     refine fun_of tok D_ok Tryz.func7 rfl Tryz.ntmps7 Tryz.results7 (by kernel_rfl) (by simp) (by simp) ?_
     conv=>whnf
     repeat' (first | ((first | refine lvA ?_ | refine ⟨_,_,hup,lvN ?_⟩ | refine ⟨_,_,hmade,lvN ?_⟩ | refine ⟨_,_,ho,lvN ?_⟩ | refine ⟨_,_,q1,lvN ?_⟩ | refine ⟨_,_,q2,lvN ?_⟩ | refine ⟨_,_,hv,lvN ?_⟩ | refine ⟨_,_,b1,lvN ?_⟩ | refine ⟨_,_,b2,lvN ?_⟩ | (refine .inl ?_;(conv=>whnf);first | refine ⟨_,_,hup,lvN ?_⟩ | refine ⟨_,_,hmade,lvN ?_⟩ | refine ⟨_,_,ho,lvN ?_⟩ | refine ⟨_,_,q1,lvN ?_⟩ | refine ⟨_,_,q2,lvN ?_⟩ | refine ⟨_,_,hv,lvN ?_⟩ | refine ⟨_,_,b1,lvN ?_⟩ | refine ⟨_,_,b2,lvN ?_⟩));apply Cj.mk <;> first | exact trivial | intros) | (refine lvE ?_;apply Cj.mk <;> first | exact trivial | intros) | fail)
     all_goals (try (exfalso;omega))
   ·have hk:=kind_rg hg hp hc.1 hc.2 hm
    have hi:¬ (0≤w1∧w1 < (nth g.kinds (ofK (nth p.ct w0))).progs.length):=fun q=>hcr (canRun_of hg hp hc.1 hc.2 hm w1 q.1 q.2)
    by_cases hok:y.ok g
    ·rw [decide_eq_true hok] at hv
     refine fun_of tok D_ok Tryz.func7 rfl Tryz.ntmps7 Tryz.results7 (by kernel_rfl) (by simp) (by simp) ?_
     conv=>whnf
     repeat' (first | ((first | refine lvA ?_ | refine ⟨_,_,hup,lvN ?_⟩ | refine ⟨_,_,hmade,lvN ?_⟩ | refine ⟨_,_,ho,lvN ?_⟩ | refine ⟨_,_,q1,lvN ?_⟩ | refine ⟨_,_,q2,lvN ?_⟩ | refine ⟨_,_,hv,lvN ?_⟩ | (refine .inl ?_;(conv=>whnf);first | refine ⟨_,_,hup,lvN ?_⟩ | refine ⟨_,_,hmade,lvN ?_⟩ | refine ⟨_,_,ho,lvN ?_⟩ | refine ⟨_,_,q1,lvN ?_⟩ | refine ⟨_,_,q2,lvN ?_⟩ | refine ⟨_,_,hv,lvN ?_⟩));apply Cj.mk <;> first | exact trivial | intros) | (refine lvE ?_;apply Cj.mk <;> first | exact trivial | intros) | fail)
     all_goals (try (exfalso;omega))
    ·rw [decide_eq_false hok] at hv
     have b1:=runs_bad g hg y hok w0 w1
     have b2:=reads_bad g hg y hok w0 w1
     refine fun_of tok D_ok Tryz.func7 rfl Tryz.ntmps7 Tryz.results7 (by kernel_rfl) (by simp) (by simp) ?_
     conv=>whnf
     repeat' (first | ((first | refine lvA ?_ | refine ⟨_,_,hup,lvN ?_⟩ | refine ⟨_,_,hmade,lvN ?_⟩ | refine ⟨_,_,ho,lvN ?_⟩ | refine ⟨_,_,q1,lvN ?_⟩ | refine ⟨_,_,q2,lvN ?_⟩ | refine ⟨_,_,hv,lvN ?_⟩ | refine ⟨_,_,b1,lvN ?_⟩ | refine ⟨_,_,b2,lvN ?_⟩ | (refine .inl ?_;(conv=>whnf);first | refine ⟨_,_,hup,lvN ?_⟩ | refine ⟨_,_,hmade,lvN ?_⟩ | refine ⟨_,_,ho,lvN ?_⟩ | refine ⟨_,_,q1,lvN ?_⟩ | refine ⟨_,_,q2,lvN ?_⟩ | refine ⟨_,_,hv,lvN ?_⟩ | refine ⟨_,_,b1,lvN ?_⟩ | refine ⟨_,_,b2,lvN ?_⟩));apply Cj.mk <;> first | exact trivial | intros) | (refine lvE ?_;apply Cj.mk <;> first | exact trivial | intros) | fail)
     all_goals (try (exfalso;omega))
  ·by_cases hok:y.ok g
   ·rw [decide_eq_true hok] at hv
    refine fun_of tok D_ok Tryz.func7 rfl Tryz.ntmps7 Tryz.results7 (by kernel_rfl) (by simp) (by simp) ?_
    conv=>whnf
    repeat' (first | ((first | refine lvA ?_ | refine ⟨_,_,hup,lvN ?_⟩ | refine ⟨_,_,hmade,lvN ?_⟩ | refine ⟨_,_,q1,lvN ?_⟩ | refine ⟨_,_,q2,lvN ?_⟩ | refine ⟨_,_,hv,lvN ?_⟩ | (refine .inl ?_;(conv=>whnf);first | refine ⟨_,_,hup,lvN ?_⟩ | refine ⟨_,_,hmade,lvN ?_⟩ | refine ⟨_,_,q1,lvN ?_⟩ | refine ⟨_,_,q2,lvN ?_⟩ | refine ⟨_,_,hv,lvN ?_⟩));apply Cj.mk <;> first | exact trivial | intros) | (refine lvE ?_;apply Cj.mk <;> first | exact trivial | intros) | fail)
    all_goals (try (exfalso;omega))
   ·rw [decide_eq_false hok] at hv
    have b1:=runs_bad g hg y hok w0 w1
    have b2:=reads_bad g hg y hok w0 w1
    refine fun_of tok D_ok Tryz.func7 rfl Tryz.ntmps7 Tryz.results7 (by kernel_rfl) (by simp) (by simp) ?_
    conv=>whnf
    repeat' (first | ((first | refine lvA ?_ | refine ⟨_,_,hup,lvN ?_⟩ | refine ⟨_,_,hmade,lvN ?_⟩ | refine ⟨_,_,q1,lvN ?_⟩ | refine ⟨_,_,q2,lvN ?_⟩ | refine ⟨_,_,hv,lvN ?_⟩ | refine ⟨_,_,b1,lvN ?_⟩ | refine ⟨_,_,b2,lvN ?_⟩ | (refine .inl ?_;(conv=>whnf);first | refine ⟨_,_,hup,lvN ?_⟩ | refine ⟨_,_,hmade,lvN ?_⟩ | refine ⟨_,_,q1,lvN ?_⟩ | refine ⟨_,_,q2,lvN ?_⟩ | refine ⟨_,_,hv,lvN ?_⟩ | refine ⟨_,_,b1,lvN ?_⟩ | refine ⟨_,_,b2,lvN ?_⟩));apply Cj.mk <;> first | exact trivial | intros) | (refine lvE ?_;apply Cj.mk <;> first | exact trivial | intros) | fail)
    all_goals (try (exfalso;omega))
end Go.Proofs.YthgobfncgnjimaaGreatDoor
