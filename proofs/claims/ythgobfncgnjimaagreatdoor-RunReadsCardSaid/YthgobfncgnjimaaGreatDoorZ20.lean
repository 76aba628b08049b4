/- Contracts of functions of the program, proved by the checker; and plain laws. -/
import Derived.Test.YthgobfncgnjimaaGreatDoorZ19
import Derived.Test.YthgobfncgnjimaaGreatDoorZ18
set_option linter.unusedVariables false
set_option linter.unusedSimpArgs false
namespace Go.Proofs.YthgobfncgnjimaaGreatDoor
open Go Go.Sk
set_option maxHeartbeats 8000000 in
set_option maxRecDepth 10000 in
theorem runE2_p (g:Gm) (hg:g.ok) (p:Ps) (hl:p.ct.length≤4611686018427387904) (cell i:Int) (h:¬ CanRun g p cell i) (os:List AO) (hos:os=OS2 g p) :
  Fun Tryz.prog 42 os [g.av,p.av,I cell,I i,fnL2] (I (g.errR p)) os:=by
 subst hos
 have hv:=PValid_p g hg p hl
 have hnk:g.nk=g.kinds.length:=rfl
 have en:(g.kinds.map Kn).length=g.kinds.length:=List.length_map _
 have el:(p.ct.map I).length=p.ct.length:=List.length_map _
 have k6:=hg.k6
 have c9:=hg.c9
 unfold Gm.errR
 by_cases hp:p.ok g
 ·rw [decide_eq_true hp] at hv
  rw [if_pos hp]
  have hlen:=hp.len
  by_cases hc:0≤cell∧cell < g.b.cells
  ·have hr:=hp.c cell hc.1 hc.2
   have hm:=Man_p (nth p.ct cell) (by omega)
   have e1:((nth g.kinds (ofK (nth p.ct cell))).progs.map Pg).length=(nth g.kinds (ofK (nth p.ct cell))).progs.length:=List.length_map _
   by_cases hmm:ofK (nth p.ct cell) < 0∨ofS (nth p.ct cell)≠p.side
   ·have hsd:=hp.s
    have hof:=ofK_rg hg hr.1 hr.2
    have hmm:ofS (nth p.ct cell)≠p.side:=by omega
    refine fun_cut 8 [] tok D_ok Tryz.func42 rfl Tryz.ntmps42 Tryz.results42 (by kernel_rfl) (by simp) (by simp) fun R hR=>?_
    conv=>whnf
    repeat' (first | ((first | refine lvA ?_ | refine ⟨_,_,hv,lvN ?_⟩ | refine ⟨_,_,hm,lvN ?_⟩ | (refine .inl ?_;(conv=>whnf);first | refine ⟨_,_,hv,lvN ?_⟩ | refine ⟨_,_,hm,lvN ?_⟩));apply Cj.mk <;> first | exact trivial | intros) | (refine lvE ?_;apply Cj.mk <;> first | exact trivial | intros) | fail)
    all_goals (try (exfalso;omega))
   ·have hk:=kind_rg hg hp hc.1 hc.2 hmm
    have hi:¬ (0≤i∧i < (nth g.kinds (ofK (nth p.ct cell))).progs.length):=fun q=>h (canRun_of hg hp hc.1 hc.2 hmm i q.1 q.2)
    refine fun_cut 8 [] tok D_ok Tryz.func42 rfl Tryz.ntmps42 Tryz.results42 (by kernel_rfl) (by simp) (by simp) fun R hR=>?_
    conv=>whnf
    repeat' (first | ((first | refine lvA ?_ | refine ⟨_,_,hv,lvN ?_⟩ | refine ⟨_,_,hm,lvN ?_⟩ | (refine .inl ?_;(conv=>whnf);first | refine ⟨_,_,hv,lvN ?_⟩ | refine ⟨_,_,hm,lvN ?_⟩));apply Cj.mk <;> first | exact trivial | intros) | (refine lvE ?_;apply Cj.mk <;> first | exact trivial | intros) | fail)
    all_goals (try (exfalso;omega))
  ·refine fun_cut 8 [] tok D_ok Tryz.func42 rfl Tryz.ntmps42 Tryz.results42 (by kernel_rfl) (by simp) (by simp) fun R hR=>?_
   conv=>whnf
   repeat' (first | ((first | refine lvA ?_ | refine ⟨_,_,hv,lvN ?_⟩ | (refine .inl ?_;(conv=>whnf);first | refine ⟨_,_,hv,lvN ?_⟩));apply Cj.mk <;> first | exact trivial | intros) | (refine lvE ?_;apply Cj.mk <;> first | exact trivial | intros) | fail)
   all_goals (try (exfalso;omega))
 ·rw [decide_eq_false hp] at hv
  rw [if_neg hp]
  refine fun_cut 8 [] tok D_ok Tryz.func42 rfl Tryz.ntmps42 Tryz.results42 (by kernel_rfl) (by simp) (by simp) fun R hR=>?_
  conv=>whnf
  repeat' (first | ((first | refine lvA ?_ | refine ⟨_,_,hv,lvN ?_⟩ | (refine .inl ?_;(conv=>whnf);first | refine ⟨_,_,hv,lvN ?_⟩));apply Cj.mk <;> first | exact trivial | intros) | (refine lvE ?_;apply Cj.mk <;> first | exact trivial | intros) | fail)
end Go.Proofs.YthgobfncgnjimaaGreatDoor
