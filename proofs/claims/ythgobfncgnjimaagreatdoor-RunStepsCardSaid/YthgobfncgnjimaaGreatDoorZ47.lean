/- Contracts of functions of the program, proved by the checker. -/
import Derived.Test.YthgobfncgnjimaaGreatDoorZ46
set_option linter.unusedVariables false
set_option linter.unusedSimpArgs false
namespace Go.Proofs.YthgobfncgnjimaaGreatDoor
open Go Go.Sk
def Gm.cs (g:Gm):List AV:=[I g.b.cells,Iss g.b.next,Is g.b.turn,.sl (g.kinds.map Kn),I g.rights,Bo g.must,.sl (g.cls.map Ca),I g.blocked,I g.endless]
set_option maxHeartbeats 64000000 in
set_option maxRecDepth 10000 in
theorem More_p (g:Gm) (hg:g.ok) (h2:g.nk=1∨g.nk=2) (k cell i:Int) (k0:0≤k) (k1:k < g.nk) (i0:0≤i) (i1:i < (nth g.kinds k).progs.length) (pg:List Stp) (hl:pg.length≤7) (op n:Int) :
  Fun Tryz.prog 29 [.box g.cs,.box [I k],.box [I cell,I i,Bo true],.box [Pg pg]] [I op,I n,.ptr 0 0,.ptr 1 0,.ptr 2 0,.ptr 3 0] (g.with k i (pg++[⟨op,n⟩])).av [.box g.cs,.box [I k],.box [I cell,I i,Bo true],.box [Pg pg]]:=by
 have hw:=With_p g hg h2 k i k0 k1 i0 i1 (pg++[⟨op,n⟩])
 have el:(pg.map St1).length=pg.length:=List.length_map _
 refine fun_of tok D_ok Tryz.func29 rfl Tryz.ntmps29 Tryz.results29 (by kernel_rfl) (by simp) (by simp) ?_
 conv=>whnf
 repeat' (first | (refine lvD ?_;apply Cj.mk <;> first | exact trivial | intros) | (refine ShowsJ.mk (by kernel_rfl) (by kernel_rfl) (by kernel_rfl) (lvL ?_) (lvL ?_) rfl <;> (try (apply Cj.mk <;> first | exact trivial | intros))) | (refine lvE ?_;apply Cj.mk <;> first | exact trivial | intros) | fail)
 refine drawJ [1,2,3,7,8,9] [⟨0,1,0,I k⟩,⟨0,2,1,I i⟩] [] [(4,.box (g.with k i (pg++[⟨op,n⟩])).cs)] 5 (by decide +kernel) ?_
 conv=>whnf
 refine And.intro ?_ ?_
 ·have hown:OwnHint:=⟨⟩
  conv=>whnf
  try dsimp only [St.after,St.afterAt,St.pin,St.unpin,initSt,initT,numO,cellsA,Option.map,ren,renL,renO,St.setObj,headSt,List.cons_append,List.nil_append,List.length_nil,Nat.reduceAdd]
  repeat'
   ((first
    | (refine PinE.mk (by kernel_rfl) ?_)
    | (refine AndJ.mk ?_ ?_)
    | (refine AltS.own (by assumption) ?_)
    | (refine ap1 (f:=St1) (a:=⟨op,n⟩) (by decide) (by omega) rfl rfl ?_)
    | (refine apL (by decide) (by omega) (fun _=>rfl) ?_)
    | (refine apM (by decide) (by omega) (fun _=>rfl) ?_)
    | (refine And.intro (show (List.map St1 pg).length * 16≤140737488355328 by omega) (And.intro (by omega) ?_))
    | (refine .inr (.inl ?_);(conv=>whnf);refine ⟨_,_,hw,?_⟩)
    | (refine ShowsJ.mk (by kernel_rfl) (by kernel_rfl) (by kernel_rfl) ?_ ?_ rfl)
    | exact trivial
    | with_reducible rfl
    | (refine srcI ?_;kernel_rfl)
    | (refine nsI ?_;kernel_rfl)
    | (refine And.intro ?_ ?_)
    | rfl
    | fail) <;> (conv=>whnf;try dsimp only [St.after,St.afterAt,St.pin,St.unpin,initSt,initT,numO,cellsA,Option.map,ren,renL,renO,St.setObj,headSt,List.cons_append,List.nil_append,List.length_nil,Nat.reduceAdd]))
 generalize g.with k i (pg++[⟨op,n⟩])=G at *
 repeat' (first | (refine lvK ?_;apply Cj.mk <;> first | exact trivial | intros) | (refine lvE ?_;apply Cj.mk <;> first | exact trivial | intros) | fail)
end Go.Proofs.YthgobfncgnjimaaGreatDoor
