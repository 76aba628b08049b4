/- Contracts of functions of the program, proved by the checker; and plain laws. -/
import Derived.Test.YthgobfncgnjimaaGreatDoorZ03
import Derived.Test.YthgobfncgnjimaaGreatDoorZ04
set_option linter.unusedVariables false
set_option linter.unusedSimpArgs false
namespace Go.Proofs.YthgobfncgnjimaaGreatDoor
open Go Go.Sk
theorem cmpO_or (a b:Oc):cmpO a b=orL [cmpP a.p b.p,cmpI (b2i a.took) (b2i b.took)]:=by
 unfold cmpO
 simp only [orL]
 by_cases h:cmpP a.p b.p=0
 ·rw [if_pos h,if_neg (fun q=>q h)]
  by_cases h2:cmpI (b2i a.took) (b2i b.took)=0
  ·rw [if_neg (fun q=>q h2),h2]
  ·rw [if_pos h2]
 ·rw [if_neg h,if_pos h]
set_option maxHeartbeats 8000000 in
set_option maxRecDepth 10000 in
theorem order_truetrue (p q:Ps) (hp:p.small) (hq:q.small):Pure Tryz.prog 47 [Ou ⟨p,true⟩,Ou ⟨q,true⟩] (I (cmpO ⟨p,true⟩ ⟨q,true⟩)) none:=by
 have h1:=PCompare_p p q hp hq
 have h2:=Cmp_p (b2i true) (b2i true)
 rw [cmpO_or]
 have h3:=Or_p [cmpP p q,cmpI (b2i true) (b2i true)] (by simp)
 dsimp only
 generalize orL [cmpP p q,cmpI (b2i true) (b2i true)]=z at *
 generalize cmpP p q=x at *
 generalize hy:cmpI (b2i true) (b2i true)=y at *
 refine fun_of tok D_ok Tryz.func47 rfl Tryz.ntmps47 Tryz.results47 (by kernel_rfl) (by simp) (by simp) ?_
 conv=>whnf
 repeat' (first | (refine lvD ?_;apply Cj.mk <;> first | exact trivial | intros) | (refine ShowsJ.mk (by kernel_rfl) (by kernel_rfl) (by kernel_rfl) (lvL ?_) (lvL ?_) rfl <;> (try (apply Cj.mk <;> first | exact trivial | intros))) | (refine lvE ?_;apply Cj.mk <;> first | exact trivial | intros) | fail)
 refine ⟨rfl,trivial,?_⟩
 conv=>whnf
 refine UpdR.new (by simp) _ _ rfl rfl ?_
 conv=>whnf
 repeat' (first | (refine lvD ?_;apply Cj.mk <;> first | exact trivial | intros) | (refine ShowsJ.mk (by kernel_rfl) (by kernel_rfl) (by kernel_rfl) (lvL ?_) (lvL ?_) rfl <;> (try (apply Cj.mk <;> first | exact trivial | intros))) | (refine lvE ?_;apply Cj.mk <;> first | exact trivial | intros) | fail)
 refine drawJ [0,2,5,6,7,9,10,11] [⟨0,0,5,Bo true⟩,⟨0,1,5,Bo true⟩] [(4,I z)] [] 3 (by decide +kernel) ?_
 conv=>whnf
 refine And.intro ?_ ?_
 ·repeat' (first
   | (refine lvD ?_;apply Cj.mk <;> first | exact trivial | intros)
   | (refine ⟨_,_,h1,lvN ?_⟩;apply Cj.mk <;> first | exact trivial | intros)
   | (refine .inl ?_;(conv=>whnf);refine ⟨_,_,h1,lvN ?_⟩;apply Cj.mk <;> first | exact trivial | intros)
   | (refine ⟨_,_,h2,lvN ?_⟩;apply Cj.mk <;> first | exact trivial | intros)
   | (refine .inl ?_;(conv=>whnf);refine ⟨_,_,h2,lvN ?_⟩;apply Cj.mk <;> first | exact trivial | intros)
   | (refine ⟨_,_,h3,lvN ?_⟩;apply Cj.mk <;> first | exact trivial | intros)
   | (refine .inl ?_;(conv=>whnf);refine ⟨_,_,h3,lvN ?_⟩;apply Cj.mk <;> first | exact trivial | intros)
   | (refine .inr (.inl ?_);(conv=>whnf);refine ⟨_,_,h3,lvN ?_⟩;apply Cj.mk <;> first | exact trivial | intros)
   | (refine ⟨rfl,trivial,LookR.get 0 _ rfl rfl rfl (lvN ?_)⟩;apply Cj.mk <;> first | exact trivial | intros)
   | (refine ⟨rfl,trivial,LookR.no (by simp) (lvN ?_)⟩;apply Cj.mk <;> first | exact trivial | intros)
   | (refine ShowsJ.mk (by kernel_rfl) (by kernel_rfl) (by kernel_rfl) (lvL ?_) (lvL ?_) rfl <;> (try (apply Cj.mk <;> first | exact trivial | intros)))
   | (refine lvE ?_;apply Cj.mk <;> first | exact trivial | intros)
   | fail)
 ·repeat' (first
   | (refine lvK ?_;apply Cj.mk <;> first | exact trivial | intros)
   | (refine lvE ?_;apply Cj.mk <;> first | exact trivial | intros)
   | fail)
set_option maxHeartbeats 8000000 in
set_option maxRecDepth 10000 in
theorem order_truefalse (p q:Ps) (hp:p.small) (hq:q.small):Pure Tryz.prog 47 [Ou ⟨p,true⟩,Ou ⟨q,false⟩] (I (cmpO ⟨p,true⟩ ⟨q,false⟩)) none:=by
 have h1:=PCompare_p p q hp hq
 have h2:=Cmp_p (b2i true) (b2i false)
 rw [cmpO_or]
 have h3:=Or_p [cmpP p q,cmpI (b2i true) (b2i false)] (by simp)
 dsimp only
 generalize orL [cmpP p q,cmpI (b2i true) (b2i false)]=z at *
 generalize cmpP p q=x at *
 generalize hy:cmpI (b2i true) (b2i false)=y at *
 refine fun_of tok D_ok Tryz.func47 rfl Tryz.ntmps47 Tryz.results47 (by kernel_rfl) (by simp) (by simp) ?_
 conv=>whnf
 repeat' (first | (refine lvD ?_;apply Cj.mk <;> first | exact trivial | intros) | (refine ShowsJ.mk (by kernel_rfl) (by kernel_rfl) (by kernel_rfl) (lvL ?_) (lvL ?_) rfl <;> (try (apply Cj.mk <;> first | exact trivial | intros))) | (refine lvE ?_;apply Cj.mk <;> first | exact trivial | intros) | fail)
 refine ⟨rfl,trivial,?_⟩
 conv=>whnf
 refine UpdR.new (by simp) _ _ rfl rfl ?_
 conv=>whnf
 repeat' (first | (refine lvD ?_;apply Cj.mk <;> first | exact trivial | intros) | (refine ShowsJ.mk (by kernel_rfl) (by kernel_rfl) (by kernel_rfl) (lvL ?_) (lvL ?_) rfl <;> (try (apply Cj.mk <;> first | exact trivial | intros))) | (refine lvE ?_;apply Cj.mk <;> first | exact trivial | intros) | fail)
 refine drawJ [0,2,5,6,7,9,10,11] [⟨0,0,5,Bo true⟩,⟨0,1,5,Bo false⟩] [(4,I z)] [] 3 (by decide +kernel) ?_
 conv=>whnf
 refine And.intro ?_ ?_
 ·repeat' (first
   | (refine lvD ?_;apply Cj.mk <;> first | exact trivial | intros)
   | (refine ⟨_,_,h1,lvN ?_⟩;apply Cj.mk <;> first | exact trivial | intros)
   | (refine .inl ?_;(conv=>whnf);refine ⟨_,_,h1,lvN ?_⟩;apply Cj.mk <;> first | exact trivial | intros)
   | (refine ⟨_,_,h2,lvN ?_⟩;apply Cj.mk <;> first | exact trivial | intros)
   | (refine .inl ?_;(conv=>whnf);refine ⟨_,_,h2,lvN ?_⟩;apply Cj.mk <;> first | exact trivial | intros)
   | (refine ⟨_,_,h3,lvN ?_⟩;apply Cj.mk <;> first | exact trivial | intros)
   | (refine .inl ?_;(conv=>whnf);refine ⟨_,_,h3,lvN ?_⟩;apply Cj.mk <;> first | exact trivial | intros)
   | (refine .inr (.inl ?_);(conv=>whnf);refine ⟨_,_,h3,lvN ?_⟩;apply Cj.mk <;> first | exact trivial | intros)
   | (refine ⟨rfl,trivial,LookR.get 0 _ rfl rfl rfl (lvN ?_)⟩;apply Cj.mk <;> first | exact trivial | intros)
   | (refine ⟨rfl,trivial,LookR.no (by simp) (lvN ?_)⟩;apply Cj.mk <;> first | exact trivial | intros)
   | (refine ShowsJ.mk (by kernel_rfl) (by kernel_rfl) (by kernel_rfl) (lvL ?_) (lvL ?_) rfl <;> (try (apply Cj.mk <;> first | exact trivial | intros)))
   | (refine lvE ?_;apply Cj.mk <;> first | exact trivial | intros)
   | fail)
 ·repeat' (first
   | (refine lvK ?_;apply Cj.mk <;> first | exact trivial | intros)
   | (refine lvE ?_;apply Cj.mk <;> first | exact trivial | intros)
   | fail)
set_option maxHeartbeats 8000000 in
set_option maxRecDepth 10000 in
theorem order_falsetrue (p q:Ps) (hp:p.small) (hq:q.small):Pure Tryz.prog 47 [Ou ⟨p,false⟩,Ou ⟨q,true⟩] (I (cmpO ⟨p,false⟩ ⟨q,true⟩)) none:=by
 have h1:=PCompare_p p q hp hq
 have h2:=Cmp_p (b2i false) (b2i true)
 rw [cmpO_or]
 have h3:=Or_p [cmpP p q,cmpI (b2i false) (b2i true)] (by simp)
 dsimp only
 generalize orL [cmpP p q,cmpI (b2i false) (b2i true)]=z at *
 generalize cmpP p q=x at *
 generalize hy:cmpI (b2i false) (b2i true)=y at *
 refine fun_of tok D_ok Tryz.func47 rfl Tryz.ntmps47 Tryz.results47 (by kernel_rfl) (by simp) (by simp) ?_
 conv=>whnf
 repeat' (first | (refine lvD ?_;apply Cj.mk <;> first | exact trivial | intros) | (refine ShowsJ.mk (by kernel_rfl) (by kernel_rfl) (by kernel_rfl) (lvL ?_) (lvL ?_) rfl <;> (try (apply Cj.mk <;> first | exact trivial | intros))) | (refine lvE ?_;apply Cj.mk <;> first | exact trivial | intros) | fail)
 refine ⟨rfl,trivial,?_⟩
 conv=>whnf
 refine UpdR.new (by simp) _ _ rfl rfl ?_
 conv=>whnf
 repeat' (first | (refine lvD ?_;apply Cj.mk <;> first | exact trivial | intros) | (refine ShowsJ.mk (by kernel_rfl) (by kernel_rfl) (by kernel_rfl) (lvL ?_) (lvL ?_) rfl <;> (try (apply Cj.mk <;> first | exact trivial | intros))) | (refine lvE ?_;apply Cj.mk <;> first | exact trivial | intros) | fail)
 refine drawJ [0,2,5,6,7,9,10,11] [⟨0,0,5,Bo false⟩,⟨0,1,5,Bo true⟩] [(4,I z)] [] 3 (by decide +kernel) ?_
 conv=>whnf
 refine And.intro ?_ ?_
 ·repeat' (first
   | (refine lvD ?_;apply Cj.mk <;> first | exact trivial | intros)
   | (refine ⟨_,_,h1,lvN ?_⟩;apply Cj.mk <;> first | exact trivial | intros)
   | (refine .inl ?_;(conv=>whnf);refine ⟨_,_,h1,lvN ?_⟩;apply Cj.mk <;> first | exact trivial | intros)
   | (refine ⟨_,_,h2,lvN ?_⟩;apply Cj.mk <;> first | exact trivial | intros)
   | (refine .inl ?_;(conv=>whnf);refine ⟨_,_,h2,lvN ?_⟩;apply Cj.mk <;> first | exact trivial | intros)
   | (refine ⟨_,_,h3,lvN ?_⟩;apply Cj.mk <;> first | exact trivial | intros)
   | (refine .inl ?_;(conv=>whnf);refine ⟨_,_,h3,lvN ?_⟩;apply Cj.mk <;> first | exact trivial | intros)
   | (refine .inr (.inl ?_);(conv=>whnf);refine ⟨_,_,h3,lvN ?_⟩;apply Cj.mk <;> first | exact trivial | intros)
   | (refine ⟨rfl,trivial,LookR.get 0 _ rfl rfl rfl (lvN ?_)⟩;apply Cj.mk <;> first | exact trivial | intros)
   | (refine ⟨rfl,trivial,LookR.no (by simp) (lvN ?_)⟩;apply Cj.mk <;> first | exact trivial | intros)
   | (refine ShowsJ.mk (by kernel_rfl) (by kernel_rfl) (by kernel_rfl) (lvL ?_) (lvL ?_) rfl <;> (try (apply Cj.mk <;> first | exact trivial | intros)))
   | (refine lvE ?_;apply Cj.mk <;> first | exact trivial | intros)
   | fail)
 ·repeat' (first
   | (refine lvK ?_;apply Cj.mk <;> first | exact trivial | intros)
   | (refine lvE ?_;apply Cj.mk <;> first | exact trivial | intros)
   | fail)
set_option maxHeartbeats 8000000 in
set_option maxRecDepth 10000 in
theorem order_falsefalse (p q:Ps) (hp:p.small) (hq:q.small):Pure Tryz.prog 47 [Ou ⟨p,false⟩,Ou ⟨q,false⟩] (I (cmpO ⟨p,false⟩ ⟨q,false⟩)) none:=by
 have h1:=PCompare_p p q hp hq
 have h2:=Cmp_p (b2i false) (b2i false)
 rw [cmpO_or]
 have h3:=Or_p [cmpP p q,cmpI (b2i false) (b2i false)] (by simp)
 dsimp only
 generalize orL [cmpP p q,cmpI (b2i false) (b2i false)]=z at *
 generalize cmpP p q=x at *
 generalize hy:cmpI (b2i false) (b2i false)=y at *
 refine fun_of tok D_ok Tryz.func47 rfl Tryz.ntmps47 Tryz.results47 (by kernel_rfl) (by simp) (by simp) ?_
 conv=>whnf
 repeat' (first | (refine lvD ?_;apply Cj.mk <;> first | exact trivial | intros) | (refine ShowsJ.mk (by kernel_rfl) (by kernel_rfl) (by kernel_rfl) (lvL ?_) (lvL ?_) rfl <;> (try (apply Cj.mk <;> first | exact trivial | intros))) | (refine lvE ?_;apply Cj.mk <;> first | exact trivial | intros) | fail)
 refine ⟨rfl,trivial,?_⟩
 conv=>whnf
 refine UpdR.new (by simp) _ _ rfl rfl ?_
 conv=>whnf
 repeat' (first | (refine lvD ?_;apply Cj.mk <;> first | exact trivial | intros) | (refine ShowsJ.mk (by kernel_rfl) (by kernel_rfl) (by kernel_rfl) (lvL ?_) (lvL ?_) rfl <;> (try (apply Cj.mk <;> first | exact trivial | intros))) | (refine lvE ?_;apply Cj.mk <;> first | exact trivial | intros) | fail)
 refine drawJ [0,2,5,6,7,9,10,11] [⟨0,0,5,Bo false⟩,⟨0,1,5,Bo false⟩] [(4,I z)] [] 3 (by decide +kernel) ?_
 conv=>whnf
 refine And.intro ?_ ?_
 ·repeat' (first
   | (refine lvD ?_;apply Cj.mk <;> first | exact trivial | intros)
   | (refine ⟨_,_,h1,lvN ?_⟩;apply Cj.mk <;> first | exact trivial | intros)
   | (refine .inl ?_;(conv=>whnf);refine ⟨_,_,h1,lvN ?_⟩;apply Cj.mk <;> first | exact trivial | intros)
   | (refine ⟨_,_,h2,lvN ?_⟩;apply Cj.mk <;> first | exact trivial | intros)
   | (refine .inl ?_;(conv=>whnf);refine ⟨_,_,h2,lvN ?_⟩;apply Cj.mk <;> first | exact trivial | intros)
   | (refine ⟨_,_,h3,lvN ?_⟩;apply Cj.mk <;> first | exact trivial | intros)
   | (refine .inl ?_;(conv=>whnf);refine ⟨_,_,h3,lvN ?_⟩;apply Cj.mk <;> first | exact trivial | intros)
   | (refine .inr (.inl ?_);(conv=>whnf);refine ⟨_,_,h3,lvN ?_⟩;apply Cj.mk <;> first | exact trivial | intros)
   | (refine ⟨rfl,trivial,LookR.get 0 _ rfl rfl rfl (lvN ?_)⟩;apply Cj.mk <;> first | exact trivial | intros)
   | (refine ⟨rfl,trivial,LookR.no (by simp) (lvN ?_)⟩;apply Cj.mk <;> first | exact trivial | intros)
   | (refine ShowsJ.mk (by kernel_rfl) (by kernel_rfl) (by kernel_rfl) (lvL ?_) (lvL ?_) rfl <;> (try (apply Cj.mk <;> first | exact trivial | intros)))
   | (refine lvE ?_;apply Cj.mk <;> first | exact trivial | intros)
   | fail)
 ·repeat' (first
   | (refine lvK ?_;apply Cj.mk <;> first | exact trivial | intros)
   | (refine lvE ?_;apply Cj.mk <;> first | exact trivial | intros)
   | fail)
end Go.Proofs.YthgobfncgnjimaaGreatDoor
