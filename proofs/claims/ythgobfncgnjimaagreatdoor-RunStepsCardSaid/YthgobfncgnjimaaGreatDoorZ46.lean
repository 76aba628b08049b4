/- Contracts of functions of the program, proved by the checker. -/
import Derived.Test.YthgobfncgnjimaaGreatDoorZ45
set_option linter.unusedVariables false
set_option linter.unusedSimpArgs false
namespace Go.Proofs.YthgobfncgnjimaaGreatDoor
open Go Go.Sk
theorem leS_of {σ τ:St} (h1:(Sk.distinct (findS σ [] τ.tmps τ.objs τ.next) && fixB (findS σ [] τ.tmps τ.objs τ.next) σ.par)=true) (h2:(τ.size,τ.par)=(σ.size,σ.par))
  (h3:leT σ (findS σ [] τ.tmps τ.objs τ.next) τ.tmps) (h4:leOs σ (findS σ [] τ.tmps τ.objs τ.next) τ.objs):∃ ss,LeS σ ss τ:=⟨_,h1,h2,findS_len _ _ _ _ _,h3,h4⟩
theorem pubL_one {x y:AV} (h:pubE x=some y):PubL [x] [y]:=⟨rfl,fun q e e' h1 h2=>by
 cases q with
 | zero=>obtain rfl:=Option.some.inj h1;obtain rfl:=Option.some.inj h2;exact h
 | succ q=>simp at h1⟩
theorem pubL_two {x y x' y':AV} (h:pubE x=some y) (h':pubE x'=some y'):PubL [x,x'] [y,y']:=⟨rfl,fun q e e' h1 h2=>by
 match q with
 | 0=>obtain rfl:=Option.some.inj h1;obtain rfl:=Option.some.inj h2;exact h
 | 1=>obtain rfl:=Option.some.inj h1;obtain rfl:=Option.some.inj h2;exact h'
 | q+2=>simp at h1⟩
theorem setF'' {α:Type} {l:List α} {f:α→AV} {n:Nat} {e:AV} {z:α} {K:List AV→Prop} (hz:e=f z) (k:K ((l.set n z).map f)):CalcL ((l.map f).set n e) K:=.mk _ (by rw [List.map_set,hz]) k
set_option maxHeartbeats 4000000 in
set_option maxRecDepth 10000 in
theorem With_p (g:Gm) (hg:g.ok) (h2:g.nk=1∨g.nk=2) (k i:Int) (k0:0≤k) (k1:k < g.nk) (i0:0≤i) (i1:i < (nth g.kinds k).progs.length) (pg:List Stp):Pure Tryz.prog 30 [g.av,I k,I i,Pg pg] (g.with k i pg).av none:=by
 have hint:TreHint:=⟨⟩
 have hown:OwnHint:=⟨⟩
 have hpl:=hg.pl k k0 k1
 clear hg
 obtain ⟨b,kinds,rights,must,cls,bl,en⟩:=g
 have hnk:(kinds.length:Int)=1∨(kinds.length:Int)=2:=h2
 have hk2:k < kinds.length:=k1
 have hpl:(nth kinds k).progs.length≤8:=hpl
 have i1:i < (nth kinds k).progs.length:=i1
 have ep:((nth kinds k).progs.map Pg).length=(nth kinds k).progs.length:=List.length_map _
 rcases hnk with hn | hn
 ·obtain ⟨a,rfl⟩:=List.length_eq_one_iff.1 (show kinds.length=1 by omega)
  obtain rfl:k=0:=by simp at hk2;omega
  show Pure Tryz.prog 30 _ (Gm.av ⟨b,[⟨a.name,a.progs.set i.toNat pg,a.keep⟩],rights,must,cls,bl,en⟩) none
  refine fun_of tok D_ok Tryz.func30 rfl Tryz.ntmps30 Tryz.results30 (by kernel_rfl) (by simp) (by simp) ?_
  conv=>whnf
  repeat' (first | ((first | refine lvK ?_ | refine And.intro (show (List.map Pg (nth [a] 0).progs).length * 24≤140737488355328 by omega) (And.intro (by omega) (lvN ?_)) | refine CalcL.mk [AV.ag [.v (.string a.name),.ref 13,Bo a.keep]] rfl (lvN ?_) | refine And.intro (Int.le_refl 0) (And.intro Nat.zero_lt_one (lvN ?_)) | refine ⟨_,rfl,lvN ?_⟩ | refine setF'' (z:=pg) rfl (lvN ?_));apply Cj.mk <;> first | exact trivial | intros) | fail)
  refine ⟨[(2,1,13)],?_⟩
  conv=>whnf
  refine ⟨_,rfl,rfl,?_⟩
  refine leS_of (by kernel_rfl) (by kernel_rfl) ?_ ?_ <;> (conv=>whnf)
  all_goals repeat' (first | exact trivial | with_reducible rfl | (refine srcI ?_;kernel_rfl) | (refine nsI ?_;kernel_rfl) | (refine pubL_one ?_) | (refine And.intro ?_ ?_ <;> conv=>whnf))
  all_goals (unfold Kn;rw [List.map_set];rfl)
 ·obtain ⟨a,a',rfl⟩:∃ a a',kinds=[a,a']:=by
   match kinds,hn with
   | [a,a'],_=>exact ⟨a,a',rfl⟩
  have hk3:k=0∨k=1:=by simp at hk2;omega
  rcases hk3 with rfl | rfl
  ·show Pure Tryz.prog 30 _ (Gm.av ⟨b,[⟨a.name,a.progs.set i.toNat pg,a.keep⟩,a'],rights,must,cls,bl,en⟩) none
   refine fun_of tok D_ok Tryz.func30 rfl Tryz.ntmps30 Tryz.results30 (by kernel_rfl) (by simp) (by simp) ?_
   conv=>whnf
   repeat' (first | ((first | refine lvK ?_ | refine And.intro (show (List.map Pg (nth [a,a'] 0).progs).length * 24≤140737488355328 by omega) (And.intro (by omega) (lvN ?_)) | refine CalcL.mk [AV.ag [.v (.string a.name),.ref 13,Bo a.keep],Kn a'] rfl (lvN ?_) | refine And.intro (Int.le_refl 0) (And.intro Nat.zero_lt_two (lvN ?_)) | refine ⟨_,rfl,lvN ?_⟩ | refine setF'' (z:=pg) rfl (lvN ?_));apply Cj.mk <;> first | exact trivial | intros) | fail)
   refine ⟨[(2,1,13)],?_⟩
   conv=>whnf
   refine ⟨_,rfl,rfl,?_⟩
   refine leS_of (by kernel_rfl) (by kernel_rfl) ?_ ?_ <;> (conv=>whnf)
   all_goals repeat' (first | exact trivial | with_reducible rfl | (refine srcI ?_;kernel_rfl) | (refine nsI ?_;kernel_rfl) | (refine pubL_two ?_ rfl) | (refine And.intro ?_ ?_ <;> conv=>whnf))
   all_goals (unfold Kn;rw [List.map_set];rfl)
  ·show Pure Tryz.prog 30 _ (Gm.av ⟨b,[a,⟨a'.name,a'.progs.set i.toNat pg,a'.keep⟩],rights,must,cls,bl,en⟩) none
   refine fun_of tok D_ok Tryz.func30 rfl Tryz.ntmps30 Tryz.results30 (by kernel_rfl) (by simp) (by simp) ?_
   conv=>whnf
   repeat' (first | ((first | refine lvK ?_ | refine And.intro (show (List.map Pg (nth [a,a'] 1).progs).length * 24≤140737488355328 by omega) (And.intro (by omega) (lvN ?_)) | refine CalcL.mk [Kn a,AV.ag [.v (.string a'.name),.ref 13,Bo a'.keep]] rfl (lvN ?_) | refine And.intro Int.one_nonneg (And.intro Nat.one_lt_two (lvN ?_)) | refine ⟨_,rfl,lvN ?_⟩ | refine setF'' (z:=pg) rfl (lvN ?_));apply Cj.mk <;> first | exact trivial | intros) | fail)
   refine ⟨[(2,4,13)],?_⟩
   conv=>whnf
   refine ⟨_,rfl,rfl,?_⟩
   refine leS_of (by kernel_rfl) (by kernel_rfl) ?_ ?_ <;> (conv=>whnf)
   all_goals repeat' (first | exact trivial | with_reducible rfl | (refine srcI ?_;kernel_rfl) | (refine nsI ?_;kernel_rfl) | (refine pubL_two rfl ?_) | (refine And.intro ?_ ?_ <;> conv=>whnf))
   all_goals (unfold Kn;rw [List.map_set];rfl)
end Go.Proofs.YthgobfncgnjimaaGreatDoor
