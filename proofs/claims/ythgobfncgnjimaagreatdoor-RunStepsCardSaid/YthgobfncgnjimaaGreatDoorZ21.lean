/- Contracts of functions of the program, proved by the checker; and plain laws. -/
import Derived.Test.YthgobfncgnjimaaGreatDoorZ20
import Derived.Test.YthgobfncgnjimaaGreatDoorZ11
import Derived.Test.YthgobfncgnjimaaGreatDoorZ18
import Derived.Test.YthgobfncgnjimaaGreatDoorZ16
set_option linter.unusedVariables false
set_option linter.unusedSimpArgs false
namespace Go.Proofs.YthgobfncgnjimaaGreatDoor
open Go Go.Sk
theorem mem_readX {g:Gm} (hg:g.ok) {side:Int} {x:Stp} {s:Rs} (hs:s.ok g) {c:Int} (h:c∈g.readX side x s):0≤c∧c < g.b.cells:=by
 unfold Gm.readX at h
 rcases List.mem_cons.1 h with rfl | h
 ·exact ⟨hs.u0,hs.u1⟩
 ·split at h
  ·rename_i q
   rw [List.mem_singleton] at h
   subst h
   exact ⟨q.2.2,(Bd.to_lt hg.b side x.n s.cur).2⟩
  ·simp at h
theorem mem_readsL {g:Gm} (hg:g.ok) {p:Ps} {cell i:Int} (h:CanRun g p cell i) {c:Int} (hc:c∈g.readsL p cell i):0≤c∧c < g.b.cells:=by
 unfold Gm.readsL Gm.readN at hc
 obtain ⟨k,hk,hc⟩:=List.mem_flatMap.1 hc
 obtain ⟨k0,k1⟩:=mem_ints.1 hk
 unfold Gm.readK Gm.readS at hc
 obtain ⟨s,hs,hc⟩:=List.mem_flatMap.1 hc
 obtain ⟨n,rfl⟩:=Int.eq_ofNat_of_zero_le k0
 exact mem_readX hg ((now_ok hg h n (by omega)).1 s hs) hc
theorem ints_asc (n:Nat):Asc cmpI (ints n):=by
 induction n with
 | zero=>exact List.Pairwise.nil
 | succ n ih =>
  rw [show ((n+1:Nat):Int)=(n:Int)+1 by omega,ints_succ (by omega)]
  unfold Asc
  rw [List.pairwise_append]
  refine ⟨ih,by simp,fun a ha b hb=>?_⟩
  rw [List.mem_singleton] at hb
  subst hb
  have:=mem_ints.1 ha
  unfold cmpI
  rw [if_pos (by omega)];decide
theorem cmpI_le (x y:Int):decide (cmpI x y≤0)=decide (x≤y):=by
 rw [Bool.eq_iff_iff,decide_eq_true_eq,decide_eq_true_eq]
 unfold cmpI
 split
 ·exact ⟨fun _=>by omega,fun _=>by decide⟩
 ·split
  ·exact ⟨fun h=>absurd h (by decide),fun _=>by omega⟩
  ·exact ⟨fun _=>by omega,fun _=>by decide⟩
theorem reads_eq {g:Gm} (hg:g.ok) {p:Ps} {cell i:Int} (h:CanRun g p cell i):ddI ((g.readsL p cell i).mergeSort fun x y=>decide (x≤y)) ((g.readsL p cell i).mergeSort fun x y=>decide (x≤y)).length=g.readsR p cell i:=by
 have e:((g.readsL p cell i).mergeSort fun x y=>decide (x≤y))=sortC cmpI (g.readsL p cell i):=by
  unfold sortC
  congr 1
  funext x y
  exact (cmpI_le x y).symm
 rw [e,ddI_sort cmpI_tot]
 symm
 have hc0:0≤g.b.cells:=by have:=h.c0;have:=h.c1;omega
 refine Asc.canon cmpI_tot ?_ fun x=>?_
 ·unfold Gm.readsR seenI
  obtain ⟨n,hn⟩:=Int.eq_ofNat_of_zero_le hc0
  rw [hn]
  exact List.Pairwise.filter _ (ints_asc n)
 ·unfold Gm.readsR seenI
  rw [List.mem_filter,decide_eq_true_eq]
  exact ⟨fun q=>q.2,fun q=>⟨mem_ints.2 (mem_readsL hg h q),q⟩⟩
set_option maxHeartbeats 4000000 in
set_option maxRecDepth 10000 in
theorem PReads_p (g:Gm) (hg:g.ok) (p:Ps) (cell i:Int) (h:CanRun g p cell i):Pure Tryz.prog 21 [g.av,p.av,I cell,I i] (.tup [Is (g.readsR p cell i),I 0]) none:=by
 have hr:=run2_p g hg p cell i h
 have el8:=(h.pg hg).l8
 have hrl:=readN_len hg h ((g.prog p cell i).length+1) (Nat.le_refl _)
 have hrl2:(g.readsL p cell i).length≤774840978:=by
  unfold Gm.readsL
  have:((g.prog p cell i).length+1) * 86093442≤9 * 86093442:=Nat.mul_le_mul_right _ (by omega)
  have e:(((g.prog p cell i).length+1:Nat):Int)=(g.prog p cell i).length+1:=by omega
  rw [e] at hrl
  omega
 rw [← reads_eq hg h]
 generalize g.readsL p cell i=L at *
 have hs:=SortI_p L (by omega)
 have hc:=CompactI_p (L.mergeSort fun x y=>decide (x≤y)) (by rw [List.length_mergeSort];omega)
 generalize (L.mergeSort fun x y=>decide (x≤y))=S at *
 refine fun_of tok D_ok Tryz.func21 rfl Tryz.ntmps21 Tryz.results21 (by kernel_rfl) (by simp) (by simp) ?_
 conv=>whnf
 repeat' (first | (refine lvK ?_;apply Cj.mk <;> first | exact trivial | intros) | (refine lvE ?_;apply Cj.mk <;> first | exact trivial | intros) | fail)
 refine .inr (.inl ⟨{ tmps:=[(4,.ptr 0 0),(5,.ptr 1 0),(10,.ptr 2 0),(12,g.av),(13,p.av),(14,I cell),(15,I i),(16,.fn (.func 52) [] [.ptr 2 0,.ptr 0 0,.ptr 1 0])],objs:=[(0,.box (cellsA g.av)),(1,.box p.cs),(2,.box [.ref 3]),(3,.arr 1 (([]:List Int).map I))],next:=4,size:=25,par:=[] },exitS [.obj 0,.obj 1,.obj 2,.cell 2 0] (by kernel_rfl) (by kernel_rfl) (by kernel_rfl) (lvL ?_) (lvL ?_),.inl ?_⟩)
 ·apply Cj.mk <;> first | exact trivial | intros
 ·apply Cj.mk <;> first | exact trivial | intros
 conv=>whnf
 refine ⟨[0,1,2,3],_,[g.av,p.av,I cell,I i,fnL2],_,_,⟨rfl,rfl,rfl⟩,hr,lvN ?_⟩
 apply Cj.mk <;> first | exact trivial | intros
 repeat' (first | ((first | refine lvK ?_ | (refine .inr (.inr (.inl ?_));(conv=>whnf);refine ⟨[4],_,[.ref 0],_,_,⟨rfl,rfl,rfl⟩,hs,lvN ?_⟩) | (refine .inr (.inr (.inl ?_));(conv=>whnf);refine ⟨[4],_,[.ref 0],_,_,⟨rfl,rfl,rfl⟩,hc,lvN ?_⟩));apply Cj.mk <;> first | exact trivial | intros) | (refine lvE ?_;apply Cj.mk <;> first | exact trivial | intros) | fail)
def rowB:Bd:=⟨3,[[1,2,-1],[-1,0,1]],[1,0]⟩
def rowG (pg:List Stp):Gm:=⟨rowB,[⟨⟨#[97]⟩,[pg],false⟩],0,false,[],3,2⟩
def plP (a b c s:Int):Ps:=⟨[a,b,c],[0],[0],0,s⟩
def pgS:List Stp:=[⟨2,0⟩]
def pgT:List Stp:=[⟨2,0⟩,⟨4,0⟩,⟨6,0⟩]
def pgP:List Stp:=[⟨1,0⟩,⟨7,0⟩]
def pgG:List Stp:=[⟨1,0⟩]
theorem int01 {d:Int} (h0:0≤d) (h1:d < 2):d=0∨d=1:=by omega
theorem int02 {d:Int} (h0:0≤d) (h1:d < 3):d=0∨d=1∨d=2:=by omega
theorem rowB_ok:rowB.ok where
 c1:=by decide
 c64:=by decide
 n1:=by decide
 n8:=by decide
 tl:=rfl
 ll:=fun d h0 h1=>by rcases int01 h0 h1 with rfl | rfl <;> rfl
 lx:=fun d c h0 h1 c0 c1=>by
  rcases int01 h0 h1 with rfl | rfl <;> rcases int02 c0 c1 with rfl | rfl | rfl <;> decide
 t0:=fun d h0 h1=>by rcases int01 h0 h1 with rfl | rfl <;> decide
theorem rowG_ok {pg:List Stp} (h:PgOk 2 1 0 pg):(rowG pg).ok where
 b:=rowB_ok
 c9:=by show (3:Int)≤9;decide
 k1:=by show (1:Int)≤1;decide
 k6:=by show (1:Int)≤6;decide
 pl:=fun k h0 h1=>by
  have h1:k < 1:=h1
  obtain rfl:k=0:=by omega
  show 1≤8
  decide
 pg:=fun k h0 h1 p hp=>by
  have h1:k < 1:=h1
  obtain rfl:k=0:=by omega
  have hp:p∈[pg]:=hp
  rw [List.mem_singleton] at hp
  subst hp
  exact h
 r0:=by show (0:Int)≤0;decide
 r4:=by show (0:Int)≤4;decide
 cl:=by show 0≤6;decide
 cs:=fun c hc=>by exact absurd hc (by simp [rowG])
 bl:=by show (1:Int)≤3∧(3:Int)≤3;decide
 en:=by show (1:Int)≤2∧(2:Int)≤3;decide
theorem pgOk_of {pg:List Stp} (h1:1≤pg.length) (h8:pg.length≤8) (h:∀ x,x∈pg→(x.op=1∨x.op=2∨x.op=7)∧x.n=0∨(3≤x.op∧x.op≤6)∧x.n=0):PgOk 2 1 0 pg :=
 ⟨h1,h8,fun x hx=>by
  unfold StpOk
  rcases h x hx with h | h
  ·exact .inl ⟨h.1,by omega,by omega⟩
  ·exact .inr (.inl h)⟩
theorem gS_ok:(rowG pgS).ok:=rowG_ok (pgOk_of (by decide) (by decide) (by decide))
theorem gT_ok:(rowG pgT).ok:=rowG_ok (pgOk_of (by decide) (by decide) (by decide))
theorem gP_ok:(rowG pgP).ok:=rowG_ok (pgOk_of (by decide) (by decide) (by decide))
theorem gG_ok:(rowG pgG).ok:=rowG_ok (pgOk_of (by decide) (by decide) (by decide))
theorem run_of {pg:List Stp} {a b c s cell:Int} (h:(plP a b c s).ok (rowG pg)) (c0:0≤cell) (c1:cell < 3) (k0:0≤ofK (nth [a,b,c] cell)) (k1:ofK (nth [a,b,c] cell) < 1) (sd:ofS (nth [a,b,c] cell)=s):CanRun (rowG pg) (plP a b c s) cell 0 :=
 ⟨h,c0,c1,k0,sd,Int.le_refl _,by
  have:ofK (nth (plP a b c s).ct cell)=0:=by show ofK (nth [a,b,c] cell)=0;omega
  rw [this]
  show (0:Int) < 1
  decide⟩
set_option maxRecDepth 10000 in
theorem row_p (pg:List Stp):Pure Tryz.prog 37 [Pg pg] (rowG pg).av none:=by
 refine fun_of tok D_ok Tryz.func37 rfl Tryz.ntmps37 Tryz.results37 (by kernel_rfl) (by simp) (by simp) ?_
 conv=>whnf
 repeat' (first | (refine lvK ?_;apply Cj.mk <;> first | exact trivial | intros) | (refine lvE ?_;apply Cj.mk <;> first | exact trivial | intros) | fail)
set_option maxRecDepth 10000 in
theorem place_p (a b c s:Int):Pure Tryz.prog 38 [I a,I b,I c,I s] (plP a b c s).av none:=by
 refine fun_of tok D_ok Tryz.func38 rfl Tryz.ntmps38 Tryz.results38 (by kernel_rfl) (by simp) (by simp) ?_
 conv=>whnf
 repeat' (first | (refine lvK ?_;apply Cj.mk <;> first | exact trivial | intros) | (refine lvE ?_;apply Cj.mk <;> first | exact trivial | intros) | fail)
set_option maxRecDepth 10000 in
theorem one_p (p:Ps) (hp:p.small) (t:Bool):Pure Tryz.prog 39 [Ous [⟨p,t⟩],p.av,Bo t] (Bo true) none:=by
 have h:=R4Compare_p p p hp hp
 rw [cmpP_tot.self] at h
 cases t
 ·refine fun_of tok D_ok Tryz.func39 rfl Tryz.ntmps39 Tryz.results39 (by kernel_rfl) (by simp) (by simp) ?_
  conv=>whnf
  repeat' (first | ((first | refine lvK ?_ | refine ⟨_,_,h,lvN ?_⟩ | (refine .inl ?_;(conv=>whnf);first | refine ⟨_,_,h,lvN ?_⟩));apply Cj.mk <;> first | exact trivial | intros) | (refine lvE ?_;apply Cj.mk <;> first | exact trivial | intros) | fail)
 ·refine fun_of tok D_ok Tryz.func39 rfl Tryz.ntmps39 Tryz.results39 (by kernel_rfl) (by simp) (by simp) ?_
  conv=>whnf
  repeat' (first | ((first | refine lvK ?_ | refine ⟨_,_,h,lvN ?_⟩ | (refine .inl ?_;(conv=>whnf);first | refine ⟨_,_,h,lvN ?_⟩));apply Cj.mk <;> first | exact trivial | intros) | (refine lvE ?_;apply Cj.mk <;> first | exact trivial | intros) | fail)
theorem ex1:(rowG pgS).runsR (plP 1 0 2 0) 0 0=[⟨plP 0 1 2 1,false⟩]:=by decide +kernel
theorem ex2:(rowG pgT).runsR (plP 1 0 2 0) 0 0=[⟨plP 0 0 1 1,true⟩]:=by decide +kernel
theorem ex3:(rowG pgS).runsR (plP 1 0 2 1) 2 0=[⟨plP 1 2 0 0,false⟩]:=by decide +kernel
theorem ex4:(rowG pgP).runsR (plP 1 1 0 0) 0 0=[⟨plP 0 1 1 1,false⟩]:=by decide +kernel
theorem ex5:(rowG pgG).runsR (plP 1 1 0 0) 0 0=[]:=by decide +kernel
theorem ex6:(rowG pgS).readsR (plP 1 0 2 0) 0 0=[0,1,2]:=by decide +kernel
end Go.Proofs.YthgobfncgnjimaaGreatDoor
