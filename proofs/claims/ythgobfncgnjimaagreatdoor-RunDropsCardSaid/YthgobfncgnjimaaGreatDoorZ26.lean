/- Contracts of functions of the program, proved by the checker. -/
import Derived.Test.YthgobfncgnjimaaGreatDoorZ21
import Derived.Test.YthgobfncgnjimaaGreatDoorZ15
import Derived.Test.YthgobfncgnjimaaGreatDoorZ22
set_option linter.unusedVariables false
set_option linter.unusedSimpArgs false
namespace Go.Proofs.YthgobfncgnjimaaGreatDoor
open Go Go.Sk
theorem put_len1 {α:Type} {c:α→α→Int} (h:Tot c) {x:α}:∀ {l:List α},x ∉ l→(put c x l).length=l.length+1
 | [],_=>rfl
 | y :: r,hx=>by
  rcases Int.lt_trichotomy (c x y) 0 with q | q | q
  ·rw [put_stop q];rfl
  ·exact absurd ((h.eq0 x y).1 q) (fun e=>hx (by simp [e]))
  ·rw [put_on q,List.length_cons,put_len1 h (fun q=>hx (List.mem_cons_of_mem _ q)),List.length_cons]
theorem canon_len1 {α:Type} {c:α→α→Int} (h:Tot c):∀ {l:List α},l.Nodup→(canon c l).length=l.length
 | [],_=>rfl
 | y :: r,hn=>by
  have:=List.nodup_cons.1 hn
  unfold canon
  rw [put_len1 h (fun q=>this.1 ((mem_canon h).1 q)),canon_len1 h this.2,List.length_cons]
def kindsN (l:List Int) (n:Int):Int:=((ints n).filter fun k=>decide (nth l k > 0)).length
def emptyN (l:List Int) (n:Int):Int:=((ints n).filter fun c=>decide (nth l c=0)).length
theorem kindsN_succ (l:List Int) {n:Int} (h:0≤n):kindsN l (n+1)=kindsN l n+(if nth l n > 0 then 1 else 0):=by
 unfold kindsN
 rw [filter_ints_succ h,List.length_append]
 by_cases q:nth l n > 0
 ·rw [if_pos (decide_eq_true q),if_pos q];simp
 ·rw [if_neg (by simpa using q),if_neg q];simp
theorem emptyN_succ (l:List Int) {n:Int} (h:0≤n):emptyN l (n+1)=emptyN l n+(if nth l n=0 then 1 else 0):=by
 unfold emptyN
 rw [filter_ints_succ h,List.length_append]
 by_cases q:nth l n=0
 ·rw [if_pos (decide_eq_true q),if_pos q];simp
 ·rw [if_neg (by simpa using q),if_neg q];simp
theorem kindsN_rg (l:List Int) (n:Int):0≤kindsN l n∧kindsN l n≤n.toNat:=by
 have:=filter_ints_le n fun k=>decide (nth l k > 0)
 unfold kindsN;omega
theorem emptyN_rg (l:List Int) (n:Int):0≤emptyN l n∧emptyN l n≤n.toNat:=by
 have:=filter_ints_le n fun k=>decide (nth l k=0)
 unfold emptyN;omega
theorem canDrop_iff {p:Ps} {k c:Int}:canDrop p k c=true↔nth p.hand k≠0∧nth p.ct c=0:=by
 unfold canDrop
 simp
theorem dropC_len1 (p:Ps) (k n:Int):((dropC p k n).length:Int)=if nth p.hand k≠0 then emptyN p.ct n else 0:=by
 unfold dropC emptyN
 rw [List.length_map]
 by_cases h:nth p.hand k≠0
 ·rw [if_pos h]
  congr 2
  apply List.filter_congr
  intro c _
  rw [Bool.eq_iff_iff,canDrop_iff,decide_eq_true_eq]
  exact ⟨fun q=>q.2,fun q=>⟨h,q⟩⟩
 ·rw [if_neg h,List.filter_eq_nil_iff.2 fun c _=>by rw [canDrop_iff];exact fun q=>h q.1]
  rfl
theorem hand_ok {g:Gm} {p:Ps} (h:p.ok g):HdOk g p.hand:=by
 unfold Ps.hand
 split
 ·exact h.h0
 ·exact h.h1
theorem dropK_len1 {g:Gm} {p:Ps} (h:p.ok g) (cells:Int):∀ n:Nat,(n:Int)≤g.nk→((dropK p cells n).length:Int)=kindsN p.hand n * emptyN p.ct cells
 | 0,_=>by simp [dropK,kindsN,ints]
 | n+1,hn=>by
  have ih:=dropK_len1 h cells n (by omega)
  have hv:=(hand_ok h).v n (by omega) (by omega)
  rw [show ((n+1:Nat):Int)=(n:Int)+1 by omega,dropK_succ p cells (by omega),kindsN_succ _ (by omega),List.length_append,Int.natCast_add,ih,dropC_len1,Int.add_mul]
  congr 1
  by_cases q:nth p.hand n≠0
  ·rw [if_pos q,if_pos (by omega),Int.one_mul]
  ·rw [if_neg q,if_neg (by omega),Int.zero_mul]
theorem dropQ_inj {g:Gm} (hg:g.ok) {p:Ps} (h:p.ok g) {k k' c c':Int} (k0:0≤k) (k1:k < g.nk) (k0':0≤k') (k1':k' < g.nk) (c0:0≤c) (c1:c < g.b.cells) (c0':0≤c') (c1':c' < g.b.cells) (hd:canDrop p k c=true) (hd':canDrop p k' c'=true) (e:dropQ p k c=dropQ p k' c'):k=k'∧c=c':=by
 have hlen:=h.len
 have z:=(canDrop_iff.1 hd).2
 have z':=(canDrop_iff.1 hd').2
 have q1:=code_rg k0 k1 hg.k6 h.s
 have q2:=code_rg k0' k1' hg.k6 h.s
 have hs:=h.s
 have ec:p.ct.set c.toNat (code k p.side)=p.ct.set c'.toNat (code k' p.side):=congrArg Ps.ct e
 have e1:nth (p.ct.set c.toNat (code k p.side)) c=nth (p.ct.set c'.toNat (code k' p.side)) c:=by rw [ec]
 rw [nth_set c0 c0 (by omega),if_pos rfl,nth_set c0' c0 (by omega)] at e1
 by_cases hc:c'=c
 ·rw [if_pos hc] at e1
  exact ⟨by omega,hc.symm⟩
 ·rw [if_neg hc] at e1
  omega
theorem ints_ne (n:Nat):(ints n).Pairwise fun a b=>a≠b:=(ints_asc n).imp fun h=>cmpI_tot.irr h
theorem dropsL_nodup {g:Gm} (hg:g.ok) {p:Ps} (h:p.ok g):(g.dropsL p).Nodup:=by
 have hb:=hg.b.c1
 obtain ⟨m,hm⟩:=Int.eq_ofNat_of_zero_le (show 0≤g.b.cells by omega)
 have key:∀ n:Nat,(n:Int)≤g.nk→(dropK p g.b.cells n).Nodup:=fun n=>by
  induction n with
  | zero=>intro _;simp [dropK,ints]
  | succ n ih =>
   intro hn
   rw [show ((n+1:Nat):Int)=(n:Int)+1 by omega,dropK_succ p g.b.cells (by omega),List.nodup_append]
   refine ⟨ih (by omega),?_,fun a ha b hb'=>?_⟩
   ·unfold dropC List.Nodup
    rw [List.pairwise_map,hm]
    refine ((ints_ne m).filter _).imp_of_mem fun {a b} ha hb' hne e=>hne ?_
    have h1:=List.mem_filter.1 ha
    have h2:=List.mem_filter.1 hb'
    have r1:=mem_ints.1 h1.1
    have r2:=mem_ints.1 h2.1
    exact (dropQ_inj hg h (by omega) (by omega) (by omega) (by omega) r1.1 (by omega) r2.1 (by omega) h1.2 h2.2 e).2
   ·rintro rfl
    unfold dropK at ha
    obtain ⟨k,hk,ha⟩:=List.mem_flatMap.1 ha
    unfold dropC at ha hb'
    obtain ⟨c,hc,e1⟩:=List.mem_map.1 ha
    obtain ⟨c',hc',e2⟩:=List.mem_map.1 hb'
    have h1:=List.mem_filter.1 hc
    have h2:=List.mem_filter.1 hc'
    have r0:=mem_ints.1 hk
    have r1:=mem_ints.1 h1.1
    have r2:=mem_ints.1 h2.1
    have:=(dropQ_inj hg h r0.1 (by omega) (by omega) (by omega) r1.1 r1.2 r2.1 r2.2 h1.2 h2.2 (e1.trans e2.symm)).1
    omega
 unfold Gm.dropsL
 have:=key g.kinds.length (by show ((g.kinds.length:Nat):Int)≤g.nk;exact Int.le_refl _)
 exact this
theorem drops_count {g:Gm} (hg:g.ok) {p:Ps} (h:p.ok g):((canon cmpP (g.dropsL p)).length:Int)=kindsN p.hand g.nk * emptyN p.ct g.b.cells:=by
 rw [canon_len1 cmpP_tot (dropsL_nodup hg h)]
 exact dropK_len1 h g.b.cells g.kinds.length (Int.le_refl _)
theorem mem_dropsL {g:Gm} {p q:Ps} (hq:q∈g.dropsL p):∃ k c:Int,0≤k∧k < g.nk∧0≤c∧c < g.b.cells∧canDrop p k c=true∧q=dropQ p k c:=by
 unfold Gm.dropsL dropK dropC at hq
 obtain ⟨k,hk,hq⟩:=List.mem_flatMap.1 hq
 obtain ⟨c,hc,rfl⟩:=List.mem_map.1 hq
 have h1:=mem_ints.1 hk
 have h2:=List.mem_filter.1 hc
 have h3:=mem_ints.1 h2.1
 exact ⟨k,c,h1.1,h1.2,h3.1,h3.2,h2.2,rfl⟩
set_option maxRecDepth 10000 in
theorem Copied_p (p:Ps) (hp:p.small):Fun Tryz.prog 22 [] [p.av] (.ag [.ref 0,.ref 1,.ref 2,I p.rights,I p.side]) [.arr 1 (p.ct.map I),.arr 1 (p.h0.map I),.arr 1 (p.h1.map I)]:=by
 have cp:=copied_p p hp
 refine fun_of tok D_ok Tryz.func22 rfl Tryz.ntmps22 Tryz.results22 (by kernel_rfl) (by simp) (by simp) ?_
 conv=>whnf
 repeat' (first | ((first | refine lvK ?_ | (refine .inr (.inl ?_);(conv=>whnf);refine ⟨[],[],[p.av],_,_,⟨rfl,rfl,rfl⟩,cp,lvN ?_⟩));apply Cj.mk <;> first | exact trivial | intros) | (refine lvE ?_;apply Cj.mk <;> first | exact trivial | intros) | fail)
end Go.Proofs.YthgobfncgnjimaaGreatDoor
