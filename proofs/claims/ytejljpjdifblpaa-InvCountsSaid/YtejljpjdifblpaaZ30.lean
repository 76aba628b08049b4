/- Contracts of functions of the program, proved by the checker; and plain laws. -/
import Derived.Test.YtejljpjdifblpaaZ28
import Derived.Test.YtejljpjdifblpaaZ21
import Derived.Test.YtejljpjdifblpaaZ20
import Derived.Test.YtejljpjdifblpaaZ00
import Derived.Test.YtejljpjdifblpaaZ29
import Derived.Test.YtejljpjdifblpaaZ16
set_option linter.unusedVariables false
set_option linter.unusedSimpArgs false
namespace Go.Proofs.Ytejljpjdifblpaa
open Go Go.Sk
def lineB:Bd:=⟨3,[[1,2,-1]],[0]⟩
theorem lineB_ok:lineB.ok where
 c1:=by decide
 c64:=by decide
 n1:=by decide
 n8:=by decide
 tl:=rfl
 ll:=fun d h0 h1=>by
  have h1:d < 1:=h1
  obtain rfl:d=0:=by omega
  rfl
 lx:=fun d c h0 h1 c0 c1=>by
  have h1:d < 1:=h1
  have c1:c < 3:=c1
  obtain rfl:d=0:=by omega
  have:c=0∨c=1∨c=2:=by omega
  rcases this with rfl | rfl | rfl <;> decide
 t0:=fun d h0 h1=>by
  have h1:d < 1:=h1
  obtain rfl:d=0:=by omega
  decide
theorem lineG_ok {pg:List Stp} (h:PgOk 1 1 0 pg):(lineG pg).ok where
 b:=lineB_ok
 c9:=by show (3:Int)≤9;decide
 k1:=by show (1:Int)≤1;decide
 k6:=by show (1:Int)≤6;decide
 pl:=fun k h0 h1=>by
  have h1:k < 1:=h1
  obtain rfl:k=0:=by omega
  show 1≤8
  decide
 pg:=fun k h0 h1 p hp=>by
  have h1:k < 1:=h1
  obtain rfl:k=0:=by omega
  have hp:p∈[pg]:=hp
  rw [List.mem_singleton] at hp
  subst hp
  exact h
 r0:=by show (0:Int)≤0;decide
 r4:=by show (0:Int)≤4;decide
 cl:=by show 0≤6;decide
 cs:=fun c hc=>by exact absurd hc (by simp [lineG])
 bl:=by show (1:Int)≤3∧(3:Int)≤3;decide
 en:=by show (1:Int)≤2∧(2:Int)≤3;decide
def pg1:List Stp:=[⟨1,0⟩]
def pg2:List Stp:=[⟨1,0⟩,⟨1,0⟩]
theorem go_ok (x:Stp) (h:x=⟨1,0⟩):StpOk 1 1 0 x:=by subst h;exact .inl ⟨.inl rfl,by decide,by decide⟩
theorem gl1:(lineG pg1).ok:=lineG_ok ⟨by decide,by decide,fun x hx=>go_ok x (by simpa [pg1] using hx)⟩
theorem gl2:(lineG pg2).ok:=lineG_ok ⟨by decide,by decide,fun x hx=>go_ok x (by simpa [pg2] using hx)⟩
set_option maxRecDepth 10000 in
theorem line_p (pg:List Stp):Pure Try.prog 12 [Pg pg] (lineG pg).av none:=by
 refine fun_of tok D_ok Try.func12 rfl Try.ntmps12 Try.results12 (by kernel_rfl) (by simp) (by simp) ?_
 conv=>whnf
 repeat' ((first
  | refine lvK ?_
  | refine lvE ?_
  | fail) <;> try (apply Cj.mk <;> first | exact trivial | intros))
theorem exX_ok (s:Int) (hs:s=0∨s=1) (pg:List Stp):(exX s).ok (lineG pg):=validB_ok (by
 show (⟨2,[[0,0,0],[0,1,0],[0,1,0]],[0],[0],[],s⟩:Iv).validB _=true
 unfold Iv.validB
 rcases hs with rfl | rfl <;> rfl)
theorem exP0_ok:exP0.ok (lineG pg1):=by decide +kernel
theorem exQ0_ok:exQ0.ok (lineG pg1):=by decide +kernel
theorem ex_ref:refA (lineG pg1) exP0 exQ0 [exX 0,exX 1]=.tup [I 1,I 0]∧refA (lineG pg1) exP0 exP0 [exX 0,exX 1]=.tup [I 0,I 270]:=by
 have h0:refB (lineG pg1) exP0 exQ0 (exX 0)=false:=by decide +kernel
 have h1:refB (lineG pg1) exP0 exQ0 (exX 1)=true:=by decide +kernel
 have h2:refB (lineG pg1) exP0 exP0 (exX 0)=false:=by decide +kernel
 have h3:refB (lineG pg1) exP0 exP0 (exX 1)=false:=by decide +kernel
 refine ⟨refA_some (i:=1) (by decide) (by decide) h1 fun j j0 j1=>?_,refA_none fun j j0 j1=>?_⟩
 ·obtain rfl:j=0:=by omega
  exact h0
 ·have j1:j < 2:=j1
  have:j=0∨j=1:=by omega
  rcases this with rfl | rfl
  ·exact h2
  ·exact h3
def nilI:Iv:=⟨0,[],[],[],[],0⟩
theorem zero_ex:zeroI (lineG pg1) 2=⟨2,[[0,0,0],[0,0,0],[0,0,0]],[0],[0],[],0⟩:=rfl
theorem exX_rows (s:Int):∀ l,l∈(exX s).men→l.length≤1000000:=fun l hl=>by
 have:l=[0,0,0]∨l=[0,1,0]:=by simpa [exX] using hl
 rcases this with rfl | rfl <;> decide
theorem exX_sz (s:Int):(exX s).sz:=⟨by show 3≤1000000;decide,exX_rows s,by show 1≤1000000;decide,by show 1≤1000000;decide,by show 0≤1000000;decide⟩
theorem nilI_rows:∀ l,l∈nilI.men→l.length≤1000000:=fun l hl=>by exact absurd hl (by simp [nilI])
theorem nilI_sz:nilI.sz:=⟨by show 0≤1000000;decide,nilI_rows,by show 0≤1000000;decide,by show 0≤1000000;decide,by show 0≤1000000;decide⟩
set_option maxHeartbeats 8000000 in
set_option maxRecDepth 10000 in
theorem sanity28_p:Pure Try.prog 5 [] (Bo true) none:=by
 have l1:=line_p pg1
 have l2:=line_p pg2
 have hz:=Zero_p (lineG pg1) gl1 2
 rw [zero_ex] at hz
 have hsz:∀ x,x∈[exX 0,exX 1]→x.sz:=fun x hx=>by
  have:x=exX 0∨x=exX 1:=by simpa using hx
  rcases this with rfl | rfl <;> exact exX_sz _
 have r1:=Refute_p (lineG pg1) gl1 exP0 exQ0 exP0_ok exQ0_ok [exX 0,exX 1] hsz (by decide)
 rw [ex_ref.1] at r1
 have r2:=Refute_p (lineG pg1) gl1 exP0 exP0 exP0_ok exP0_ok [exX 0,exX 1] hsz (by decide)
 rw [ex_ref.2] at r2
 have k1:=Kept_p (lineG pg2) gl2 (exX 0) (exX_ok 0 (.inl rfl) pg2)
 rw [show (exX 0).keptB (lineG pg2)=true from congrArg (·.1) ex_kept] at k1
 have k2:=Kept_p (lineG pg1) gl1 (exX 0) (exX_ok 0 (.inl rfl) pg1)
 rw [show (exX 0).keptB (lineG pg1)=false from congrArg (·.2.1) ex_kept] at k2
 have k3:=Kept_p (lineG pg1) gl1 (exX 1) (exX_ok 1 (.inr rfl) pg1)
 rw [show (exX 1).keptB (lineG pg1)=true from congrArg (·.2.2.1) ex_kept] at k3
 have k4:=Kept_p (lineG pg2) gl2 (exX 1) (exX_ok 1 (.inr rfl) pg2)
 rw [show (exX 1).keptB (lineG pg2)=false from congrArg (·.2.2.2) ex_kept] at k4
 have v1:=Valid_p (lineG pg1) gl1 (exX 0) (exX_sz 0)
 rw [show (exX 0).validB (lineG pg1)=true from ex_valid.1] at v1
 have v2:=Valid_p (lineG pg1) gl1 nilI nilI_sz
 rw [show nilI.validB (lineG pg1)=false from ex_valid.2.2] at v2
 have w1:=Value_p (lineG pg1) gl1 (exX 0) (exX_ok 0 (.inl rfl) pg1) exP0 exP0_ok
 rw [show (exX 0).val (lineG pg1) exP0=0 from ex_val.1] at w1
 have w2:=Value_p (lineG pg1) gl1 (exX 0) (exX_ok 0 (.inl rfl) pg1) exQ0 exQ0_ok
 rw [show (exX 0).val (lineG pg1) exQ0=1 from ex_val.2.1] at w2
 generalize lineG pg1=g1 at *
 generalize lineG pg2=g2 at *
 unfold exP0 at r1 r2 w1
 unfold exQ0 at r1 w2
 unfold exX at r1 r2 k1 k2 k3 k4 v1 w1 w2
 unfold nilI at v2
 refine fun_cut 2 [] tok D_ok Try.func5 rfl Try.ntmps5 Try.results5 (by kernel_rfl) (by simp) (by simp) fun R1 hR1=>?_
 conv=>whnf
 repeat' ((first
  | refine lvK ?_
  | (refine .inr (.inl ?_);(conv=>whnf);refine ⟨_,_,l1,lvN ?_⟩)
  | refine lvE ?_
  | fail) <;> try (apply Cj.mk <;> first | exact trivial | intros))
 try dsimp only [St.after,St.afterAt,St.pin,St.unpin,initSt,initT,numO,cellsA,Option.map,ren,renL,renO,St.setObj,headSt,List.cons_append,List.nil_append,List.length_nil,Nat.reduceAdd]
 refine hR1 _ ?_
 refine vc_cutT 1 fun R2 hR2=>?_
 conv=>whnf
 repeat' ((first
  | refine lvK ?_
  | (refine .inr (.inl ?_);(conv=>whnf);refine ⟨_,_,l2,lvN ?_⟩)
  | refine lvE ?_
  | fail) <;> try (apply Cj.mk <;> first | exact trivial | intros))
 try dsimp only [St.after,St.afterAt,St.pin,St.unpin,initSt,initT,numO,cellsA,Option.map,ren,renL,renO,St.setObj,headSt,List.cons_append,List.nil_append,List.length_nil,Nat.reduceAdd]
 refine hR2 _ ?_
 refine vc_cutT 2 fun R3 hR3=>?_
 conv=>whnf
 repeat' ((first
  | refine lvK ?_
  | refine lvE ?_
  | fail) <;> try (apply Cj.mk <;> first | exact trivial | intros))
 try dsimp only [St.after,St.afterAt,St.pin,St.unpin,initSt,initT,numO,cellsA,Option.map,ren,renL,renO,St.setObj,headSt,List.cons_append,List.nil_append,List.length_nil,Nat.reduceAdd]
 refine hR3 _ ?_
 refine vc_cutT 1 fun R4 hR4=>?_
 conv=>whnf
 repeat' ((first
  | refine lvK ?_
  | (refine .inr (.inl ?_);(conv=>whnf);refine ⟨[],[],_,_,_,⟨rfl,rfl,rfl⟩,hz,lvN ?_⟩)
  | refine lvE ?_
  | fail) <;> try (apply Cj.mk <;> first | exact trivial | intros))
 try dsimp only [St.after,St.afterAt,St.pin,St.unpin,initSt,initT,numO,cellsA,Option.map,ren,renL,renO,St.setObj,headSt,List.cons_append,List.nil_append,List.length_nil,Nat.reduceAdd]
 refine hR4 _ ?_
 refine vc_cutT 1 fun R5 hR5=>?_
 conv=>whnf
 repeat' ((first
  | refine lvK ?_
  | refine lvE ?_
  | fail) <;> try (apply Cj.mk <;> first | exact trivial | intros))
 refine And.intro (by decide) (And.intro (by show _ < 3;decide) (lvN ?_))
 apply Cj.mk <;> first | exact trivial | intros
 refine ⟨_,rfl,CalcL.mk [.own 1 [I 0,I 0,I 0],.own 1 [I 0,I 1,I 0],.own 1 [I 0,I 0,I 0]] rfl (lvN ?_)⟩
 apply Cj.mk <;> first | exact trivial | intros
 try dsimp only [St.after,St.afterAt,St.pin,St.unpin,initSt,initT,numO,cellsA,Option.map,ren,renL,renO,St.setObj,headSt,List.cons_append,List.nil_append,List.length_nil,Nat.reduceAdd]
 refine hR5 _ ?_
 refine vc_cutT 1 fun R6 hR6=>?_
 conv=>whnf
 repeat' ((first
  | refine lvK ?_
  | refine lvE ?_
  | fail) <;> try (apply Cj.mk <;> first | exact trivial | intros))
 refine And.intro (by decide) (And.intro (by show _ < 3;decide) (lvN ?_))
 apply Cj.mk <;> first | exact trivial | intros
 refine ⟨_,rfl,CalcL.mk [.own 1 [I 0,I 0,I 0],.own 1 [I 0,I 1,I 0],.own 1 [I 0,I 1,I 0]] rfl (lvN ?_)⟩
 apply Cj.mk <;> first | exact trivial | intros
 try dsimp only [St.after,St.afterAt,St.pin,St.unpin,initSt,initT,numO,cellsA,Option.map,ren,renL,renO,St.setObj,headSt,List.cons_append,List.nil_append,List.length_nil,Nat.reduceAdd]
 refine hR6 _ ?_
 refine vc_cutT 2 fun R7 hR7=>?_
 conv=>whnf
 repeat' ((first
  | refine lvK ?_
  | refine lvE ?_
  | fail) <;> try (apply Cj.mk <;> first | exact trivial | intros))
 try dsimp only [St.after,St.afterAt,St.pin,St.unpin,initSt,initT,numO,cellsA,Option.map,ren,renL,renO,St.setObj,headSt,List.cons_append,List.nil_append,List.length_nil,Nat.reduceAdd]
 refine hR7 _ ?_
 exact vcS (sanS g1 g2) (by kernel_rfl) (sanT g1 g2 r1 r2 k1 k2 k3 k4 v1 v2 w1 w2)
structure RowM (g:Gm) (n:Int) (T:Int→List (List Int)):Prop where
 tl:∀ c:Int,((T c).length:Int)=2 * g.nk+1
 rl:∀ c:Int,((nth (T c) n).length:Int)=g.b.cells
 t0:T 0=(zeroI g 128).men
 ts:∀ c:Int,0≤c→(T c).set n.toNat ((nth (T c) n).set c.toNat 1)=T (c+1)
 te:T g.b.cells=(rowI g 128 n).men
theorem rowM (g:Gm) (hg:g.ok) {n:Int} (n0:0≤n) (n1:n≤2 * g.nk):∃ T,RowM g n T:=by
 have k1:=hg.k1
 have c1:=hg.b.c1
 refine ⟨fun c=>tabL (2 * g.nk+1) g.b.cells fun m d=>if m=n∧d < c then 1 else 0,fun c=>tabL_len (by omega),fun c=>tabL_rlen n0 (by omega) (by omega),?_,fun c c0=>?_,?_⟩
 ·rw [zeroI_men]
  exact tabL_congr fun m d m0 m1 d0 d1=>if_neg (by omega)
 ·rw [tabL_set n0 (by omega) c0]
  refine tabL_congr fun m d m0 m1 d0 d1=>?_
  by_cases e:m=n∧d=c
  ·rw [if_pos e,if_pos ⟨e.1,by omega⟩]
  ·rw [if_neg e]
   congr 1
   exact propext ⟨fun q=>⟨q.1,by omega⟩,fun q=>⟨q.1,by omega⟩⟩
 ·exact tabL_congr fun m d m0 m1 d0 d1=>by
   congr 1
   exact propext ⟨fun q=>q.1,fun q=>⟨q,d1⟩⟩
theorem row_cnt {g:Gm} {n:Int} (n0:1≤n):rowI g 128 n=cntI g [n] []:=by
 unfold rowI cntI
 congr 1
 ·refine List.map_congr_left fun m _=>List.map_congr_left fun d _=>?_
  congr 1
  exact propext ⟨fun e=>⟨by omega,by simp [e]⟩,fun e=>by simpa using e.2⟩
set_option maxHeartbeats 8000000 in
set_option maxRecDepth 10000 in
theorem InvCounts_p (x:R6) (hx:x.ok) (w0 w1:Int) (hw:b8 w0∧b8 w1):Pure Try.prog 4 [.ag x.cs,.ag [U8 w0,U8 w1]] (Bo true) none:=by
 have hm:=Made6_p x hx
 have hg:=R6.gm_ok hx
 have hp:=R6.ps_ok hx
 generalize x.gm=g at *
 generalize x.ps=p at *
 have hs:=sanity28_p
 have k1:=hg.k1
 have k6:=hg.k6
 have c9:=hg.c9
 have c1:=hg.b.c1
 have hlen:=hp.len
 have hnk:g.nk=g.kinds.length:=rfl
 have en:(g.kinds.map Kn).length=g.kinds.length:=List.length_map _
 have ep:(p.ct.map I).length=p.ct.length:=List.length_map _
 have hw0:0≤w0∧w0≤255:=hw.1
 have hw1:0≤w1∧w1≤255:=hw.2
 obtain ⟨n,hn⟩:∃ n,n=1+w0 % (2 * g.nk):=⟨_,rfl⟩
 have n0:0≤w0 % (2 * g.nk):=Int.emod_nonneg _ (by omega)
 have n1:w0 % (2 * g.nk) < 2 * g.nk:=Int.emod_lt_of_pos _ (by omega)
 have hlk:((g.kinds.map Kn).length:Int)=g.nk:=by omega
 have c0:0≤w1 % g.b.cells:=Int.emod_nonneg _ (by omega)
 have c1':w1 % g.b.cells < g.b.cells:=Int.emod_lt_of_pos _ (by omega)
 have hz:=Zero_p g hg 128
 have hz2:=Zero_p g hg 2
 obtain ⟨T,hT⟩:=rowM g hg (n:=n) (by omega) (by omega)
 unfold Iv.rf Iv.ow at hz hz2
 rw [← hT.t0] at hz
 refine fun_of tok D_ok Try.func4 rfl Try.ntmps4 Try.results4 (by kernel_rfl) (by simp) (by simp) ?_
 conv=>whnf
 repeat' ((first
  | refine lvK ?_
  | refine ⟨_,_,hs,lvN ?_⟩
  | (refine .inl ?_;(conv=>whnf);refine ⟨_,_,hs,lvN ?_⟩)
  | refine ⟨_,_,hm,lvN ?_⟩
  | (refine .inl ?_;(conv=>whnf);refine ⟨_,_,hm,lvN ?_⟩)
  | (rewrite [hlk,← hn];refine calI (by omega) (lvN ?_))
  | (refine .inr (.inl ?_);(conv=>whnf);refine ⟨[],[],_,_,_,⟨rfl,rfl,rfl⟩,hz,lvN ?_⟩)
  | fail) <;> try (apply Cj.mk <;> first | exact trivial | intros))
 dsimp only [prs,renO]
 rewrite [renOw]
 generalize w1 % g.b.cells=c at *
 have hv1:=Value_p g hg (rowI g 128 n) (by rw [show rowI g 128 n=cntI g [n] [] from row_cnt (by omega)];exact cntI_ok hg _ _) p hp
 rw [row_val hg hp] at hv1
 have hv2:=Value_p g hg (cellI g 2 n c) (cellI_ok hg (by decide) (by decide) _ _) p hp
 rw [cell_val hp c0 c1'] at hv2
 have hco:=RCount_p g hg p hp n
 generalize cntC p n=cn at *
 refine loopQ fun R hR=>?_
 refine .of (fun k=>[(11,I k)]) (fun k=>[(4,.tre 1 ((T k).map Ow))]) 9 (fun k=>0≤k∧k≤g.b.cells) (fun k=>(g.b.cells - k).toNat) 0 ?_
 conv=>whnf
 refine ⟨⟨[],hdA (lvL ?_) (lvL ?_)⟩,?_,fun k ⟨q0,q1⟩=>lvN ?_⟩ <;> (try (apply Cj.mk <;> first | exact trivial | intros))
 ·exact bdOw _ _ ‹_›
 ·exact ⟨by omega,by omega⟩
 have htl:=hT.tl k
 have hrl:=hT.rl k
 have er:((nth (T k) n).map I).length=(nth (T k) n).length:=List.length_map _
 have et:((T k).map Ow).length=(T k).length:=List.length_map _
 have ho:=outOw (l:=T k) (n:=n) (by omega) (by omega)
 by_cases hk:k < g.b.cells
 ·repeat' ((first
   | refine lvK ?_
   | refine ⟨_,ho,lvN ?_⟩
   | fail) <;> try (apply Cj.mk <;> first | exact trivial | intros))
  refine ⟨k+1,⟨[(4,n.toNat,9)],refOw (by omega) (by omega),(by kernel_rfl),(by kernel_rfl),(by kernel_rfl),lvL ?_,lvL ?_⟩,?_,by (try dsimp only);omega,rfl⟩ <;> (try (apply Cj.mk <;> first | exact trivial | intros))
  ·rw [backOw,hT.ts k q0]
  ·rename_i hm
   rw [backOw] at hm
   exact bdOw _ _ hm
  ·exact ⟨by omega,by omega⟩
 ·obtain rfl:k=g.b.cells:=by omega
  rw [hT.te]
  repeat' ((first
   | refine lvK ?_
   | fail) <;> try (apply Cj.mk <;> first | exact trivial | intros))
  refine hR _ _ ?_
  conv=>whnf
  try dsimp only [St.after,St.afterAt,St.pin,St.unpin,initSt,initT,numO,cellsA,Option.map,ren,renL,renO,St.setObj,headSt,List.cons_append,List.nil_append,List.length_nil,Nat.reduceAdd]
  obtain ⟨z,hzz⟩:∃ z,z=zeroI g 2:=⟨_,rfl⟩
  have hzl:(z.men.length:Int)=2 * g.nk+1:=by rw [hzz,zeroI_men];exact tabL_len (by omega)
  have hzw:((nth z.men n).length:Int)=g.b.cells:=by rw [hzz,zeroI_men];exact tabL_rlen (by omega) (by omega) (by omega)
  have ezm:(z.men.map Ow).length=z.men.length:=List.length_map _
  have ezr:((nth z.men n).map I).length=(nth z.men n).length:=List.length_map _
  have hzo:=outOw (l:=z.men) (n:=n) (by omega) (by omega)
  have hset:=cell_set (n:=n) (c:=c) hg (by omega) (by omega) c0 2
  rw [← hzz] at hz2 hset
  have hcl:(cellI g 2 n c).av=.ag [I z.mod,Iss (cellI g 2 n c).men,Is z.h0,Is z.h1,Is z.rights,I z.side]:=by rw [hzz];rfl
  have hrl:(rowI g 128 n).av=.ag [I (zeroI g 128).mod,Iss (rowI g 128 n).men,Is (zeroI g 128).h0,Is (zeroI g 128).h1,Is (zeroI g 128).rights,I (zeroI g 128).side]:=rfl
  rw [hcl] at hv2
  rw [hrl] at hv1
  clear hcl hrl
  generalize (rowI g 128 n).men=RM at *
  generalize (cellI g 2 n c).men=CM at *
  generalize zeroI g 128=z1 at *
  by_cases hcn:nth p.ct c=n
  ·
   rw [if_pos hcn] at hv2
   repeat' ((first
    | refine lvK ?_
    | (refine .inr (.inl ?_);(conv=>whnf);refine ⟨[],[],_,_,_,⟨rfl,rfl,rfl⟩,hz2,lvN ?_⟩)
    | fail) <;> try (apply Cj.mk <;> first | exact trivial | intros))
   dsimp only [prs,renO]
   rewrite [renOw]
   repeat' ((first
    | refine lvD ?_
    | refine ⟨_,hzo,lvN ?_⟩
    | refine ShowsJ.mk (by kernel_rfl) (by kernel_rfl) (by kernel_rfl) (lvL ?_) (lvL ?_) rfl
    | refine lvE ?_
    | fail) <;> try (apply Cj.mk <;> first | exact trivial | intros))
   refine drawB [(9,n.toNat,14)] [4,5,6,7,9,10,11,12] ?_
   conv=>whnf
   try dsimp only [St.after,St.afterAt,St.pin,St.unpin,initSt,initT,numO,cellsA,Option.map,ren,renL,renO,St.setObj,headSt,List.cons_append,List.nil_append,List.length_nil,Nat.reduceAdd]
   refine ⟨List.getElem?_set_self (by rw [List.length_map];omega),?_⟩
   conv=>whnf
   rewrite [backOw,hset]
   refine ⟨rfl,okOw _,.mk _ (lendOw _) ?_⟩
   conv=>whnf
   refine ⟨rfl,okOw _,.mk _ (lendOw _) ?_⟩
   conv=>whnf
   repeat' ((first
    | refine lvK ?_
    | refine ⟨_,_,hv1,lvN ?_⟩
    | (refine .inl ?_;(conv=>whnf);refine ⟨_,_,hv1,lvN ?_⟩)
    | refine ⟨_,_,hv2,lvN ?_⟩
    | (refine .inl ?_;(conv=>whnf);refine ⟨_,_,hv2,lvN ?_⟩)
    | refine ⟨_,_,hco,lvN ?_⟩
    | (refine .inl ?_;(conv=>whnf);refine ⟨_,_,hco,lvN ?_⟩)
    | refine lvE ?_
    | fail) <;> try (apply Cj.mk <;> first | exact trivial | intros))
  ·
   rw [if_neg hcn] at hv2
   repeat' ((first
    | refine lvK ?_
    | (refine .inr (.inl ?_);(conv=>whnf);refine ⟨[],[],_,_,_,⟨rfl,rfl,rfl⟩,hz2,lvN ?_⟩)
    | fail) <;> try (apply Cj.mk <;> first | exact trivial | intros))
   dsimp only [prs,renO]
   rewrite [renOw]
   repeat' ((first
    | refine lvD ?_
    | refine ⟨_,hzo,lvN ?_⟩
    | refine ShowsJ.mk (by kernel_rfl) (by kernel_rfl) (by kernel_rfl) (lvL ?_) (lvL ?_) rfl
    | refine lvE ?_
    | fail) <;> try (apply Cj.mk <;> first | exact trivial | intros))
   refine drawB [(9,n.toNat,14)] [4,5,6,7,9,10,11,12] ?_
   conv=>whnf
   try dsimp only [St.after,St.afterAt,St.pin,St.unpin,initSt,initT,numO,cellsA,Option.map,ren,renL,renO,St.setObj,headSt,List.cons_append,List.nil_append,List.length_nil,Nat.reduceAdd]
   refine ⟨List.getElem?_set_self (by rw [List.length_map];omega),?_⟩
   conv=>whnf
   rewrite [backOw,hset]
   refine ⟨rfl,okOw _,.mk _ (lendOw _) ?_⟩
   conv=>whnf
   refine ⟨rfl,okOw _,.mk _ (lendOw _) ?_⟩
   conv=>whnf
   repeat' ((first
    | refine lvK ?_
    | refine ⟨_,_,hv1,lvN ?_⟩
    | (refine .inl ?_;(conv=>whnf);refine ⟨_,_,hv1,lvN ?_⟩)
    | refine ⟨_,_,hv2,lvN ?_⟩
    | (refine .inl ?_;(conv=>whnf);refine ⟨_,_,hv2,lvN ?_⟩)
    | refine ⟨_,_,hco,lvN ?_⟩
    | (refine .inl ?_;(conv=>whnf);refine ⟨_,_,hco,lvN ?_⟩)
    | refine lvE ?_
    | fail) <;> try (apply Cj.mk <;> first | exact trivial | intros))
end Go.Proofs.Ytejljpjdifblpaa
