/- Contracts of functions of the program, proved by the checker; and plain laws. -/
import Derived.Test.YtejljpjdifblpaaZ23
import Derived.Test.YtejljpjdifblpaaZ00
set_option linter.unusedVariables false
set_option linter.unusedSimpArgs false
namespace Go.Proofs.Ytejljpjdifblpaa
open Go Go.Sk
def Gm.cA (g:Gm):List AV:=[I g.b.cells,Iss g.b.next,Is g.b.turn,.sl (g.kinds.map Kn),I g.rights,Bo g.must,.sl (g.cls.map Ca),I g.blocked,I g.endless]
def FnProg:AV:=.fn (.func 33) [] [.ptr 0 0,.ptr 1 0,.ptr 2 0]
set_option maxRecDepth 10000 in
theorem prog1_p (g:Gm) (hg:g.ok) (side cell:Int) (pg:List Stp) (h8:pg.length≤8) :
  Fun Try.prog 33 [.box g.cA,.box [I side],.box [I cell]] [Pg pg,.ptr 0 0,.ptr 1 0,.ptr 2 0] (Pas (pathsR g.b side pg cell)) [.box g.cA,.box [I side],.box [I cell]]:=by
 have h:=paths_p g.b hg.b hg.c9 side pg h8 cell
 generalize pathsR g.b side pg cell=l at *
 unfold Gm.cA
 refine fun_of tok D_ok Try.func33 rfl Try.ntmps33 Try.results33 (by kernel_rfl) (by simp) (by simp) ?_
 conv=>whnf
 repeat' ((first
  | refine lvK ?_
  | refine ⟨_,_,h,lvN ?_⟩
  | (refine .inl ?_;(conv=>whnf);refine ⟨_,_,h,lvN ?_⟩)
  | refine lvE ?_
  | fail) <;> try (apply Cj.mk <;> first | exact trivial | intros))
set_option maxHeartbeats 4000000 in
set_option maxRecDepth 10000 in
theorem flatK_p (g:Gm) (hg:g.ok) (side cell:Int) (l:List (List Stp)) (hl:l.length≤8) (hp:∀ pg,pg∈l→pg.length≤8) :
  Fun Try.prog 32 [.box g.cA,.box [I side],.box [I cell]] [.sl (l.map Pg),FnProg] (Pas (l.flatMap fun pg=>pathsR g.b side pg cell)) [.box g.cA,.box [I side],.box [I cell]]:=by
 have e:(l.map Pg).length=l.length:=List.length_map _
 have hb9:∀ i:Int,0≤i→i≤l.length→((l.take i.toNat).flatMap fun pg=>pathsR g.b side pg cell).length≤i.toNat * 43046721:=fun i i0 i1=>by
  have:=flatMap_len (f:=fun pg=>pathsR g.b side pg cell) (n:=43046721) (l:=l.take i.toNat) fun a ha=>(pathsR_len hg.b hg.c9 side (hp a (List.mem_of_mem_take ha)) cell).1
  rw [List.length_take] at this
  rwa [show min i.toNat l.length=i.toNat by omega] at this
 have hc:=fun pg=>prog1_p g hg side cell pg
 unfold FnProg
 unfold Gm.cA at hc ⊢
 refine fun_of tok D_ok Try.func32 rfl Try.ntmps32 Try.results32 (by kernel_rfl) (by simp) (by simp) ?_
 conv=>whnf
 repeat' ((first
  | refine lvK ?_
  | refine lvE ?_
  | fail) <;> try (apply Cj.mk <;> first | exact trivial | intros))
 refine .of (fun i=>[(10,I i),(5,.ref 3)]) (fun i=>[(3,.arr 2 (((l.take i.toNat).flatMap fun pg=>pathsR g.b side pg cell).map Pa))]) 4 (fun i=>0≤i∧i≤l.length) (fun i=>(l.length - i).toNat) 0 ?_
 conv=>whnf
 refine ⟨⟨[],hdA (lvL ?_) (lvL ?_)⟩,?_,fun i ⟨i0,i1⟩=>lvN ?_⟩ <;> (try (apply Cj.mk <;> first | exact trivial | intros))
 ·exact ⟨by omega,by omega⟩
 by_cases hi:i < l.length
 ·have hs:=flatMap_snoc (f:=fun pg=>pathsR g.b side pg cell) i0 hi
  have hm:=hp _ (nth_mem i0 hi)
  have hc:=hc (nth l i) hm
  have hle:=(pathsR_len hg.b hg.c9 side hm cell).1
  have hbi:=hb9 i i0 i1
  have hxl:((pathsR g.b side (nth l i) cell).map Pa).length=(pathsR g.b side (nth l i) cell).length:=List.length_map _
  repeat' ((first
   | refine lvK ?_
   | (refine .inl ?_;(conv=>whnf);refine ⟨[0,1,2],_,[Pg (nth l i),.ptr 0 0,.ptr 1 0,.ptr 2 0],_,_,⟨rfl,rfl,rfl⟩,hc,lvN ?_⟩)
   | refine lvE ?_
   | fail) <;> try (apply Cj.mk <;> first | exact trivial | intros))
  refine ⟨i+1,⟨[],hdA (lvL ?_) (lvL ?_)⟩,?_,by (try dsimp only);omega,rfl⟩ <;> (try (apply Cj.mk <;> first | exact trivial | intros))
  ·rw [hs]
  ·exact ⟨by omega,by omega⟩
 ·obtain rfl:i=l.length:=by omega
  rw [take_all (Int.le_refl _)]
  repeat' ((first
   | refine lvK ?_
   | refine lvE ?_
   | fail) <;> try (apply Cj.mk <;> first | exact trivial | intros))
def Gm.cellsC (g:Gm) (side k:Int):AV:=.sl ((ints g.b.cells).map fun c=>Pas (g.pathsK side k c))
def Gm.kindsC (g:Gm) (side n:Int):List AV:=(ints n).map (g.cellsC side)
def Gm.codeA (g:Gm):AV:=.ag [.sl (g.kindsC 0 g.nk),.sl (g.kindsC 1 g.nk)]
def Gm.cellsT (g:Gm) (side k n:Int):List AV:=(ints g.b.cells).map fun c=>if c < n then Pas (g.pathsK side k c) else .sl []
theorem cellsT_len (g:Gm) (side k n:Int):(g.cellsT side k n).length=g.b.cells.toNat:=by unfold Gm.cellsT;rw [List.length_map,ints_len]
theorem map_lt_set {f:Int→AV} {z:AV} {n c:Int} (c0:0≤c) (c1:c < n):((ints n).map fun j=>if j < c then f j else z).set c.toNat (f c)=(ints n).map fun j=>if j < c+1 then f j else z:=by
 refine List.ext_getElem (by simp) fun i h1 h2=>?_
 have hi:i < (ints n).length:=by simpa using h2
 have hv:(ints n)[i]=(i:Int):=by
  have:=nth_ints (n:=n) (i:=(i:Int)) (by omega) (by rw [ints_len] at hi;omega)
  unfold nth at this
  rw [Int.toNat_natCast,List.getD_eq_getElem?_getD,List.getElem?_eq_getElem hi] at this
  exact this
 rw [List.getElem_set,List.getElem_map,List.getElem_map,hv]
 split
 ·rename_i e
  rw [if_pos (by omega)];congr 1;omega
 ·by_cases q:(i:Int) < c
  ·rw [if_pos q,if_pos (by omega)]
  ·rw [if_neg q,if_neg (by omega)]
theorem map_lt_at {f:Int→AV} {z:AV} {n c:Int} (c0:0≤c) (c1:c < n):((ints n).map fun j=>if j < c then f j else z)[c.toNat]?=some z:=by
 have h:=nth_some (l:=ints n) c0 (by rw [ints_len];omega)
 rw [nth_ints c0 c1] at h
 rw [List.getElem?_map,h]
 show some (if c < c then f c else z)=some z
 rw [if_neg (by omega)]
theorem map_lt_zero {f:Int→AV} {z:AV} {n:Int}:(ints n).map (fun j=>if j < 0 then f j else z)=List.replicate n.toNat z:=by
 refine List.ext_getElem (by rw [List.length_map,ints_len,List.length_replicate]) fun i h1 h2=>?_
 have hi:i < (ints n).length:=by simpa using h1
 rw [List.getElem_map,List.getElem_replicate,if_neg]
 have:=mem_ints.1 (List.getElem_mem hi)
 omega
theorem map_lt_all {f:Int→AV} {z:AV} {n:Int}:(ints n).map (fun j=>if j < n then f j else z)=(ints n).map f:=List.map_congr_left fun j hj=>if_pos (mem_ints.1 hj).2
theorem apB {L:List AV} {y:AV} {b:Nat} (hb:b≤4096) (hl:L.length≤1000000):(L.length+[y].length) * b≤140737488355328:=by
 refine Nat.le_trans (Nat.mul_le_mul (show L.length+[y].length≤1000001 by simp only [List.length_cons,List.length_nil];omega) hb) (by decide)
structure CodeM (g:Gm) (P:Int→Int→Int→List Pth) (T:Int→Int→Int→List AV) (C K:Int→Int→List AV):Prop where
 c:∀ s k c:Int,0≤k→k < g.nk→Fun Try.prog 32 [.box g.cA,.box [I s],.box [I c]] [.sl ((nth g.kinds k).progs.map Pg),FnProg] (Pas (P s k c)) [.box g.cA,.box [I s],.box [I c]]
 tl:∀ s k c:Int,(T s k c).length=g.b.cells.toNat
 t0:∀ s k:Int,T s k 0=List.replicate g.b.cells.toNat (.sl [])
 ta:∀ s k c:Int,0≤c→c < g.b.cells→(T s k c)[c.toNat]?=some (.sl [])
 ts:∀ s k c:Int,0≤c→c < g.b.cells→(T s k c).set c.toNat (Pas (P s k c))=T s k (c+1)
 te:∀ s k:Int,T s k g.b.cells=C s k
 k0:∀ s:Int,K s 0=[]
 kl:∀ s k:Int,(K s k).length=k.toNat
 ks:∀ s k:Int,0≤k→K s k++[.sl (C s k)]=K s (k+1)
 r:g.codeA=.ag [.sl (K 0 g.nk),.sl (K 1 g.nk)]
theorem codeM (g:Gm) (hg:g.ok):∃ P T C K,CodeM g P T C K :=
 ⟨g.pathsK,g.cellsT,fun s k=>(ints g.b.cells).map fun c=>Pas (g.pathsK s k c),g.kindsC,
  fun s k c k0 k1=>flatK_p g hg s c _ (hg.pl k k0 k1) fun pg hpg=>(hg.pg k k0 k1 pg hpg).l8,
  cellsT_len g,fun s k=>map_lt_zero,fun s k c c0 c1=>map_lt_at c0 c1,fun s k c c0 c1=>map_lt_set (f:=fun j=>Pas (g.pathsK s k j)) c0 c1,fun s k=>map_lt_all,fun s=>rfl,
  fun s k=>by unfold Gm.kindsC;rw [List.length_map,ints_len],fun s k k0=>by unfold Gm.kindsC;rw [ints_succ k0,List.map_append];rfl,rfl⟩
def kS (K:Int→Int→List AV) (n q s:Int):List AV:=if q < s then K q n else []
set_option maxHeartbeats 4000000 in
set_option maxRecDepth 10000 in
theorem Compile_p (g:Gm) (hg:g.ok):Pure Try.prog 23 [g.av] g.codeA none:=by
 obtain ⟨P,T,C,K,hM⟩:=codeM g hg
 have hc:=hM.c
 unfold FnProg Gm.cA at hc
 rw [hM.r]
 have en:(g.kinds.map Kn).length=g.kinds.length:=List.length_map _
 have hnk:g.nk=g.kinds.length:=rfl
 have k6:=hg.k6
 have c9:=hg.c9
 have c1:=hg.b.c1
 have hrl:(List.replicate g.b.cells.toNat (AV.sl [])).length=g.b.cells.toNat:=List.length_replicate
 refine fun_of tok D_ok Try.func23 rfl Try.ntmps23 Try.results23 (by kernel_rfl) (by simp) (by simp) ?_
 conv=>whnf
 repeat' ((first
  | refine lvK ?_
  | refine lvE ?_
  | fail) <;> try (apply Cj.mk <;> first | exact trivial | intros))
 refine loopQ fun R1 hR1=>?_
 refine .of (fun s=>[(9,I s)]) (fun s=>[(2,.box [.ref 3,.ref 4]),(3,.arr 1 (kS K g.nk 0 s)),(4,.arr 1 (kS K g.nk 1 s))]) 5 (fun s=>s=0∨s=1∨s=2) (fun s=>(2 - s).toNat) 0 ?_
 conv=>whnf
 refine ⟨⟨[],hdA (lvL ?_) (lvL ?_)⟩,?_,fun s h=>lvN ?_⟩ <;> (try (apply Cj.mk <;> first | exact trivial | intros))
 ·exact .inl rfl
 rcases h with rfl | rfl | rfl
 ·rw [show kS K g.nk 0 0=K 0 0 from (hM.k0 0).symm,show kS K g.nk 1 0=[] from rfl]
  repeat' ((first
   | refine lvK ?_
   | refine lvE ?_
   | fail) <;> try (apply Cj.mk <;> first | exact trivial | intros))
  refine loopQ fun R2 hR2=>?_
  refine .of (fun k=>[(15,I k)]) (fun k=>[(2,.box [.ref 3,.ref 4]),(3,.arr 1 (K 0 k)),(4,.arr 1 [])]) 6 (fun k=>0≤k∧k≤g.nk) (fun k=>(g.nk - k).toNat) 0 ?_
  conv=>whnf
  refine ⟨⟨[],hdA (lvL ?_) (lvL ?_)⟩,?_,fun k ⟨k0,k1⟩=>lvN ?_⟩ <;> (try (apply Cj.mk <;> first | exact trivial | intros))
  ·exact ⟨by omega,by omega⟩
  by_cases hk:k < g.nk
  ·repeat' ((first
    | refine lvK ?_
    | refine lvE ?_
    | fail) <;> try (apply Cj.mk <;> first | exact trivial | intros))
   refine .inl ?_
   conv=>whnf
   repeat' ((first
    | refine lvK ?_
    | refine lvE ?_
    | fail) <;> try (apply Cj.mk <;> first | exact trivial | intros))
   refine loopQ fun R3 hR3=>?_
   refine .of (fun c=>[(25,I c)]) (fun c=>[(7,.arr 1 (T 0 k c))]) 8 (fun c=>0≤c∧c≤g.b.cells) (fun c=>(g.b.cells - c).toNat) 0 ?_
   conv=>whnf
   refine ⟨⟨[],hdA (lvL ?_) (lvL ?_)⟩,?_,fun c ⟨c0,c1⟩=>lvN ?_⟩ <;> (try (apply Cj.mk <;> first | exact trivial | intros))
   ·exact (hM.t0 0 k).symm
   ·exact ⟨by omega,by omega⟩
   have htl:=hM.tl 0 k c
   by_cases hcc:c < g.b.cells
   ·have hcl:=hc 0 k c k0 hk
    have hat:=hM.ta 0 k c c0 hcc
    have hset:=hM.ts 0 k c c0 hcc
    repeat' ((first
     | refine lvD ?_
     | refine ShowsJ.mk (by kernel_rfl) (by kernel_rfl) (by kernel_rfl) (lvL ?_) (lvL ?_) rfl
     | refine lvE ?_
     | fail) <;> try (apply Cj.mk <;> first | exact trivial | intros))
    refine drawJE [0,1,2] [(4,[]),(6,[0,1])] [⟨0,8,0,I c⟩] [] [(7,.arr 1 (T 0 k (c+1)))] 9 (by decide +kernel) ?_
    conv=>whnf
    refine And.intro ?_ ?_
    ·repeat' ((first
      | refine lvD ?_
      | (refine .inl ?_;(conv=>whnf);refine ⟨[0,5,8],_,[.sl ((nth g.kinds k).progs.map Pg),.fn (.func 33) [] [.ptr 0 0,.ptr 1 0,.ptr 2 0]],_,_,⟨rfl,rfl,rfl⟩,hcl,lvN ?_⟩)
      | refine ⟨.sl [],hat,.mk (T 0 k (c+1)) hset (lvN ?_)⟩
      | refine ShowsJ.mk (by kernel_rfl) (by kernel_rfl) (by kernel_rfl) (lvL ?_) (lvL ?_) rfl
      | refine lvE ?_
      | fail) <;> try (apply Cj.mk <;> first | exact trivial | intros))
    repeat' ((first
     | refine lvK ?_
     | refine lvE ?_
     | fail) <;> try (apply Cj.mk <;> first | exact trivial | intros))
    refine ⟨c+1,⟨[],hdA (lvL ?_) (lvL ?_)⟩,?_,by (try dsimp only);omega,rfl⟩ <;> (try (apply Cj.mk <;> first | exact trivial | intros))
    exact ⟨by omega,by omega⟩
   ·obtain rfl:c=g.b.cells:=by omega
    rw [hM.te 0 k]
    have hkl:=hM.kl 0 k
    repeat' ((first
     | refine lvK ?_
     | refine lvE ?_
     | fail) <;> try (apply Cj.mk <;> first | exact trivial | intros))
    refine hR3 _ _ ?_
    conv=>whnf
    try dsimp only [St.after,St.afterAt,St.pin,St.unpin,initSt,initT,numO,cellsA,Option.map,ren,renL,renO,St.setObj,headSt,List.cons_append,List.nil_append,List.length_nil,Nat.reduceAdd]
    have hks:=hM.ks 0 k k0
    repeat' ((first
     | refine lvD ?_
     | refine ShowsJ.mk (by kernel_rfl) (by kernel_rfl) (by kernel_rfl) (lvL ?_) (lvL ?_) rfl
     | refine lvE ?_
     | fail) <;> try (apply Cj.mk <;> first | exact trivial | intros))
    refine drawP [7] ?_
    conv=>whnf
    try dsimp only [St.after,St.afterAt,St.pin,St.unpin,initSt,initT,numO,cellsA,Option.map,ren,renL,renO,St.setObj,headSt,List.cons_append,List.nil_append,List.length_nil,Nat.reduceAdd]
    refine drawJE [0,1,2,3,5] [(8,[]),(9,[0,8])] [⟨0,5,0,I 0⟩] [] [(2,.box [.ref 3,.ref 4]),(3,.arr 1 (K 0 (k+1)))] 8 (by decide +kernel) ?_
    conv=>whnf
    refine And.intro ?_ ?_
    ·repeat' ((first
      | refine lvD ?_
      | (refine ⟨fun e he=>by (have he:=List.mem_singleton.1 he;subst he;rfl),apB (by decide) (by omega),by simp only [List.length_cons,List.length_nil];omega,.mk (K 0 (k+1)) hks (lvN ?_)⟩)
      | refine ShowsJ.mk (by kernel_rfl) (by kernel_rfl) (by kernel_rfl) (lvL ?_) (lvL ?_) rfl
      | refine lvE ?_
      | fail) <;> try (apply Cj.mk <;> first | exact trivial | intros))
    repeat' ((first
     | refine lvK ?_
     | refine lvE ?_
     | fail) <;> try (apply Cj.mk <;> first | exact trivial | intros))
    refine ⟨k+1,⟨[],hdA (lvL ?_) (lvL ?_)⟩,?_,by (try dsimp only);omega,rfl⟩ <;> (try (apply Cj.mk <;> first | exact trivial | intros))
    exact ⟨by omega,by omega⟩
  ·obtain rfl:k=g.nk:=by omega
   repeat' ((first
    | refine lvK ?_
    | refine lvE ?_
    | fail) <;> try (apply Cj.mk <;> first | exact trivial | intros))
   refine hR2 _ _ ?_
   conv=>whnf
   try dsimp only [St.after,St.afterAt,St.pin,St.unpin,initSt,initT,numO,cellsA,Option.map,ren,renL,renO,St.setObj,headSt,List.cons_append,List.nil_append,List.length_nil,Nat.reduceAdd]
   repeat' ((first
    | refine lvK ?_
    | refine lvE ?_
    | fail) <;> try (apply Cj.mk <;> first | exact trivial | intros))
   refine ⟨1,⟨[],hdA (lvL ?_) (lvL ?_)⟩,?_,by (try dsimp only);omega,rfl⟩ <;> (try (apply Cj.mk <;> first | exact trivial | intros))
   exact .inr (.inl rfl)
 ·rw [show kS K g.nk 0 1=K 0 g.nk from rfl,show kS K g.nk 1 1=K 1 0 from (hM.k0 1).symm]
  repeat' ((first
   | refine lvK ?_
   | refine lvE ?_
   | fail) <;> try (apply Cj.mk <;> first | exact trivial | intros))
  refine loopQ fun R2 hR2=>?_
  refine .of (fun k=>[(15,I k)]) (fun k=>[(2,.box [.ref 3,.ref 4]),(3,.arr 1 (K 0 g.nk)),(4,.arr 1 (K 1 k))]) 6 (fun k=>0≤k∧k≤g.nk) (fun k=>(g.nk - k).toNat) 0 ?_
  conv=>whnf
  refine ⟨⟨[],hdA (lvL ?_) (lvL ?_)⟩,?_,fun k ⟨k0,k1⟩=>lvN ?_⟩ <;> (try (apply Cj.mk <;> first | exact trivial | intros))
  ·exact ⟨by omega,by omega⟩
  by_cases hk:k < g.nk
  ·repeat' ((first
    | refine lvK ?_
    | refine lvE ?_
    | fail) <;> try (apply Cj.mk <;> first | exact trivial | intros))
   refine .inl ?_
   conv=>whnf
   repeat' ((first
    | refine lvK ?_
    | refine lvE ?_
    | fail) <;> try (apply Cj.mk <;> first | exact trivial | intros))
   refine loopQ fun R3 hR3=>?_
   refine .of (fun c=>[(25,I c)]) (fun c=>[(7,.arr 1 (T 1 k c))]) 8 (fun c=>0≤c∧c≤g.b.cells) (fun c=>(g.b.cells - c).toNat) 0 ?_
   conv=>whnf
   refine ⟨⟨[],hdA (lvL ?_) (lvL ?_)⟩,?_,fun c ⟨c0,c1⟩=>lvN ?_⟩ <;> (try (apply Cj.mk <;> first | exact trivial | intros))
   ·exact (hM.t0 1 k).symm
   ·exact ⟨by omega,by omega⟩
   have htl:=hM.tl 1 k c
   by_cases hcc:c < g.b.cells
   ·have hcl:=hc 1 k c k0 hk
    have hat:=hM.ta 1 k c c0 hcc
    have hset:=hM.ts 1 k c c0 hcc
    repeat' ((first
     | refine lvD ?_
     | refine ShowsJ.mk (by kernel_rfl) (by kernel_rfl) (by kernel_rfl) (lvL ?_) (lvL ?_) rfl
     | refine lvE ?_
     | fail) <;> try (apply Cj.mk <;> first | exact trivial | intros))
    refine drawJE [0,1,2] [(4,[]),(6,[0,1])] [⟨0,8,0,I c⟩] [] [(7,.arr 1 (T 1 k (c+1)))] 9 (by decide +kernel) ?_
    conv=>whnf
    refine And.intro ?_ ?_
    ·repeat' ((first
      | refine lvD ?_
      | (refine .inl ?_;(conv=>whnf);refine ⟨[0,5,8],_,[.sl ((nth g.kinds k).progs.map Pg),.fn (.func 33) [] [.ptr 0 0,.ptr 1 0,.ptr 2 0]],_,_,⟨rfl,rfl,rfl⟩,hcl,lvN ?_⟩)
      | refine ⟨.sl [],hat,.mk (T 1 k (c+1)) hset (lvN ?_)⟩
      | refine ShowsJ.mk (by kernel_rfl) (by kernel_rfl) (by kernel_rfl) (lvL ?_) (lvL ?_) rfl
      | refine lvE ?_
      | fail) <;> try (apply Cj.mk <;> first | exact trivial | intros))
    repeat' ((first
     | refine lvK ?_
     | refine lvE ?_
     | fail) <;> try (apply Cj.mk <;> first | exact trivial | intros))
    refine ⟨c+1,⟨[],hdA (lvL ?_) (lvL ?_)⟩,?_,by (try dsimp only);omega,rfl⟩ <;> (try (apply Cj.mk <;> first | exact trivial | intros))
    exact ⟨by omega,by omega⟩
   ·obtain rfl:c=g.b.cells:=by omega
    rw [hM.te 1 k]
    have hkl:=hM.kl 1 k
    repeat' ((first
     | refine lvK ?_
     | refine lvE ?_
     | fail) <;> try (apply Cj.mk <;> first | exact trivial | intros))
    refine hR3 _ _ ?_
    conv=>whnf
    try dsimp only [St.after,St.afterAt,St.pin,St.unpin,initSt,initT,numO,cellsA,Option.map,ren,renL,renO,St.setObj,headSt,List.cons_append,List.nil_append,List.length_nil,Nat.reduceAdd]
    have hks:=hM.ks 1 k k0
    repeat' ((first
     | refine lvD ?_
     | refine ShowsJ.mk (by kernel_rfl) (by kernel_rfl) (by kernel_rfl) (lvL ?_) (lvL ?_) rfl
     | refine lvE ?_
     | fail) <;> try (apply Cj.mk <;> first | exact trivial | intros))
    refine drawP [7] ?_
    conv=>whnf
    try dsimp only [St.after,St.afterAt,St.pin,St.unpin,initSt,initT,numO,cellsA,Option.map,ren,renL,renO,St.setObj,headSt,List.cons_append,List.nil_append,List.length_nil,Nat.reduceAdd]
    refine drawJE [0,1,2,3,5] [(8,[]),(9,[0,8])] [⟨0,5,0,I 1⟩] [] [(2,.box [.ref 3,.ref 4]),(4,.arr 1 (K 1 (k+1)))] 8 (by decide +kernel) ?_
    conv=>whnf
    refine And.intro ?_ ?_
    ·repeat' ((first
      | refine lvD ?_
      | (refine ⟨fun e he=>by (have he:=List.mem_singleton.1 he;subst he;rfl),apB (by decide) (by omega),by simp only [List.length_cons,List.length_nil];omega,.mk (K 1 (k+1)) hks (lvN ?_)⟩)
      | refine ShowsJ.mk (by kernel_rfl) (by kernel_rfl) (by kernel_rfl) (lvL ?_) (lvL ?_) rfl
      | refine lvE ?_
      | fail) <;> try (apply Cj.mk <;> first | exact trivial | intros))
    repeat' ((first
     | refine lvK ?_
     | refine lvE ?_
     | fail) <;> try (apply Cj.mk <;> first | exact trivial | intros))
    refine ⟨k+1,⟨[],hdA (lvL ?_) (lvL ?_)⟩,?_,by (try dsimp only);omega,rfl⟩ <;> (try (apply Cj.mk <;> first | exact trivial | intros))
    exact ⟨by omega,by omega⟩
  ·obtain rfl:k=g.nk:=by omega
   repeat' ((first
    | refine lvK ?_
    | refine lvE ?_
    | fail) <;> try (apply Cj.mk <;> first | exact trivial | intros))
   refine hR2 _ _ ?_
   conv=>whnf
   try dsimp only [St.after,St.afterAt,St.pin,St.unpin,initSt,initT,numO,cellsA,Option.map,ren,renL,renO,St.setObj,headSt,List.cons_append,List.nil_append,List.length_nil,Nat.reduceAdd]
   repeat' ((first
    | refine lvK ?_
    | refine lvE ?_
    | fail) <;> try (apply Cj.mk <;> first | exact trivial | intros))
   refine ⟨2,⟨[],hdA (lvL ?_) (lvL ?_)⟩,?_,by (try dsimp only);omega,rfl⟩ <;> (try (apply Cj.mk <;> first | exact trivial | intros))
   exact .inr (.inr rfl)
 ·rw [show kS K g.nk 0 2=K 0 g.nk from rfl,show kS K g.nk 1 2=K 1 g.nk from rfl]
  repeat' ((first
   | refine lvK ?_
   | refine lvE ?_
   | fail) <;> try (apply Cj.mk <;> first | exact trivial | intros))
  refine hR1 _ _ ?_
  conv=>whnf
  try dsimp only [St.after,St.afterAt,St.pin,St.unpin,initSt,initT,numO,cellsA,Option.map,ren,renL,renO,St.setObj,headSt,List.cons_append,List.nil_append,List.length_nil,Nat.reduceAdd]
  repeat' ((first
   | refine lvK ?_
   | refine lvE ?_
   | fail) <;> try (apply Cj.mk <;> first | exact trivial | intros))
end Go.Proofs.Ytejljpjdifblpaa
