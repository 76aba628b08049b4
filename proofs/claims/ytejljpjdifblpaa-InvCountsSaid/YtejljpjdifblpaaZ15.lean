/- Contracts of functions of the program, proved by the checker; and plain laws. -/
import Derived.Test.YtejljpjdifblpaaZ03
set_option linter.unusedVariables false
set_option linter.unusedSimpArgs false
namespace Go.Proofs.Ytejljpjdifblpaa
open Go Go.Sk
def R4.hs (x:R4) (g:Gm) (s q:Int):List Int:=if s > q then x.hand g q else []
def R4.hk (x:R4) (g:Gm) (q k:Int):List Int:=(ints g.nk).map fun j=>if j < k then hv (g.keep j) (nth x.l (12+2 * q+j)) else 0
theorem hv_big {k:Bool} {n:Int} (hk:k=true) (h:n > 250):8=hv k n:=by unfold hv;rw [if_pos hk,if_pos h]
theorem hv_small {k:Bool} {n:Int} (hk:k=true) (h:¬ n > 250):n % 3=hv k n:=by unfold hv;rw [if_pos hk,if_neg h]
theorem R4.hk_len (x:R4) (g:Gm) (q k:Int):(x.hk g q k).length=g.nk.toNat:=by unfold R4.hk;rw [List.length_map,ints_len]
theorem R4.hk_nth (x:R4) (g:Gm) (q k:Int) {j:Int} (j0:0≤j) (j1:j < g.nk):nth (x.hk g q k) j=if j < k then hv (g.keep j) (nth x.l (12+2 * q+j)) else 0:=nth_map_ints j0 j1
theorem R4.hk_set (x:R4) (g:Gm) (q:Int) {k v:Int} (k0:0≤k) (k1:k < g.nk) (hv':v=hv (g.keep k) (nth x.l (12+2 * q+k))):(x.hk g q k).set k.toNat v=x.hk g q (k+1):=by
 refine ext_nth (by rw [List.length_set,R4.hk_len,R4.hk_len]) fun j j0 j1=>?_
 rw [List.length_set,R4.hk_len] at j1
 rw [nth_set k0 j0 (by rw [R4.hk_len];omega),R4.hk_nth x g q _ j0 (by omega),R4.hk_nth x g q _ j0 (by omega)]
 split
 ·rename_i e;subst e;rw [if_pos (by omega),hv']
 ·split
  ·rw [if_pos (by omega)]
  ·rw [if_neg (by omega)]
theorem R4.hk_zero (x:R4) (g:Gm) (q:Int):x.hk g q 0=List.replicate g.nk.toNat 0:=by
 refine ext_nth (by rw [R4.hk_len,List.length_replicate]) fun j j0 j1=>?_
 rw [R4.hk_len] at j1
 rw [R4.hk_nth x g q _ j0 (by omega),if_neg (by omega)]
 unfold nth;rw [List.getD_eq_getElem?_getD,List.getElem?_replicate,if_pos (by omega)];rfl
theorem R4.hk_all (x:R4) (g:Gm) (q:Int):x.hk g q g.nk=x.hand g q:=by
 refine List.map_congr_left fun j hj=>?_
 rw [if_pos (mem_ints.1 hj).2]
theorem R4.hk_keep (x:R4) (g:Gm) (q:Int) {k:Int} (k0:0≤k) (k1:k < g.nk) (h:g.keep k=false):x.hk g q k=x.hk g q (k+1):=by
 refine ext_nth (by rw [R4.hk_len,R4.hk_len]) fun j j0 j1=>?_
 rw [R4.hk_len] at j1
 rw [R4.hk_nth x g q _ j0 (by omega),R4.hk_nth x g q _ j0 (by omega)]
 by_cases e:j=k
 ·subst e;rw [if_neg (by omega),if_pos (by omega),h];rfl
 ·by_cases e2:j < k
  ·rw [if_pos e2,if_pos (by omega)]
  ·rw [if_neg e2,if_neg (by omega)]
set_option maxHeartbeats 4000000 in
set_option maxRecDepth 10000 in
theorem R4Made_p (x:R4) (hx:x.ok) (g:Gm) (hg:g.ok) (hk:g.nk=1∨g.nk=2):Pure Try.prog 17 [g.av,.ag x.cs] (x.made g).av none:=by
 have c1:=hg.b.c1
 have c9:=hg.c9
 have r0:=hg.r0
 have r4:=hg.r4
 have hnk:g.nk=g.kinds.length:=rfl
 have en:(g.kinds.map Kn).length=g.kinds.length:=List.length_map _
 have hb:∀ n,n∈x.l→0≤n∧n≤255:=hx
 have b0:=hb x.c0 (by simp [R4.l])
 have b1:=hb x.c1 (by simp [R4.l])
 have b2:=hb x.c2 (by simp [R4.l])
 have b3:=hb x.c3 (by simp [R4.l])
 have b4:=hb x.c4 (by simp [R4.l])
 have b5:=hb x.c5 (by simp [R4.l])
 have b6:=hb x.k0 (by simp [R4.l])
 have b7:=hb x.k1 (by simp [R4.l])
 have b8:=hb x.k2 (by simp [R4.l])
 have b9:=hb x.k3 (by simp [R4.l])
 have b10:=hb x.k4 (by simp [R4.l])
 have b11:=hb x.k5 (by simp [R4.l])
 have b12:=hb x.h0 (by simp [R4.l])
 have b13:=hb x.h1 (by simp [R4.l])
 have b14:=hb x.h2 (by simp [R4.l])
 have b15:=hb x.h3 (by simp [R4.l])
 have b16:=hb x.r (by simp [R4.l])
 have b17:=hb x.s (by simp [R4.l])
 clear hb
 have hp:(0:Int) < 2 ^ g.rights.toNat:=Int.pow_pos (by decide)
 refine fun_of tok D_ok Try.func17 rfl Try.ntmps17 Try.results17 (by kernel_rfl) (by simp) (by simp) ?_
 conv=>whnf
 repeat' ((first
  | refine lvK ?_
  | fail) <;> try (apply Cj.mk <;> first | exact trivial | intros))
 refine .of (fun i=>[(6,I i)]) (fun i=>[(6,.arr 1 ((x.ct g.b.cells g.nk i).map I))]) 20 (fun i=>0≤i∧i≤6) (fun i=>(6 - i).toNat) 0 ?_
 conv=>whnf
 refine ⟨⟨[],hdA (lvL ?_) (lvL ?_)⟩,?_,fun i ⟨i0,i6⟩=>lvN ?_⟩ <;> (try (apply Cj.mk <;> first | exact trivial | intros))
 ·show List.replicate _ _=List.map I (List.replicate _ _);rw [List.map_replicate];rfl
 ·exact ⟨by omega,by omega⟩
 have hlc:=x.ct_len g.b.cells g.nk i
 by_cases hi:i < 6
 ·have hi6:i=0∨i=1∨i=2∨i=3∨i=4∨i=5:=by omega
  rcases hi6 with rfl | rfl | rfl | rfl | rfl | rfl
  ·have m0:=Int.emod_nonneg x.c0 (show g.b.cells+1≠0 by omega)
   have m1:=Int.emod_lt_of_pos x.c0 (show 0 < g.b.cells+1 by omega)
   have m2:=Int.emod_nonneg x.k0 (show (g.kinds.length:Int)≠0 by omega)
   have m3:=Int.emod_lt_of_pos x.k0 (show 0 < (g.kinds.length:Int) by omega)
   rw [← en] at m2 m3
   have hput:x.ct g.b.cells g.nk (0+1)=x.put g.b.cells g.nk (x.ct g.b.cells g.nk 0) 0:=x.ct_succ _ _ (by omega)
   unfold R4.put at hput
   rw [show nth x.l 0=x.c0 from rfl,show nth x.l (6+0)=x.k0 from rfl] at hput
   by_cases hc:x.c0 % (g.b.cells+1) < g.b.cells
   ·rw [if_pos hc,hnk,← en] at hput
    repeat' ((first
     | refine lvK ?_
     | fail) <;> try (apply Cj.mk <;> first | exact trivial | intros))
    refine ⟨(0+1),⟨[],hdA (lvL ?_) (lvL ?_)⟩,?_,by (try dsimp only);omega,rfl⟩ <;> (try (apply Cj.mk <;> first | exact trivial | intros))
    ·rw [hnk,← en,hput]
    ·exact ⟨by omega,by omega⟩
   ·rw [if_neg hc] at hput
    repeat' ((first
     | refine lvK ?_
     | fail) <;> try (apply Cj.mk <;> first | exact trivial | intros))
    refine ⟨(0+1),⟨[],hdA (lvL ?_) (lvL ?_)⟩,?_,by (try dsimp only);omega,rfl⟩ <;> (try (apply Cj.mk <;> first | exact trivial | intros))
    ·rw [hput]
    ·exact ⟨by omega,by omega⟩
  ·have m0:=Int.emod_nonneg x.c1 (show g.b.cells+1≠0 by omega)
   have m1:=Int.emod_lt_of_pos x.c1 (show 0 < g.b.cells+1 by omega)
   have m2:=Int.emod_nonneg x.k1 (show (g.kinds.length:Int)≠0 by omega)
   have m3:=Int.emod_lt_of_pos x.k1 (show 0 < (g.kinds.length:Int) by omega)
   rw [← en] at m2 m3
   have hput:x.ct g.b.cells g.nk (1+1)=x.put g.b.cells g.nk (x.ct g.b.cells g.nk 1) 1:=x.ct_succ _ _ (by omega)
   unfold R4.put at hput
   rw [show nth x.l 1=x.c1 from rfl,show nth x.l (6+1)=x.k1 from rfl] at hput
   by_cases hc:x.c1 % (g.b.cells+1) < g.b.cells
   ·rw [if_pos hc,hnk,← en] at hput
    repeat' ((first
     | refine lvK ?_
     | fail) <;> try (apply Cj.mk <;> first | exact trivial | intros))
    refine ⟨(1+1),⟨[],hdA (lvL ?_) (lvL ?_)⟩,?_,by (try dsimp only);omega,rfl⟩ <;> (try (apply Cj.mk <;> first | exact trivial | intros))
    ·rw [hnk,← en,hput]
    ·exact ⟨by omega,by omega⟩
   ·rw [if_neg hc] at hput
    repeat' ((first
     | refine lvK ?_
     | fail) <;> try (apply Cj.mk <;> first | exact trivial | intros))
    refine ⟨(1+1),⟨[],hdA (lvL ?_) (lvL ?_)⟩,?_,by (try dsimp only);omega,rfl⟩ <;> (try (apply Cj.mk <;> first | exact trivial | intros))
    ·rw [hput]
    ·exact ⟨by omega,by omega⟩
  ·have m0:=Int.emod_nonneg x.c2 (show g.b.cells+1≠0 by omega)
   have m1:=Int.emod_lt_of_pos x.c2 (show 0 < g.b.cells+1 by omega)
   have m2:=Int.emod_nonneg x.k2 (show (g.kinds.length:Int)≠0 by omega)
   have m3:=Int.emod_lt_of_pos x.k2 (show 0 < (g.kinds.length:Int) by omega)
   rw [← en] at m2 m3
   have hput:x.ct g.b.cells g.nk (2+1)=x.put g.b.cells g.nk (x.ct g.b.cells g.nk 2) 2:=x.ct_succ _ _ (by omega)
   unfold R4.put at hput
   rw [show nth x.l 2=x.c2 from rfl,show nth x.l (6+2)=x.k2 from rfl] at hput
   by_cases hc:x.c2 % (g.b.cells+1) < g.b.cells
   ·rw [if_pos hc,hnk,← en] at hput
    repeat' ((first
     | refine lvK ?_
     | fail) <;> try (apply Cj.mk <;> first | exact trivial | intros))
    refine ⟨(2+1),⟨[],hdA (lvL ?_) (lvL ?_)⟩,?_,by (try dsimp only);omega,rfl⟩ <;> (try (apply Cj.mk <;> first | exact trivial | intros))
    ·rw [hnk,← en,hput]
    ·exact ⟨by omega,by omega⟩
   ·rw [if_neg hc] at hput
    repeat' ((first
     | refine lvK ?_
     | fail) <;> try (apply Cj.mk <;> first | exact trivial | intros))
    refine ⟨(2+1),⟨[],hdA (lvL ?_) (lvL ?_)⟩,?_,by (try dsimp only);omega,rfl⟩ <;> (try (apply Cj.mk <;> first | exact trivial | intros))
    ·rw [hput]
    ·exact ⟨by omega,by omega⟩
  ·have m0:=Int.emod_nonneg x.c3 (show g.b.cells+1≠0 by omega)
   have m1:=Int.emod_lt_of_pos x.c3 (show 0 < g.b.cells+1 by omega)
   have m2:=Int.emod_nonneg x.k3 (show (g.kinds.length:Int)≠0 by omega)
   have m3:=Int.emod_lt_of_pos x.k3 (show 0 < (g.kinds.length:Int) by omega)
   rw [← en] at m2 m3
   have hput:x.ct g.b.cells g.nk (3+1)=x.put g.b.cells g.nk (x.ct g.b.cells g.nk 3) 3:=x.ct_succ _ _ (by omega)
   unfold R4.put at hput
   rw [show nth x.l 3=x.c3 from rfl,show nth x.l (6+3)=x.k3 from rfl] at hput
   by_cases hc:x.c3 % (g.b.cells+1) < g.b.cells
   ·rw [if_pos hc,hnk,← en] at hput
    repeat' ((first
     | refine lvK ?_
     | fail) <;> try (apply Cj.mk <;> first | exact trivial | intros))
    refine ⟨(3+1),⟨[],hdA (lvL ?_) (lvL ?_)⟩,?_,by (try dsimp only);omega,rfl⟩ <;> (try (apply Cj.mk <;> first | exact trivial | intros))
    ·rw [hnk,← en,hput]
    ·exact ⟨by omega,by omega⟩
   ·rw [if_neg hc] at hput
    repeat' ((first
     | refine lvK ?_
     | fail) <;> try (apply Cj.mk <;> first | exact trivial | intros))
    refine ⟨(3+1),⟨[],hdA (lvL ?_) (lvL ?_)⟩,?_,by (try dsimp only);omega,rfl⟩ <;> (try (apply Cj.mk <;> first | exact trivial | intros))
    ·rw [hput]
    ·exact ⟨by omega,by omega⟩
  ·have m0:=Int.emod_nonneg x.c4 (show g.b.cells+1≠0 by omega)
   have m1:=Int.emod_lt_of_pos x.c4 (show 0 < g.b.cells+1 by omega)
   have m2:=Int.emod_nonneg x.k4 (show (g.kinds.length:Int)≠0 by omega)
   have m3:=Int.emod_lt_of_pos x.k4 (show 0 < (g.kinds.length:Int) by omega)
   rw [← en] at m2 m3
   have hput:x.ct g.b.cells g.nk (4+1)=x.put g.b.cells g.nk (x.ct g.b.cells g.nk 4) 4:=x.ct_succ _ _ (by omega)
   unfold R4.put at hput
   rw [show nth x.l 4=x.c4 from rfl,show nth x.l (6+4)=x.k4 from rfl] at hput
   by_cases hc:x.c4 % (g.b.cells+1) < g.b.cells
   ·rw [if_pos hc,hnk,← en] at hput
    repeat' ((first
     | refine lvK ?_
     | fail) <;> try (apply Cj.mk <;> first | exact trivial | intros))
    refine ⟨(4+1),⟨[],hdA (lvL ?_) (lvL ?_)⟩,?_,by (try dsimp only);omega,rfl⟩ <;> (try (apply Cj.mk <;> first | exact trivial | intros))
    ·rw [hnk,← en,hput]
    ·exact ⟨by omega,by omega⟩
   ·rw [if_neg hc] at hput
    repeat' ((first
     | refine lvK ?_
     | fail) <;> try (apply Cj.mk <;> first | exact trivial | intros))
    refine ⟨(4+1),⟨[],hdA (lvL ?_) (lvL ?_)⟩,?_,by (try dsimp only);omega,rfl⟩ <;> (try (apply Cj.mk <;> first | exact trivial | intros))
    ·rw [hput]
    ·exact ⟨by omega,by omega⟩
  ·have m0:=Int.emod_nonneg x.c5 (show g.b.cells+1≠0 by omega)
   have m1:=Int.emod_lt_of_pos x.c5 (show 0 < g.b.cells+1 by omega)
   have m2:=Int.emod_nonneg x.k5 (show (g.kinds.length:Int)≠0 by omega)
   have m3:=Int.emod_lt_of_pos x.k5 (show 0 < (g.kinds.length:Int) by omega)
   rw [← en] at m2 m3
   have hput:x.ct g.b.cells g.nk (5+1)=x.put g.b.cells g.nk (x.ct g.b.cells g.nk 5) 5:=x.ct_succ _ _ (by omega)
   unfold R4.put at hput
   rw [show nth x.l 5=x.c5 from rfl,show nth x.l (6+5)=x.k5 from rfl] at hput
   by_cases hc:x.c5 % (g.b.cells+1) < g.b.cells
   ·rw [if_pos hc,hnk,← en] at hput
    repeat' ((first
     | refine lvK ?_
     | fail) <;> try (apply Cj.mk <;> first | exact trivial | intros))
    refine ⟨(5+1),⟨[],hdA (lvL ?_) (lvL ?_)⟩,?_,by (try dsimp only);omega,rfl⟩ <;> (try (apply Cj.mk <;> first | exact trivial | intros))
    ·rw [hnk,← en,hput]
    ·exact ⟨by omega,by omega⟩
   ·rw [if_neg hc] at hput
    repeat' ((first
     | refine lvK ?_
     | fail) <;> try (apply Cj.mk <;> first | exact trivial | intros))
    refine ⟨(5+1),⟨[],hdA (lvL ?_) (lvL ?_)⟩,?_,by (try dsimp only);omega,rfl⟩ <;> (try (apply Cj.mk <;> first | exact trivial | intros))
    ·rw [hput]
    ·exact ⟨by omega,by omega⟩
 ·have hi6:i=6:=by omega
  rw [show x.ct g.b.cells g.nk i=x.ct g.b.cells g.nk 6 by rw [hi6]]
  clear hlc
  repeat' ((first
   | refine lvK ?_
   | fail) <;> try (apply Cj.mk <;> first | exact trivial | intros))
  refine .of (fun s=>[(8,I s)]) (fun s=>[(19,.box [.ref 6,.ref 20,.ref 21,I (x.r % 2 ^ g.rights.toNat),I (x.s % 2)]),(20,.arr 1 ((x.hs g s 0).map I)),(21,.arr 1 ((x.hs g s 1).map I))]) 22 (fun s=>0≤s∧s≤2) (fun s=>(2 - s).toNat) 0 ?_
  conv=>whnf
  refine ⟨⟨[],hdA (lvL ?_) (lvL ?_)⟩,?_,fun s ⟨s0,s2⟩=>lvN ?_⟩ <;> (try (apply Cj.mk <;> first | exact trivial | intros))
  ·exact ⟨by omega,by omega⟩
  by_cases hs:s < 2
  ·have hs2:s=0∨s=1:=by omega
   rcases hs2 with rfl | rfl
   ·repeat' ((first
     | refine lvK ?_
     | fail) <;> try (apply Cj.mk <;> first | exact trivial | intros))
    refine .of (fun k=>[(9,I k)]) (fun k=>[(22,.arr 1 ((x.hk g 0 k).map I))]) 23 (fun k=>0≤k∧k≤g.nk) (fun k=>(g.nk - k).toNat) 0 ?_
    conv=>whnf
    refine ⟨⟨[],hdA (lvL ?_) (lvL ?_)⟩,?_,fun k ⟨k0,k1⟩=>lvN ?_⟩ <;> (try (apply Cj.mk <;> first | exact trivial | intros))
    ·rw [x.hk_zero,List.map_replicate,hnk,en];rfl
    ·exact ⟨by omega,by omega⟩
    have hlk:=x.hk_len g 0 k
    by_cases hk1:k < g.nk
    ·have hk2:k=0∨k=1:=by omega
     have hkk:g.keep k=(nth g.kinds k).keep:=rfl
     rcases hk2 with rfl | rfl
     ·repeat' ((first
       | refine lvK ?_
       | fail) <;> try (apply Cj.mk <;> first | exact trivial | intros))
      ·rename_i z1 z2
       refine ⟨0+1,⟨[],hdA (lvL ?_) (lvL ?_)⟩,?_,by (try dsimp only);omega,rfl⟩ <;> (try (apply Cj.mk <;> first | exact trivial | intros))
       ·rw [List.set_set];exact congrArg (List.map I) (x.hk_set g 0 (k:=0) (by omega) (by omega) (hv_big z1 z2))
       ·exact ⟨by omega,by omega⟩
      ·rename_i z1 z2
       refine ⟨0+1,⟨[],hdA (lvL ?_) (lvL ?_)⟩,?_,by (try dsimp only);omega,rfl⟩ <;> (try (apply Cj.mk <;> first | exact trivial | intros))
       ·exact congrArg (List.map I) (x.hk_set g 0 (k:=0) (by omega) (by omega) (hv_small z1 z2))
       ·exact ⟨by omega,by omega⟩
      ·rename_i z1
       refine ⟨0+1,⟨[],hdA (lvL ?_) (lvL ?_)⟩,?_,by (try dsimp only);omega,rfl⟩ <;> (try (apply Cj.mk <;> first | exact trivial | intros))
       ·rw [← x.hk_keep g 0 (k:=0) (by omega) (by omega) z1]
       ·exact ⟨by omega,by omega⟩
     ·repeat' ((first
       | refine lvK ?_
       | fail) <;> try (apply Cj.mk <;> first | exact trivial | intros))
      ·rename_i z1 z2
       refine ⟨1+1,⟨[],hdA (lvL ?_) (lvL ?_)⟩,?_,by (try dsimp only);omega,rfl⟩ <;> (try (apply Cj.mk <;> first | exact trivial | intros))
       ·rw [List.set_set];exact congrArg (List.map I) (x.hk_set g 0 (k:=1) (by omega) (by omega) (hv_big z1 z2))
       ·exact ⟨by omega,by omega⟩
      ·rename_i z1 z2
       refine ⟨1+1,⟨[],hdA (lvL ?_) (lvL ?_)⟩,?_,by (try dsimp only);omega,rfl⟩ <;> (try (apply Cj.mk <;> first | exact trivial | intros))
       ·exact congrArg (List.map I) (x.hk_set g 0 (k:=1) (by omega) (by omega) (hv_small z1 z2))
       ·exact ⟨by omega,by omega⟩
      ·rename_i z1
       refine ⟨1+1,⟨[],hdA (lvL ?_) (lvL ?_)⟩,?_,by (try dsimp only);omega,rfl⟩ <;> (try (apply Cj.mk <;> first | exact trivial | intros))
       ·rw [← x.hk_keep g 0 (k:=1) (by omega) (by omega) z1]
       ·exact ⟨by omega,by omega⟩
    ·rw [show x.hk g 0 k=x.hand g 0 by rw [show k=g.nk by omega,x.hk_all]]
     repeat' ((first
      | refine lvK ?_
      | fail) <;> try (apply Cj.mk <;> first | exact trivial | intros))
     all_goals
      refine ⟨0+1,⟨[],hdA (lvL ?_) (lvL ?_)⟩,?_,by (try dsimp only);omega,rfl⟩ <;> (try (apply Cj.mk <;> first | exact trivial | intros))
      exact ⟨by omega,by omega⟩
   ·repeat' ((first
     | refine lvK ?_
     | fail) <;> try (apply Cj.mk <;> first | exact trivial | intros))
    refine .of (fun k=>[(9,I k)]) (fun k=>[(22,.arr 1 ((x.hk g 1 k).map I))]) 23 (fun k=>0≤k∧k≤g.nk) (fun k=>(g.nk - k).toNat) 0 ?_
    conv=>whnf
    refine ⟨⟨[],hdA (lvL ?_) (lvL ?_)⟩,?_,fun k ⟨k0,k1⟩=>lvN ?_⟩ <;> (try (apply Cj.mk <;> first | exact trivial | intros))
    ·rw [x.hk_zero,List.map_replicate,hnk,en];rfl
    ·exact ⟨by omega,by omega⟩
    have hlk:=x.hk_len g 1 k
    by_cases hk1:k < g.nk
    ·have hk2:k=0∨k=1:=by omega
     have hkk:g.keep k=(nth g.kinds k).keep:=rfl
     rcases hk2 with rfl | rfl
     ·repeat' ((first
       | refine lvK ?_
       | fail) <;> try (apply Cj.mk <;> first | exact trivial | intros))
      ·rename_i z1 z2
       refine ⟨0+1,⟨[],hdA (lvL ?_) (lvL ?_)⟩,?_,by (try dsimp only);omega,rfl⟩ <;> (try (apply Cj.mk <;> first | exact trivial | intros))
       ·rw [List.set_set];exact congrArg (List.map I) (x.hk_set g 1 (k:=0) (by omega) (by omega) (hv_big z1 z2))
       ·exact ⟨by omega,by omega⟩
      ·rename_i z1 z2
       refine ⟨0+1,⟨[],hdA (lvL ?_) (lvL ?_)⟩,?_,by (try dsimp only);omega,rfl⟩ <;> (try (apply Cj.mk <;> first | exact trivial | intros))
       ·exact congrArg (List.map I) (x.hk_set g 1 (k:=0) (by omega) (by omega) (hv_small z1 z2))
       ·exact ⟨by omega,by omega⟩
      ·rename_i z1
       refine ⟨0+1,⟨[],hdA (lvL ?_) (lvL ?_)⟩,?_,by (try dsimp only);omega,rfl⟩ <;> (try (apply Cj.mk <;> first | exact trivial | intros))
       ·rw [← x.hk_keep g 1 (k:=0) (by omega) (by omega) z1]
       ·exact ⟨by omega,by omega⟩
     ·repeat' ((first
       | refine lvK ?_
       | fail) <;> try (apply Cj.mk <;> first | exact trivial | intros))
      ·rename_i z1 z2
       refine ⟨1+1,⟨[],hdA (lvL ?_) (lvL ?_)⟩,?_,by (try dsimp only);omega,rfl⟩ <;> (try (apply Cj.mk <;> first | exact trivial | intros))
       ·rw [List.set_set];exact congrArg (List.map I) (x.hk_set g 1 (k:=1) (by omega) (by omega) (hv_big z1 z2))
       ·exact ⟨by omega,by omega⟩
      ·rename_i z1 z2
       refine ⟨1+1,⟨[],hdA (lvL ?_) (lvL ?_)⟩,?_,by (try dsimp only);omega,rfl⟩ <;> (try (apply Cj.mk <;> first | exact trivial | intros))
       ·exact congrArg (List.map I) (x.hk_set g 1 (k:=1) (by omega) (by omega) (hv_small z1 z2))
       ·exact ⟨by omega,by omega⟩
      ·rename_i z1
       refine ⟨1+1,⟨[],hdA (lvL ?_) (lvL ?_)⟩,?_,by (try dsimp only);omega,rfl⟩ <;> (try (apply Cj.mk <;> first | exact trivial | intros))
       ·rw [← x.hk_keep g 1 (k:=1) (by omega) (by omega) z1]
       ·exact ⟨by omega,by omega⟩
    ·rw [show x.hk g 1 k=x.hand g 1 by rw [show k=g.nk by omega,x.hk_all]]
     repeat' ((first
      | refine lvK ?_
      | fail) <;> try (apply Cj.mk <;> first | exact trivial | intros))
     all_goals
      refine ⟨1+1,⟨[],hdA (lvL ?_) (lvL ?_)⟩,?_,by (try dsimp only);omega,rfl⟩ <;> (try (apply Cj.mk <;> first | exact trivial | intros))
      exact ⟨by omega,by omega⟩
  ·have hs2:s=2:=by omega
   subst hs2
   repeat' ((first
    | refine lvK ?_
    | refine lvE ?_
    | fail) <;> try (apply Cj.mk <;> first | exact trivial | intros))
end Go.Proofs.Ytejljpjdifblpaa
