/- Contracts of functions of the program, proved by the checker; and plain laws. -/
import Derived.Test.YtejljpjdifblpaaZ04
set_option linter.unusedVariables false
set_option linter.unusedSimpArgs false
namespace Go.Proofs.Ytejljpjdifblpaa
open Go Go.Sk
set_option maxHeartbeats 40000000 in
set_option maxRecDepth 10000 in
theorem R3Made_1 (x:R3) (hx:x.ok) (hk2:¬ x.k1.length > 0):Pure Try.prog 15 [.ag x.cs] x.made.av none:=by
 have hb:=bdMade_ok hx.w hx.h hx.cut
 have mb:=RMade_p _ _ _ hx.w hx.h hx.cut
 have hf0:=hx.f0
 have hf1:=hx.f1
 have hf2:=hx.f2
 have hf3:=hx.f3
 have hf4:=hx.f4
 unfold b8 at hf0 hf1 hf2 hf3 hf4
 have e0:(x.k0.map U8).length=x.k0.length:=List.length_map _
 have e1:(x.k1.map U8).length=x.k1.length:=List.length_map _
 have ec:(x.c.map Cb).length=x.c.length:=List.length_map _
 have hbe:x.b=bdMade x.w x.h x.cut:=rfl
 rw [← hbe] at hb mb
 obtain ⟨b,hbb⟩:∃ b,b=x.b:=⟨_,rfl⟩
 rw [← hbb] at hb mb
 unfold R3.made
 rw [← hbb]
 have en:(b.next.map Is).length=b.next.length:=List.length_map _
 refine fun_of tok D_ok Try.func15 rfl Try.ntmps15 Try.results15 (by kernel_rfl) (by simp) (by simp) ?_
 conv=>whnf
 repeat' ((first
  | refine lvK ?_
  | refine ⟨_,_,mb,lvN ?_⟩
  | (refine .inl ?_;(conv=>whnf);refine ⟨_,_,mb,lvN ?_⟩)
  | fail) <;> try (apply Cj.mk <;> first | exact trivial | intros))
 ·
  have hnk:x.nk=1:=by unfold R3.nk;first | rw [if_pos (by omega)] | rw [if_neg (by omega)]
  have e8:b.next.length=8:=hb.2.2
  refine .of (fun i=>[(5,I i)]) (fun i=>[(20,.box [I b.cells,Iss b.next,Is b.turn,.ref 21,I x.rights,Bo (x.f1 % 4 == 3),.nils,I 3,I 2]),(21,.arr 3 (((ints i).map x.kd).map Kn))]) 22 (fun i=>0≤i∧i≤1) (fun i=>(1 - i).toNat) 0 ?_
  conv=>whnf
  refine ⟨⟨[],hdA (lvL ?_) (lvL ?_)⟩,?_,fun i ⟨i0,i1⟩=>lvN ?_⟩ <;> (try (apply Cj.mk <;> first | exact trivial | intros))
  ·exact ⟨by omega,by omega⟩
  have hli:((ints i).map x.kd).length=i.toNat:=by rw [List.length_map,ints_len]
  by_cases hi:i < 1
  ·obtain rfl:i=0:=by omega
   ·have hkl:x.kl 0=x.k0:=rfl
    have hlk:=hx.l0
    have hkb:=hx.k0
    have hr:x.rights=x.f0 % 3:=rfl
    repeat' ((first
     | refine lvK ?_
     | fail) <;> try (apply Cj.mk <;> first | exact trivial | intros))
    refine .of (fun n=>[(7,I n)]) (fun n=>[(34,.box [.v (.string (kname 0)),.ref 35,Bo (x.keep 0)]),(35,.arr 1 ((x.progs 0 n).map Pg))]) 36 (fun n=>0≤n∧n≤4∧n≤(x.k0).length) (fun n=>(4 - n).toNat) 0 ?_
    conv=>whnf
    refine ⟨⟨[],hdA (lvL ?_) (lvL ?_)⟩,?_,fun n ⟨n0,n4,n1⟩=>lvN ?_⟩ <;> (try (apply Cj.mk <;> first | exact trivial | intros))
    ·exact ⟨by omega,by omega,by omega⟩
    have hpl:(x.progs 0 n).length=n.toNat:=by unfold R3.progs;rw [List.length_map,hkl,List.length_take];omega
    by_cases hn:n < 4∧n < (x.k0).length
    ·have pm:=PMade_p (nth x.k0 n) ((b.next.map Is).length:Int) 1 x.rights (hkb n n0 hn.2) (by omega) (by omega) (by omega)
     rw [show progMade (nth x.k0 n) ((b.next.map Is).length:Int) 1 x.rights=progMade (nth x.k0 n) 8 x.nk x.rights by rw [hnk,show ((b.next.map Is).length:Int)=8 by omega]] at pm
     repeat' ((first
      | refine lvK ?_
      | refine ⟨_,_,pm,lvN ?_⟩
      | (refine .inl ?_;(conv=>whnf);refine ⟨_,_,pm,lvN ?_⟩)
      | refine ap1 (f:=Pg) (a:=(progMade (nth x.k0 n) 8 x.nk x.rights)) (by decide) (by omega) rfl rfl (lvN ?_)
      | fail) <;> try (apply Cj.mk <;> first | exact trivial | intros))
     refine ⟨n+1,⟨[],hdA (lvL ?_) (lvL ?_)⟩,?_,by (try dsimp only);omega,rfl⟩ <;> (try (apply Cj.mk <;> first | exact trivial | intros))
     ·unfold R3.progs;rw [hkl,take_snoc n0 hn.2,List.map_append,List.map_append,List.map_append];rfl
     ·exact ⟨by omega,by omega,by omega⟩
    ·have hpe:x.progs 0 n=x.progs 0 4:=by
      unfold R3.progs
      rw [hkl]
      by_cases h4:n=4
      ·rw [h4]
      ·rw [take_all (by omega),List.take_of_length_le (by show (x.k0).length≤4;omega)]
     rw [hpe]
     repeat' ((first
      | refine lvK ?_
      | (refine CalcL.mk (List.map Kn (List.map x.kd (ints (0+1)))) rfl ?_;conv=>whnf)
      | refine ap1 (f:=Kn) (a:=(x.kd 0)) (by decide) (by omega) rfl rfl (lvN ?_)
      | fail) <;> try (apply Cj.mk <;> first | exact trivial | intros))
     all_goals
      refine ⟨0+1,⟨[],hdA (lvL ?_) (lvL ?_)⟩,?_,by (try dsimp only);omega,rfl⟩ <;> (try (apply Cj.mk <;> first | exact trivial | intros))
      exact ⟨by omega,by omega⟩
  ·obtain rfl:i=1:=by omega
   repeat' ((first
    | refine lvK ?_
    | fail) <;> try (apply Cj.mk <;> first | exact trivial | intros))
   ·
    have hcb:=hx.c
    have hlc:=hx.lc
    have hcc:x.b.cells=b.cells:=by rw [hbb]
    have c9:=hb.2.1
    have c1:=hb.1.c1
    refine .of (fun i=>[(8,I i)]) (fun i=>[(20,.box [I b.cells,Iss b.next,Is b.turn,.ref 21,I x.rights,Bo (x.f1 % 4 == 3),.ref 22,I x.bl1,I x.en1]),(22,.arr 4 (((x.c.take i.toNat).map x.cl).map Ca))]) 23 (fun i=>0≤i∧i≤3∧i≤x.c.length) (fun i=>(3 - i).toNat) 0 ?_
    conv=>whnf
    refine ⟨⟨[],hdA (lvL ?_) (lvL ?_)⟩,?_,fun i ⟨j0,j3,j1⟩=>lvN ?_⟩ <;> (try (apply Cj.mk <;> first | exact trivial | intros))
    ·exact ⟨by omega,by omega,by omega⟩
    have hll:((x.c.take i.toNat).map x.cl).length=i.toNat:=by rw [List.length_map,List.length_take];omega
    by_cases hj:i < 3∧i < x.c.length
    ·have hb3:=hcb i j0 hj.2
     unfold b8 at hb3
     repeat' ((first
      | refine lvK ?_
      | refine ap1 (f:=Ca) (a:=⟨_,_,_,_⟩) (by decide) (by omega) rfl rfl (lvN ?_)
      | fail) <;> try (apply Cj.mk <;> first | exact trivial | intros))
     all_goals
      refine ⟨i+1,⟨[],hdA (lvL ?_) (lvL ?_)⟩,?_,by (try dsimp only);omega,rfl⟩ <;> (try (apply Cj.mk <;> first | exact trivial | intros))
      ·rw [take_snoc j0 hj.2,List.map_append,List.map_append,List.map_append]
       congr 2
       rw [List.map_cons,List.map_nil]
       unfold R3.cl
       rw [hnk,hcc]
       repeat (first | rw [if_pos (by omega)] | rw [if_neg (by omega)])
      ·exact ⟨by omega,by omega,by omega⟩
    ·have hte:x.c.take i.toNat=x.c.take 3:=by
      by_cases h3:i=3
      ·rw [h3];rfl
      ·rw [take_all (by omega),List.take_of_length_le (by omega)]
     repeat' ((first
      | refine lvK ?_
      | refine lvE ?_
      | fail) <;> try (apply Cj.mk <;> first | exact trivial | intros))
     all_goals first
      | (rw [hnk];done)
      | (rw [hte];done)
      | (congr 1;dsimp only;rw [if_pos (by omega)];rfl)
      | (congr 1;dsimp only;rw [if_neg (by omega)];rfl)
   ·
    have hcb:=hx.c
    have hlc:=hx.lc
    have hcc:x.b.cells=b.cells:=by rw [hbb]
    have c9:=hb.2.1
    have c1:=hb.1.c1
    refine .of (fun i=>[(8,I i)]) (fun i=>[(20,.box [I b.cells,Iss b.next,Is b.turn,.ref 21,I x.rights,Bo (x.f1 % 4 == 3),.ref 22,I x.bl1,I x.en0]),(22,.arr 4 (((x.c.take i.toNat).map x.cl).map Ca))]) 23 (fun i=>0≤i∧i≤3∧i≤x.c.length) (fun i=>(3 - i).toNat) 0 ?_
    conv=>whnf
    refine ⟨⟨[],hdA (lvL ?_) (lvL ?_)⟩,?_,fun i ⟨j0,j3,j1⟩=>lvN ?_⟩ <;> (try (apply Cj.mk <;> first | exact trivial | intros))
    ·exact ⟨by omega,by omega,by omega⟩
    have hll:((x.c.take i.toNat).map x.cl).length=i.toNat:=by rw [List.length_map,List.length_take];omega
    by_cases hj:i < 3∧i < x.c.length
    ·have hb3:=hcb i j0 hj.2
     unfold b8 at hb3
     repeat' ((first
      | refine lvK ?_
      | refine ap1 (f:=Ca) (a:=⟨_,_,_,_⟩) (by decide) (by omega) rfl rfl (lvN ?_)
      | fail) <;> try (apply Cj.mk <;> first | exact trivial | intros))
     all_goals
      refine ⟨i+1,⟨[],hdA (lvL ?_) (lvL ?_)⟩,?_,by (try dsimp only);omega,rfl⟩ <;> (try (apply Cj.mk <;> first | exact trivial | intros))
      ·rw [take_snoc j0 hj.2,List.map_append,List.map_append,List.map_append]
       congr 2
       rw [List.map_cons,List.map_nil]
       unfold R3.cl
       rw [hnk,hcc]
       repeat (first | rw [if_pos (by omega)] | rw [if_neg (by omega)])
      ·exact ⟨by omega,by omega,by omega⟩
    ·have hte:x.c.take i.toNat=x.c.take 3:=by
      by_cases h3:i=3
      ·rw [h3];rfl
      ·rw [take_all (by omega),List.take_of_length_le (by omega)]
     repeat' ((first
      | refine lvK ?_
      | refine lvE ?_
      | fail) <;> try (apply Cj.mk <;> first | exact trivial | intros))
     all_goals first
      | (rw [hnk];done)
      | (rw [hte];done)
      | (congr 1;dsimp only;rw [if_pos (by omega)];rfl)
      | (congr 1;dsimp only;rw [if_neg (by omega)];rfl)
   ·
    have hcb:=hx.c
    have hlc:=hx.lc
    have hcc:x.b.cells=b.cells:=by rw [hbb]
    have c9:=hb.2.1
    have c1:=hb.1.c1
    refine .of (fun i=>[(8,I i)]) (fun i=>[(20,.box [I b.cells,Iss b.next,Is b.turn,.ref 21,I x.rights,Bo (x.f1 % 4 == 3),.ref 22,I x.bl0,I x.en1]),(22,.arr 4 (((x.c.take i.toNat).map x.cl).map Ca))]) 23 (fun i=>0≤i∧i≤3∧i≤x.c.length) (fun i=>(3 - i).toNat) 0 ?_
    conv=>whnf
    refine ⟨⟨[],hdA (lvL ?_) (lvL ?_)⟩,?_,fun i ⟨j0,j3,j1⟩=>lvN ?_⟩ <;> (try (apply Cj.mk <;> first | exact trivial | intros))
    ·exact ⟨by omega,by omega,by omega⟩
    have hll:((x.c.take i.toNat).map x.cl).length=i.toNat:=by rw [List.length_map,List.length_take];omega
    by_cases hj:i < 3∧i < x.c.length
    ·have hb3:=hcb i j0 hj.2
     unfold b8 at hb3
     repeat' ((first
      | refine lvK ?_
      | refine ap1 (f:=Ca) (a:=⟨_,_,_,_⟩) (by decide) (by omega) rfl rfl (lvN ?_)
      | fail) <;> try (apply Cj.mk <;> first | exact trivial | intros))
     all_goals
      refine ⟨i+1,⟨[],hdA (lvL ?_) (lvL ?_)⟩,?_,by (try dsimp only);omega,rfl⟩ <;> (try (apply Cj.mk <;> first | exact trivial | intros))
      ·rw [take_snoc j0 hj.2,List.map_append,List.map_append,List.map_append]
       congr 2
       rw [List.map_cons,List.map_nil]
       unfold R3.cl
       rw [hnk,hcc]
       repeat (first | rw [if_pos (by omega)] | rw [if_neg (by omega)])
      ·exact ⟨by omega,by omega,by omega⟩
    ·have hte:x.c.take i.toNat=x.c.take 3:=by
      by_cases h3:i=3
      ·rw [h3];rfl
      ·rw [take_all (by omega),List.take_of_length_le (by omega)]
     repeat' ((first
      | refine lvK ?_
      | refine lvE ?_
      | fail) <;> try (apply Cj.mk <;> first | exact trivial | intros))
     all_goals first
      | (rw [hnk];done)
      | (rw [hte];done)
      | (congr 1;dsimp only;rw [if_pos (by omega)];rfl)
      | (congr 1;dsimp only;rw [if_neg (by omega)];rfl)
   ·
    have hcb:=hx.c
    have hlc:=hx.lc
    have hcc:x.b.cells=b.cells:=by rw [hbb]
    have c9:=hb.2.1
    have c1:=hb.1.c1
    refine .of (fun i=>[(8,I i)]) (fun i=>[(20,.box [I b.cells,Iss b.next,Is b.turn,.ref 21,I x.rights,Bo (x.f1 % 4 == 3),.ref 22,I x.bl0,I x.en0]),(22,.arr 4 (((x.c.take i.toNat).map x.cl).map Ca))]) 23 (fun i=>0≤i∧i≤3∧i≤x.c.length) (fun i=>(3 - i).toNat) 0 ?_
    conv=>whnf
    refine ⟨⟨[],hdA (lvL ?_) (lvL ?_)⟩,?_,fun i ⟨j0,j3,j1⟩=>lvN ?_⟩ <;> (try (apply Cj.mk <;> first | exact trivial | intros))
    ·exact ⟨by omega,by omega,by omega⟩
    have hll:((x.c.take i.toNat).map x.cl).length=i.toNat:=by rw [List.length_map,List.length_take];omega
    by_cases hj:i < 3∧i < x.c.length
    ·have hb3:=hcb i j0 hj.2
     unfold b8 at hb3
     repeat' ((first
      | refine lvK ?_
      | refine ap1 (f:=Ca) (a:=⟨_,_,_,_⟩) (by decide) (by omega) rfl rfl (lvN ?_)
      | fail) <;> try (apply Cj.mk <;> first | exact trivial | intros))
     all_goals
      refine ⟨i+1,⟨[],hdA (lvL ?_) (lvL ?_)⟩,?_,by (try dsimp only);omega,rfl⟩ <;> (try (apply Cj.mk <;> first | exact trivial | intros))
      ·rw [take_snoc j0 hj.2,List.map_append,List.map_append,List.map_append]
       congr 2
       rw [List.map_cons,List.map_nil]
       unfold R3.cl
       rw [hnk,hcc]
       repeat (first | rw [if_pos (by omega)] | rw [if_neg (by omega)])
      ·exact ⟨by omega,by omega,by omega⟩
    ·have hte:x.c.take i.toNat=x.c.take 3:=by
      by_cases h3:i=3
      ·rw [h3];rfl
      ·rw [take_all (by omega),List.take_of_length_le (by omega)]
     repeat' ((first
      | refine lvK ?_
      | refine lvE ?_
      | fail) <;> try (apply Cj.mk <;> first | exact trivial | intros))
     all_goals first
      | (rw [hnk];done)
      | (rw [hte];done)
      | (congr 1;dsimp only;rw [if_pos (by omega)];rfl)
      | (congr 1;dsimp only;rw [if_neg (by omega)];rfl)
end Go.Proofs.Ytejljpjdifblpaa
