/- Contracts of functions of the program, proved by the checker; and plain laws. -/
import Derived.Test.YtejljpjdifblpaaZ11
import Derived.Test.YtejljpjdifblpaaZ04
set_option linter.unusedVariables false
set_option linter.unusedSimpArgs false
namespace Go.Proofs.Ytejljpjdifblpaa
open Go Go.Sk
def fin (side:Int) (s:Rs):Oc:=⟨{ s.p with ct:=s.p.ct.set s.cur.toNat (code s.kind side),side:=1 - side },s.took⟩
def ins (side:Int) (acc:List Oc) (s:Rs):List Oc:=if nth s.p.ct s.cur≠0 then acc else put cmpO (fin side s) acc
def Gm.runsR (g:Gm) (p:Ps) (cell i:Int):List Oc:=(g.now p cell i (g.prog p cell i).length).foldl (ins p.side) []
theorem code_rg {g:Gm} {k s:Int} (k0:0≤k) (k1:k < g.nk) (h6:g.nk≤6) (hs:s=0∨s=1):code k s=1+2 * k+s:=by unfold code;rw [if_pos (by omega)]
theorem fin_ok {g:Gm} (hg:g.ok) {s:Rs} (hs:s.ok g) {side:Int} (hsd:side=0∨side=1):(fin side s).p.ok g:=by
 have h6:=hg.k6
 have k0:=hs.k0
 have k1:=hs.k1
 have hc:=code_rg hs.k0 hs.k1 h6 hsd
 have:=hs.pos.setC (v:=code s.kind side) hs.u0 (by omega) (by omega)
 exact ⟨this.len,this.c,this.h0,this.h1,this.r0,this.r1,by show 1 - side=0∨1 - side=1;omega⟩
theorem insL_mem {side:Int} {o:Oc} (now:List Rs):∀ acc:List Oc,o∈now.foldl (ins side) acc↔o∈acc∨∃ s,s∈now∧nth s.p.ct s.cur=0∧o=fin side s:=by
 induction now with
 | nil=>intro acc;simp
 | cons s r ih =>
  intro acc
  rw [List.foldl_cons,ih]
  unfold ins
  constructor
  ·rintro (h | ⟨t,h1,h2,h3⟩)
   ·split at h
    ·exact .inl h
    ·rename_i q
     rcases (mem_put cmpO_tot).1 h with h | h
     ·exact .inr ⟨s,by simp,by omega,h⟩
     ·exact .inl h
   ·exact .inr ⟨t,by simp [h1],h2,h3⟩
  ·rintro (h | ⟨t,h1,h2,h3⟩)
   ·left
    split
    ·exact h
    ·exact (mem_put cmpO_tot).2 (.inr h)
   ·rcases List.mem_cons.1 h1 with rfl | h1
    ·left
     rw [if_neg (by omega)]
     exact (mem_put cmpO_tot).2 (.inl h3)
    ·exact .inr ⟨t,h1,h2,h3⟩
theorem insL_len {side:Int} (now:List Rs):∀ acc:List Oc,(now.foldl (ins side) acc).length≤acc.length+now.length:=by
 induction now with
 | nil=>intro acc;simp
 | cons s r ih =>
  intro acc
  have h1:=ih (ins side acc s)
  have h2:(ins side acc s).length≤acc.length+1:=by
   unfold ins
   split
   ·omega
   ·exact put_len
  rw [List.foldl_cons,List.length_cons]
  omega
theorem runsR_ok {g:Gm} (hg:g.ok) {p:Ps} {cell i:Int} (h:CanRun g p cell i) {o:Oc} (ho:o∈g.runsR p cell i):o.p.ok g:=by
 unfold Gm.runsR at ho
 rcases (insL_mem _ _).1 ho with ho | ⟨s,hs,_,rfl⟩
 ·simp at ho
 ·exact fin_ok hg ((now_ok hg h _ (Nat.le_refl _)).1 s hs) h.ok.s
theorem runsR_len {g:Gm} (hg:g.ok) {p:Ps} {cell i:Int} (h:CanRun g p cell i):(g.runsR p cell i).length≤43046721:=by
 have h1:=insL_len (side:=p.side) (g.now p cell i (g.prog p cell i).length) []
 have h2:=now_len hg h (k:=(g.prog p cell i).length) (by omega) (Int.le_refl _)
 unfold Gm.runsR
 rw [List.length_nil] at h1
 omega
set_option maxHeartbeats 4000000 in
set_option maxRecDepth 10000 in
theorem Runs_p (g:Gm) (hg:g.ok) (p:Ps) (cell i:Int) (h:CanRun g p cell i):Pure Try.prog 58 [g.av,p.av,I cell,I i] (.tup [Ous (g.runsR p cell i),I 0]) none:=by
 have hrun:=Run_p g hg p cell i h
 have hli:=ints_len ((g.prog p cell i).length+1)
 have hsd:=h.ok.s
 have hnl:=now_len hg h (k:=(g.prog p cell i).length) (by omega) (Int.le_refl _)
 have hno:=(now_ok hg h _ (Nat.le_refl _)).1
 have hlast:nth (ints ((g.prog p cell i).length+1)) (g.prog p cell i).length=(g.prog p cell i).length:=nth_ints (by omega) (by omega)
 have el8:=(h.pg hg).l8
 have elm:((ints ((g.prog p cell i).length+1)).map fun k=>Sas (g.now p cell i k)).length=((g.prog p cell i).length+1:Nat):=by rw [List.length_map,hli];omega
 unfold Gm.runsR
 unfold Gm.stepsAV at hrun
 generalize (g.prog p cell i).length=m at *
 refine fun_of tok D_ok Try.func58 rfl Try.ntmps58 Try.results58 (by kernel_rfl) (by simp) (by simp) ?_
 conv=>whnf
 have hidx:nth (ints ((m:Int)+1)) ((((ints ((m:Int)+1)).map fun k=>Sas (g.now p cell i k)).length:Int) - 1)=m:=by rw [elm,show (((m+1:Nat):Int) - 1)=m by omega];exact hlast
 repeat' ((first
  | refine lvK ?_
  | refine ⟨_,_,hrun,lvN ?_⟩
  | (refine .inl ?_;(conv=>whnf);refine ⟨_,_,hrun,lvN ?_⟩)
  | refine lvE ?_
  | fail) <;> try (apply Cj.mk <;> first | exact trivial | intros))
 rw [hidx]
 generalize g.now p cell i m=l at *
 have el:(l.map Sa).length=l.length:=List.length_map _
 have h6:=hg.k6
 refine .of (fun k=>[(13,I k),(11,Ous ((l.take k.toNat).foldl (ins p.side) []))]) (fun k=>[]) 3 (fun k=>0≤k∧k≤l.length) (fun k=>(l.length - k).toNat) 0 ?_
 conv=>whnf
 refine ⟨⟨[],hdA (lvL ?_) (lvL ?_)⟩,?_,fun k ⟨k0,k1⟩=>lvN ?_⟩ <;> (try (apply Cj.mk <;> first | exact trivial | intros))
 ·exact ⟨by omega,by omega⟩
 by_cases hk:k < l.length
 ·have hs:=hno _ (nth_mem k0 hk)
  have hts:=take_snoc k0 hk
  have cp:=copied_p (nth l k).p (hs.pos.small hg)
  have hcode:=Code_p (nth l k).kind p.side
  have hlen:=hs.len
  have hu0:=hs.u0
  have hu1:=hs.u1
  have e2:((nth l k).p.ct.map I).length=(nth l k).p.ct.length:=List.length_map _
  have hacl:=insL_len (side:=p.side) (l.take k.toNat) []
  rw [List.length_take,List.length_nil] at hacl
  have hacs:∀ o,o∈(l.take k.toNat).foldl (ins p.side) []→o.p.small:=fun o ho=>by
   rcases (insL_mem _ _).1 ho with ho | ⟨s,hs,_,rfl⟩
   ·simp at ho
   ·exact (fin_ok hg (hno s (List.mem_of_mem_take hs)) hsd).small hg
  have hin:=Insert_p ((l.take k.toNat).foldl (ins p.side) []) (fin p.side (nth l k)) (by omega) hacs ((fin_ok hg hs hsd).small hg)
  by_cases hz:nth (nth l k).p.ct (nth l k).cur=0
  ·have hsu:(l.take (k+1).toNat).foldl (ins p.side) []=put cmpO (fin p.side (nth l k)) ((l.take k.toNat).foldl (ins p.side) []):=by rw [hts,List.foldl_append];show ins _ _ _=_;unfold ins;rw [if_neg (by omega)]
   repeat' ((first
    | refine lvK ?_
    | (refine .inr (.inl ?_);(conv=>whnf);refine ⟨[],[],[(nth l k).p.av],_,_,⟨rfl,rfl,rfl⟩,cp,lvN ?_⟩)
    | refine ⟨_,_,hcode,lvN ?_⟩
    | (refine .inl ?_;(conv=>whnf);refine ⟨_,_,hcode,lvN ?_⟩)
    | (refine .inr (.inl ?_);(conv=>whnf);refine ⟨_,_,hin,lvN ?_⟩)
    | refine lvE ?_
    | fail) <;> try (apply Cj.mk <;> first | exact trivial | intros))
   refine ⟨k+1,⟨[],hdA (lvL ?_) (lvL ?_)⟩,?_,by (try dsimp only);omega,rfl⟩ <;> (try (apply Cj.mk <;> first | exact trivial | intros))
   ·rw [hsu]
   ·exact ⟨by omega,by omega⟩
  ·have hsu:(l.take (k+1).toNat).foldl (ins p.side) []=(l.take k.toNat).foldl (ins p.side) []:=by rw [hts,List.foldl_append];show ins _ _ _=_;unfold ins;rw [if_pos (by omega)]
   repeat' ((first
    | refine lvK ?_
    | refine lvE ?_
    | fail) <;> try (apply Cj.mk <;> first | exact trivial | intros))
   refine ⟨k+1,⟨[],hdA (lvL ?_) (lvL ?_)⟩,?_,by (try dsimp only);omega,rfl⟩ <;> (try (apply Cj.mk <;> first | exact trivial | intros))
   ·rw [hsu]
   ·exact ⟨by omega,by omega⟩
 ·obtain rfl:k=l.length:=by omega
  rw [take_all (Int.le_refl _)]
  repeat' ((first
   | refine lvK ?_
   | refine lvE ?_
   | fail) <;> try (apply Cj.mk <;> first | exact trivial | intros))
end Go.Proofs.Ytejljpjdifblpaa
