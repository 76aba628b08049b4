/- Contracts of functions of the program, proved by the checker; and plain laws. -/
import Derived.Test.YtejljpjdifblpaaZ17
set_option linter.unusedVariables false
set_option linter.unusedSimpArgs false
namespace Go.Proofs.Ytejljpjdifblpaa
open Go Go.Sk
theorem smT_zero:∀ (f:Int→Int) (n:Nat),(∀ k:Int,0≤k→k < n→f k=0)→smT f n=0
 | _,0,_=>rfl
 | f,n+1,h=>by
  show smT f n+f n=0
  rw [smT_zero f n fun k k0 k1=>h k k0 (by omega),h n (by omega) (by omega)]
  rfl
def rowI (g:Gm) (mod m:Int):Iv:=⟨mod,(ints (2 * g.nk+1)).map fun n=>(ints g.b.cells).map fun _=>if n=m then 1 else 0,zeroL g.nk,zeroL g.nk,zeroL g.rights,0⟩
def is1 (p:Ps) (m c:Int):Int:=if nth p.ct c=m then 1 else 0
def cntC (p:Ps) (m:Int):Int:=smT (is1 p m) p.ct.length
theorem val_plain {g:Gm} {x:Iv} {p:Ps} (f:Int→Int) (hs:x.side=0) (h0:∀ s k:Int,0≤k→k < g.nk→nth (x.hd s) k=0) (hr:∀ r:Int,0≤r→r < g.rights→nth x.rights r=0) (hf:∀ c:Int,0≤c→c < g.b.cells→x.vC p c=f c):x.val g p=smT f g.b.cells.toNat % x.mod:=by
 have e:x.sumV g p=smT f g.b.cells.toNat:=by
  unfold Iv.sumV
  rw [hs,smT_congr (x.vC p) f _ fun c c0 c1=>hf c c0 (by omega),smT_zero (x.vH p 0) _ fun k k0 k1=>?_,smT_zero (x.vH p 1) _ fun k k0 k1=>?_,smT_zero (x.vR p) _ fun r r0 r1=>?_]
  ·rw [Int.zero_mul];omega
  ·unfold Iv.vR
   rw [hr r r0 (by omega),Int.zero_mul]
  ·unfold Iv.vH
   rw [h0 1 k k0 (by omega),Int.zero_mul]
  ·unfold Iv.vH
   rw [h0 0 k k0 (by omega),Int.zero_mul]
 unfold Iv.val
 rw [e]
theorem row_val {g:Gm} (hg:g.ok) {m:Int} {p:Ps} (hp:p.ok g):(rowI g 128 m).val g p=cntC p m:=by
 have hl:=hp.len
 have c9:=hg.c9
 have hz:∀ s k:Int,0≤k→k < g.nk→nth ((rowI g 128 m).hd s) k=0:=fun s k k0 k1=>by unfold Iv.hd;split <;> exact zeroL_nth k0 k1
 rw [val_plain (is1 p m) rfl hz (fun r r0 r1=>zeroL_nth r0 r1) fun c c0 c1=>?_]
 ·have hr:=smT_rg (is1 p m) 1 (by decide) g.b.cells.toNat fun k _ _=>by unfold is1;split <;> omega
  show smT (is1 p m) g.b.cells.toNat % 128=_
  unfold cntC
  rw [show p.ct.length=g.b.cells.toNat by omega]
  omega
 ·have hr:=hp.c c c0 c1
  show nth (nth ((ints (2 * g.nk+1)).map fun n=>(ints g.b.cells).map fun _=>if n=m then 1 else 0) (nth p.ct c)) c=is1 p m c
  rw [nth_map_ints hr.1 (by omega),nth_map_ints c0 c1]
  rfl
theorem smT_one (d:Int) (v:Int) (h:0≤d):∀ n:Nat,smT (fun c=>if c=d then v else 0) n=if d < n then v else 0
 | 0=>by rw [if_neg (by omega)];rfl
 | n+1=>by
  have ih:=smT_one d v h n
  show smT (fun c=>if c=d then v else 0) n+(if (n:Int)=d then v else 0)=_
  rw [ih]
  by_cases h1:d < n
  ·rw [if_pos h1,if_neg (by omega),if_pos (by omega)];omega
  ·by_cases h2:(n:Int)=d
   ·rw [if_neg h1,if_pos h2,if_pos (by omega)];omega
   ·rw [if_neg h1,if_neg h2,if_neg (by omega)];rfl
theorem cell_val {g:Gm} {m d:Int} {p:Ps} (hp:p.ok g) (d0:0≤d) (d1:d < g.b.cells):(cellI g 2 m d).val g p=if nth p.ct d=m then 1 else 0:=by
 have hz:∀ s k:Int,0≤k→k < g.nk→nth ((cellI g 2 m d).hd s) k=0:=fun s k k0 k1=>by unfold Iv.hd;split <;> exact zeroL_nth k0 k1
 rw [val_plain (fun c=>if c=d then (if nth p.ct d=m then 1 else 0) else 0) rfl hz (fun r r0 r1=>zeroL_nth r0 r1) fun c c0 c1=>?_]
 ·rw [smT_one d _ d0,if_pos (by omega)]
  show (if nth p.ct d=m then (1:Int) else 0) % 2=_
  split <;> rfl
 ·have hr:=hp.c c c0 c1
  show nth (nth ((ints (2 * g.nk+1)).map fun n=>(ints g.b.cells).map fun c=>if n=m∧c=d then 1 else 0) (nth p.ct c)) c=_
  rw [nth_map_ints hr.1 (by omega),nth_map_ints c0 c1]
  by_cases e:c=d
  ·subst e
   rw [if_pos rfl]
   by_cases e2:nth p.ct c=m
   ·rw [if_pos ⟨e2,rfl⟩,if_pos e2]
   ·rw [if_neg (fun h=>e2 h.1),if_neg e2]
  ·rw [if_neg (fun h=>e h.2),if_neg e]
def rightB (mod:Int) (l:List Int) (n:Int):Bool:=decide ((l.length:Int)=n) && l.all fun v=>decide (0≤v∧v < mod)
def Iv.validB (g:Gm) (x:Iv):Bool :=
 decide (2≤x.mod∧x.mod≤1000∧(x.men.length:Int)=2 * g.nk+1∧0≤x.side∧x.side < x.mod) && (x.men.all (fun l=>rightB x.mod l g.b.cells) && (rightB x.mod x.h0 g.nk && (rightB x.mod x.h1 g.nk && rightB x.mod x.rights g.rights)))
theorem rightB_iff {mod n:Int} {l:List Int}:rightB mod l n=true↔(l.length:Int)=n∧∀ k:Int,0≤k→k < n→0≤nth l k∧nth l k < mod:=by
 unfold rightB
 rw [Bool.and_eq_true,decide_eq_true_eq,List.all_eq_true]
 constructor
 ·rintro ⟨h1,h2⟩
  exact ⟨h1,fun k k0 k1=>by simpa using h2 _ (nth_mem k0 (by omega))⟩
 ·rintro ⟨h1,h2⟩
  refine ⟨h1,fun v hv=>?_⟩
  obtain ⟨i,hi⟩:=List.mem_iff_getElem?.1 hv
  have hil:i < l.length:=(List.getElem?_eq_some_iff.1 hi).1
  have:=h2 i (by omega) (by omega)
  have e:nth l (i:Int)=v:=by
   have:=nth_some (l:=l) (i:=(i:Int)) (by omega) (by omega)
   rw [Int.toNat_natCast,hi] at this
   exact (Option.some.inj this).symm
  rw [e] at this
  simpa using this
theorem Iv.ok.valid {g:Gm} {x:Iv} (h:x.ok g):x.validB g=true:=by
 unfold Iv.validB
 simp only [Bool.and_eq_true,decide_eq_true_eq,List.all_eq_true]
 refine ⟨⟨h.m2,h.m3,h.len,h.s0,h.s1⟩,fun l hl=>?_,rightB_iff.2 ⟨h.l0,fun k k0 k1=>h.hd 0 k k0 k1⟩,rightB_iff.2 ⟨h.l1,fun k k0 k1=>?_⟩,rightB_iff.2 ⟨h.lr,h.rt⟩⟩
 ·obtain ⟨i,hi⟩:=List.mem_iff_getElem?.1 hl
  have hil:i < x.men.length:=(List.getElem?_eq_some_iff.1 hi).1
  have hlen:=h.len
  have e:nth x.men (i:Int)=l:=by
   have:=nth_some (l:=x.men) (i:=(i:Int)) (by omega) (by omega)
   rw [Int.toNat_natCast,hi] at this
   exact (Option.some.inj this).symm
  rw [← e]
  exact rightB_iff.2 ⟨h.row i (by omega) (by omega),fun c c0 c1=>h.men i c (by omega) (by omega) c0 c1⟩
 ·have:=h.hd 1 k k0 k1
  unfold Iv.hd at this
  rwa [if_neg (by decide)] at this
end Go.Proofs.Ytejljpjdifblpaa
