/- Contracts of functions of the program, proved by the checker; and plain laws. -/
import Derived.Test.YtejljpjdifblpaaZ18
import Derived.Test.YtejljpjdifblpaaZ17
set_option linter.unusedVariables false
set_option linter.unusedSimpArgs false
namespace Go.Proofs.Ytejljpjdifblpaa
open Go Go.Sk
def cands (g:Gm) (col:List Int):List Iv :=
 (ints (2 * g.nk)).map (fun n=>cntI g [n+1] [])++((ints g.nk).map (fun k=>cntI g [1+2 * k,2+2 * k] [k])++(cntI g ((ints (2 * g.nk)).map (·+1)) (ints g.nk) ::
 ((ints (2 * g.nk)).flatMap (fun n=>(ints g.b.cells).map fun c=>cellI g 2 (n+1) c)++((ints g.rights).map (rightI g) ++
 ((ints (2 * g.nk)).flatMap (fun n=>[colI g col [n+1] 0,colI g col [n+1] 1])++[colI g col ((ints (2 * g.nk)).map (·+1)) 0,colI g col ((ints (2 * g.nk)).map (·+1)) 1])))))
structure R28 where
 mod:Int
 f0:Int
 f1:Int
 f2:Int
 t0:Int
 t1:Int
 t2:Int
 c0:Int
 c1:Int
 c2:Int
structure R28.ok (r:R28):Prop where
 mod:b8 r.mod
 f0:b8 r.f0
 f1:b8 r.f1
 f2:b8 r.f2
 t0:b8 r.t0
 t1:b8 r.t1
 t2:b8 r.t2
 c0:b8 r.c0
 c1:b8 r.c1
 c2:b8 r.c2
instance:Inhabited Iv:=⟨⟨0,[],[],[],[],0⟩⟩
def R28.md (r:R28):Int:=2 * (1+r.mod % 20)
def pickI (g:Gm) (col:List Int) (f:Int):Iv:=nth (cands g col) (f % (cands g col).length)
def timesI (md:Int) (y:Iv) (t:Int):Int:=if y.mod=2 then t * md / 2 else t
def stepI (g:Gm) (col:List Int) (x:Iv) (f t:Int):Iv:=x.plus (pickI g col f) (timesI x.mod (pickI g col f) t)
def Iv.bump (x:Iv) (n c v:Int):Iv:={ x with men:=x.men.set n.toNat ((nth x.men n).set c.toNat ((x.mn n c+v) % x.mod)) }
def R28.base (r:R28) (g:Gm) (col:List Int):Iv:=stepI g col (stepI g col (stepI g col (zeroI g r.md) r.f0 r.t0) r.f1 r.t1) r.f2 r.t2
def R28.made (r:R28) (g:Gm) (col:List Int):Iv:=if r.c0 % 4=3 then (r.base g col).bump (r.c1 % (2 * g.nk+1)) (r.c2 % g.b.cells) (1+r.c0 / 4) else r.base g col
def RowP (mod n:Int) (l:List Int):Prop:=(l.length:Int)=n∧∀ k:Int,0≤k→k < n→0≤nth l k∧nth l k < mod
theorem validB_iff {g:Gm} {x:Iv}:x.validB g=true↔(2≤x.mod∧x.mod≤1000∧(x.men.length:Int)=2 * g.nk+1∧0≤x.side∧x.side < x.mod)∧(∀ n:Int,0≤n→n < x.men.length→RowP x.mod g.b.cells (nth x.men n))∧RowP x.mod g.nk x.h0∧RowP x.mod g.nk x.h1∧RowP x.mod g.rights x.rights:=by
 unfold Iv.validB
 simp only [Bool.and_eq_true,decide_eq_true_eq,List.all_eq_true,rightB_iff]
 constructor
 ·rintro ⟨h1,h2,h3,h4,h5⟩
  exact ⟨h1,fun n n0 n1=>h2 _ (nth_mem n0 n1),h3,h4,h5⟩
 ·rintro ⟨h1,h2,h3,h4,h5⟩
  refine ⟨h1,fun l hl=>?_,h3,h4,h5⟩
  obtain ⟨i,hi⟩:=List.mem_iff_getElem?.1 hl
  have hil:i < x.men.length:=(List.getElem?_eq_some_iff.1 hi).1
  have e:nth x.men (i:Int)=l:=by
   have:=nth_some (l:=x.men) (i:=(i:Int)) (by omega) (by omega)
   rw [Int.toNat_natCast,hi] at this
   exact (Option.some.inj this).symm
  rw [← e]
  exact h2 i (by omega) (by omega)
theorem Iv.ok.parts {g:Gm} {x:Iv} (h:x.ok g):(2≤x.mod∧x.mod≤1000∧(x.men.length:Int)=2 * g.nk+1∧0≤x.side∧x.side < x.mod)∧(∀ n:Int,0≤n→n < x.men.length→RowP x.mod g.b.cells (nth x.men n))∧RowP x.mod g.nk x.h0∧RowP x.mod g.nk x.h1∧RowP x.mod g.rights x.rights:=validB_iff.1 h.valid
section
variable {g:Gm} {x:Iv} (h:x.ok g) (v:Int)
include h
end
open Go Go.Sk Go.ChangeShapes Go.WideShapes Go.ChangeAt Go.RowKit
def R28.cs (x:R28):List AV:=[U8 x.mod,U8 x.f0,U8 x.f1,U8 x.f2,U8 x.t0,U8 x.t1,U8 x.t2,U8 x.c0,U8 x.c1,U8 x.c2]
def I32 (n:Int):AV:=.v (.int .i32 n)
def b32 (n:Int):Prop:=-2147483648≤n∧n≤2147483647
section
variable {H:Type} {enc:TypeId × Value→H} {W:World} {sp:Nat→Bool} {held:Bool} {v:Value} {d:DataW H} {ps:List MemPlace} {b0:Nat} {r:Reach}
set_option maxRecDepth 10000 in
theorem open_a2 (hv:Value.okWide Try.prog W r b0 58 v) (h:DataW.Trod enc Try.prog W 0 sp held 58 v d ps):∃ w0 w1:Int,(b8 w0∧b8 w1)∧∀ V:VV,RepT NT W V (.ag [U8 w0,U8 w1]) v:=by
 have hs:∃ cs:Array Value,v=.agg cs∧cs.size=(u8s 2 []).length:=by
  have hv':=hv
  simp only [Value.okWide,Try.underlying58] at hv'
  obtain ⟨cs,rfl,h2,_⟩:=hv'
  exact ⟨cs,rfl,by rw [h2];kernel_rfl⟩
 obtain ⟨cs,rfl,hs⟩:=hs
 obtain ⟨us,h1,h2⟩:=arg_ag (n:=8) (ks:=u8s 2 []) (by kernel_rfl) hs h
 obtain ⟨n0,r0,rfl,q0,g0⟩:=ck_u8s h1
 obtain ⟨n1,r1,rfl,q1,g1⟩:=ck_u8s g0
 obtain rfl:=ck_nil g1
 exact ⟨n0,n1,⟨q0,q1⟩,h2⟩
end
end Go.Proofs.Ytejljpjdifblpaa
