/- Contracts of functions of the program, proved by the checker; and plain laws. -/
import Derived.Test.YtejljpjdifblpaaZ14
import Derived.Test.YtejljpjdifblpaaZ16
import Derived.Test.YtejljpjdifblpaaRows
import Derived.Test.YtejljpjdifblpaaSk17
set_option linter.unusedVariables false
set_option linter.unusedSimpArgs false
namespace Go.Proofs.Ytejljpjdifblpaa
open Go Go.Sk
def smT (f:Int→Int):Nat→Int
 | 0=>0
 | n+1=>smT f n+f n
theorem smT_succ (f:Int→Int) {k:Int} (h:0≤k):smT f (k+1).toNat=smT f k.toNat+f k:=by
 rw [show (k+1).toNat=k.toNat+1 by omega]
 show smT f k.toNat+f ((k.toNat:Nat):Int)=_
 rw [Int.toNat_of_nonneg h]
theorem smT_rg (f:Int→Int) (c:Int) (hc:0≤c):∀ n:Nat,(∀ k:Int,0≤k→k < n→0≤f k∧f k≤c)→0≤smT f n∧smT f n≤c * n
 | 0,_=>by show (0:Int)≤0∧(0:Int)≤c * 0;omega
 | n+1,e=>by
  have ih:=smT_rg f c hc n fun k k0 k1=>e k k0 (by omega)
  have:=e n (by omega) (by omega)
  have hm:c * ((n+1:Nat):Int)=c * (n:Int)+c:=by rw [show ((n+1:Nat):Int)=(n:Int)+1 by omega,Int.mul_add,Int.mul_one]
  rw [hm]
  show 0≤smT f n+f n∧smT f n+f n≤_
  omega
theorem smT_congr (f g:Int→Int):∀ n:Nat,(∀ k:Int,0≤k→k < n→f k=g k)→smT f n=smT g n
 | 0,_=>rfl
 | n+1,e=>by
  have ih:=smT_congr f g n fun k k0 k1=>e k k0 (by omega)
  have:=e n (by omega) (by omega)
  show smT f n+f n=smT g n+g n
  omega
def Ps.hd (p:Ps) (s:Int):List Int:=if s=0 then p.h0 else p.h1
def Iv.vC (x:Iv) (p:Ps) (c:Int):Int:=x.mn (nth p.ct c) c
def Iv.vH (x:Iv) (p:Ps) (s k:Int):Int:=nth (x.hd s) k * nth (p.hd s) k
def Iv.vR (x:Iv) (p:Ps) (r:Int):Int:=nth x.rights r * bitR p.rights r
def Iv.sumV (x:Iv) (g:Gm) (p:Ps):Int:=x.side * p.side+smT (x.vC p) g.b.cells.toNat+smT (x.vH p 0) g.nk.toNat+smT (x.vH p 1) g.nk.toNat+smT (x.vR p) g.rights.toNat
def Iv.val (x:Iv) (g:Gm) (p:Ps):Int:=x.sumV g p % x.mod
structure Iv.ok (g:Gm) (x:Iv):Prop where
 m2:2≤x.mod
 m3:x.mod≤1000
 len:(x.men.length:Int)=2 * g.nk+1
 row:∀ n:Int,0≤n→n≤2 * g.nk→((nth x.men n).length:Int)=g.b.cells
 men:∀ n c:Int,0≤n→n≤2 * g.nk→0≤c→c < g.b.cells→0≤x.mn n c∧x.mn n c < x.mod
 l0:(x.h0.length:Int)=g.nk
 l1:(x.h1.length:Int)=g.nk
 hd:∀ s k:Int,0≤k→k < g.nk→0≤nth (x.hd s) k∧nth (x.hd s) k < x.mod
 lr:(x.rights.length:Int)=g.rights
 rt:∀ r:Int,0≤r→r < g.rights→0≤nth x.rights r∧nth x.rights r < x.mod
 s0:0≤x.side
 s1:x.side < x.mod
section
variable {g:Gm} {t:Int} {x y z:Iv} (h:SumOf g t x y z) {p:Ps} (hp:p.ok g)
include h hp
end
def zeroL (n:Int):List Int:=(ints n).map fun _=>0
def zeroI (g:Gm) (mod:Int):Iv:=⟨mod,(ints (2 * g.nk+1)).map fun _=>zeroL g.b.cells,zeroL g.nk,zeroL g.nk,zeroL g.rights,0⟩
def cntI (g:Gm) (cs ks:List Int):Iv:=⟨128,(ints (2 * g.nk+1)).map fun n=>(ints g.b.cells).map fun _=>if 1≤n∧n∈cs then 1 else 0,(ints g.nk).map fun k=>if k∈ks then 1 else 0,(ints g.nk).map fun k=>if k∈ks then 1 else 0,zeroL g.rights,0⟩
def colI (g:Gm) (col cs:List Int) (side:Int):Iv:=⟨2,(ints (2 * g.nk+1)).map fun n=>(ints g.b.cells).map fun c=>if 1≤n∧n∈cs then nth col c else 0,zeroL g.nk,zeroL g.nk,zeroL g.rights,side⟩
def cellI (g:Gm) (mod m d:Int):Iv:=⟨mod,(ints (2 * g.nk+1)).map fun n=>(ints g.b.cells).map fun c=>if n=m∧c=d then 1 else 0,zeroL g.nk,zeroL g.nk,zeroL g.rights,0⟩
def rightI (g:Gm) (r:Int):Iv:=⟨2,(ints (2 * g.nk+1)).map fun _=>zeroL g.b.cells,zeroL g.nk,zeroL g.nk,(ints g.rights).map fun q=>if q=r then 1 else 0,0⟩
def plusL (m t:Int) (a b:List Int):List Int:=(ints a.length).map fun i=>(nth a i+t * nth b i) % m
def Iv.plus (x y:Iv) (t:Int):Iv:=⟨x.mod,(ints x.men.length).map fun n=>plusL x.mod t (nth x.men n) (nth y.men n),plusL x.mod t x.h0 y.h0,plusL x.mod t x.h1 y.h1,plusL x.mod t x.rights y.rights,(x.side+t * y.side) % x.mod⟩
theorem zeroL_nth {n k:Int} (k0:0≤k) (k1:k < n):nth (zeroL n) k=0:=nth_map_ints k0 k1
theorem built_ok {g:Gm} (hg:g.ok) {mod side:Int} {fm:Int→Int→Int} {f0 f1 fr:Int→Int} (m2:2≤mod) (m3:mod≤1000) (hm:∀ n c:Int,0≤n→n≤2 * g.nk→0≤c→c < g.b.cells→0≤fm n c∧fm n c < mod)
  (h0:∀ k:Int,0≤k→k < g.nk→0≤f0 k∧f0 k < mod) (h1:∀ k:Int,0≤k→k < g.nk→0≤f1 k∧f1 k < mod) (hr:∀ k:Int,0≤k→k < g.rights→0≤fr k∧fr k < mod) (s0:0≤side) (s1:side < mod) :
  Iv.ok g ⟨mod,(ints (2 * g.nk+1)).map fun n=>(ints g.b.cells).map (fm n),(ints g.nk).map f0,(ints g.nk).map f1,(ints g.rights).map fr,side⟩:=by
 have k1:=hg.k1
 have c1:=hg.b.c1
 have r0:=hg.r0
 have hrow:∀ n:Int,0≤n→n≤2 * g.nk→nth ((ints (2 * g.nk+1)).map fun n=>(ints g.b.cells).map (fm n)) n=(ints g.b.cells).map (fm n):=fun n n0 n1=>nth_map_ints n0 (by omega)
 refine ⟨m2,m3,by simp only [List.length_map,ints_len];omega,fun n n0 n1=>?_,fun n c n0 n1 c0 c1=>?_,by simp only [List.length_map,ints_len];omega,by simp only [List.length_map,ints_len];omega,fun s k k0 k1=>?_,by simp only [List.length_map,ints_len];omega,fun r r0 r1=>?_,s0,s1⟩
 ·show ((nth ((ints (2 * g.nk+1)).map fun n=>(ints g.b.cells).map (fm n)) n).length:Int)=_
  rw [hrow n n0 n1,List.length_map,ints_len]
  omega
 ·show 0≤nth (nth ((ints (2 * g.nk+1)).map fun n=>(ints g.b.cells).map (fm n)) n) c∧nth (nth ((ints (2 * g.nk+1)).map fun n=>(ints g.b.cells).map (fm n)) n) c < mod
  rw [hrow n n0 n1,nth_map_ints c0 c1]
  exact hm n c n0 n1 c0 c1
 ·show 0≤nth (if s=0 then (ints g.nk).map f0 else (ints g.nk).map f1) k∧nth (if s=0 then (ints g.nk).map f0 else (ints g.nk).map f1) k < mod
  split
  ·rw [nth_map_ints k0 k1];exact h0 k k0 k1
  ·rw [nth_map_ints k0 k1];exact h1 k k0 k1
 ·show 0≤nth ((ints g.rights).map fr) r∧nth ((ints g.rights).map fr) r < mod
  rw [nth_map_ints r0 r1]
  exact hr r r0 r1
theorem cntI_ok {g:Gm} (hg:g.ok) (cs ks:List Int):(cntI g cs ks).ok g :=
 built_ok hg (by decide) (by decide) (fun _ _ _ _ _ _=>by split <;> omega) (fun _ _ _=>by split <;> omega) (fun _ _ _=>by split <;> omega) (fun _ _ _=>by omega) (by omega) (by omega)
theorem cellI_ok {g:Gm} (hg:g.ok) {mod:Int} (m2:2≤mod) (m3:mod≤1000) (m d:Int):(cellI g mod m d).ok g :=
 built_ok hg m2 m3 (fun _ _ _ _ _ _=>by split <;> omega) (fun _ _ _=>by omega) (fun _ _ _=>by omega) (fun _ _ _=>by omega) (by omega) (by omega)
open Go Go.Sk Go.ChangeShapes Go.WideShapes Go.ChangeAt Go.RowKit
theorem own:ownKnob Try.prog.godebug=none:=by kernel_rfl
theorem wf_b8 {m:Int} (h:(Lit.int .u8 m).wf=true):b8 m:=by
 simp [Lit.wf,IntKind.has,IntKind.min,IntKind.max,IntKind.signed,IntKind.bits] at h
 exact h
theorem row_map {α:Type} {ks:List CK} {f:α→AV} {p:α→Prop} (hf:∀ cs,CKoks ks cs→∃ x,packA cs=f x∧p x) {a:AV} (h:CKok (.row ks) a):∃ l:List α,a=.sl (l.map f)∧l.length≤9223372036854775807∧∀ x,x∈l→p x:=by
 simp only [CKok] at h
 obtain ⟨xs,rfl,hl,hx⟩:=h
 have:∃ l:List α,xs=l.map f∧∀ x,x∈l→p x:=by
  clear hl
  induction xs with
  | nil=>exact ⟨[],rfl,fun x hx=>by cases hx⟩
  | cons e r ih =>
   obtain ⟨l,h1,h2⟩:=ih fun e he=>hx e (List.mem_cons_of_mem _ he)
   obtain ⟨cs,h3,h4⟩:=hx e (List.mem_cons_self ..)
   obtain ⟨x,h5,h6⟩:=hf cs h4
   exact ⟨x :: l,by rw [h1,h3,h5];rfl,fun y hy=>by
    rcases List.mem_cons.1 hy with rfl | hy
    ·exact h6
    ·exact h2 y hy⟩
 obtain ⟨l,rfl,h2⟩:=this
 rw [List.length_map] at hl
 exact ⟨l,rfl,by unfold maxLen at hl;omega,h2⟩
theorem ck_u8 {a:AV} (h:CKok (.int .u8) a):∃ n,a=U8 n∧b8 n:=by
 simp only [CKok] at h
 obtain ⟨n,rfl,h⟩:=h
 exact ⟨n,rfl,wf_b8 h⟩
theorem ck_u8s {ks:List CK} {us:List AV} (h:CKoks (.int .u8 :: ks) us):∃ n r,us=U8 n :: r∧b8 n∧CKoks ks r:=by
 simp only [CKoks] at h
 obtain ⟨a,r,rfl,h1,h2⟩:=h
 obtain ⟨n,rfl,h3⟩:=ck_u8 h1
 exact ⟨n,r,rfl,h3,h2⟩
theorem ck_nil {us:List AV} (h:CKoks [] us):us=[]:=by simpa [CKoks] using h
theorem ck_row {ks ls:List CK} {us:List AV} (h:CKoks (.row ks :: ls) us):∃ a r,us=a :: r∧CKok (.row ks) a∧CKoks ls r:=by
 simp only [CKoks] at h
 exact h
theorem row_u8 {a:AV} (h:CKok (.row [.int .u8]) a):∃ l:List Int,a=Us l∧l.length≤9223372036854775807∧∀ i:Int,0≤i→i < l.length→b8 (nth l i):=by
 obtain ⟨l,h1,h2,h3⟩:=row_map (f:=U8) (p:=b8) (fun cs hc=>by
  obtain ⟨n,r,rfl,hn,hr⟩:=ck_u8s hc
  rw [ck_nil hr]
  exact ⟨n,rfl,hn⟩) h
 exact ⟨l,h1,h2,fun i i0 i1=>h3 _ (nth_mem i0 i1)⟩
theorem row_c3 {a:AV} (h:CKok (.row [.int .u8,.int .u8,.int .u8]) a):∃ l:List C3,a=.sl (l.map Cb)∧l.length≤9223372036854775807∧∀ i:Int,0≤i→i < l.length→b8 (nth l i).a∧b8 (nth l i).b∧b8 (nth l i).c:=by
 obtain ⟨l,h1,h2,h3⟩:=row_map (f:=Cb) (p:=fun x=>b8 x.a∧b8 x.b∧b8 x.c) (fun cs hc=>by
  obtain ⟨n1,r1,rfl,q1,hr⟩:=ck_u8s hc
  obtain ⟨n2,r2,rfl,q2,hr⟩:=ck_u8s hr
  obtain ⟨n3,r3,rfl,q3,hr⟩:=ck_u8s hr
  rw [ck_nil hr]
  exact ⟨⟨n1,n2,n3⟩,rfl,q1,q2,q3⟩) h
 exact ⟨l,h1,h2,fun i i0 i1=>h3 _ (nth_mem i0 i1)⟩
def u8s:Nat→List CK→List CK
 | 0,r=>r
 | n+1,r=>.int .u8 :: u8s n r
theorem ck_r4 {ks:List CK} {us:List AV} (h:CKoks (u8s 18 ks) us):∃ (y:R4) (r:List AV),us=y.cs++r∧y.ok∧CKoks ks r:=by
 obtain ⟨n0,r0,rfl,q0,g0⟩:=ck_u8s h
 clear h
 obtain ⟨n1,r1,rfl,q1,g1⟩:=ck_u8s g0
 clear g0
 obtain ⟨n2,r2,rfl,q2,g2⟩:=ck_u8s g1
 clear g1
 obtain ⟨n3,r3,rfl,q3,g3⟩:=ck_u8s g2
 clear g2
 obtain ⟨n4,r4,rfl,q4,g4⟩:=ck_u8s g3
 clear g3
 obtain ⟨n5,r5,rfl,q5,g5⟩:=ck_u8s g4
 clear g4
 obtain ⟨n6,r6,rfl,q6,g6⟩:=ck_u8s g5
 clear g5
 obtain ⟨n7,r7,rfl,q7,g7⟩:=ck_u8s g6
 clear g6
 obtain ⟨n8,r8,rfl,q8,g8⟩:=ck_u8s g7
 clear g7
 obtain ⟨n9,r9,rfl,q9,g9⟩:=ck_u8s g8
 clear g8
 obtain ⟨n10,r10,rfl,q10,g10⟩:=ck_u8s g9
 clear g9
 obtain ⟨n11,r11,rfl,q11,g11⟩:=ck_u8s g10
 clear g10
 obtain ⟨n12,r12,rfl,q12,g12⟩:=ck_u8s g11
 clear g11
 obtain ⟨n13,r13,rfl,q13,g13⟩:=ck_u8s g12
 clear g12
 obtain ⟨n14,r14,rfl,q14,g14⟩:=ck_u8s g13
 clear g13
 obtain ⟨n15,r15,rfl,q15,g15⟩:=ck_u8s g14
 clear g14
 obtain ⟨n16,r16,rfl,q16,g16⟩:=ck_u8s g15
 clear g15
 obtain ⟨n17,r17,rfl,q17,g17⟩:=ck_u8s g16
 clear g16
 refine ⟨⟨n0,n1,n2,n3,n4,n5,n6,n7,n8,n9,n10,n11,n12,n13,n14,n15,n16,n17⟩,r17,rfl,fun n hn=>?_,g17⟩
 simp only [R4.l,List.mem_cons,List.not_mem_nil,or_false] at hn
 rcases hn with rfl | rfl | rfl | rfl | rfl | rfl | rfl | rfl | rfl | rfl | rfl | rfl | rfl | rfl | rfl | rfl | rfl | rfl <;> assumption
theorem ck_r3 {ks:List CK} {us:List AV} (h:CKoks (u8s 3 (.row [.int .u8] :: .row [.int .u8] :: .row [.int .u8,.int .u8,.int .u8] :: u8s 6 ks)) us):∃ (y:R3) (r:List AV),us=y.cs++r∧y.ok∧CKoks ks r:=by
 obtain ⟨n0,r0,rfl,q0,g0⟩:=ck_u8s h
 clear h
 obtain ⟨n1,r1,rfl,q1,g1⟩:=ck_u8s g0
 clear g0
 obtain ⟨n2,r2,rfl,q2,g2⟩:=ck_u8s g1
 clear g1
 obtain ⟨a3,r3,rfl,p3,g3⟩:=ck_row g2
 clear g2
 obtain ⟨a4,r4,rfl,p4,g4⟩:=ck_row g3
 clear g3
 obtain ⟨a5,r5,rfl,p5,g5⟩:=ck_row g4
 clear g4
 obtain ⟨n6,r6,rfl,q6,g6⟩:=ck_u8s g5
 clear g5
 obtain ⟨n7,r7,rfl,q7,g7⟩:=ck_u8s g6
 clear g6
 obtain ⟨n8,r8,rfl,q8,g8⟩:=ck_u8s g7
 clear g7
 obtain ⟨n9,r9,rfl,q9,g9⟩:=ck_u8s g8
 clear g8
 obtain ⟨n10,r10,rfl,q10,g10⟩:=ck_u8s g9
 clear g9
 obtain ⟨n11,r11,rfl,q11,g11⟩:=ck_u8s g10
 clear g10
 obtain ⟨l3,rfl,s3,t3⟩:=row_u8 p3
 obtain ⟨l4,rfl,s4,t4⟩:=row_u8 p4
 obtain ⟨l5,rfl,s5,t5⟩:=row_c3 p5
 exact ⟨⟨n0,n1,n2,l3,l4,l5,n6,n7,n8,n9,n10,n11⟩,r11,rfl,⟨q0,q1,q2,t3,t4,t5,q6,q7,q8,q9,q10,s3,s4,s5⟩,g11⟩
def ksR4:List CK:=u8s 18 []
def ksR6:List CK:=u8s 3 (.row [.int .u8] :: .row [.int .u8] :: .row [.int .u8,.int .u8,.int .u8] :: u8s 6 (u8s 18 [.row [.int .u8]]))
theorem ck_r6 {us:List AV} (h:CKoks ksR6 us):∃ y:R6,us=y.cs∧y.ok:=by
 obtain ⟨y,r,rfl,hy,h1⟩:=ck_r3 h
 obtain ⟨z,r',rfl,hz,h2⟩:=ck_r4 h1
 obtain ⟨a,r'',rfl,ha,h3⟩:=ck_row h2
 obtain ⟨l,rfl,s,t⟩:=row_u8 ha
 obtain rfl:=ck_nil h3
 exact ⟨⟨y,z,l⟩,(List.append_assoc ..).symm,hy,hz,t,s⟩
section
variable {H:Type} {enc:TypeId × Value→H} {W:World} {sp:Nat→Bool} {held:Bool} {v:Value} {d:DataW H} {ps:List MemPlace} {b0:Nat} {r:Reach}
set_option maxRecDepth 10000 in
theorem open_r6 (hv:Value.okWide Try.prog W r b0 32 v) (h:DataW.Trod enc Try.prog W 0 sp held 32 v d ps):∃ x:R6,x.ok∧∀ V:VV,RepT NT W V (.ag x.cs) v:=by
 obtain ⟨cs,rfl,hs⟩:=okWide_struct Try.underlying32 hv
 obtain ⟨us,h1,h2⟩:=arg_ag (n:=8) (ks:=ksR6) (by kernel_rfl) (by rw [hs];kernel_rfl) h
 obtain ⟨x,hu,hx⟩:=ck_r6 h1
 subst hu
 exact ⟨x,hx,h2⟩
set_option maxRecDepth 10000 in
theorem r6_bd {A:Nat→Prop} (x:R6):bd A (.ag x.cs):=by
 simp [R6.cs,R3.cs,R4.cs,bd,bdL,U8,Us]
end
end Go.Proofs.Ytejljpjdifblpaa
