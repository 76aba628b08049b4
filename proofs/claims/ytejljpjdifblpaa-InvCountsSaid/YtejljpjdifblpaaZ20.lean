/- Contracts of functions of the program, proved by the checker; and plain laws. -/
import Derived.Test.YtejljpjdifblpaaZ19
set_option linter.unusedVariables false
set_option linter.unusedSimpArgs false
namespace Go.Proofs.Ytejljpjdifblpaa
open Go Go.Sk
def sameB (mod:Int) (l:List Int):Bool:=l.all fun n=>(n - nth l 0) % mod == 0
def Iv.keepsAB (x:Iv) (g:Gm) (side:Int):List Ac→Kp→Bool
 | [],_=>true
 | a :: r,s=>sameB x.mod (x.actL g side s.last a) && x.keepsAB g side r ⟨s.sum+nth (x.actL g side s.last a) 0,nowR side s.now a,lastR s.last a⟩
def Iv.start (x:Iv) (g:Gm) (side k cell:Int):Kp:=⟨x.lift (code k side) cell+x.turn side,code k side,List.replicate g.rights.toNat 0⟩
def Iv.keepsB (x:Iv) (g:Gm) (side k cell:Int) (p:Pth):Bool :=
 x.keepsAB g side p.acts (x.start g side k cell) && ((x.runA g side p.acts (x.start g side k cell)).sum - x.lift (x.runA g side p.acts (x.start g side k cell)).now p.to) % x.mod == 0
def Iv.dropB (x:Iv) (g:Gm) (side k c:Int):Bool:=!g.keep k || (- x.lift (code k side) c - nth (x.hd side) k+x.turn side) % x.mod == 0
def Iv.dropsB (x:Iv) (g:Gm):Bool:=[0,1].all fun side=>(ints g.nk).all fun k=>(ints g.b.cells).all fun c=>x.dropB g side k c
def Iv.pathsB (x:Iv) (g:Gm):Bool:=[0,1].all fun side=>(ints g.nk).all fun k=>(ints g.b.cells).all fun c=>(g.pathsK side k c).all fun p=>x.keepsB g side k c p
def Iv.keptB (x:Iv) (g:Gm):Bool:=x.pathsB g && x.dropsB g
theorem all3 {g:Gm} {f:Int→Int→Int→Bool}:([0,1].all fun side=>(ints g.nk).all fun k=>(ints g.b.cells).all fun c=>f side k c)=true↔∀ side k c:Int,side=0∨side=1→0≤k→k < g.nk→0≤c→c < g.b.cells→f side k c=true:=by
 simp only [List.all_eq_true,mem_ints,List.mem_cons,List.not_mem_nil,or_false]
 exact ⟨fun h s k c hs k0 k1 c0 c1=>h s hs k ⟨k0,k1⟩ c ⟨c0,c1⟩,fun h s hs k hk c hc=>h s k c hs hk.1 hk.2 hc.1 hc.2⟩
def Iv.cs (x:Iv):List AV:=[I x.mod,Iss x.men,Is x.h0,Is x.h1,Is x.rights,I x.side]
def Iv.av (x:Iv):AV:=.ag [I x.mod,Iss x.men,Is x.h0,Is x.h1,Is x.rights,I x.side]
def Iv.bx (x:Iv):AO:=.box [I x.mod,Iss x.men,Is x.h0,Is x.h1,Is x.rights,I x.side]
def FnOdd:AV:=.fn (.func 20) [] [.ptr 0 0]
def oddI (mod n:Int):Bool:=!decide (0≤n∧n < mod)
set_option maxRecDepth 10000 in
theorem VOdd_p (x:Iv) (n:Int):Fun Try.prog 20 [x.bx] [I n,.ptr 0 0] (Bo (oddI x.mod n)) [x.bx]:=by
 unfold Iv.bx
 refine fun_of tok D_ok Try.func20 rfl Try.ntmps20 Try.results20 (by kernel_rfl) (by simp) (by simp) ?_
 conv=>whnf
 repeat' ((first
  | refine lvK ?_
  | refine lvE ?_
  | fail) <;> try (apply Cj.mk <;> first | exact trivial | intros))
 ·rename_i h
  rw [show oddI x.mod n=true by unfold oddI;rw [decide_eq_false (by omega)];rfl]
 ·rename_i h
  congr 1
  unfold oddI
  by_cases q:n≥x.mod
  ·rw [decide_eq_true q,decide_eq_false (by omega)];rfl
  ·rw [decide_eq_false q,decide_eq_true (by omega)];rfl
set_option maxRecDepth 10000 in
theorem VIndex_p (x:Iv) (l:List Int) (hl:l.length≤9223372036854775807) :
  Fun Try.prog 31 [x.bx] [Is l,FnOdd] (I (match l.findIdx? (oddI x.mod) with | some i=>(i:Int) | none=>-1)) [x.bx]:=by
 have e:(l.map I).length=l.length:=List.length_map _
 have ho:=VOdd_p x
 unfold Iv.bx at ho ⊢
 unfold FnOdd
 refine fun_of tok D_ok Try.func31 rfl Try.ntmps31 Try.results31 (by kernel_rfl) (by simp) (by simp) ?_
 conv=>whnf
 repeat' ((first
  | refine lvK ?_
  | refine lvE ?_
  | fail) <;> try (apply Cj.mk <;> first | exact trivial | intros))
 refine .of (fun i=>[(8,I i)]) (fun i=>[]) 1 (fun i=>0≤i∧i≤l.length∧∀ c,c∈l.take i.toNat→oddI x.mod c=false) (fun i=>(l.length - i).toNat) 0 ?_
 conv=>whnf
 refine ⟨⟨[],hdA (lvL ?_) (lvL ?_)⟩,?_,fun i ⟨h0,h1,ht⟩=>lvN ?_⟩ <;> (try (apply Cj.mk <;> first | exact trivial | intros))
 ·exact ⟨by omega,by omega,by simp⟩
 by_cases hi:i < l.length
 ·have ho:=ho (nth l i)
  by_cases hb:oddI x.mod (nth l i)=true
  ·rw [hb] at ho
   repeat' ((first
    | refine lvK ?_
    | (refine .inl ?_;(conv=>whnf);refine ⟨[0],_,[I (nth l i),.ptr 0 0],_,_,⟨rfl,rfl,rfl⟩,ho,lvN ?_⟩)
    | refine lvE ?_
    | fail) <;> try (apply Cj.mk <;> first | exact trivial | intros))
   have hf:l.findIdx? (oddI x.mod)=some i.toNat:=by
    rw [List.findIdx?_eq_some_iff_getElem]
    refine ⟨by omega,?_,fun j hj=>?_⟩
    ·have:=nth_some h0 (show i < l.length by omega)
     rw [List.getElem?_eq_getElem (by omega)] at this
     injection this with this
     rw [this];exact hb
    ·have:=ht l[j] (List.mem_take_iff_getElem.2 ⟨j,by omega,rfl⟩)
     simp [this]
   rw [hf]
   show Value.int IntKind.i64 i=Value.int IntKind.i64 ((i.toNat:Int))
   rw [Int.toNat_of_nonneg h0]
  ·have hb:oddI x.mod (nth l i)=false:=by simpa using hb
   rw [hb] at ho
   repeat' ((first
    | refine lvK ?_
    | (refine .inl ?_;(conv=>whnf);refine ⟨[0],_,[I (nth l i),.ptr 0 0],_,_,⟨rfl,rfl,rfl⟩,ho,lvN ?_⟩)
    | refine lvE ?_
    | fail) <;> try (apply Cj.mk <;> first | exact trivial | intros))
   refine ⟨i+1,⟨[],hdA (lvL ?_) (lvL ?_)⟩,?_,by (try dsimp only);omega,rfl⟩ <;> (try (apply Cj.mk <;> first | exact trivial | intros))
   refine ⟨by omega,by omega,fun c hc=>?_⟩
   rw [take_snoc h0 (by omega)] at hc
   rcases List.mem_append.1 hc with hc | hc
   ·exact ht c hc
   ·simp at hc;subst hc;exact hb
 ·repeat' ((first
   | refine lvK ?_
   | refine lvE ?_
   | fail) <;> try (apply Cj.mk <;> first | exact trivial | intros))
  have hf:l.findIdx? (oddI x.mod)=none:=by
   rw [List.findIdx?_eq_none_iff]
   intro c hc
   exact ht c (by rw [take_all (by omega)];exact hc)
  rw [hf]
set_option maxRecDepth 10000 in
theorem VContains_p (x:Iv) (l:List Int) (hl:l.length≤9223372036854775807) :
  Fun Try.prog 22 [x.bx] [Is l,FnOdd] (Bo (l.any (oddI x.mod))) [x.bx]:=by
 have hi:=VIndex_p x l hl
 have this:(decide ((match l.findIdx? (oddI x.mod) with | some i=>(i:Int) | none=>-1)≥0))=l.any (oddI x.mod):=by
  cases hf:l.findIdx? (oddI x.mod) with
  | none =>
   rw [List.findIdx?_eq_none_iff] at hf
   have h2:l.any (oddI x.mod)=false:=List.any_eq_false.2 fun x hx=>by rw [hf x hx];simp
   rw [h2];rfl
  | some i =>
   obtain ⟨h1,h2,_⟩:=List.findIdx?_eq_some_iff_getElem.1 hf
   have h3:l.any (oddI x.mod)=true:=List.any_eq_true.2 ⟨l[i],List.getElem_mem _,h2⟩
   rw [h3]
   exact decide_eq_true (show (i:Int)≥0 by omega)
 rw [← this]
 generalize (match l.findIdx? (oddI x.mod) with | some i=>(i:Int) | none=>-1)=r at *
 unfold Iv.bx at hi ⊢
 unfold FnOdd at hi ⊢
 refine fun_of tok D_ok Try.func22 rfl Try.ntmps22 Try.results22 (by kernel_rfl) (by simp) (by simp) ?_
 conv=>whnf
 repeat' ((first
  | refine lvK ?_
  | (refine .inl ?_;(conv=>whnf);refine ⟨[0],_,[Is l,.fn (.func 20) [] [.ptr 0 0]],_,_,⟨rfl,rfl,rfl⟩,hi,lvN ?_⟩)
  | refine lvE ?_
  | fail) <;> try (apply Cj.mk <;> first | exact trivial | intros))
theorem right_any (mod:Int) (l:List Int) (n:Int):rightB mod l n=(decide ((l.length:Int)=n) && !l.any (oddI mod)):=by
 unfold rightB
 congr 1
 induction l with
 | nil=>rfl
 | cons a r ih=>simp only [List.all_cons,List.any_cons,Bool.not_or,ih,oddI,Bool.not_not]
set_option maxRecDepth 10000 in
theorem VRight_p (x:Iv) (l:List Int) (hl:l.length≤9223372036854775807) (n:Int) :
  Fun Try.prog 21 [x.bx,.box [FnOdd]] [Is l,I n,.ptr 1 0] (Bo (rightB x.mod l n)) [x.bx,.box [FnOdd]]:=by
 have hc:=VContains_p x l hl
 have e:(l.map I).length=l.length:=List.length_map _
 rw [right_any]
 generalize l.any (oddI x.mod)=b at *
 unfold Iv.bx at hc ⊢
 unfold FnOdd at hc ⊢
 refine fun_of tok D_ok Try.func21 rfl Try.ntmps21 Try.results21 (by kernel_rfl) (by simp) (by simp) ?_
 conv=>whnf
 by_cases h:(l.length:Int)=n
 ·rw [decide_eq_true h]
  repeat' ((first
   | refine lvK ?_
   | (refine .inl ?_;(conv=>whnf);refine ⟨[0],_,[Is l,.fn (.func 20) [] [.ptr 0 0]],_,_,⟨rfl,rfl,rfl⟩,hc,lvN ?_⟩)
   | refine lvE ?_
   | fail) <;> try (apply Cj.mk <;> first | exact trivial | intros))
 ·rw [decide_eq_false h]
  repeat' ((first
   | refine lvK ?_
   | (refine .inl ?_;(conv=>whnf);refine ⟨[0],_,[Is l,.fn (.func 20) [] [.ptr 0 0]],_,_,⟨rfl,rfl,rfl⟩,hc,lvN ?_⟩)
   | refine lvE ?_
   | fail) <;> try (apply Cj.mk <;> first | exact trivial | intros))
theorem line_nd {b:Bd} (hb:b.ok) (s d c:Int):(b.line s d c).length≤b.cells.toNat:=by
 have:∀ (n:Nat) (out:List Int) (x:Int),out.Nodup→(∀ y,y∈out→0≤y∧y < b.cells)→x < b.cells→(b.lineFrom s d c n out x).Nodup∧∀ y,y∈b.lineFrom s d c n out x→0≤y∧y < b.cells:=fun n=>by
  induction n with
  | zero=>intro out x h1 h2 _;exact ⟨h1,h2⟩
  | succ n ih =>
   intro out x h1 h2 hx
   unfold Bd.lineFrom
   split
   ·rename_i q
    refine ih (out++[x]) (b.to s d x) ?_ (fun y hy=>?_) (b.to_lt hb s d x).2
    ·rw [List.nodup_append]
     exact ⟨h1,by simp,fun a ha b hb=>by simp at hb;subst hb;rintro rfl;exact q.2.2 ha⟩
    ·rcases List.mem_append.1 hy with hy | hy
     ·exact h2 y hy
     ·simp at hy;subst hy;exact ⟨q.1,hx⟩
   ·exact ⟨h1,h2⟩
 have:=this 65 [] (b.to s d c) List.nodup_nil (by simp) (b.to_lt hb s d c).2
 exact cells_len this.1 this.2
theorem slideP_len (p:Pth):∀ (l:List Int) (more:List Ac),(slideP p more l).length=l.length
 | [],_=>rfl
 | c :: r,more=>by simp [slideP,slideP_len p r]
theorem slideP_acts (p:Pth):∀ (l:List Int) (more:List Ac) (n:Nat),more.length+l.length≤n→∀ q,q∈slideP p more l→q.acts.length≤p.acts.length+n
 | [],_,_,_,q,hq=>by simp [slideP] at hq
 | c :: r,more,n,h,q,hq=>by
  rcases List.mem_cons.1 hq with rfl | hq
  ·simp only [List.length_append,List.length_cons] at h ⊢;omega
  ·exact slideP_acts p r _ n (by simp only [List.length_append,List.length_cons,List.length_nil] at h ⊢;omega) q hq
theorem slideP_snoc (p:Pth) (c:Int):∀ (l:List Int) (more:List Ac),slideP p more (l++[c])=slideP p more l++[⟨p.acts++(more++l.map fun d=>⟨3,d,0⟩),c⟩]
 | [],more=>by simp [slideP]
 | d :: r,more=>by simp [slideP,slideP_snoc p c r,List.append_assoc]
theorem extR_len {b:Bd} (hb:b.ok) (h9:b.cells≤9) (side:Int) (p:Pth) (x:Stp):(extR b side p x).length≤9:=by
 have h:=line_nd hb side x.n p.to
 unfold extR
 repeat' split
 all_goals first | (rw [slideP_len];omega) | simp
theorem extR_acts {b:Bd} (hb:b.ok) (h9:b.cells≤9) {side:Int} {p:Pth} {x:Stp}:∀ q,q∈extR b side p x→q.acts.length≤p.acts.length+9:=fun q hq=>by
 have h:=line_nd hb side x.n p.to
 unfold extR at hq
 repeat' split at hq
 all_goals first
  | exact slideP_acts p _ [] 9 (by simp;omega) q hq
  | (simp at hq;done)
  | (rw [List.mem_singleton] at hq;subst hq;simp only [List.length_append,List.length_cons,List.length_nil];omega)
theorem flatMap_len {α β:Type} {f:α→List β} {n:Nat}:∀ {l:List α},(∀ a,a∈l→(f a).length≤n)→(l.flatMap f).length≤l.length * n
 | [],_=>by simp
 | a :: r,h=>by
  have h1:=h a (by simp)
  have h2:=flatMap_len (l:=r) fun x hx=>h x (by simp [hx])
  rw [List.flatMap_cons,List.length_append,List.length_cons,Nat.add_mul]
  omega
theorem flatMap_snoc {α β:Type} [Inhabited α] {f:α→List β} {l:List α} {i:Int} (i0:0≤i) (h:i < l.length):(l.take (i+1).toNat).flatMap f=(l.take i.toNat).flatMap f++f (nth l i):=by
 rw [take_snoc i0 h,List.flatMap_append];simp
def stepP (b:Bd) (side:Int) (now:List Pth) (x:Stp):List Pth:=now.flatMap (extR b side · x)
def pathsT (b:Bd) (side:Int) (pg:List Stp) (cell i:Int):List Pth:=(pg.take i.toNat).foldl (stepP b side) [⟨[],cell⟩]
theorem pathsT_zero (b:Bd) (side:Int) (pg:List Stp) (cell:Int):pathsT b side pg cell 0=[⟨[],cell⟩]:=rfl
theorem pathsT_succ (b:Bd) (side:Int) (pg:List Stp) (cell:Int) {i:Int} (i0:0≤i) (h:i < pg.length):pathsT b side pg cell (i+1)=(pathsT b side pg cell i).flatMap (extR b side · (nth pg i)):=by
 unfold pathsT
 rw [take_snoc i0 h,List.foldl_append];rfl
theorem pathsT_all (b:Bd) (side:Int) (pg:List Stp) (cell:Int) {i:Int} (h:pg.length≤i):pathsT b side pg cell i=pathsR b side pg cell:=by
 unfold pathsT pathsR
 rw [take_all h];rfl
theorem pathsT_len {b:Bd} (hb:b.ok) (h9:b.cells≤9) (side:Int) {pg:List Stp} (h8:pg.length≤8) (cell:Int) {i:Int} (i0:0≤i) (i1:i≤pg.length):(pathsT b side pg cell i).length≤43046721∧∀ q,q∈pathsT b side pg cell i→q.acts.length≤72:=by
 have:∀ n:Nat,(n:Int)≤pg.length→(pathsT b side pg cell n).length≤9 ^ n∧∀ q,q∈pathsT b side pg cell n→q.acts.length≤9 * n:=fun n=>by
  induction n with
  | zero=>intro _;rw [show ((0:Nat):Int)=0 from rfl,pathsT_zero];simp
  | succ n ih =>
   intro h
   obtain ⟨h1,h2⟩:=ih (by omega)
   rw [show ((n+1:Nat):Int)=n+1 by omega,pathsT_succ b side pg cell (by omega) (by omega)]
   refine ⟨?_,fun q hq=>?_⟩
   ·refine Nat.le_trans (flatMap_len fun a _=>extR_len hb h9 side a _) ?_
    rw [Nat.pow_succ]
    exact Nat.mul_le_mul_right _ h1
   ·obtain ⟨a,ha,hq⟩:=List.mem_flatMap.1 hq
    have:=h2 a ha
    have:=extR_acts hb h9 q hq
    omega
 obtain ⟨h1,h2⟩:=this i.toNat (by omega)
 rw [show ((i.toNat:Nat):Int)=i by omega] at h1 h2
 refine ⟨Nat.le_trans h1 (Nat.le_trans (Nat.pow_le_pow_right (by omega) (show i.toNat≤8 by omega)) (by decide)),fun q hq=>?_⟩
 have:=h2 q hq
 omega
theorem pathsR_len {b:Bd} (hb:b.ok) (h9:b.cells≤9) (side:Int) {pg:List Stp} (h8:pg.length≤8) (cell:Int):(pathsR b side pg cell).length≤43046721∧∀ q,q∈pathsR b side pg cell→q.acts.length≤72:=by
 rw [← pathsT_all b side pg cell (Int.le_refl _)]
 exact pathsT_len hb h9 side h8 cell (by omega) (Int.le_refl _)
theorem pathsK_len {g:Gm} (hg:g.ok) (side:Int) {k:Int} (k0:0≤k) (k1:k < g.nk) (cell:Int):(g.pathsK side k cell).length≤344373768∧∀ q,q∈g.pathsK side k cell→q.acts.length≤72:=by
 unfold Gm.pathsK
 refine ⟨Nat.le_trans (flatMap_len fun a ha=>(pathsR_len hg.b hg.c9 side (hg.pg k k0 k1 a ha).l8 cell).1) ?_,fun q hq=>?_⟩
 ·have:=hg.pl k k0 k1
  have:=Nat.mul_le_mul_right 43046721 this
  omega
 ·obtain ⟨a,ha,hq⟩:=List.mem_flatMap.1 hq
  exact (pathsR_len hg.b hg.c9 side (hg.pg k k0 k1 a ha).l8 cell).2 q hq
def lineG (pg:List Stp):Gm:=⟨⟨3,[[1,2,-1]],[0]⟩,[⟨⟨#[97]⟩,[pg],false⟩],0,false,[],3,2⟩
def exX (s:Int):Iv:=⟨2,[[0,0,0],[0,1,0],[0,1,0]],[0],[0],[],s⟩
def exP0:Ps:=⟨[1,0,2],[0],[0],0,0⟩
def exQ0:Ps:=⟨[0,1,2],[0],[0],0,0⟩
theorem ex_kept:((exX 0).keptB (lineG [⟨1,0⟩,⟨1,0⟩]),(exX 0).keptB (lineG [⟨1,0⟩]),(exX 1).keptB (lineG [⟨1,0⟩]),(exX 1).keptB (lineG [⟨1,0⟩,⟨1,0⟩]))=(true,false,true,false):=by decide +kernel
theorem ex_valid:(exX 0).validB (lineG [⟨1,0⟩])=true∧(exX 1).validB (lineG [⟨1,0⟩])=true∧(⟨0,[],[],[],[],0⟩:Iv).validB (lineG [⟨1,0⟩])=false:=by decide +kernel
theorem ex_val:(exX 0).val (lineG [⟨1,0⟩]) exP0=0∧(exX 0).val (lineG [⟨1,0⟩]) exQ0=1∧(exX 1).val (lineG [⟨1,0⟩]) exP0=0∧(exX 1).val (lineG [⟨1,0⟩]) exQ0=1:=by decide +kernel
end Go.Proofs.Ytejljpjdifblpaa
