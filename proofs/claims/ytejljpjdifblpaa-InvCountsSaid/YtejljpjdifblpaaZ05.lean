/- Contracts of functions of the program, proved by the checker; and plain laws. -/
import Derived.Test.YtejljpjdifblpaaZ04
import Derived.Test.YtejljpjdifblpaaZ03
import Derived.Test.YtejljpjdifblpaaZ01
set_option linter.unusedVariables false
set_option linter.unusedSimpArgs false
namespace Go.Proofs.Ytejljpjdifblpaa
open Go Go.Sk
theorem Bd.line_rg {b:Bd} (hb:b.ok) (s d c:Int):(∀ y,y∈b.line s d c→0≤y∧y < b.cells)∧(b.line s d c).length≤65:=by
 have:∀ (n:Nat) (out:List Int) (x:Int),(∀ y,y∈out→0≤y∧y < b.cells)→x < b.cells→(∀ y,y∈b.lineFrom s d c n out x→0≤y∧y < b.cells)∧(b.lineFrom s d c n out x).length≤out.length+n:=fun n=>by
  induction n with
  | zero=>intro out x h _;exact ⟨h,Nat.le_refl _⟩
  | succ n ih =>
   intro out x h hx
   unfold Bd.lineFrom
   split
   ·rename_i q
    have:=ih (out++[x]) (b.to s d x) (fun y hy=>by
     rcases List.mem_append.1 hy with hy | hy
     ·exact h y hy
     ·simp at hy;subst hy;exact ⟨q.1,hx⟩) (b.to_lt hb s d x).2
    rw [List.length_append,List.length_singleton] at this
    exact ⟨this.1,by omega⟩
   ·exact ⟨h,by omega⟩
 have:=this 65 [] (b.to s d c) (by simp) (b.to_lt hb s d c).2
 unfold Bd.line
 simpa using this
set_option maxHeartbeats 4000000 in
set_option maxRecDepth 10000 in
theorem slide_p (g:Gm) (hg:g.ok) (s:Rs) (hs:s.ok g) (n:Int):Pure Try.prog 96 [g.av,Sa s,I n] (Sas ((slideTo s.p.ct (g.b.line s.p.side n s.cur)).map fun c=>{ s with cur:=c })) none:=by
 have hl:=Line25_p g.b hg.b s.p.side n s.cur
 have hr:=g.b.line_rg hg.b s.p.side n s.cur
 generalize g.b.line s.p.side n s.cur=l at *
 have el:(l.map I).length=l.length:=List.length_map _
 have ec:(s.p.ct.map I).length=s.p.ct.length:=List.length_map _
 have hlen:=hs.len
 have hc9:=hg.c9
 refine fun_of tok D_ok Try.func96 rfl Try.ntmps96 Try.results96 (by kernel_rfl) (by simp) (by simp) ?_
 conv=>whnf
 repeat' ((first
  | refine lvK ?_
  | refine ⟨_,_,hl,lvN ?_⟩
  | (refine .inl ?_;(conv=>whnf);refine ⟨_,_,hl,lvN ?_⟩)
  | fail) <;> try (apply Cj.mk <;> first | exact trivial | intros))
 refine .of (fun i=>[(9,I i),(7,.ref 3)]) (fun i=>[(3,.arr 8 (((l.take i.toNat).map fun c=>{ s with cur:=c }).map Sa))]) 4 (fun i=>0≤i∧i≤l.length∧∀ j:Int,0≤j→j < i→nth s.p.ct (nth l j)=0) (fun i=>(l.length - i).toNat) 0 ?_
 conv=>whnf
 refine ⟨⟨[],hdA (lvL ?_) (lvL ?_)⟩,?_,fun i ⟨i0,i1,hi⟩=>lvN ?_⟩ <;> (try (apply Cj.mk <;> first | exact trivial | intros))
 ·exact ⟨by omega,by omega,fun j _ _=>by omega⟩
 have hlt:((l.take i.toNat).map fun c=>({ s with cur:=c }:Rs)).length=i.toNat:=by rw [List.length_map,List.length_take];omega
 by_cases h:i < l.length
 ·have hc:=hr.1 _ (nth_mem i0 h)
  have hts:=take_snoc i0 h
  repeat' ((first
   | refine lvK ?_
   | refine ap1 (f:=Sa) (a:=({ s with cur:=nth l i }:Rs)) (by decide) (by omega) rfl rfl (lvN ?_)
   | fail) <;> try (apply Cj.mk <;> first | exact trivial | intros))
  ·rename_i q
   rw [slideTo_go i0 h hi q,hts,List.map_append]
   refine exitS [] (by kernel_rfl) (by kernel_rfl) (by kernel_rfl) (lvL ?_) (lvL ?_) <;> (try (apply Cj.mk <;> first | exact trivial | intros))
   rw [List.map_append,List.map_append];rfl
  ·rename_i q
   refine ⟨i+1,⟨[],hdA (lvL ?_) (lvL ?_)⟩,?_,by (try dsimp only);omega,rfl⟩ <;> (try (apply Cj.mk <;> first | exact trivial | intros))
   ·rw [hts,List.map_append,List.map_append,List.map_append];rfl
   ·refine ⟨by omega,by omega,fun j j0 j1=>?_⟩
    by_cases e:j=i
    ·rw [e];exact q
    ·exact hi j j0 (by omega)
 ·rw [show l.take i.toNat=slideTo s.p.ct l by rw [take_all (by omega),slideTo_all fun j j0 j1=>hi j j0 (by omega)]]
  repeat' ((first
   | refine lvK ?_
   | refine lvE ?_
   | fail) <;> try (apply Cj.mk <;> first | exact trivial | intros))
set_option maxHeartbeats 4000000 in
set_option maxRecDepth 10000 in
theorem push_p (g:Gm) (hg:g.ok) (s:Rs) (hs:s.ok g) (n:Int):Pure Try.prog 98 [g.av,Sa s,I n] (Sas (g.pushR s n)) none:=by
 have ht:=To23_p g.b hg.b s.p.side n s.cur
 have htr:=g.b.to_lt hg.b s.p.side n s.cur
 have cp:=copied_p s.p (hs.pos.small hg)
 unfold Gm.pushR
 generalize g.b.to s.p.side n s.cur=to at *
 dsimp only
 have ec:(s.p.ct.map I).length=s.p.ct.length:=List.length_map _
 have hlen:=hs.len
 have hu0:=hs.u0
 have hu1:=hs.u1
 refine fun_of tok D_ok Try.func98 rfl Try.ntmps98 Try.results98 (by kernel_rfl) (by simp) (by simp) ?_
 conv=>whnf
 repeat' ((first
  | refine lvA ?_
  | refine ⟨_,_,ht,lvN ?_⟩
  | (refine .inl ?_;(conv=>whnf);refine ⟨_,_,ht,lvN ?_⟩)
  | (refine .inr (.inl ?_);(conv=>whnf);refine ⟨[],[],[s.p.av],_,_,⟨rfl,rfl,rfl⟩,cp,lvN ?_⟩)
  | fail) <;> try (apply Cj.mk <;> first | exact trivial | intros))
 iterate 3
  ·
   rw [if_pos (by omega)]
   refine exitS [] (by kernel_rfl) (by kernel_rfl) (by kernel_rfl) (lvL ?_) (lvL ?_) <;> (try (apply Cj.mk <;> first | exact trivial | intros))
 rw [if_neg (by omega)]
 refine drawH [0,1,2,3,4,5,6,7,8,9,10,11,12,13] [⟨39,1,0,.ref 2⟩,⟨3,1,6,I s.cur⟩] (by kernel_rfl) ?_
 conv=>whnf
 refine PinE.mk (by kernel_rfl) ?_
 refine ⟨?_,drawK (by kernel_rfl) ?_⟩
 ·conv=>whnf
  first | exact trivial | (refine And.intro (by omega) (And.intro (by omega) ?_);(conv=>whnf);first | exact trivial | (refine And.intro (by omega) (And.intro (by omega) ?_);(conv=>whnf);exact trivial))
 repeat' ((first
  | refine lvK ?_
  | refine lvE ?_
  | fail) <;> try (apply Cj.mk <;> first | exact trivial | intros))
set_option maxHeartbeats 4000000 in
set_option maxRecDepth 10000 in
theorem take_p (g:Gm) (hg:g.ok) (s:Rs) (hs:s.ok g):Pure Try.prog 97 [g.av,Sa s] (Sas (g.takeR s)) none:=by
 have cp:=copied_p s.p (hs.pos.small hg)
 have ec:(s.p.ct.map I).length=s.p.ct.length:=List.length_map _
 have hlen:=hs.len
 have hu0:=hs.u0
 have hu1:=hs.u1
 have hr:=hs.c s.cur hs.u0 hs.u1
 have hk:=ofK_rg hg hr.1 hr.2
 have ho:=Of_p (nth s.p.ct s.cur) (by have:=hg.k6;omega)
 have hnk:g.nk=g.kinds.length:=rfl
 have en:(g.kinds.map Kn).length=g.kinds.length:=List.length_map _
 have e0:(s.p.h0.map I).length=s.p.h0.length:=List.length_map _
 have e1:(s.p.h1.map I).length=s.p.h1.length:=List.length_map _
 have l0:=hs.h0.len
 have l1:=hs.h1.len
 have v0:=hs.h0.v (ofK (nth s.p.ct s.cur))
 have v1:=hs.h1.v (ofK (nth s.p.ct s.cur))
 have hsd:=hs.sd
 have hhand:Ps.hand=fun p=>if p.side=0 then p.h0 else p.h1:=rfl
 unfold Gm.takeR
 clear hs
 obtain ⟨⟨ct,h0,h1,rr,side⟩,kind,cur,tk⟩:=s
 dsimp only at *
 generalize ofK (nth ct cur)=kk at *
 generalize ofS (nth ct cur)=ks at *
 refine fun_of tok D_ok Try.func97 rfl Try.ntmps97 Try.results97 (by kernel_rfl) (by simp) (by simp) ?_
 conv=>whnf
 by_cases h:kk < 0∨ks=side
 ·rw [if_pos h]
  repeat' ((first
   | refine lvA ?_
   | refine ⟨_,_,ho,lvN ?_⟩
   | (refine .inl ?_;(conv=>whnf);refine ⟨_,_,ho,lvN ?_⟩)
   | refine lvE ?_
   | fail) <;> try (apply Cj.mk <;> first | exact trivial | intros))
  all_goals (exfalso;omega)
 ·rw [if_neg h]
  rcases hsd with rfl | rfl
  ·repeat' ((first
    | refine lvK ?_
    | refine ⟨_,_,ho,lvN ?_⟩
    | (refine .inl ?_;(conv=>whnf);refine ⟨_,_,ho,lvN ?_⟩)
    | (refine .inr (.inl ?_);(conv=>whnf);refine ⟨[],[],[(⟨ct,h0,h1,rr,0⟩:Ps).av],_,_,⟨rfl,rfl,rfl⟩,cp,lvN ?_⟩)
    | fail) <;> try (apply Cj.mk <;> first | exact trivial | intros))
   ·rename_i q1 q2
    rw [nth_set_eq (by omega) (by omega)] at q2
    rw [if_pos (show g.keep kk=true from q1),if_pos (show nth (Ps.hand ⟨ct.set cur.toNat 0,h0,h1,rr,0⟩) kk+1 > 8 from q2)]
    refine exitS [] (by kernel_rfl) (by kernel_rfl) (by kernel_rfl) (lvL ?_) (lvL ?_) <;> (try (apply Cj.mk <;> first | exact trivial | intros))
   ·rename_i q1 q2
    rw [nth_set_eq (by omega) (by omega)] at q2
    rw [if_pos (show g.keep kk=true from q1),if_neg (show ¬ nth (Ps.hand ⟨ct.set cur.toNat 0,h0,h1,rr,0⟩) kk+1 > 8 from q2)]
    refine exitS [] (by kernel_rfl) (by kernel_rfl) (by kernel_rfl) (lvL ?_) (lvL ?_) <;> (try (apply Cj.mk <;> first | exact trivial | intros))
   ·rename_i q1
    rw [if_neg (show ¬ g.keep kk=true from fun q=>by rw [show g.keep kk=false from q1] at q;cases q)]
    refine exitS [] (by kernel_rfl) (by kernel_rfl) (by kernel_rfl) (lvL ?_) (lvL ?_) <;> (try (apply Cj.mk <;> first | exact trivial | intros))
  ·repeat' ((first
    | refine lvK ?_
    | refine ⟨_,_,ho,lvN ?_⟩
    | (refine .inl ?_;(conv=>whnf);refine ⟨_,_,ho,lvN ?_⟩)
    | (refine .inr (.inl ?_);(conv=>whnf);refine ⟨[],[],[(⟨ct,h0,h1,rr,1⟩:Ps).av],_,_,⟨rfl,rfl,rfl⟩,cp,lvN ?_⟩)
    | fail) <;> try (apply Cj.mk <;> first | exact trivial | intros))
   ·rename_i q1 q2
    rw [nth_set_eq (by omega) (by omega)] at q2
    rw [if_pos (show g.keep kk=true from q1),if_pos (show nth (Ps.hand ⟨ct.set cur.toNat 0,h0,h1,rr,1⟩) kk+1 > 8 from q2)]
    refine exitS [] (by kernel_rfl) (by kernel_rfl) (by kernel_rfl) (lvL ?_) (lvL ?_) <;> (try (apply Cj.mk <;> first | exact trivial | intros))
   ·rename_i q1 q2
    rw [nth_set_eq (by omega) (by omega)] at q2
    rw [if_pos (show g.keep kk=true from q1),if_neg (show ¬ nth (Ps.hand ⟨ct.set cur.toNat 0,h0,h1,rr,1⟩) kk+1 > 8 from q2)]
    refine exitS [] (by kernel_rfl) (by kernel_rfl) (by kernel_rfl) (lvL ?_) (lvL ?_) <;> (try (apply Cj.mk <;> first | exact trivial | intros))
   ·rename_i q1
    rw [if_neg (show ¬ g.keep kk=true from fun q=>by rw [show g.keep kk=false from q1] at q;cases q)]
    refine exitS [] (by kernel_rfl) (by kernel_rfl) (by kernel_rfl) (lvL ?_) (lvL ?_) <;> (try (apply Cj.mk <;> first | exact trivial | intros))
end Go.Proofs.Ytejljpjdifblpaa
