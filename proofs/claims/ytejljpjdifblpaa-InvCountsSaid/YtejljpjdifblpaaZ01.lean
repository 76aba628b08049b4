/- Contracts of functions of the program, proved by the checker; and plain laws. -/
import Derived.Test.YtejljpjdifblpaaZ00
set_option linter.unusedVariables false
set_option linter.unusedSimpArgs false
namespace Go.Proofs.Ytejljpjdifblpaa
open Go Go.Sk
def cutRow (l:List Int) (c k:Int):List Int:=(ints k).map fun x=>if x=c∨nth l x=c then -1 else nth l x
def Bd.without (b:Bd) (c:Int):Bd × Int :=
 if c < 0∨c≥b.cells then (⟨0,[],[]⟩,1) else (⟨b.cells,b.next.map fun l=>cutRow l c b.cells,b.turn⟩,0)
theorem cutRow_len (l:List Int) (c k:Int):(cutRow l c k).length=k.toNat:=by simp [cutRow,ints_len]
theorem take_len {α:Type} {l:List α} {i:Int} (h0:0≤i) (h:i≤l.length):((l.take i.toNat).length:Int)=i:=by rw [List.length_take];omega
set_option maxHeartbeats 4000000 in
set_option maxRecDepth 10000 in
theorem Without27_p (b:Bd) (hb:b.ok) (c:Int):Pure Try.prog 39 [b.av,I c] (.tup [(b.without c).1.av,I (b.without c).2]) none:=by
 refine fun_of tok D_ok Try.func39 rfl Try.ntmps39 Try.results39 (by kernel_rfl) (by simp) (by simp) ?_
 have hc64:=hb.c64
 have hc1:=hb.c1
 have hn8:=hb.n8
 have htl:=hb.tl
 have e1:b.next.length=(b.next.map Is).length:=by simp
 have e2:b.turn.length=(b.turn.map I).length:=by simp
 conv=>whnf
 repeat' ((first
  | refine lvA ?_
  | fail) <;> try (apply Cj.mk <;> first | exact trivial | intros))
 iterate 2
  ·
   repeat' ((first
    | refine lvA ?_
    | refine lvE ?_
    | fail) <;> try (apply Cj.mk <;> first | exact trivial | intros))
   all_goals (unfold Bd.without;rw [if_pos (by omega)];try rfl)
 have good:b.without c=(⟨b.cells,b.next.map fun l=>cutRow l c b.cells,b.turn⟩,0):=if_neg (by omega)
 rw [good]
 refine .of (fun d=>[(7,I d)]) (fun d=>[(9,.box [I b.cells,.ref 10,Is b.turn]),(10,.arr 1 ((b.next.take d.toNat).map fun l=>Is (cutRow l c b.cells)))]) 11 (fun d=>0≤d∧d≤b.next.length) (fun d=>(b.next.length - d).toNat) 0 ?_
 conv=>whnf
 refine ⟨⟨[],hdA (lvL ?_) (lvL ?_)⟩,?_,fun d ⟨h0,h1⟩=>lvN ?_⟩ <;> (try (apply Cj.mk <;> first | exact trivial | intros))
 ·exact ⟨by omega,by omega⟩
 have hll:=hb.ll d h0
 have htk:=take_len h0 h1
 repeat' ((first
  | refine lvA ?_
  | fail) <;> try (apply Cj.mk <;> first | exact trivial | intros))
 ·
  refine .of (fun x=>[(9,I x),(8,.ref 11)]) (fun x=>[(11,.arr 1 ((cutRow (nth b.next d) c x).map I))]) 12 (fun x=>0≤x∧x≤b.cells) (fun x=>(b.cells - x).toNat) 0 ?_
  conv=>whnf
  refine ⟨⟨[],hdA (lvL ?_) (lvL ?_)⟩,?_,fun x ⟨g0,g1⟩=>lvN ?_⟩ <;> (try (apply Cj.mk <;> first | exact trivial | intros))
  ·exact ⟨by omega,by omega⟩
  have hcl:=cutRow_len (nth b.next d) c x
  repeat' ((first
   | refine lvA ?_
   | fail) <;> try (apply Cj.mk <;> first | exact trivial | intros))
  ·rename_i q1 q2
   refine ⟨x+1,⟨[],hdA (lvL ?_) (lvL ?_)⟩,?_,by (try dsimp only);omega,rfl⟩ <;> (try (apply Cj.mk <;> first | exact trivial | intros))
   ·unfold cutRow;rw [map_ints_succ g0,if_pos (.inl q2)]
   ·exact ⟨by omega,by omega⟩
  ·rename_i q1 q2 q3
   refine ⟨x+1,⟨[],hdA (lvL ?_) (lvL ?_)⟩,?_,by (try dsimp only);omega,rfl⟩ <;> (try (apply Cj.mk <;> first | exact trivial | intros))
   ·unfold cutRow;rw [map_ints_succ g0,if_pos (.inr q3)]
   ·exact ⟨by omega,by omega⟩
  ·rename_i q1 q2 q3
   refine ⟨x+1,⟨[],hdA (lvL ?_) (lvL ?_)⟩,?_,by (try dsimp only);omega,rfl⟩ <;> (try (apply Cj.mk <;> first | exact trivial | intros))
   ·unfold cutRow;rw [map_ints_succ g0,if_neg (fun h=>h.elim q2 q3)]
   ·exact ⟨by omega,by omega⟩
  ·obtain rfl:x=b.cells:=by omega
   repeat' ((first
    | refine lvA ?_
    | fail) <;> try (apply Cj.mk <;> first | exact trivial | intros))
   refine ⟨d+1,⟨[],hdA (lvL ?_) (lvL ?_)⟩,?_,by (try dsimp only);omega,rfl⟩ <;> (try (apply Cj.mk <;> first | exact trivial | intros))
   ·rw [take_snoc h0 (by omega)]
   ·exact ⟨by omega,by omega⟩
 ·
  repeat' ((first
   | refine lvA ?_
   | refine lvE ?_
   | fail) <;> try (apply Cj.mk <;> first | exact trivial | intros))
  rw [take_all (by omega),List.map_map];rfl
def dxs:List Int:=[0,1,1,1,0,-1,-1,-1]
def dys:List Int:=[-1,-1,0,1,1,1,0,-1]
def gto (w h d c:Int):Int :=
 if 0≤c % w+nth dxs d∧c % w+nth dxs d < w∧0≤c / w+nth dys d∧c / w+nth dys d < h then (c / w+nth dys d) * w+(c % w+nth dxs d) else -1
def fits (w h:Int):Prop:=1≤w∧1≤h∧w≤64∧h≤64∧w * h≤64
instance (w h:Int):Decidable (fits w h):=by unfold fits;infer_instance
def gridB (w h:Int):Bd:=⟨w * h,(ints 8).map fun d=>(ints (w * h)).map (gto w h d),(ints 8).map fun d=>(d+4) % 8⟩
def grid (w h:Int):Bd × Int:=if fits w h then (gridB w h,0) else (⟨0,[],[]⟩,1)
def gl (w h d c:Int):List Int:=(ints c).map (gto w h d)++List.replicate (w * h - c).toNat 0
theorem dxy {d:Int} (h0:0≤d) (h1:d < 8):-1≤nth dxs d∧nth dxs d≤1∧-1≤nth dys d∧nth dys d≤1:=by
 have:d=0∨d=1∨d=2∨d=3∨d=4∨d=5∨d=6∨d=7:=by omega
 rcases this with rfl | rfl | rfl | rfl | rfl | rfl | rfl | rfl <;> decide
theorem crd_lt {w h x y:Int} (x0:0≤x) (x1:x < w) (y0:0≤y) (y1:y < h):0≤y * w+x∧y * w+x < w * h:=by
 have h1:0≤y * w:=Int.mul_nonneg y0 (by omega)
 have h2:(y+1) * w≤h * w:=Int.mul_le_mul_of_nonneg_right (by omega) (by omega)
 rw [Int.add_mul] at h2
 have h3:h * w=w * h:=Int.mul_comm _ _
 omega
theorem gto_in {w h d c:Int} (hx:0≤c % w+nth dxs d∧c % w+nth dxs d < w∧0≤c / w+nth dys d∧c / w+nth dys d < h):gto w h d c=(c / w+nth dys d) * w+(c % w+nth dxs d):=if_pos hx
theorem gto_out {w h d c:Int} (hx:¬ (0≤c % w+nth dxs d∧c % w+nth dxs d < w∧0≤c / w+nth dys d∧c / w+nth dys d < h)):gto w h d c=-1:=if_neg hx
theorem gto_rg {w h d c:Int}:-1≤gto w h d c∧(1≤w * h→gto w h d c < w * h):=by
 by_cases hx:0≤c % w+nth dxs d∧c % w+nth dxs d < w∧0≤c / w+nth dys d∧c / w+nth dys d < h
 ·rw [gto_in hx]
  have:=crd_lt hx.1 hx.2.1 hx.2.2.1 hx.2.2.2
  omega
 ·rw [gto_out hx];omega
structure Gr (w h:Int):Prop where
 w1:1≤w
 h1:1≤h
 m1:1≤w * h
 m64:w * h≤64
theorem Gr.of {w h:Int} (hf:fits w h):Gr w h:=by
 obtain ⟨h1,h2,h3,h4,h5⟩:=hf
 exact ⟨h1,h2,by have:1 * 1≤w * h:=Int.mul_le_mul h1 h2 (by omega) (by omega);omega,h5⟩
theorem grid_len (w h:Int):(gridB w h).next.length=8∧(gridB w h).turn.length=8:=⟨by show ((ints 8).map _).length=8;rw [List.length_map];rfl,by show ((ints 8).map _).length=8;rw [List.length_map];rfl⟩
theorem grid_row {w h d:Int} (d0:0≤d) (d1:d < 8):nth (gridB w h).next d=(ints (w * h)).map (gto w h d):=nth_map_ints (f:=fun d=>(ints (w * h)).map (gto w h d)) d0 d1
theorem grid_nx {w h d c:Int} (d0:0≤d) (d1:d < 8) (c0:0≤c) (c1:c < w * h):(gridB w h).nx d c=gto w h d c:=by
 unfold Bd.nx
 rw [grid_row d0 d1]
 exact nth_map_ints c0 c1
theorem grid_tn {w h d:Int} (d0:0≤d) (d1:d < 8):nth (gridB w h).turn d=(d+4) % 8:=nth_map_ints (f:=fun d=>(d+4) % 8) d0 d1
theorem grid_ok {w h:Int} (g:Gr w h):(gridB w h).ok:=by
 have m1:=g.m1
 have ec:(gridB w h).cells=w * h:=rfl
 refine ⟨g.m1,g.m64,by rw [(grid_len w h).1];omega,by rw [(grid_len w h).1];omega,by rw [(grid_len w h).1,(grid_len w h).2],fun d d0 d1=>?_,fun d c d0 d1 c0 c1=>?_,fun d d0 d1=>?_⟩
 ·rw [(grid_len w h).1] at d1
  rw [grid_row d0 d1,List.length_map,ints_len,ec];omega
 ·rw [(grid_len w h).1] at d1
  rw [grid_nx d0 d1 c0 c1,ec]
  exact ⟨gto_rg.1,gto_rg.2 m1⟩
 ·rw [(grid_len w h).1] at d1 ⊢
  unfold Bd.tn
  rw [grid_tn d0 d1,grid_tn (by omega) (by omega)]
  omega
theorem Bd.to_lt {b:Bd} (hb:b.ok) (s d c:Int):-1≤b.to s d c∧b.to s d c < b.cells:=by
 have:=hb.c1
 unfold Bd.to
 split
 ·omega
 ·rename_i h
  split
  ·have q:=hb.t0 d (by omega) (by omega)
   exact hb.lx _ _ q.1 q.2.1 (by omega) (by omega)
  ·exact hb.lx _ _ (by omega) (by omega) (by omega) (by omega)
theorem nodup_sub_len:∀ {a b:List Int},a.Nodup→(∀ x,x∈a→x∈b)→a.length≤b.length
 | [],_,_,_=>by simp
 | x :: a,b,hn,hs=>by
  rw [List.nodup_cons] at hn
  have hb:=hs x (by simp)
  have:=nodup_sub_len (b:=b.erase x) hn.2 fun y hy=>by
   have hne:y≠x:=fun e=>hn.1 (e ▸ hy)
   exact (List.mem_erase_of_ne hne).2 (hs y (by simp [hy]))
  rw [List.length_erase_of_mem hb] at this
  have:=List.length_pos_of_mem hb
  simp only [List.length_cons]
  omega
theorem cells_len {l:List Int} {n:Int} (hn:l.Nodup) (h:∀ x,x∈l→0≤x∧x < n):l.length≤n.toNat:=by
 have:=nodup_sub_len hn (b:=ints n) fun x hx=>mem_ints.2 (h x hx)
 rwa [ints_len] at this
def Bd.lineFrom (b:Bd) (s d c:Int):Nat→List Int→Int→List Int
 | 0,out,_=>out
 | n+1,out,x=>if 0≤x∧x≠c∧x ∉ out then b.lineFrom s d c n (out++[x]) (b.to s d x) else out
def Bd.line (b:Bd) (s d c:Int):List Int:=b.lineFrom s d c 65 [] (b.to s d c)
structure Bd.lineI (b:Bd) (s d c:Int) (out:List Int) (x:Int):Prop where
 nd:out.Nodup
 rg:∀ y,y∈out→0≤y∧y < b.cells
 xl:x < b.cells
 eq:b.lineFrom s d c (65 - out.length) out x=b.line s d c
theorem Bd.lineI_zero {b:Bd} (hb:b.ok) (s d c:Int):b.lineI s d c [] (b.to s d c):=⟨List.nodup_nil,by simp,(b.to_lt hb s d c).2,rfl⟩
theorem Bd.lineI_len {b:Bd} (hb:b.ok) {s d c:Int} {out:List Int} {x:Int} (h:b.lineI s d c out x):out.length≤b.cells.toNat∧out.length≤64:=by
 have:=cells_len h.nd h.rg
 have:=hb.c64
 omega
theorem Bd.lineFrom_go (b:Bd) {s d c:Int} {n:Nat} {out:List Int} {x:Int} (h:0≤x∧x≠c∧x ∉ out):b.lineFrom s d c (n+1) out x=b.lineFrom s d c n (out++[x]) (b.to s d x):=if_pos h
theorem Bd.lineFrom_end (b:Bd) {s d c:Int} {n:Nat} {out:List Int} {x:Int} (h:¬ (0≤x∧x≠c∧x ∉ out)):b.lineFrom s d c (n+1) out x=out:=if_neg h
theorem Bd.lineI_succ {b:Bd} (hb:b.ok) {s d c:Int} {out:List Int} {x:Int} (h:b.lineI s d c out x) (h1:0≤x) (h2:x≠c) (h3:x ∉ out):b.lineI s d c (out++[x]) (b.to s d x):=by
 have hl:=(b.lineI_len hb h).2
 refine ⟨?_,fun y hy=>?_,(b.to_lt hb s d x).2,?_⟩
 ·rw [List.nodup_append]
  exact ⟨h.nd,by simp,fun a ha b hb=>by simp at hb;subst hb;rintro rfl;exact h3 ha⟩
 ·rcases List.mem_append.1 hy with hy | hy
  ·exact h.rg y hy
  ·simp at hy;subst hy;exact ⟨h1,h.xl⟩
 ·rw [← h.eq,show 65 - out.length=(64 - out.length)+1 by omega,b.lineFrom_go ⟨h1,h2,h3⟩,List.length_append]
  have:65 - (out.length+[x].length)=64 - out.length:=by simp only [List.length_cons,List.length_nil];omega
  rw [this]
theorem Bd.lineI_end {b:Bd} (hb:b.ok) {s d c:Int} {out:List Int} {x:Int} (h:b.lineI s d c out x) (h1:¬ (0≤x∧x≠c∧x ∉ out)):out=b.line s d c:=by
 have hl:=(b.lineI_len hb h).2
 rw [← h.eq,show 65 - out.length=(64 - out.length)+1 by omega,b.lineFrom_end h1]
set_option maxHeartbeats 4000000 in
set_option maxRecDepth 10000 in
theorem Line25_p (b:Bd) (hb:b.ok) (s d c:Int):Pure Try.prog 100 [b.av,I s,I d,I c] (.ref 0) (some (.arr 1 ((b.line s d c).map I))):=by
 refine fun_of tok D_ok Try.func100 rfl Try.ntmps100 Try.results100 (by kernel_rfl) (by simp) (by simp) ?_
 conv=>whnf
 repeat' ((first
  | refine lvA ?_
  | refine ⟨_,_,To23_p b hb _ _ _,lvN ?_⟩
  | (refine .inl ?_;(conv=>whnf);refine ⟨_,_,To23_p b hb _ _ _,lvN ?_⟩)
  | fail) <;> try (apply Cj.mk <;> first | exact trivial | intros))
 refine .of (fun p=>[(10,I p.2),(9,.ref 1)]) (fun p=>[(1,.arr 1 (p.1.map I))]) 2 (fun p=>b.lineI s d c p.1 p.2) (fun p=>(b.cells - p.1.length).toNat) (([]:List Int),b.to s d c) ?_
 conv=>whnf
 refine ⟨⟨[],hdA (lvL ?_) (lvL ?_)⟩,?_,fun p hp=>lvN ?_⟩ <;> (try (apply Cj.mk <;> first | exact trivial | intros))
 ·exact b.lineI_zero hb s d c
 have hl:=b.lineI_len hb hp
 have c1:=hb.c1
 repeat' ((first
  | refine lvA ?_
  | refine ⟨_,_,To23_p b hb _ _ _,lvN ?_⟩
  | (refine .inl ?_;(conv=>whnf);refine ⟨_,_,To23_p b hb _ _ _,lvN ?_⟩)
  | (refine .inl ?_;(conv=>whnf);refine ⟨_,Has_p p.1 p.2 (by omega),rfl,?_⟩;conv=>whnf)
  | fail) <;> try (apply Cj.mk <;> first | exact trivial | intros))
 ·rename_i h4
  repeat' ((first
   | refine lvA ?_
   | refine lvE ?_
   | fail) <;> try (apply Cj.mk <;> first | exact trivial | intros))
  rw [b.lineI_end hb hp]
  rintro ⟨h1,h2,h3⟩
  rw [List.contains_iff_mem] at h4;exact h3 h4
 ·rename_i h1 h2 h3
  have hn:p.2 ∉ p.1:=fun h=>by rw [List.contains_iff_mem.2 h] at h3;cases h3
  refine ⟨(p.1++[p.2],b.to s d p.2),⟨[],rfl,rfl,rfl,?_,?_⟩,b.lineI_succ hb hp h1 h2 hn,?_,rfl⟩
  ·conv=>whnf
   repeat' (first
    | exact trivial
    | with_reducible rfl
    | (refine srcI ?_;kernel_rfl)
    | (refine nsI ?_;kernel_rfl)
    | (with_reducible refine AltR.own (by assumption) ?_;conv=>whnf;try dsimp only [St.after,St.afterAt,St.pin,St.unpin,initSt,initT,numO,cellsA,Option.map,ren,renL,renO,St.setObj,headSt,List.cons_append,List.nil_append,List.length_nil,Nat.reduceAdd])
    | (with_reducible refine AltR.im ?_;conv=>whnf;try dsimp only [St.after,St.afterAt,St.pin,St.unpin,initSt,initT,numO,cellsA,Option.map,ren,renL,renO,St.setObj,headSt,List.cons_append,List.nil_append,List.length_nil,Nat.reduceAdd])
    | (refine And.intro ?_ ?_ <;> conv=>whnf;try dsimp only [St.after,St.afterAt,St.pin,St.unpin,initSt,initT,numO,cellsA,Option.map,ren,renL,renO,St.setObj,headSt,List.cons_append,List.nil_append,List.length_nil,Nat.reduceAdd]))
  ·
   conv=>whnf
   repeat' (first
    | exact trivial
    | with_reducible rfl
    | (refine srcI ?_;kernel_rfl)
    | (refine nsI ?_;kernel_rfl)
    | (with_reducible refine AltR.own (by assumption) ?_;conv=>whnf;try dsimp only [St.after,St.afterAt,St.pin,St.unpin,initSt,initT,numO,cellsA,Option.map,ren,renL,renO,St.setObj,headSt,List.cons_append,List.nil_append,List.length_nil,Nat.reduceAdd])
    | (with_reducible refine AltR.im ?_;conv=>whnf;try dsimp only [St.after,St.afterAt,St.pin,St.unpin,initSt,initT,numO,cellsA,Option.map,ren,renL,renO,St.setObj,headSt,List.cons_append,List.nil_append,List.length_nil,Nat.reduceAdd])
    | (refine And.intro ?_ ?_ <;> conv=>whnf;try dsimp only [St.after,St.afterAt,St.pin,St.unpin,initSt,initT,numO,cellsA,Option.map,ren,renL,renO,St.setObj,headSt,List.cons_append,List.nil_append,List.length_nil,Nat.reduceAdd]))
  ·have:=(b.lineI_len hb (b.lineI_succ hb hp h1 h2 hn)).1
   simp only [List.length_append,List.length_cons,List.length_nil] at this ⊢
   omega
 iterate 2
  ·
   repeat' ((first
    | refine lvA ?_
    | refine lvE ?_
    | fail) <;> try (apply Cj.mk <;> first | exact trivial | intros))
   rw [b.lineI_end hb hp]
   rintro ⟨h1,h2,h3⟩
   omega
def Bd.step (b:Bd) (a c:Int):Bool:=(ints b.next.length).any fun d=>b.to 0 d a == c
def Bd.near (b:Bd) (c:Int):List Int:=(ints b.cells).filter fun x=>x != c && b.step c x
def bfs1 (n:Int) (s:List Int × List Int) (x:Int):List Int × List Int:=if nth s.1 x < 0 then (s.1.set x.toNat n,s.2++[x]) else s
def Bd.round (b:Bd) (n:Int) (out last:List Int):List Int × List Int:=(last.flatMap b.near).foldl (bfs1 n) (out,[])
def Bd.fromR (b:Bd):Nat→Int→List Int→List Int→List Int
 | 0,_,out,_=>out
 | k+1,n,out,last=>if last=[] then out else b.fromR k (n+1) (b.round n out last).1 (b.round n out last).2
def Bd.from0 (b:Bd) (a:Int):List Int:=(List.replicate b.cells.toNat (-1)).set a.toNat 0
def Bd.dists (b:Bd) (a:Int):List Int:=b.fromR 66 1 (b.from0 a) [a]
def neg (l:List Int):Nat:=l.countP (· < 0)
theorem near_mem {b:Bd} {c x:Int} (h:x∈b.near c):0≤x∧x < b.cells:=by
 unfold Bd.near at h
 exact mem_ints.1 (List.mem_filter.1 h).1
theorem neg_set {l:List Int} {x n:Int} (h0:0≤x) (h1:x < l.length) (hx:nth l x < 0) (hn:0≤n):neg (l.set x.toNat n)+1=neg l:=by
 unfold neg
 have hg:=nth_some h0 h1
 rw [List.getElem?_eq_getElem (by omega)] at hg
 injection hg with hg
 rw [List.countP_set (by omega),hg]
 have hp:0 < l.countP (· < 0):=List.countP_pos_iff.2 ⟨nth l x,nth_mem h0 h1,by simpa using hx⟩
 have h2:¬ (n < 0):=by omega
 simp [hx,h2]
 omega
structure BfsI (m:Int) (s0:List Int) (s:List Int × List Int):Prop where
 len:(s.1.length:Int)=m
 rg:∀ x,x∈s.2→0≤x∧x < m
 neg:neg s.1+s.2.length=neg s0
theorem BfsI.step {m n:Int} {s0:List Int} {s:List Int × List Int} (h:BfsI m s0 s) (hn:0≤n) {x:Int} (h0:0≤x) (h1:x < m):BfsI m s0 (bfs1 n s x):=by
 unfold bfs1
 split
 ·rename_i hx
  refine ⟨by simp [h.len],fun y hy=>?_,?_⟩
  ·rcases List.mem_append.1 hy with hy | hy
   ·exact h.rg y hy
   ·simp at hy;subst hy;exact ⟨h0,h1⟩
  ·have:=neg_set h0 (by rw [h.len];exact h1) hx hn
   have:=h.neg
   simp only [List.length_append,List.length_cons,List.length_nil]
   omega
 ·exact h
theorem BfsI.fold {m n:Int} {s0:List Int} (hn:0≤n):∀ {l:List Int} {s:List Int × List Int},(∀ x,x∈l→0≤x∧x < m)→BfsI m s0 s→BfsI m s0 (l.foldl (bfs1 n) s)
 | [],_,_,h=>h
 | x :: l,s,hl,h=>BfsI.fold (s:=bfs1 n s x) hn (fun y hy=>hl y (by simp [hy])) (h.step hn (hl x (by simp)).1 (hl x (by simp)).2)
theorem flat_rg {b:Bd} {l:List Int}:∀ x,x∈l.flatMap b.near→0≤x∧x < b.cells:=fun x hx=>by
 obtain ⟨c,_,h⟩:=List.mem_flatMap.1 hx
 exact near_mem h
theorem round_I {b:Bd} {n:Int} {out last:List Int} (hl:(out.length:Int)=b.cells) (hn:0≤n):BfsI b.cells out (b.round n out last):=BfsI.fold hn flat_rg ⟨hl,by simp,by simp⟩
structure FS where
 k:Nat
 n:Int
 out:List Int
 last:List Int
structure FromI (b:Bd) (a:Int) (p:FS):Prop where
 n1:1≤p.n
 n2:p.n+p.k≤70
 len:(p.out.length:Int)=b.cells
 rg:∀ x,x∈p.last→0≤x∧x < b.cells
 ng:p.last≠[]→neg p.out+1≤p.k
 ll:p.last.length≤64
 eq:b.fromR p.k p.n p.out p.last=b.dists a
theorem neg_le (l:List Int):neg l≤l.length:=List.countP_le_length
theorem FromI.zero {b:Bd} (hb:b.ok) {a:Int} (h0:0≤a) (h1:a < b.cells):FromI b a ⟨66,1,b.from0 a,[a]⟩:=by
 have c6:=hb.c64
 have hl:((b.from0 a).length:Int)=b.cells:=by unfold Bd.from0;simp;omega
 refine ⟨by simp,by simp,hl,fun x hx=>by simp at hx;subst hx;exact ⟨h0,h1⟩,fun _=>?_,by simp,rfl⟩
 have:=neg_le (b.from0 a)
 simp only
 omega
theorem FromI.next {b:Bd} (hb:b.ok) {a:Int} {p:FS} (h:FromI b a p) (hl:p.last≠[]):∃ k',p.k=k'+1∧FromI b a ⟨k',p.n+1,(b.round p.n p.out p.last).1,(b.round p.n p.out p.last).2⟩:=by
 have c6:=hb.c64
 have q1:=h.ng hl
 have q2:=h.n1
 have q3:=h.n2
 have q4:=h.len
 have hI:=round_I (b:=b) (n:=p.n) (out:=p.out) (last:=p.last) q4 (by omega)
 have q5:=hI.neg
 have q6:=neg_le p.out
 obtain ⟨k',hk⟩:∃ k',p.k=k'+1:=⟨p.k - 1,by omega⟩
 refine ⟨k',hk,by simp only;omega,by simp only;omega,hI.len,hI.rg,fun hne=>?_,?_,?_⟩
 ·have:0 < (b.round p.n p.out p.last).2.length:=List.length_pos_iff.2 hne
  simp only
  omega
 ·simp only;omega
 ·rw [← h.eq,hk]
  simp only [Bd.fromR]
  rw [if_neg hl]
theorem FromI.done {b:Bd} {a:Int} {p:FS} (h:FromI b a p) (hl:p.last=[]):p.out=b.dists a:=by
 rw [← h.eq,hl]
 cases p.k with
 | zero=>rfl
 | succ k=>simp [Bd.fromR]
def Bd.far (b:Bd):List (List Int):=(ints b.cells).map b.dists
def Bd.pstep (b:Bd) (s:List Int × Bool) (q:Int × Int):List Int × Bool :=
 if b.nx q.1 q.2 < 0∨nth s.1 (b.nx q.1 q.2)=nth s.1 q.2 then s
 else ((s.1.set (b.nx q.1 q.2).toNat (min (nth s.1 (b.nx q.1 q.2)) (nth s.1 q.2))).set q.2.toNat (min (nth s.1 (b.nx q.1 q.2)) (nth s.1 q.2)),true)
def Bd.prow (b:Bd) (d c:Int):List (Int × Int):=(ints c).map fun c=>(d,c)
def Bd.ppre (b:Bd) (d:Int):List (Int × Int):=(ints d).flatMap fun d=>b.prow d b.cells
def Bd.pass (b:Bd) (out:List Int):List Int × Bool:=(b.ppre b.next.length).foldl b.pstep (out,false)
def Bd.partsR (b:Bd):Nat→List Int→Bool→List Int
 | 0,out,_=>out
 | k+1,out,ch=>if ch=true then b.partsR k (b.pass out).1 (b.pass out).2 else out
def Bd.parts (b:Bd):List Int:=b.partsR 5000 (ints b.cells) true
def sumN (l:List Int):Nat:=(l.map Int.toNat).sum
theorem sumN_set:∀ {l:List Int} {i:Nat} {v:Int},i < l.length→sumN (l.set i v)+(l.getD i 0).toNat=sumN l+v.toNat
 | [],i,v,h=>by simp at h
 | x :: l,0,v,h=>by simp [sumN];omega
 | x :: l,i+1,v,h=>by
  have:=sumN_set (l:=l) (i:=i) (v:=v) (by simpa using h)
  simp [sumN] at this ⊢
  omega
theorem sumN_set' {l:List Int} {i v:Int} (h0:0≤i) (h:i < l.length):sumN (l.set i.toNat v)+(nth l i).toNat=sumN l+v.toNat:=sumN_set (by omega)
structure PI (b:Bd) (s0:List Int) (s:List Int × Bool):Prop where
 len:(s.1.length:Int)=b.cells
 nn:∀ i:Int,0≤i→i < b.cells→0≤nth s.1 i
 sum:sumN s.1+(if s.2=true then 1 else 0)≤sumN s0
theorem PI.step {b:Bd} (hb:b.ok) {s0:List Int} {s:List Int × Bool} (h:PI b s0 s) {q:Int × Int} (h0:0≤q.1) (h1:q.1 < b.next.length) (h2:0≤q.2) (h3:q.2 < b.cells):PI b s0 (b.pstep s q):=by
 have hx:=hb.lx q.1 q.2 h0 h1 h2 h3
 unfold Bd.pstep
 split
 ·exact h
 ·rename_i hn
  have hl:=h.len
  have n1:=h.nn _ (show 0≤b.nx q.1 q.2 by omega) hx.2
  have n2:=h.nn _ h2 h3
  generalize hm:min (nth s.1 (b.nx q.1 q.2)) (nth s.1 q.2)=m
  have hne:b.nx q.1 q.2≠q.2:=fun e=>hn (.inr (by rw [e]))
  refine ⟨by simp [hl],fun i i0 i1=>?_,?_⟩
  ·have:0≤m:=by omega
   by_cases e1:q.2=i
   ·subst e1
    simp only
    rw [nth_set_eq h2 (by rw [List.length_set];omega)];exact this
   ·simp only
    rw [nth_set_ne h2 i0 e1]
    by_cases e2:b.nx q.1 q.2=i
    ·rw [← e2,nth_set_eq (by omega) (by omega)];exact this
    ·rw [nth_set_ne (by omega) i0 e2];exact h.nn i i0 i1
  ·have s1:=sumN_set' (l:=s.1) (i:=b.nx q.1 q.2) (v:=m) (by omega) (by omega)
   have s2:=sumN_set' (l:=s.1.set (b.nx q.1 q.2).toNat m) (i:=q.2) (v:=m) h2 (by rw [List.length_set];omega)
   rw [nth_set_ne (by omega) h2 hne] at s2
   have:=h.sum
   simp only [if_true]
   split at this <;> omega
theorem PI.fold {b:Bd} (hb:b.ok) {s0:List Int}:∀ {l:List (Int × Int)} {s:List Int × Bool},(∀ q,q∈l→0≤q.1∧q.1 < b.next.length∧0≤q.2∧q.2 < b.cells)→PI b s0 s→PI b s0 (l.foldl b.pstep s)
 | [],_,_,h=>h
 | q :: l,s,hl,h=>PI.fold (s:=b.pstep s q) hb (fun y hy=>hl y (by simp [hy])) (h.step hb (hl q (by simp)).1 (hl q (by simp)).2.1 (hl q (by simp)).2.2.1 (hl q (by simp)).2.2.2)
theorem ppre_rg {b:Bd} {d:Int} (hd:d≤b.next.length):∀ q,q∈b.ppre d→0≤q.1∧q.1 < b.next.length∧0≤q.2∧q.2 < b.cells:=fun q hq=>by
 obtain ⟨e,he,h⟩:=List.mem_flatMap.1 hq
 obtain ⟨c,hc,rfl⟩:=List.mem_map.1 h
 have:=mem_ints.1 he
 have:=mem_ints.1 hc
 simp only;omega
structure PS where
 k:Nat
 out:List Int
 ch:Bool
structure PartsI (b:Bd) (p:PS):Prop where
 len:(p.out.length:Int)=b.cells
 nn:∀ i:Int,0≤i→i < b.cells→0≤nth p.out i
 fuel:p.ch=true→sumN p.out+1≤p.k
 eq:b.partsR p.k p.out p.ch=b.parts
theorem sumN_ints_le:∀ n:Nat,n≤64→sumN (ints n)≤4096:=by decide
theorem PartsI.zero {b:Bd} (hb:b.ok):PartsI b ⟨5000,ints b.cells,true⟩:=by
 have c1:=hb.c1
 have c6:=hb.c64
 refine ⟨by simp only;rw [ints_len];omega,fun i i0 i1=>by simp only;rw [nth_ints i0 i1];exact i0,fun _=>?_,rfl⟩
 have:=sumN_ints_le b.cells.toNat (by omega)
 rw [show ((b.cells.toNat:Nat):Int)=b.cells by omega] at this
 simp only;omega
theorem PartsI.next {b:Bd} (hb:b.ok) {p:PS} (h:PartsI b p) (hc:p.ch=true):∃ k',p.k=k'+1∧PartsI b ⟨k',(b.pass p.out).1,(b.pass p.out).2⟩:=by
 have hf:=h.fuel hc
 obtain ⟨k',hk⟩:∃ k',p.k=k'+1:=⟨p.k - 1,by omega⟩
 have hI:PI b p.out (b.pass p.out):=PI.fold hb (ppre_rg (Int.le_refl _)) ⟨h.len,h.nn,by simp⟩
 refine ⟨k',hk,hI.len,hI.nn,fun hch=>?_,?_⟩
 ·have:=hI.sum
  simp only at hch
  rw [if_pos hch] at this
  simp only;omega
 ·rw [← h.eq,hk,hc]
  simp [Bd.partsR]
theorem PartsI.done {b:Bd} {p:PS} (h:PartsI b p) (hc:p.ch=false):p.out=b.parts:=by
 rw [← h.eq,hc]
 cases p.k with
 | zero=>rfl
 | succ k=>simp [Bd.partsR]
def Bd.wo (b:Bd) (c:Int):Bd:=⟨b.cells,b.next.map fun l=>cutRow l c b.cells,b.turn⟩
theorem without_eq {b:Bd} {c:Int} (c0:0≤c) (c1:c < b.cells):b.without c=(b.wo c,0):=if_neg (by omega)
theorem wo_len (b:Bd) (c:Int):(b.wo c).next.length=b.next.length:=List.length_map _
theorem wo_row {b:Bd} {c d:Int} (d0:0≤d) (d1:d < b.next.length):nth (b.wo c).next d=cutRow (nth b.next d) c b.cells:=nth_map d0 d1
theorem wo_nx {b:Bd} {c d k:Int} (d0:0≤d) (d1:d < b.next.length) (k0:0≤k) (k1:k < b.cells):(b.wo c).nx d k=if k=c∨b.nx d k=c then -1 else b.nx d k:=by
 unfold Bd.nx
 rw [wo_row d0 d1]
 exact nth_map_ints k0 k1
theorem wo_ok {b:Bd} (hb:b.ok) (c:Int):(b.wo c).ok:=by
 have c1:=hb.c1
 refine ⟨hb.c1,hb.c64,by rw [wo_len];exact hb.n1,by rw [wo_len];exact hb.n8,by rw [wo_len];exact hb.tl,fun d d0 d1=>?_,fun d k d0 d1 k0 k1=>?_,fun d d0 d1=>?_⟩
 ·rw [wo_len] at d1
  rw [wo_row d0 d1,cutRow_len]
  show ((b.cells.toNat:Nat):Int)=b.cells
  omega
 ·rw [wo_len] at d1
  have k1':k < b.cells:=k1
  rw [wo_nx d0 d1 k0 k1']
  have:=hb.lx d k d0 d1 k0 k1'
  show _∧_ < b.cells
  split <;> omega
 ·rw [wo_len] at d1 ⊢
  exact hb.t0 d d0 d1
end Go.Proofs.Ytejljpjdifblpaa
