/- Contracts of functions of the program, proved by the checker; and plain laws. -/
import Derived.Test.YthgobfncgnjimaaGreatDoorZ00
set_option linter.unusedVariables false
set_option linter.unusedSimpArgs false
namespace Go.Proofs.YthgobfncgnjimaaGreatDoor
open Go Go.Sk
def cutRow (l:List Int) (c k:Int):List Int:=(ints k).map fun x=>if x=c∨nth l x=c then -1 else nth l x
def Bd.without (b:Bd) (c:Int):Bd × Int :=
 if c < 0∨c≥b.cells then (⟨0,[],[]⟩,1) else (⟨b.cells,b.next.map fun l=>cutRow l c b.cells,b.turn⟩,0)
theorem cutRow_len (l:List Int) (c k:Int):(cutRow l c k).length=k.toNat:=by simp [cutRow,ints_len]
theorem take_len {α:Type} {l:List α} {i:Int} (h0:0≤i) (h:i≤l.length):((l.take i.toNat).length:Int)=i:=by rw [List.length_take];omega
set_option maxHeartbeats 4000000 in
set_option maxRecDepth 10000 in
theorem Without27_p (b:Bd) (hb:b.ok) (c:Int):Pure Tryz.prog 88 [b.av,I c] (.tup [(b.without c).1.av,I (b.without c).2]) none:=by
 refine fun_of tok D_ok Tryz.func88 rfl Tryz.ntmps88 Tryz.results88 (by kernel_rfl) (by simp) (by simp) ?_
 have hc64:=hb.c64
 have hc1:=hb.c1
 have hn8:=hb.n8
 have htl:=hb.tl
 have e1:b.next.length=(b.next.map Is).length:=by simp
 have e2:b.turn.length=(b.turn.map I).length:=by simp
 conv=>whnf
 repeat' (first | (refine lvA ?_;apply Cj.mk <;> first | exact trivial | intros) | fail)
 iterate 2
  ·
   repeat' (first | (refine lvA ?_;apply Cj.mk <;> first | exact trivial | intros) | (refine lvE ?_;apply Cj.mk <;> first | exact trivial | intros) | fail)
   all_goals (unfold Bd.without;rw [if_pos (by omega)];try rfl)
 have good:b.without c=(⟨b.cells,b.next.map fun l=>cutRow l c b.cells,b.turn⟩,0):=if_neg (by omega)
 rw [good]
 refine .of (fun d=>[(7,I d)]) (fun d=>[(9,.box [I b.cells,.ref 10,Is b.turn]),(10,.arr 1 ((b.next.take d.toNat).map fun l=>Is (cutRow l c b.cells)))]) 11 (fun d=>0≤d∧d≤b.next.length) (fun d=>(b.next.length - d).toNat) 0 ?_
 conv=>whnf
 refine ⟨⟨[],hdA (lvL ?_) (lvL ?_)⟩,?_,fun d ⟨h0,h1⟩=>lvN ?_⟩ <;> (try (apply Cj.mk <;> first | exact trivial | intros))
 ·exact ⟨by omega,by omega⟩
 have hll:=hb.ll d h0
 have htk:=take_len h0 h1
 repeat' (first | (refine lvA ?_;apply Cj.mk <;> first | exact trivial | intros) | fail)
 ·
  refine .of (fun x=>[(9,I x),(8,.ref 11)]) (fun x=>[(11,.arr 1 ((cutRow (nth b.next d) c x).map I))]) 12 (fun x=>0≤x∧x≤b.cells) (fun x=>(b.cells - x).toNat) 0 ?_
  conv=>whnf
  refine ⟨⟨[],hdA (lvL ?_) (lvL ?_)⟩,?_,fun x ⟨g0,g1⟩=>lvN ?_⟩ <;> (try (apply Cj.mk <;> first | exact trivial | intros))
  ·exact ⟨by omega,by omega⟩
  have hcl:=cutRow_len (nth b.next d) c x
  repeat' (first | (refine lvA ?_;apply Cj.mk <;> first | exact trivial | intros) | fail)
  ·rename_i q1 q2
   refine ⟨x+1,⟨[],hdA (lvL ?_) (lvL ?_)⟩,?_,by (try dsimp only);omega,rfl⟩ <;> (try (apply Cj.mk <;> first | exact trivial | intros))
   ·unfold cutRow;rw [map_ints_succ g0,if_pos (.inl q2)]
   ·exact ⟨by omega,by omega⟩
  ·rename_i q1 q2 q3
   refine ⟨x+1,⟨[],hdA (lvL ?_) (lvL ?_)⟩,?_,by (try dsimp only);omega,rfl⟩ <;> (try (apply Cj.mk <;> first | exact trivial | intros))
   ·unfold cutRow;rw [map_ints_succ g0,if_pos (.inr q3)]
   ·exact ⟨by omega,by omega⟩
  ·rename_i q1 q2 q3
   refine ⟨x+1,⟨[],hdA (lvL ?_) (lvL ?_)⟩,?_,by (try dsimp only);omega,rfl⟩ <;> (try (apply Cj.mk <;> first | exact trivial | intros))
   ·unfold cutRow;rw [map_ints_succ g0,if_neg (fun h=>h.elim q2 q3)]
   ·exact ⟨by omega,by omega⟩
  ·obtain rfl:x=b.cells:=by omega
   repeat' (first | (refine lvA ?_;apply Cj.mk <;> first | exact trivial | intros) | fail)
   refine ⟨d+1,⟨[],hdA (lvL ?_) (lvL ?_)⟩,?_,by (try dsimp only);omega,rfl⟩ <;> (try (apply Cj.mk <;> first | exact trivial | intros))
   ·rw [take_snoc h0 (by omega)]
   ·exact ⟨by omega,by omega⟩
 ·
  repeat' (first | (refine lvA ?_;apply Cj.mk <;> first | exact trivial | intros) | (refine lvE ?_;apply Cj.mk <;> first | exact trivial | intros) | fail)
  rw [take_all (by omega),List.map_map];rfl
def dxs:List Int:=[0,1,1,1,0,-1,-1,-1]
def dys:List Int:=[-1,-1,0,1,1,1,0,-1]
def gto (w h d c:Int):Int :=
 if 0≤c % w+nth dxs d∧c % w+nth dxs d < w∧0≤c / w+nth dys d∧c / w+nth dys d < h then (c / w+nth dys d) * w+(c % w+nth dxs d) else -1
def fits (w h:Int):Prop:=1≤w∧1≤h∧w≤64∧h≤64∧w * h≤64
instance (w h:Int):Decidable (fits w h):=by unfold fits;infer_instance
def gridB (w h:Int):Bd:=⟨w * h,(ints 8).map fun d=>(ints (w * h)).map (gto w h d),(ints 8).map fun d=>(d+4) % 8⟩
def grid (w h:Int):Bd × Int:=if fits w h then (gridB w h,0) else (⟨0,[],[]⟩,1)
theorem mkI {a:Int} {b:Nat} {K:Prop} (hb:b≤4096) (h0:0≤a) (h:a≤34359738368) (k:K):a=a∧0≤a∧a≤4611686018427387904∧(b:Int) * a≤140737488355328∧K:=by
 refine ⟨rfl,h0,by omega,?_,k⟩
 calc (b:Int) * a≤4096 * 34359738368:=Int.mul_le_mul (by omega) h h0 (by omega)
  _≤_:=by decide
def gl (w h d c:Int):List Int:=(ints c).map (gto w h d)++List.replicate (w * h - c).toNat 0
theorem gl_len {w h d c:Int} (h0:0≤c) (h1:c≤w * h):(gl w h d c).length=(w * h).toNat:=by unfold gl;rw [List.length_append,List.length_map,ints_len,List.length_replicate];omega
theorem gl_zero (w h d:Int):gl w h d 0=List.replicate (w * h).toNat 0:=by unfold gl;simp [ints_zero]
theorem gl_succ {w h d c:Int} (h0:0≤c) (h1:c < w * h):(gl w h d c).set c.toNat (gto w h d c)=gl w h d (c+1):=by
 unfold gl
 have hl:((ints c).map (gto w h d)).length=c.toNat:=by rw [List.length_map,ints_len]
 rw [List.set_append_right _ _ (by omega),hl,Nat.sub_self,map_ints_succ h0,List.append_assoc]
 congr 1
 rw [show (w * h - c).toNat=(w * h - (c+1)).toNat+1 by omega,List.replicate_succ]
 rfl
theorem gl_all (w h d:Int):gl w h d (w * h)=(ints (w * h)).map (gto w h d):=by unfold gl;simp
theorem dxy {d:Int} (h0:0≤d) (h1:d < 8):-1≤nth dxs d∧nth dxs d≤1∧-1≤nth dys d∧nth dys d≤1:=by
 have:d=0∨d=1∨d=2∨d=3∨d=4∨d=5∨d=6∨d=7:=by omega
 rcases this with rfl | rfl | rfl | rfl | rfl | rfl | rfl | rfl <;> decide
theorem crd_mod {w x y:Int} (h0:0≤x) (h1:x < w):(y * w+x) % w=x:=by
 rw [Int.add_comm,Int.add_mul_emod_self_right];exact Int.emod_eq_of_lt h0 h1
theorem crd_div {w x y:Int} (h0:0≤x) (h1:x < w):(y * w+x) / w=y:=by
 rw [Int.add_comm,Int.add_mul_ediv_right _ _ (by omega),Int.ediv_eq_zero_of_lt h0 h1];omega
theorem crd_eq (c w:Int):c / w * w+c % w=c:=by
 have:=Int.mul_ediv_add_emod c w
 rw [Int.mul_comm] at this
 exact this
theorem crd_rg {w h c:Int} (w1:1≤w) (c0:0≤c) (c1:c < w * h):0≤c % w∧c % w < w∧0≤c / w∧c / w < h :=
 ⟨Int.emod_nonneg _ (by omega),Int.emod_lt_of_pos _ (by omega),Int.ediv_nonneg c0 (by omega),Int.ediv_lt_of_lt_mul (by omega) (by rw [Int.mul_comm];exact c1)⟩
theorem crd_lt {w h x y:Int} (x0:0≤x) (x1:x < w) (y0:0≤y) (y1:y < h):0≤y * w+x∧y * w+x < w * h:=by
 have h1:0≤y * w:=Int.mul_nonneg y0 (by omega)
 have h2:(y+1) * w≤h * w:=Int.mul_le_mul_of_nonneg_right (by omega) (by omega)
 rw [Int.add_mul] at h2
 have h3:h * w=w * h:=Int.mul_comm _ _
 omega
theorem gto_in {w h d c:Int} (hx:0≤c % w+nth dxs d∧c % w+nth dxs d < w∧0≤c / w+nth dys d∧c / w+nth dys d < h):gto w h d c=(c / w+nth dys d) * w+(c % w+nth dxs d):=if_pos hx
theorem gto_out {w h d c:Int} (hx:¬ (0≤c % w+nth dxs d∧c % w+nth dxs d < w∧0≤c / w+nth dys d∧c / w+nth dys d < h)):gto w h d c=-1:=if_neg hx
theorem gto_rg {w h d c:Int}:-1≤gto w h d c∧(1≤w * h→gto w h d c < w * h):=by
 by_cases hx:0≤c % w+nth dxs d∧c % w+nth dxs d < w∧0≤c / w+nth dys d∧c / w+nth dys d < h
 ·rw [gto_in hx]
  have:=crd_lt hx.1 hx.2.1 hx.2.2.1 hx.2.2.2
  omega
 ·rw [gto_out hx];omega
theorem gto_xy {w h d c:Int} (h0:0≤gto w h d c):gto w h d c % w=c % w+nth dxs d∧gto w h d c / w=c / w+nth dys d:=by
 by_cases hx:0≤c % w+nth dxs d∧c % w+nth dxs d < w∧0≤c / w+nth dys d∧c / w+nth dys d < h
 ·rw [gto_in hx]
  exact ⟨crd_mod hx.1 hx.2.1,crd_div hx.1 hx.2.1⟩
 ·rw [gto_out hx] at h0;omega
structure Gr (w h:Int):Prop where
 w1:1≤w
 h1:1≤h
 m1:1≤w * h
 m64:w * h≤64
theorem Gr.of {w h:Int} (hf:fits w h):Gr w h:=by
 obtain ⟨h1,h2,h3,h4,h5⟩:=hf
 exact ⟨h1,h2,by have:1 * 1≤w * h:=Int.mul_le_mul h1 h2 (by omega) (by omega);omega,h5⟩
theorem fits_iff {w h:Int}:fits w h↔1≤w∧1≤h∧w * h≤64:=by
 unfold fits
 refine ⟨fun h=>⟨h.1,h.2.1,h.2.2.2.2⟩,fun ⟨h1,h2,h3⟩=>⟨h1,h2,?_,?_,h3⟩⟩
 ·have:w * 1≤w * h:=Int.mul_le_mul_of_nonneg_left h2 (by omega)
  omega
 ·have:1 * h≤w * h:=Int.mul_le_mul_of_nonneg_right h1 (by omega)
  omega
theorem grid_len (w h:Int):(gridB w h).next.length=8∧(gridB w h).turn.length=8:=⟨by show ((ints 8).map _).length=8;rw [List.length_map];rfl,by show ((ints 8).map _).length=8;rw [List.length_map];rfl⟩
theorem grid_row {w h d:Int} (d0:0≤d) (d1:d < 8):nth (gridB w h).next d=(ints (w * h)).map (gto w h d):=nth_map_ints (f:=fun d=>(ints (w * h)).map (gto w h d)) d0 d1
theorem grid_nx {w h d c:Int} (d0:0≤d) (d1:d < 8) (c0:0≤c) (c1:c < w * h):(gridB w h).nx d c=gto w h d c:=by
 unfold Bd.nx
 rw [grid_row d0 d1]
 exact nth_map_ints c0 c1
theorem grid_tn {w h d:Int} (d0:0≤d) (d1:d < 8):nth (gridB w h).turn d=(d+4) % 8:=nth_map_ints (f:=fun d=>(d+4) % 8) d0 d1
theorem grid_ok {w h:Int} (g:Gr w h):(gridB w h).ok:=by
 have m1:=g.m1
 have ec:(gridB w h).cells=w * h:=rfl
 refine ⟨g.m1,g.m64,by rw [(grid_len w h).1];omega,by rw [(grid_len w h).1];omega,by rw [(grid_len w h).1,(grid_len w h).2],fun d d0 d1=>?_,fun d c d0 d1 c0 c1=>?_,fun d d0 d1=>?_⟩
 ·rw [(grid_len w h).1] at d1
  rw [grid_row d0 d1,List.length_map,ints_len,ec];omega
 ·rw [(grid_len w h).1] at d1
  rw [grid_nx d0 d1 c0 c1,ec]
  exact ⟨gto_rg.1,gto_rg.2 m1⟩
 ·rw [(grid_len w h).1] at d1 ⊢
  unfold Bd.tn
  rw [grid_tn d0 d1,grid_tn (by omega) (by omega)]
  omega
theorem grid_to {w h d c:Int} (d0:0≤d) (d1:d < 8) (c0:0≤c) (c1:c < w * h):(gridB w h).to 0 d c=gto w h d c:=by
 unfold Bd.to
 rw [(grid_len w h).1,if_neg (by show ¬ (_∨_∨_∨_∨_∨c≥w * h);omega),if_neg (by omega)]
 exact grid_nx d0 d1 c0 c1
theorem grid_to1 {w h d c:Int} (d0:0≤d) (d1:d < 8) (c0:0≤c) (c1:c < w * h):(gridB w h).to 1 d c=gto w h ((d+4) % 8) c:=by
 unfold Bd.to
 rw [(grid_len w h).1,if_neg (by show ¬ (_∨_∨_∨_∨_∨c≥w * h);omega),if_pos rfl]
 unfold Bd.tn
 rw [grid_tn d0 d1]
 exact grid_nx (by omega) (by omega) c0 c1
theorem opp {d:Int} (d0:0≤d) (d1:d < 8):nth dxs ((d+4) % 8)=- nth dxs d∧nth dys ((d+4) % 8)=- nth dys d:=by
 have:d=0∨d=1∨d=2∨d=3∨d=4∨d=5∨d=6∨d=7:=by omega
 rcases this with rfl | rfl | rfl | rfl | rfl | rfl | rfl | rfl <;> decide
theorem grid_back {w h d c:Int} (g:Gr w h) (d0:0≤d) (d1:d < 8) (c0:0≤c) (c1:c < w * h) (ht:0≤(gridB w h).to 0 d c):(gridB w h).to 1 d ((gridB w h).to 0 d c)=c:=by
 rw [grid_to d0 d1 c0 c1] at ht ⊢
 have hx:=gto_xy ht
 have hr:=(gto_rg (w:=w) (h:=h) (d:=d) (c:=c)).2 g.m1
 have hc:=crd_rg g.w1 c0 c1
 have ho:=opp d0 d1
 rw [grid_to1 d0 d1 ht hr]
 have e:gto w h ((d+4) % 8) (gto w h d c)=c / w * w+c % w:=by
  rw [gto_in (by rw [hx.1,hx.2,ho.1,ho.2];omega),hx.1,hx.2,ho.1,ho.2]
  rw [show c / w+nth dys d+-nth dys d=c / w by omega,show c % w+nth dxs d+-nth dxs d=c % w by omega]
 rw [e]
 exact crd_eq c w
theorem Bd.to_lt {b:Bd} (hb:b.ok) (s d c:Int):-1≤b.to s d c∧b.to s d c < b.cells:=by
 have:=hb.c1
 unfold Bd.to
 split
 ·omega
 ·rename_i h
  split
  ·have q:=hb.t0 d (by omega) (by omega)
   exact hb.lx _ _ q.1 q.2.1 (by omega) (by omega)
  ·exact hb.lx _ _ (by omega) (by omega) (by omega) (by omega)
theorem nodup_sub_len:∀ {a b:List Int},a.Nodup→(∀ x,x∈a→x∈b)→a.length≤b.length
 | [],_,_,_=>by simp
 | x :: a,b,hn,hs=>by
  rw [List.nodup_cons] at hn
  have hb:=hs x (by simp)
  have:=nodup_sub_len (b:=b.erase x) hn.2 fun y hy=>by
   have hne:y≠x:=fun e=>hn.1 (e ▸ hy)
   exact (List.mem_erase_of_ne hne).2 (hs y (by simp [hy]))
  rw [List.length_erase_of_mem hb] at this
  have:=List.length_pos_of_mem hb
  simp only [List.length_cons]
  omega
theorem cells_len {l:List Int} {n:Int} (hn:l.Nodup) (h:∀ x,x∈l→0≤x∧x < n):l.length≤n.toNat:=by
 have:=nodup_sub_len hn (b:=ints n) fun x hx=>mem_ints.2 (h x hx)
 rwa [ints_len] at this
def Bd.lineFrom (b:Bd) (s d c:Int):Nat→List Int→Int→List Int
 | 0,out,_=>out
 | n+1,out,x=>if 0≤x∧x≠c∧x ∉ out then b.lineFrom s d c n (out++[x]) (b.to s d x) else out
def Bd.line (b:Bd) (s d c:Int):List Int:=b.lineFrom s d c 65 [] (b.to s d c)
structure Bd.lineI (b:Bd) (s d c:Int) (out:List Int) (x:Int):Prop where
 nd:out.Nodup
 rg:∀ y,y∈out→0≤y∧y < b.cells
 xl:x < b.cells
 eq:b.lineFrom s d c (65 - out.length) out x=b.line s d c
theorem Bd.lineI_zero {b:Bd} (hb:b.ok) (s d c:Int):b.lineI s d c [] (b.to s d c):=⟨List.nodup_nil,by simp,(b.to_lt hb s d c).2,rfl⟩
theorem Bd.lineI_len {b:Bd} (hb:b.ok) {s d c:Int} {out:List Int} {x:Int} (h:b.lineI s d c out x):out.length≤b.cells.toNat∧out.length≤64:=by
 have:=cells_len h.nd h.rg
 have:=hb.c64
 omega
theorem Bd.lineFrom_go (b:Bd) {s d c:Int} {n:Nat} {out:List Int} {x:Int} (h:0≤x∧x≠c∧x ∉ out):b.lineFrom s d c (n+1) out x=b.lineFrom s d c n (out++[x]) (b.to s d x):=if_pos h
theorem Bd.lineFrom_end (b:Bd) {s d c:Int} {n:Nat} {out:List Int} {x:Int} (h:¬ (0≤x∧x≠c∧x ∉ out)):b.lineFrom s d c (n+1) out x=out:=if_neg h
theorem Bd.lineI_succ {b:Bd} (hb:b.ok) {s d c:Int} {out:List Int} {x:Int} (h:b.lineI s d c out x) (h1:0≤x) (h2:x≠c) (h3:x ∉ out):b.lineI s d c (out++[x]) (b.to s d x):=by
 have hl:=(b.lineI_len hb h).2
 refine ⟨?_,fun y hy=>?_,(b.to_lt hb s d x).2,?_⟩
 ·rw [List.nodup_append]
  exact ⟨h.nd,by simp,fun a ha b hb=>by simp at hb;subst hb;rintro rfl;exact h3 ha⟩
 ·rcases List.mem_append.1 hy with hy | hy
  ·exact h.rg y hy
  ·simp at hy;subst hy;exact ⟨h1,h.xl⟩
 ·rw [← h.eq,show 65 - out.length=(64 - out.length)+1 by omega,b.lineFrom_go ⟨h1,h2,h3⟩,List.length_append]
  have:65 - (out.length+[x].length)=64 - out.length:=by simp only [List.length_cons,List.length_nil];omega
  rw [this]
theorem Bd.lineI_end {b:Bd} (hb:b.ok) {s d c:Int} {out:List Int} {x:Int} (h:b.lineI s d c out x) (h1:¬ (0≤x∧x≠c∧x ∉ out)):out=b.line s d c:=by
 have hl:=(b.lineI_len hb h).2
 rw [← h.eq,show 65 - out.length=(64 - out.length)+1 by omega,b.lineFrom_end h1]
set_option maxHeartbeats 4000000 in
set_option maxRecDepth 10000 in
theorem Line25_p (b:Bd) (hb:b.ok) (s d c:Int):Pure Tryz.prog 154 [b.av,I s,I d,I c] (.ref 0) (some (.arr 1 ((b.line s d c).map I))):=by
 refine fun_of tok D_ok Tryz.func154 rfl Tryz.ntmps154 Tryz.results154 (by kernel_rfl) (by simp) (by simp) ?_
 conv=>whnf
 repeat' (first | ((first | refine lvA ?_ | refine ⟨_,_,To23_p b hb _ _ _,lvN ?_⟩ | (refine .inl ?_;(conv=>whnf);first | refine ⟨_,_,To23_p b hb _ _ _,lvN ?_⟩));apply Cj.mk <;> first | exact trivial | intros) | fail)
 refine .of (fun p=>[(10,I p.2),(9,.ref 1)]) (fun p=>[(1,.arr 1 (p.1.map I))]) 2 (fun p=>b.lineI s d c p.1 p.2) (fun p=>(b.cells - p.1.length).toNat) (([]:List Int),b.to s d c) ?_
 conv=>whnf
 refine ⟨⟨[],hdA (lvL ?_) (lvL ?_)⟩,?_,fun p hp=>lvN ?_⟩ <;> (try (apply Cj.mk <;> first | exact trivial | intros))
 ·exact b.lineI_zero hb s d c
 have hl:=b.lineI_len hb hp
 have c1:=hb.c1
 repeat' (first | ((first | refine lvA ?_ | refine ⟨_,_,To23_p b hb _ _ _,lvN ?_⟩ | (refine .inl ?_;(conv=>whnf);first | refine ⟨_,_,To23_p b hb _ _ _,lvN ?_⟩));apply Cj.mk <;> first | exact trivial | intros) | (refine .inl ?_;(conv=>whnf);refine ⟨_,Has_p p.1 p.2 (by omega),rfl,?_⟩;conv=>whnf) | fail)
 ·rename_i h4
  repeat' (first | (refine lvA ?_;apply Cj.mk <;> first | exact trivial | intros) | (refine lvE ?_;apply Cj.mk <;> first | exact trivial | intros) | fail)
  rw [b.lineI_end hb hp]
  rintro ⟨h1,h2,h3⟩
  rw [List.contains_iff_mem] at h4;exact h3 h4
 ·rename_i h1 h2 h3
  have hn:p.2 ∉ p.1:=fun h=>by rw [List.contains_iff_mem.2 h] at h3;cases h3
  refine ⟨(p.1++[p.2],b.to s d p.2),⟨[],rfl,rfl,rfl,?_,?_⟩,b.lineI_succ hb hp h1 h2 hn,?_,rfl⟩
  ·conv=>whnf
   repeat' (first
    | exact trivial
    | with_reducible rfl
    | (refine srcI ?_;kernel_rfl)
    | (refine nsI ?_;kernel_rfl)
    | (refine And.intro ?_ ?_ <;> conv=>whnf;try dsimp only [St.after,St.afterAt,St.pin,St.unpin,initSt,initT,numO,cellsA,Option.map,ren,renL,renO,St.setObj,headSt,List.cons_append,List.nil_append,List.length_nil,Nat.reduceAdd]))
  ·
   conv=>whnf
   repeat' (first
    | exact trivial
    | with_reducible rfl
    | (refine srcI ?_;kernel_rfl)
    | (refine nsI ?_;kernel_rfl)
    | (refine And.intro ?_ ?_ <;> conv=>whnf;try dsimp only [St.after,St.afterAt,St.pin,St.unpin,initSt,initT,numO,cellsA,Option.map,ren,renL,renO,St.setObj,headSt,List.cons_append,List.nil_append,List.length_nil,Nat.reduceAdd]))
  ·have:=(b.lineI_len hb (b.lineI_succ hb hp h1 h2 hn)).1
   simp only [List.length_append,List.length_cons,List.length_nil] at this ⊢
   omega
 iterate 2
  ·
   repeat' (first | (refine lvA ?_;apply Cj.mk <;> first | exact trivial | intros) | (refine lvE ?_;apply Cj.mk <;> first | exact trivial | intros) | fail)
   rw [b.lineI_end hb hp]
   rintro ⟨h1,h2,h3⟩
   omega
def Bd.wo (b:Bd) (c:Int):Bd:=⟨b.cells,b.next.map fun l=>cutRow l c b.cells,b.turn⟩
theorem without_eq {b:Bd} {c:Int} (c0:0≤c) (c1:c < b.cells):b.without c=(b.wo c,0):=if_neg (by omega)
theorem wo_len (b:Bd) (c:Int):(b.wo c).next.length=b.next.length:=List.length_map _
theorem wo_row {b:Bd} {c d:Int} (d0:0≤d) (d1:d < b.next.length):nth (b.wo c).next d=cutRow (nth b.next d) c b.cells:=nth_map d0 d1
theorem wo_nx {b:Bd} {c d k:Int} (d0:0≤d) (d1:d < b.next.length) (k0:0≤k) (k1:k < b.cells):(b.wo c).nx d k=if k=c∨b.nx d k=c then -1 else b.nx d k:=by
 unfold Bd.nx
 rw [wo_row d0 d1]
 exact nth_map_ints k0 k1
theorem wo_ok {b:Bd} (hb:b.ok) (c:Int):(b.wo c).ok:=by
 have c1:=hb.c1
 refine ⟨hb.c1,hb.c64,by rw [wo_len];exact hb.n1,by rw [wo_len];exact hb.n8,by rw [wo_len];exact hb.tl,fun d d0 d1=>?_,fun d k d0 d1 k0 k1=>?_,fun d d0 d1=>?_⟩
 ·rw [wo_len] at d1
  rw [wo_row d0 d1,cutRow_len]
  show ((b.cells.toNat:Nat):Int)=b.cells
  omega
 ·rw [wo_len] at d1
  have k1':k < b.cells:=k1
  rw [wo_nx d0 d1 k0 k1']
  have:=hb.lx d k d0 d1 k0 k1'
  show _∧_ < b.cells
  split <;> omega
 ·rw [wo_len] at d1 ⊢
  exact hb.t0 d d0 d1
theorem wo_to {b:Bd} {c d k:Int} (d0:0≤d) (d1:d < b.next.length) (k0:0≤k) (k1:k < b.cells):(b.wo c).to 0 d k=if k=c∨b.to 0 d k=c then -1 else b.to 0 d k:=by
 have e1:(b.wo c).to 0 d k=(b.wo c).nx d k:=by
  unfold Bd.to
  rw [wo_len,show (b.wo c).cells=b.cells from rfl,if_neg (by omega),if_neg (by omega)]
 have e2:b.to 0 d k=b.nx d k:=by unfold Bd.to;rw [if_neg (by omega),if_neg (by omega)]
 rw [e1,e2,wo_nx d0 d1 k0 k1]
end Go.Proofs.YthgobfncgnjimaaGreatDoor
