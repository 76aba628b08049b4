/- A checker of Go functions by conditions over small pure states: part 19. -/
import Derived.Test.YthgobfncgnjimaaGreatDoorSk17
import Derived.Shelf.SortM.Plain
import Derived.Shelf.SortM.SortNone
import Derived.Shelf.SlSortCmp.WholeK
set_option linter.unusedVariables false
set_option linter.unusedSimpArgs false
namespace Go.Sk
open Go.RowKit
theorem fun_same {P:Program} {fid:FuncId} (hen:Enters P fid) {os:List AO} {args:List AV} (hv:∀ (N:Nat→Prop) (w:World) (V:VV) (vs:Array Value),vs.size=args.length→Own N V (obL os) (ltA os.length) w →
   (∀ (j:Nat) (h1:j < args.length) (h2:j < vs.size),RepT N w V args[j] vs[j])→Calls P fid vs w fun e w'=>e=.returned (.tuple #[])∧w'=w):Fun P fid os args (.tup []) os:=by
 refine ⟨hen,Nat.le_refl _,fun N w V vs hsz hown hrep hbd=>(hv N w V vs hsz hown hrep).mono ?_⟩
 rintro e w' ⟨rfl,rfl⟩
 refine ⟨_,rfl,⟨rfl,rfl,.refl _,Nat.le_refl _,fun _ _ _=>rfl⟩,V,fun _ _=>rfl,.tup [] #[] rfl (fun j j1=>by simp at j1),trivial,fun i o hio=>⟨?_,(hown.bdo i o hio).2⟩,hown.inj,fun i b hl hf=>⟨.inr ⟨i,hl,hf⟩,(hown.low i b hl hf).1⟩⟩
 exact RepO.mono (V:=V) (A:=ltA os.length) (fun b hN hlt=>⟨⟨fun _=>.inl hN,fun i hl hf=>(hown.low i b hl hf).2 hN⟩,rfl⟩) (Nat.le_refl _) (fun _ _=>rfl) (fun _=>Iff.rfl) (hown.bdo i o hio).1 (fun hl b hf=>rfl) (hown.obs i o hio) (hown.bdo i o hio).2
theorem fun_row {P:Program} {fid:FuncId} (hen:Enters P fid) {k:Nat} {xs ys:List AV} {more:List AV} (hys:ys.length=xs.length) (hne:xs≠[]) (hmore:∀ a,a∈more→∃ v,a=.v v)
  (h:∀ (N:Nat→Prop) (w:World) (V:VV) (vs:Array Value) (b o cap:Nat) (arr:Array Value) (Ty:TypeId),w.heap[b]?=some (.cells arr Ty (0,0))→¬ N b→0 < cap→xs.length≤cap→o+cap * k≤arr.size→(∀ e,e∈xs→(cellsA e).length=k) →
   (∀ (i:Nat) (e:AV) (j:Nat) (c:AV),xs[i]?=some e→(cellsA e)[j]?=some c→∃ u:Value,arr[o+(i * k+j)]?=some u∧Rep N w c u)→vs=#[.slice (some ⟨b,o,none⟩) xs.length cap]++(more.map fun a=>match a with | .v v=>v | _=>Go.undef).toArray →
   Calls P fid vs w fun e w'=>e=.returned (.tuple #[])∧w'.os=w.os∧w'.tape=w.tape∧Outp w w'∧w.heap.size≤w'.heap.size∧(∀ b',b' < w.heap.size→b'≠b→w'.heap[b']?=w.heap[b']?) ∧
    ∃ arr':Array Value,w'.heap[b]?=some (.cells arr' Ty (0,0))∧arr'.size=arr.size∧(∀ e,e∈ys→(cellsA e).length=k) ∧
     ∀ (i:Nat) (e:AV) (j:Nat) (c:AV),ys[i]?=some e→(cellsA e)[j]?=some c→∃ u:Value,arr'[o+(i * k+j)]?=some u∧Rep N w c u) :
  Fun P fid [.arr k xs] (.ref 0 :: more) (.tup []) [.arr k ys]:=by
 refine ⟨hen,Nat.le_refl _,fun N w V vs hsz hown hrep hbd=>?_⟩
 have hsz2:vs.size=more.length+1:=by simpa using hsz
 have h0:=hrep 0 (by simp) (by omega)
 simp only [List.getElem_cons_zero] at h0
 have hv0:vs[0]=V 0:=by
  generalize vs[0]=v at h0
  cases h0 with
  | im h=>cases h
  | ref _ h=>rfl
 have hvs:vs=#[V 0]++(more.map fun a=>match a with | .v v=>v | _=>Go.undef).toArray:=by
  apply Array.ext (by simp only [hsz2,Array.size_append,List.size_toArray,List.length_map];simp;omega)
  intro i i1 i2
  rw [Array.getElem_append]
  split
  ·rename_i hi
   have:i=0:=by simpa using hi
   subst this
   exact hv0
  ·rename_i hi
   have hi':1≤i:=by simp at hi;omega
   obtain ⟨j,rfl⟩:∃ j,i=j+1:=⟨i - 1,by omega⟩
   have hj:j < more.length:=by omega
   have h1:=hrep (j+1) (by simp;omega) i1
   simp only [List.getElem_cons_succ] at h1
   obtain ⟨v,hv⟩:=hmore _ (List.getElem_mem hj)
   rw [hv] at h1
   have h2:=eval_v h1
   rw [h2]
   simp [hv]
 obtain ⟨hF,hA⟩:=hown.obs 0 _ rfl
 rcases hA with ⟨_,_,h2⟩ | ⟨b,o,cap,arr,Ty,q1,q2,q3,q4,q5,q6,q7⟩
 ·exact absurd h2 hne
 have hbf:V.f 0 b:=(hF b).2 (by rw [q1];simp [bl,blk];omega)
 obtain ⟨hblt,hbN⟩:=hown.low 0 b ⟨_,rfl,rfl⟩ hbf
 have hlow:∀ i b',live (obL [AO.arr k ys]) i→V.f i b'→i=0∧b'=b:=fun i b' ⟨o1,ho,_⟩ hb'=>by
  have:i=0:=by
   have:=(List.getElem?_eq_some_iff.1 ho).1
   simp at this;exact this
  subst this
  have:=(hF b').1 hb'
  rw [q1] at this
  unfold bl blk at this
  simp only at this
  split at this
  ·cases this
  ·injection this with this
   exact ⟨rfl,this.symm⟩
 have hfoot:∀ b',foot V (obL [AO.arr k xs]) b'↔b'=b:=fun b'=>by
  constructor
  ·rintro ⟨i,⟨o1,ho,hl⟩,hb'⟩
   have:i=0:=by
    have:=(List.getElem?_eq_some_iff.1 ho).1
    simp at this;exact this
   subst this
   exact (hlow 0 b' ⟨_,rfl,rfl⟩ hb').2
  ·rintro rfl
   exact ⟨0,⟨_,rfl,rfl⟩,hbf⟩
 refine (h N w V vs b o cap arr Ty q2 hbN q3 q4 q5 q6 q7 (by rw [hvs,q1])).mono ?_
 rintro e w' ⟨rfl,w1,w2,w3,w4,w5,arr',r1,r2,r3,r4⟩
 refine ⟨_,rfl,⟨w1,w2,w3,w4,fun b' hb' hnf=>w5 b' hb' fun e=>hnf ((hfoot b').2 e)⟩,V,fun _ _=>rfl,.tup [] #[] rfl (fun j j1=>by simp at j1),trivial,fun i o1 ho=>?_,fun i j b' hi hj hbi hbj=>?_,fun i b' hi hb'=>?_⟩
 ·have hi0:i=0:=by
   have:=(List.getElem?_eq_some_iff.1 ho).1
   simp at this;exact this
  subst hi0
  have ho1:o1=AO.arr k ys:=by
   simp [obL] at ho;exact ho.symm
  subst ho1
  refine ⟨⟨hF,.inr ⟨b,o,cap,arr',Ty,by rw [q1,hys],r1,q3,by omega,by omega,r3,fun i e j c g1 g2=>?_⟩⟩,trivial⟩
  obtain ⟨u,hu,hr⟩:=r4 i e j c g1 g2
  refine ⟨u,hu,hr.mono fun b' hN hlt=>⟨⟨fun _=>.inl hN,fun i2 hl2 hf2=>?_⟩,w5 b' hlt fun e=>hbN (e ▸ hN)⟩⟩
  exact hbN ((hlow i2 b' hl2 hf2).2 ▸ hN)
 ·exact (hlow i b' hi hbi).1.trans (hlow j b' hj hbj).1.symm
 ·have:=hlow i b' hi hb'
  exact ⟨.inr ((hfoot b').2 this.2),by rw [this.2];exact Nat.lt_of_lt_of_le hblt w4⟩
section
variable {P:Program} {ρ:Go.Shelf.Ren}
theorem sortI_fun (L:Go.Proofs.SlLaysM.n5 P ρ) {fid:FuncId} (hfid:ρ.f 5=fid) (hen:Enters P fid) (l:List Int) (hlen:l.length < 4611686018427387904) :
  Fun P fid [.arr 1 (l.map fun n=>.v (.int .i64 n))] [.ref 0] (.tup []) [.arr 1 ((l.mergeSort fun x y=>decide (x≤y)).map fun n=>.v (.int .i64 n))]:=by
 subst hfid
 by_cases hne:l=[]
 ·subst hne
  rw [List.mergeSort_nil]
  refine fun_same hen fun N w V vs hsz hown hrep=>?_
  have hsz1:vs.size=1:=hsz
  have h0:=hrep 0 (by simp) (by omega)
  simp only [List.getElem_cons_zero] at h0
  have hv0:vs=#[V 0]:=by
   apply Array.ext (by simp [hsz1])
   intro i i1 i2
   have:i=0:=by omega
   subst this
   generalize vs[0]=v at h0
   cases h0 with
   | im h=>cases h
   | ref _ h=>rfl
  rw [hv0]
  obtain ⟨p,cap,hp⟩:∃ p cap,V 0=.slice p 0 cap:=by
   rcases (hown.obs 0 _ rfl).2 with ⟨a,h1,_⟩ | ⟨b,o,cap,arr,Ty,h1,_⟩
   ·exact ⟨a,0,h1⟩
   ·exact ⟨_,_,h1⟩
  rw [hp]
  exact Go.Proofs.AnyM.slices_Sort_int_none L p cap w
 ·have hml:(l.mergeSort fun x y=>decide (x≤y)).length=l.length:=List.length_mergeSort l
  refine fun_row hen (more:=[]) (by simp [hml]) (by simpa using hne) (by simp) fun N w V vs b o cap arr Ty q2 hbN q3 q4 q5 q6 q7 hvs=>?_
  rw [List.length_map] at q4 hvs
  subst hvs
  have hblt:b < w.heap.size:=(Array.getElem?_eq_some_iff.1 q2).1
  have hc:∀ i (hi:i < l.length),arr[o+i]?=some (.int .i64 l[i]):=fun i hi=>by
   obtain ⟨u,hu,hr⟩:=q7 i _ 0 _ (by rw [List.getElem?_map,List.getElem?_eq_getElem hi];rfl) rfl
   cases hr with
   | v=>simpa using hu
  have hH:Go.Sort.Holds (Value.int .i64) w b o l.toArray:=fun j hj=>by
   have hj':j < l.length:=by simpa using hj
   refine ⟨?_,by rw [frozen_of_row w b _ arr Ty q2]⟩
   rw [cell_of_row w b _ arr Ty (0,0) q2,hc j hj',getElem!_pos l.toArray j hj]
   simp
  have:=Go.Proofs.AnyM.slices_Sort_int L b o cap l w hH hblt hlen
  refine (by simpa using this:Calls P (ρ.f 5) (#[.slice (some ⟨b,o,none⟩) l.length cap]++#[]) w _).mono ?_
  rintro e w' ⟨rfl,n,os,rfl⟩
  have hsz:((Go.Sort.putRow (Value.int .i64) (Go.Sort.ahead w n) b o (l.mergeSort fun x y=>decide (x≤y)).toArray)).heap.size=w.heap.size:=by
   unfold Go.Sort.putRow Go.Sort.mapBlock Go.Sort.ahead;simp
  refine ⟨rfl,rfl,rfl,⟨rfl,Nat.le_add_right _ _⟩,by unfold Go.Sort.grow;simp only [Array.size_append];omega,fun b' hb' hnb=>?_,Go.Sort.putCells (Value.int .i64) o (l.mergeSort fun x y=>decide (x≤y)).toArray arr,?_,by simp [Go.Sort.putCells],fun e he=>?_,fun i e j c g1 g2=>?_⟩
  ·unfold Go.Sort.grow
   simp only
   rw [Array.getElem?_append_left (by rw [hsz];exact hb')]
   unfold Go.Sort.putRow Go.Sort.mapBlock Go.Sort.ahead
   simp only
   rw [Array.getElem?_modify,if_neg (Ne.symm hnb)]
  ·unfold Go.Sort.grow
   simp only
   rw [Array.getElem?_append_left (by rw [hsz];exact hblt)]
   unfold Go.Sort.putRow Go.Sort.mapBlock Go.Sort.ahead
   simp only
   rw [Array.getElem?_modify,if_pos rfl,q2]
   rfl
  ·obtain ⟨x,_,rfl⟩:=List.mem_map.1 he
   rfl
  ·rw [List.getElem?_map] at g1
   cases hx:(l.mergeSort fun x y=>decide (x≤y))[i]? with
   | none=>rw [hx] at g1;cases g1
   | some x =>
    rw [hx] at g1
    simp only [Option.map_some,Option.some.injEq] at g1
    subst g1
    cases j with
    | succ j=>simp [cellsA] at g2
    | zero =>
     simp only [cellsA,List.getElem?_cons_zero,Option.some.injEq] at g2
     subst g2
     have hi:=(List.getElem?_eq_some_iff.1 hx).1
     have hao:o+i < arr.size:=by omega
     refine ⟨.int .i64 x,?_,.v _ rfl⟩
     rw [Nat.mul_one,Nat.add_zero]
     unfold Go.Sort.putCells
     rw [Array.getElem?_mapIdx,Array.getElem?_eq_getElem hao]
     simp only [Option.map_some,Option.some.injEq]
     rw [if_pos ⟨by omega,by simp;omega⟩,show o+i - o=i by omega]
     rw [getElem!_pos _ i (by simpa using hi)]
     simp only [List.getElem_toArray]
     have:=(List.getElem?_eq_some_iff.1 hx).2
     rw [this]
end
end Go.Sk
namespace Go.Sk
open Go.RowKit
open Go.Proofs (sortWorldK ltOf CmpLays)
theorem sorted_unique {β:Type} {R:β→β→Prop} (anti:∀ a b,R a b→R b a→a=b):∀ {l1 l2:List β},l1.Perm l2→l1.Pairwise R→l2.Pairwise R→l1=l2
 | [],l2,hp,_,_=>(List.Perm.nil_eq hp)
 | a :: r,[],hp,_,_=>by have:=hp.length_eq;simp at this
 | a :: r,b :: s,hp,h1,h2=>by
  have hab:a=b:=by
   have ha:a∈b :: s:=hp.mem_iff.1 (List.mem_cons_self ..)
   have hb:b∈a :: r:=hp.mem_iff.2 (List.mem_cons_self ..)
   rcases List.mem_cons.1 ha with h | h
   ·exact h
   rcases List.mem_cons.1 hb with h' | h'
   ·exact h'.symm
   exact anti a b ((List.pairwise_cons.1 h1).1 b h') ((List.pairwise_cons.1 h2).1 a h)
  subst hab
  rw [sorted_unique anti (List.Perm.cons_inv hp) (List.pairwise_cons.1 h1).2 (List.pairwise_cons.1 h2).2]
theorem sortWorld_heap {α:Type} [Inhabited α] {enc:α→List Value} {k:Nat} {w:World} {b o m:Nat} {dk:Array α} {os:Array Obj} {b':Nat} (hb:b' < w.heap.size) (hne:b'≠b):(sortWorldK enc k w b o m dk os).heap[b']?=w.heap[b']?:=by
 unfold sortWorldK Go.Sort.grow Go.Sort.putRowK Go.Sort.putRow Go.Sort.mapBlock Go.Sort.ahead
 simp only
 rw [Array.getElem?_append_left (by simpa using hb),Array.getElem?_modify,if_neg (Ne.symm hne)]
theorem sortWorld_row {α:Type} [Inhabited α] {enc:α→List Value} {k:Nat} {w:World} {b o m:Nat} {dk:Array α} {os:Array Obj} {arr:Array Value} {Ty:TypeId} (h:w.heap[b]?=some (.cells arr Ty (0,0))):(sortWorldK enc k w b o m dk os).heap[b]?=some (.cells (Go.Sort.putCells id o (Go.Sort.flatK enc k dk) arr) Ty (0,0)):=by
 have hb:b < w.heap.size:=(Array.getElem?_eq_some_iff.1 h).1
 unfold sortWorldK Go.Sort.grow Go.Sort.putRowK Go.Sort.putRow Go.Sort.mapBlock Go.Sort.ahead
 simp only
 rw [Array.getElem?_append_left (by simpa using hb),Array.getElem?_modify,if_pos rfl,h]
 rfl
theorem sortWorld_size {α:Type} [Inhabited α] {enc:α→List Value} {k:Nat} {w:World} {b o m:Nat} {dk:Array α} {os:Array Obj}:w.heap.size≤(sortWorldK enc k w b o m dk os).heap.size:=by
 unfold sortWorldK Go.Sort.grow Go.Sort.putRowK Go.Sort.putRow Go.Sort.mapBlock Go.Sort.ahead
 simp
theorem grow_of {w w':World} (h:Blw w.heap.size w w'):∃ q os',w'=Go.Sort.grow (w.drewN q) os':=by
 refine ⟨w'.drawn - w.drawn,w'.heap.extract w.heap.size w'.heap.size,?_⟩
 obtain ⟨h1,h2,⟨h3,h4⟩,h5,h6⟩:=h
 cases w';cases w
 simp only at h1 h2 h3 h4 h5 h6
 subst h1 h2 h3
 simp only [Go.Sort.grow,World.drewN,World.mk.injEq,true_and,and_true]
 refine ⟨?_,by omega⟩
 apply Array.ext_getElem?
 intro i
 rw [Array.getElem?_append]
 split
 ·rename_i hi
  exact h6 i hi
 ·rename_i hi
  rw [Array.getElem?_extract]
  split
  ·congr 1;omega
  ·rename_i hx
   rw [Array.getElem?_eq_none]
   omega
section
variable {P:Program} {ρ:Go.Shelf.Ren}
theorem sortFunc_fun (L:Go.Proofs.SlLaysF0.n6 P ρ) {k:Nat} (hk0:0 < k) (aE:∀ w,(isAgg (ρ.t 24)).run P w=.ok true w) (zE:∀ w,(Go.sizeOf (ρ.t 24)).run P w=.ok k w) {fid:FuncId} (hfid:ρ.f 6=fid) (hen:Enters P fid)
  {β:Type} (E:β→List AV) (hE:∀ b,(E b).length=k) (cmp:β→β→Int) (hO:Go.Sort.SWO (ltOf cmp)) (hT:∀ a b,ltOf cmp a b=false→ltOf cmp b a=false→a=b) {g:FuncId} {l l':List β} (hne:l≠[]) (hlen:l.length < 4611686018427387904)
  (hg:∀ a b,a∈l→b∈l→Pure P g [.ag (E a),.ag (E b)] (.v (.int .i64 (cmp a b))) none) (hperm:l'.Perm l) (hsort:l'.Pairwise fun a b=>ltOf cmp b a=false) :
  Fun P fid [.arr k (l.map fun b=>.ag (E b))] [.ref 0,.v (.func (.func g) #[] #[])] (.tup []) [.arr k (l'.map fun b=>.ag (E b))]:=by
 subst hfid
 refine ⟨hen,Nat.le_refl _,fun N w V vs hsz hown hrep hbd=>?_⟩
 have hsz2:vs.size=2:=hsz
 have h0:=hrep 0 (by simp) (by omega)
 have h1:=hrep 1 (by simp) (by omega)
 simp only [List.getElem_cons_zero,List.getElem_cons_succ] at h0 h1
 have hv1:vs[1]=.func (.func g) #[] #[]:=eval_v h1
 have hv0:vs[0]=V 0:=by
  generalize vs[0]=v at h0
  cases h0 with
  | im h=>cases h
  | ref _ h=>rfl
 have hvs:vs=#[V 0,.func (.func g) #[] #[]]:=by
  apply Array.ext (by simp [hsz2])
  intro i i1 i2
  have:i=0∨i=1:=by omega
  rcases this with rfl | rfl
  ·exact hv0
  ·exact hv1
 rw [hvs]
 obtain ⟨hF,hA⟩:=hown.obs 0 _ rfl
 rcases hA with ⟨_,_,h2⟩ | ⟨b,o,cap,arr,Ty,q1,q2,q3,q4,q5,q6,q7⟩
 ·exact absurd (List.map_eq_nil_iff.1 h2) hne
 rw [List.length_map] at q1 q4
 have hpos:0 < l.length:=by cases l with | nil=>exact absurd rfl hne | cons _ _=>simp
 have:Inhabited (Fin l.length):=⟨⟨0,hpos⟩⟩
 have hbf:V.f 0 b:=(hF b).2 (by rw [q1];simp [bl,blk];omega)
 obtain ⟨hblt,hbN⟩:=hown.low 0 b ⟨_,rfl,rfl⟩ hbf
 have hcell:∀ (i:Fin l.length) (j:Nat) (hj:j < k),∃ u:Value,arr[o+(i.1 * k+j)]?=some u∧Rep N w ((E l[i.1])[j]'(by rw [hE];exact hj)) u:=fun i j hj =>
  q7 i.1 (.ag (E l[i.1])) j _ (by rw [List.getElem?_map,List.getElem?_eq_getElem i.2];rfl) (by show (E l[i.1])[j]?=_;rw [List.getElem?_eq_getElem (by rw [hE];exact hj)])
 obtain ⟨enc,hencd⟩:∃ enc:Fin l.length→List Value,enc=fun i=>(List.range k).map fun j=>(arr[o+(i.1 * k+j)]?).getD Go.undef:=⟨_,rfl⟩
 have henc:∀ i,(enc i).length=k:=fun i=>by simp [hencd]
 have hget:∀ (i:Fin l.length) (j:Nat),j < k→(enc i)[j]! = (arr[o+(i.1 * k+j)]?).getD Go.undef:=fun i j hj=>by
  simp only [hencd]
  rw [List.getElem!_eq_getElem?_getD,List.getElem?_map,List.getElem?_range hj];rfl
 have h1c:∀ i,∀ v∈enc i,v.oneCell'=true:=fun i v hv=>by
  rw [hencd] at hv
  obtain ⟨j,hj,rfl⟩:=List.mem_map.1 hv
  obtain ⟨u,hu,hr⟩:=hcell i j (List.mem_range.1 hj)
  rw [hu];exact hr.oneCell
 obtain ⟨d,hdd⟩:∃ d:Array (Fin l.length),d=Array.ofFn fun i=>i:=⟨_,rfl⟩
 have hds:d.size=l.length:=by simp [hdd]
 have hdg:∀ (i:Nat) (hi:i < l.length),d[i]! = ⟨i,hi⟩:=fun i hi=>by
  rw [getElem!_pos d i (by rw [hds];exact hi)]
  simp [hdd]
 have hH:Go.Sort.HoldsK enc k w b o d:=by
  intro j hj
  rw [Go.Sort.size_flatK,hds] at hj
  have hjk:j / k < l.length:=(Nat.div_lt_iff_lt_mul hk0).2 hj
  rw [Go.Sort.get_flatK _ _ _ _ (by rw [hds];exact hj),hdg _ hjk,hget _ _ (Nat.mod_lt _ hk0)]
  obtain ⟨u,hu,_⟩:=hcell ⟨j / k,hjk⟩ (j % k) (Nat.mod_lt _ hk0)
  have ej:j / k * k+j % k=j:=by rw [Nat.mul_comm];exact Nat.div_add_mod j k
  refine ⟨?_,?_⟩
  ·simp only [id] at hu ⊢
   rw [hu,cell_of_row w b _ arr Ty (0,0) q2,← ej,hu];rfl
  ·rw [frozen_of_row w b _ arr Ty q2]
 obtain ⟨cf,hcf⟩:∃ cf:Fin l.length→Fin l.length→Int,cf=fun i j=>cmp l[i.1] l[j.1]:=⟨_,rfl⟩
 have hO':Go.Sort.SWO (ltOf cf):=by
  subst hcf
  exact ⟨fun x=>hO.irrefl _,fun x y z=>hO.trans _ _ _,fun x y z=>hO.ntrans _ _ _⟩
 have hoth:∀ {m:Nat} {dk:Array (Fin l.length)} {os:Array Obj} (b':Nat),N b'→b' < w.heap.size→(sortWorldK enc k w b o m dk os).heap[b']?=w.heap[b']?:=fun b' hN hlt=>sortWorld_heap hlt fun e=>hbN (e ▸ hN)
 have hcmp:CmpLays P g #[] enc k cf b o d.size w:=by
  intro m os dk _ x y
  have hx:∀ (i:Fin l.length),RepT NT (sortWorldK enc k w b o m dk os) V0 (.ag (E l[i.1])) (.agg (enc i).toArray):=fun i=>by
   refine .ag _ _ (by simp [henc,hE]) (fun j j1 j2=>?_) fun j j2=>?_
   ·have hj:j < k:=by rw [hE] at j1;exact j1
    obtain ⟨u,hu,hr⟩:=hcell i j hj
    have e:(enc i).toArray[j]=u:=by
     have h3:=hget i j hj
     rw [hu] at h3
     have h4:(enc i)[j]! = (enc i)[j]'(by rw [henc];exact hj):=getElem!_pos (enc i) j (by rw [henc];exact hj)
     rw [List.getElem_toArray,← h4,h3]
     rfl
    rw [e]
    exact .im (hr.mono fun b' hN hlt=>⟨trivial,hoth b' hN hlt⟩)
   ·exact h1c i _ (by rw [List.getElem_toArray];exact List.getElem_mem _)
  have hrep2:∀ (j:Nat) (h1:j < [AV.ag (E l[x.1]),AV.ag (E l[y.1])].length) (h2:j < #[Value.agg (enc x).toArray,Value.agg (enc y).toArray].size),RepT NT (sortWorldK enc k w b o m dk os) V0 [AV.ag (E l[x.1]),AV.ag (E l[y.1])][j] #[Value.agg (enc x).toArray,Value.agg (enc y).toArray][j]:=fun j j1 j2=>by
   match j,j1,j2 with
   | 0,_,_=>exact hx x
   | 1,_,_=>exact hx y
  have hb2:∀ i:Fin l.length,bd (ltA ([]:List AO).length) (.ag (E l[i.1])):=fun i=>by
   show bdL _ _
   refine bdL_iff.2 fun c hc=>?_
   obtain ⟨j,j1,rfl⟩:=List.mem_iff_getElem.1 hc
   obtain ⟨u,_,hu⟩:=hcell i j (by rw [hE] at j1;exact j1)
   generalize (E l[i.1])[j]=c at hu
   cases hu <;> trivial
  have hbd2:bdL (ltA ([]:List AO).length) [AV.ag (E l[x.1]),AV.ag (E l[y.1])]:=⟨hb2 x,hb2 y,trivial⟩
  rw [Array.append_empty]
  generalize sortWorldK enc k w b o m dk os=W1 at hrep2 ⊢
  have hrun:=(hg l[x.1] l[y.1] (List.getElem_mem _) (List.getElem_mem _)).run NT W1 V0 #[.agg (enc x).toArray,.agg (enc y).toArray] rfl (own_nil _ _ _) hrep2 hbd2
  refine hrun.mono ?_
  rintro e w' ⟨v,rfl,hfr,Vc,_,hout,_⟩
  exact ⟨by rw [eval_v hout,hcf],grow_of (below_of hfr)⟩
 have heg:∀ args w,(callFunc g args).run P w=.ok (.enter g args) w:=fun args w=>by
  obtain ⟨a,ha⟩:=List.exists_mem_of_ne_nil l hne
  exact run_callFunc (hg a a ha ha).en
 rw [q1]
 refine (by simpa [hds] using Go.Proofs.AnyQ.slices_SortFunc L k aE zE enc henc h1c cf hO' g #[] b o cap d w heg hcmp hH hblt (by rw [hds];exact hlen):Calls P (ρ.f 6) #[.slice (some ⟨b,o,none⟩) l.length cap,.func (.func g) #[] #[]] w fun e w' =>
   e=.returned (.tuple #[])∧∃ d' n os,Go.Sort.PermIn 0 l.length d d'∧Go.Sort.SortedIn (ltOf cf) 0 l.length d'∧w'=sortWorldK enc k w b o n d' os).mono ?_
 rintro e w' ⟨rfl,d',n',os',⟨p1,p2,p3⟩,hs,rfl⟩
 rw [hds] at p1
 have hd'g:∀ (i:Nat) (hi:i < d'.size),d'[i]! = d'[i]:=fun i hi=>getElem!_pos d' i hi
 have hl':l'=d'.toList.map fun i=>l[i.1]:=by
  refine sorted_unique (R:=fun a b=>ltOf cmp b a=false) (fun a b h1 h2=>hT a b h2 h1) (hperm.trans ?_) hsort ?_
  ·have hd:d.toList.map (fun i=>l[i.1])=l:=by
    apply List.ext_getElem (by simp [hds])
    intro i i1 i2
    simp [hdd]
   have p4:d'.toList.Perm d.toList:=by
    have ex:∀ (q:Array (Fin l.length)) (m:Nat),q.size=m→q.extract 0 m=q:=fun q m h=>by subst h;simp
    have e1:d'.extract 0 l.length=d':=ex _ _ p1
    have e2:d.extract 0 l.length=d:=ex _ _ hds
    rw [e1,e2] at p3;exact p3
   have:=(p4.map fun i=>l[i.1]).symm
   rw [hd] at this
   exact this
  ·rw [List.pairwise_map,List.pairwise_iff_getElem]
   intro i j i1 j1 hij
   have i2:i < d'.size:=by simpa using i1
   have j2:j < d'.size:=by simpa using j1
   have:=hs i j (Nat.zero_le _) hij (by omega)
   rw [hd'g i i2,hd'g j j2] at this
   rw [hcf] at this
   simp only [List.getElem_map,Array.getElem_toList]
   exact this
 have hll:l'.length=l.length:=hperm.length_eq
 have hlow:∀ i b',live (obL [AO.arr k (l'.map fun b=>AV.ag (E b))]) i→V.f i b'→i=0∧b'=b:=fun i b' ⟨o1,ho,_⟩ hb'=>by
  have:i=0:=by
   have:=(List.getElem?_eq_some_iff.1 ho).1
   simp at this;exact this
  subst this
  have:=(hF b').1 hb'
  rw [q1] at this
  unfold bl blk at this
  simp only at this
  split at this
  ·cases this
  ·injection this with this
   exact ⟨rfl,this.symm⟩
 have hfoot:∀ b',foot V (obL [AO.arr k (l.map fun b=>AV.ag (E b))]) b'↔b'=b:=fun b'=>by
  constructor
  ·rintro ⟨i,⟨o1,ho,hl⟩,hb'⟩
   have:i=0:=by
    have:=(List.getElem?_eq_some_iff.1 ho).1
    simp at this;exact this
   subst this
   exact (hlow 0 b' ⟨_,rfl,rfl⟩ hb').2
  ·rintro rfl
   exact ⟨0,⟨_,rfl,rfl⟩,hbf⟩
 refine ⟨_,rfl,⟨rfl,rfl,⟨rfl,Nat.le_add_right _ _⟩,sortWorld_size,fun b' hb' hnf=>sortWorld_heap hb' fun e=>hnf ((hfoot b').2 e)⟩,V,fun _ _=>rfl,.tup [] #[] rfl (fun j j1=>by simp at j1),trivial,fun i o1 ho=>?_,fun i j b' hi hj hbi hbj=>?_,fun i b' hi hb'=>?_⟩
 ·have hi0:i=0:=by
   have:=(List.getElem?_eq_some_iff.1 ho).1
   simp at this;exact this
  subst hi0
  have ho1:o1=AO.arr k (l'.map fun b=>AV.ag (E b)):=by
   simp [obL] at ho;exact ho.symm
  subst ho1
  refine ⟨⟨hF,.inr ⟨b,o,cap,_,Ty,by rw [q1,List.length_map,hll],sortWorld_row q2,q3,by rw [List.length_map,hll];exact q4,by simpa [Go.Sort.putCells] using q5,fun e he=>?_,fun i e j c g1 g2=>?_⟩⟩,trivial⟩
  ·obtain ⟨x,_,rfl⟩:=List.mem_map.1 he
   exact hE x
  ·rw [List.getElem?_map] at g1
   cases hx:l'[i]? with
   | none=>rw [hx] at g1;cases g1
   | some x =>
    rw [hx] at g1
    simp only [Option.map_some,Option.some.injEq] at g1
    subst g1
    have g2':(E x)[j]?=some c:=g2
    have hi:i < l.length:=by rw [← hll];exact (List.getElem?_eq_some_iff.1 hx).1
    have hj:j < k:=by have:=(List.getElem?_eq_some_iff.1 g2').1;rw [hE] at this;exact this
    have hid:i < d'.size:=by rw [p1];exact hi
    have hxe:x=l[(d'[i]).1]:=by
     rw [hl',List.getElem?_map] at hx
     have:d'.toList[i]?=some d'[i]:=by simp [hid]
     rw [this] at hx
     simp at hx;exact hx.symm
    obtain ⟨u,hu,hr⟩:=hcell d'[i] j hj
    have hlt:i * k+j < l.length * k:=by
     have:=Nat.mul_le_mul_right k (show i+1≤l.length by omega)
     rw [Nat.add_mul,Nat.one_mul] at this
     omega
    have hao:o+(i * k+j) < arr.size:=by
     have:=Nat.mul_le_mul_right k q4
     omega
    refine ⟨u,?_,?_⟩
    ·unfold Go.Sort.putCells
     rw [Array.getElem?_mapIdx,Array.getElem?_eq_getElem hao]
     simp only [Option.map_some,Option.some.injEq]
     rw [if_pos ⟨by omega,by rw [Go.Sort.size_flatK,p1];omega⟩,show o+(i * k+j) - o=i * k+j by omega,Go.Sort.get_flatK _ _ _ _ (by rw [p1];exact hlt)]
     have e1:(i * k+j) / k=i:=by rw [Nat.add_comm,Nat.add_mul_div_right _ _ hk0,Nat.div_eq_of_lt hj];omega
     have e2:(i * k+j) % k=j:=by rw [Nat.add_comm,Nat.add_mul_mod_self_right,Nat.mod_eq_of_lt hj]
     rw [e1,e2,hd'g i hid,hget _ _ hj,hu];rfl
    ·have hc:c=(E l[(d'[i]).1])[j]'(by rw [hE];exact hj):=by
      rw [hxe,List.getElem?_eq_getElem (by rw [hE];exact hj)] at g2'
      injection g2' with g2'
      exact g2'.symm
     rw [hc]
     refine hr.mono fun b' hN hlt=>⟨⟨fun _=>.inl hN,fun i2 hl2 hf2=>?_⟩,hoth b' hN hlt⟩
     have:=hlow i2 b' hl2 hf2
     exact hbN (this.2 ▸ hN)
 ·exact (hlow i b' hi hbi).1.trans (hlow j b' hj hbj).1.symm
 ·have:=hlow i b' hi hb'
  exact ⟨.inr ((hfoot b').2 this.2),by rw [this.2];exact Nat.lt_of_lt_of_le hblt sortWorld_size⟩
end
end Go.Sk
