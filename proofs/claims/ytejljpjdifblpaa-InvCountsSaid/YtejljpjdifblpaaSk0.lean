/- A checker of Go functions by conditions over small pure states: part 1. -/
import Derived.Orders
import Derived.Below
import Derived.Laws.Append
import Derived.Laws.AppendOwn
import Derived.Laws.Rows
import Derived.MapKept
import Derived.Laws.CopyRow
import Derived.Laws.Cells
set_option linter.unusedVariables false
set_option linter.unusedSimpArgs false
namespace Go.Sk
open Go.RowKit
inductive AV where
 | v (x:Value)
 | sl (xs:List AV)
 | ag (cs:List AV)
 | tup (cs:List AV)
 | ref (id:Nat)
 | ptr (id j:Nat)
 | pea (id k i j:Nat)
 | sub (id k i m:Nat)
 | pel (cs:List AV)
 | fn (f:Fn) (fs cs:List AV)
 | nils | skip | undef
 | own (k:Nat) (xs:List AV)
 deriving Inhabited
def cellsA:AV→List AV
 | .ag cs=>cs
 | x=>[x]
structure Ghost where
 R:(Nat→Prop)→World→(Nat→Prop)→Prop
 mono:∀ {N N':Nat→Prop} {w w':World} {f:Nat→Prop},(∀ b,N b→b < w.heap.size→N' b∧w'.heap[b]?=w.heap[b]?)→w.heap.size≤w'.heap.size →
  (∀ b,f b→w'.heap[b]?=w.heap[b]?)→R N w f→R N' w' f
instance:Inhabited Ghost:=⟨⟨fun _ _ _=>True,fun _ _ _ _=>trivial⟩⟩
inductive AO where
 | box (cs:List AV)
 | arr (k:Nat) (xs:List AV)
 | tre (k:Nat) (xs:List AV)
 | mp (d:TypeDesc) (ks:List Value) (xs:List AV)
 | pub (xs:List AV)
 | dead
 | gh (G:Ghost)
 deriving Inhabited
def AO.live:AO→Bool
 | .box _ | .arr _ _ | .tre _ _ | .mp _ _ _ | .gh _=>true
 | _=>false
def look {α:Type}:List (Nat × α)→Nat→Option α
 | [],_=>none
 | (t,x) :: r,u=>if t=u then some x else look r u
structure St where
 tmps:List (Nat × AV)
 objs:List (Nat × AO)
 next:Nat
 size:Nat
 par:List Nat:=[]
def St.get (σ:St) (t:Nat):Option AV:=look σ.tmps t
def St.obj (σ:St) (i:Nat):Option AO:=look σ.objs i
inductive Rep (N:Nat→Prop) (w:World):AV→Value→Prop
 | v (x:Value) (h:x.oneCell'=true):Rep N w (.v x) x
 | nil (a:Option Addr) (c:Nat):Rep N w (.sl []) (.slice a 0 c)
 | sl (xs:List AV) (k b off cap:Nat) (f:Nat→Nat→Value) (hN:N b) (hb:b < w.heap.size) (hcap:xs.length≤cap)
   (hk:∀ e,e∈xs→(cellsA e).length=k)
   (hc:∀ i e j c,xs[i]?=some e→(cellsA e)[j]?=some c→w.cell? ⟨b,off+(i * k+j),none⟩=some (f i j))
   (hr:∀ i e j c,xs[i]?=some e→(cellsA e)[j]?=some c→Rep N w c (f i j)) :
   Rep N w (.sl xs) (.slice (some ⟨b,off,none⟩) xs.length cap)
theorem Rep.oneCell {N:Nat→Prop} {w:World} {x:AV} {v:Value} (h:Rep N w x v):v.oneCell'=true:=by
 cases h <;> first | assumption | rfl
theorem lt_of_heap {w w':World} {b:Nat} (h:w'.heap[b]?=w.heap[b]?) (hb:b < w.heap.size):b < w'.heap.size:=by
 rcases Nat.lt_or_ge b w'.heap.size with h' | h'
 ·exact h'
 ·rw [Array.getElem?_eq_none h'] at h
  rw [Array.getElem?_eq_getElem hb] at h
  cases h
theorem Rep.mono {N N':Nat→Prop} {w w':World} {x:AV} {v:Value}
  (hb:∀ b,N b→b < w.heap.size→N' b∧w'.heap[b]?=w.heap[b]?) (h:Rep N w x v):Rep N' w' x v:=by
 induction h with
 | v x h=>exact .v x h
 | nil a c=>exact .nil a c
 | sl xs k b off cap f hN hlt hcap hk hc hr ih =>
  exact .sl _ k b off cap f (hb b hN hlt).1 (lt_of_heap (hb b hN hlt).2 hlt) hcap hk (fun i e j c h1 h2=>by rw [World.cell?_of_block (hb b hN hlt).2];exact hc i e j c h1 h2) ih
def blk:Value→Option Nat
 | .pointer (some a)=>some a.block
 | .slice (some a) _ c=>if c=0 then none else some a.block
 | .map (some b)=>some b
 | _=>none
def bl (v:Value) (b:Nat):Prop:=blk v=some b
structure VV where
 v:Nat→Value
 f:Nat→Nat→Prop
instance:CoeFun VV (fun _=>Nat→Value):=⟨VV.v⟩
inductive RepT (N:Nat→Prop) (w:World) (V:VV):AV→Value→Prop
 | im {x:AV} {v:Value} (h:Rep N w x v):RepT N w V x v
 | nils (a:Option Addr):RepT N w V .nils (.slice a 0 0)
 | ref (id:Nat) (h:(V id).oneCell'=true):RepT N w V (.ref id) (V id)
 | ptr (id j b o:Nat) (h:V id=.pointer (some ⟨b,o,none⟩)):RepT N w V (.ptr id j) (.pointer (some ⟨b,o+j,none⟩))
 | pea (id k i j b o n c:Nat) (h:V id=.slice (some ⟨b,o,none⟩) n c):RepT N w V (.pea id k i j) (.pointer (some ⟨b,o+(i * k+j),none⟩))
 | sub (id k i m b o n c:Nat) (h:V id=.slice (some ⟨b,o,none⟩) n c) (hi:i < c):RepT N w V (.sub id k i m) (.slice (some ⟨b,o+i * k,none⟩) m (c - i))
 | pel (cs:List AV) (b o:Nat) (f:Nat→Value) (hN:N b) (hb:b < w.heap.size) (hc:∀ j c,cs[j]?=some c→w.cell? ⟨b,o+j,none⟩=some (f j))
   (hr:∀ j c,cs[j]?=some c→Rep N w c (f j)):RepT N w V (.pel cs) (.pointer (some ⟨b,o,none⟩))
 | ag (cs:List AV) (vs:Array Value) (hs:vs.size=cs.length) (hr:∀ (j:Nat) (h1:j < cs.length) (h2:j < vs.size),RepT N w V cs[j] vs[j]) (ho:∀ (j:Nat) (h2:j < vs.size),vs[j].oneCell'=true):RepT N w V (.ag cs) (.agg vs)
 | tup (cs:List AV) (vs:Array Value) (hs:vs.size=cs.length) (hr:∀ (j:Nat) (h1:j < cs.length) (h2:j < vs.size),RepT N w V cs[j] vs[j]):RepT N w V (.tup cs) (.tuple vs)
 | fn (f:Fn) (fs cs:List AV) (us vs:Array Value) (hs:us.size=fs.length) (hs':vs.size=cs.length)
   (hr:∀ (j:Nat) (h1:j < fs.length) (h2:j < us.size),RepT N w V fs[j] us[j])
   (hr':∀ (j:Nat) (h1:j < cs.length) (h2:j < vs.size),RepT N w V cs[j] vs[j]):RepT N w V (.fn f fs cs) (.func f us vs)
 | skip:RepT N w V .skip undef
 | undef (v:Value):RepT N w V .undef v
mutual
def bd (A:Nat→Prop):AV→Prop
 | .ref id | .ptr id _ | .pea id _ _ _ | .sub id _ _ _=>A id
 | .ag cs | .tup cs=>bdL A cs
 | .fn _ fs cs=>bdL A fs∧bdL A cs
 | .v _ | .sl _ | .pel _ | .nils | .skip | .undef | .own _ _=>True
def bdL (A:Nat→Prop):List AV→Prop
 | []=>True
 | x :: r=>bd A x∧bdL A r
end
theorem bdL_iff {A:Nat→Prop} {cs:List AV}:bdL A cs↔∀ x,x∈cs→bd A x:=by
 induction cs with
 | nil=>simp [bdL]
 | cons c r ih=>simp [bdL,ih]
mutual
theorem bd_mono {A A':Nat→Prop} (h:∀ i,A i→A' i):∀ (x:AV),bd A x→bd A' x
 | .ref id,hb=>by unfold bd at *;exact h _ hb
 | .ptr id _,hb=>by unfold bd at *;exact h _ hb
 | .pea id _ _ _,hb=>by unfold bd at *;exact h _ hb
 | .sub id _ _ _,hb=>by unfold bd at *;exact h _ hb
 | .ag cs,hb=>by unfold bd at *;exact bdL_mono h cs hb
 | .tup cs,hb=>by unfold bd at *;exact bdL_mono h cs hb
 | .fn _ fs cs,hb=>by unfold bd at *;exact ⟨bdL_mono h fs hb.1,bdL_mono h cs hb.2⟩
 | .v _,_ | .sl _,_ | .pel _,_ | .nils,_ | .skip,_ | .undef,_ | .own _ _,_=>by unfold bd;trivial
theorem bdL_mono {A A':Nat→Prop} (h:∀ i,A i→A' i):∀ (xs:List AV),bdL A xs→bdL A' xs
 | [],_=>by unfold bdL;trivial
 | x :: r,hb=>by unfold bdL at *;exact ⟨bd_mono h x hb.1,bdL_mono h r hb.2⟩
end
theorem RepT.mono {N N':Nat→Prop} {w w':World} {V V':VV} {A:Nat→Prop} {x:AV} {v:Value}
  (hb:∀ b,N b→b < w.heap.size→N' b∧w'.heap[b]?=w.heap[b]?) (hV:∀ i,A i→V' i=V i)
  (h:RepT N w V x v) (hx:bd A x):RepT N' w' V' x v:=by
 induction h with
 | im h=>exact .im (h.mono hb)
 | nils a=>exact .nils a
 | ref id h=>rw [← hV id (by simpa [bd] using hx)] at h ⊢;exact .ref id h
 | ptr id j b o h=>exact .ptr id j b o (by rw [hV id (by simpa [bd] using hx)];exact h)
 | pea id k i j b o n c h=>exact .pea id k i j b o n c (by rw [hV id (by simpa [bd] using hx)];exact h)
 | sub id k i m b o n c h hi=>exact .sub id k i m b o n c (by rw [hV id (by simpa [bd] using hx)];exact h) hi
 | pel cs b o f hN hlt hc hr =>
  exact .pel cs b o f (hb b hN hlt).1 (lt_of_heap (hb b hN hlt).2 hlt) (fun j c h=>by rw [World.cell?_of_block (hb b hN hlt).2];exact hc j c h) (fun j c h=>(hr j c h).mono hb)
 | ag cs vs hs hr ho ih =>
  have hx':∀ x,x∈cs→bd A x:=bdL_iff.1 (by simpa [bd] using hx)
  exact .ag cs vs hs (fun j h1 h2=>ih j h1 h2 (hx' _ (List.getElem_mem h1))) ho
 | tup cs vs hs hr ih =>
  have hx':∀ x,x∈cs→bd A x:=bdL_iff.1 (by simpa [bd] using hx)
  exact .tup cs vs hs (fun j h1 h2=>ih j h1 h2 (hx' _ (List.getElem_mem h1)))
 | fn f fs cs us vs hs hs' hr hr' ih ih' =>
  have hx':bdL A fs∧bdL A cs:=by simpa [bd] using hx
  exact .fn f fs cs us vs hs hs' (fun j h1 h2=>ih j h1 h2 (bdL_iff.1 hx'.1 _ (List.getElem_mem h1))) (fun j h1 h2=>ih' j h1 h2 (bdL_iff.1 hx'.2 _ (List.getElem_mem h1)))
 | skip=>exact .skip
 | undef v=>exact .undef v
def ArrAt (N:Nat→Prop) (w:World) (v:Value) (k:Nat) (xs:List AV):Prop :=
 (∃ a:Option Addr,v=.slice a 0 0∧xs=[])∨∃ (b o cap:Nat) (arr:Array Value) (T:TypeId),v=.slice (some ⟨b,o,none⟩) xs.length cap∧w.heap[b]?=some (.cells arr T (0,0))∧0 < cap∧xs.length≤cap∧o+cap * k≤arr.size ∧
   (∀ e,e∈xs→(cellsA e).length=k) ∧
   ∀ (i:Nat) (e:AV) (j:Nat) (c:AV),xs[i]?=some e→(cellsA e)[j]?=some c→∃ u:Value,arr[o+(i * k+j)]?=some u∧Rep N w c u
def RepW (N:Nat→Prop) (w:World) (V:VV) (g:Nat→Prop):AV→Value→Prop
 | .own k ys,u=>ArrAt N w u k ys∧∀ b,g b↔bl u b
 | c,u=>RepT N w V c u∧∀ b,¬ g b
def RepM (N:Nat→Prop) (w:World) (g:Nat→Prop):AV→Value→Prop
 | .own k ys,u=>ArrAt N w u k ys∧∀ b,g b↔bl u b
 | .undef,_=>∀ b,¬ g b
 | .ag cs,u=>(∃ vs:Array Value,u=.agg vs∧vs.size=cs.length∧∀ (j:Nat) (c:AV),cs[j]?=some c→∃ x,vs[j]?=some x∧Rep N w c x)∧∀ b,¬ g b
 | c,u=>Rep N w c u∧∀ b,¬ g b
def RepO (N:Nat→Prop) (w:World) (V:VV) (id:Nat):AO→Prop
 | .box cs=>(∀ b,V.f id b↔bl (V id) b)∧∃ (b:Nat) (arr:Array Value) (T:TypeId),V id=.pointer (some ⟨b,0,none⟩)∧w.heap[b]?=some (.cells arr T (0,0))∧arr.size=cs.length ∧
   ∀ (j:Nat) (c:AV),cs[j]?=some c→∃ u:Value,arr[j]?=some u∧RepT N w V c u∧u.oneCell'=true
 | .arr k xs=>(∀ b,V.f id b↔bl (V id) b)∧ArrAt N w (V id) k xs
 | .tre k xs=>(∃ a:Option Addr,V id=.slice a 0 0∧xs=[]∧∀ b,¬ V.f id b)∨∃ (b o cap:Nat) (arr:Array Value) (T:TypeId) (G:Nat→Nat→Prop),V id=.slice (some ⟨b,o,none⟩) xs.length cap∧w.heap[b]?=some (.cells arr T (0,0))∧0 < cap∧xs.length≤cap∧o+cap * k≤arr.size ∧
   (∀ e,e∈xs→(cellsA e).length=k) ∧
   (∀ (i:Nat) (e:AV) (j:Nat) (c:AV),xs[i]?=some e→(cellsA e)[j]?=some c→∃ u:Value,arr[o+(i * k+j)]?=some u∧u.oneCell'=true∧RepW N w V (G (i * k+j)) c u) ∧
   (∀ q q' b',G q b'→G q' b'→q=q')∧(∀ q b',G q b'→b'≠b∧b' < w.heap.size)∧(∀ b',V.f id b'↔b'=b∨∃ q,q < xs.length * k∧G q b')
 | .mp d ks xs=>∃ (b:Nat) (es:Array MapEntry) (clock:Nat) (G:Nat→Nat→Prop),V id=.map (some b)∧w.heap[b]?=some (.map es clock)∧MapKept.Stamped es clock∧(∀ x∈es.toList,MapKept.IsKey d x.key)∧es.toList.map (·.key)=ks∧xs.length=ks.length ∧
   (∀ (i:Nat) (c:AV),xs[i]?=some c→∃ e:MapEntry,es[i]?=some e∧RepM N w (G i) c e.val) ∧
   (∀ q q' b',G q b'→G q' b'→q=q')∧(∀ q b',G q b'→b'≠b∧b' < w.heap.size)∧(∀ b',V.f id b'↔b'=b∨∃ q,q < xs.length∧G q b')
 | .pub xs=>Rep N w (.sl xs) (V id)
 | .gh G=>G.R N w (V.f id)
 | .dead=>True
def bdO (A:Nat→Prop):AO→Prop
 | .box cs=>bdL A cs
 | .tre _ xs=>∀ e,e∈xs→bdL A (cellsA e)
 | _=>True
def live (ob:Nat→Option AO) (i:Nat):Prop:=∃ o,ob i=some o∧o.live=true
def Nf (N0:Nat→Prop) (base:Nat) (V:VV) (ob:Nat→Option AO) (b:Nat):Prop:=(b < base→N0 b)∧∀ i,live ob i→¬ V.f i b
structure W0 where
 w:World
 f:Nat→Prop
 m:List Nat:=[]
 ds:List Deferred:=[]
 v:Nat→Value:=fun _=>.nilFunc
structure Outp (w w':World):Prop where
 eq:w'.output=w.output
 le:w.drawn≤w'.drawn
theorem Outp.trans {a b c:World} (h:Outp b c) (k:Outp a b):Outp a c:=⟨h.eq.trans k.eq,Nat.le_trans k.le h.le⟩
theorem Outp.refl (w:World):Outp w w:=⟨rfl,Nat.le_refl _⟩
theorem Outp.same {w w':World} (h:w'.output=w.output) (k:w'.drawn=w.drawn):Outp w w':=⟨h,by omega⟩
structure Blw (B:Nat) (w w':World):Prop where
 os:w'.os=w.os
 tape:w'.tape=w.tape
 output:Outp w w'
 size:w.heap.size≤w'.heap.size
 block:∀ k,k < B→w'.heap[k]?=w.heap[k]?
theorem Blw.below {B:Nat} {w w':World} (h:Blw B w w'):Below B w w':=⟨h.os,h.tape,h.output.eq,h.size,h.block⟩
theorem Blw.refl (B:Nat) (w:World):Blw B w w:=⟨rfl,rfl,.refl _,Nat.le_refl _,fun _ _=>rfl⟩
theorem Blw.mono {B B':Nat} {w w':World} (h:Blw B w w') (hB:B'≤B):Blw B' w w':=⟨h.os,h.tape,h.output,h.size,fun k hk=>h.block k (Nat.lt_of_lt_of_le hk hB)⟩
theorem Blw.alloc {B:Nat} {a w:World} (h:Blw B a w) (hB:B≤w.heap.size) (o:Obj):Blw B a (w.alloc o) :=
 have k:=h.below.alloc hB o
 ⟨k.os,k.tape,⟨k.output,h.output.le⟩,k.size,k.block⟩
theorem Blw.drew {B:Nat} {a w:World} (h:Blw B a w):Blw B a w.drew:=⟨h.os,h.tape,⟨h.output.eq,Nat.le_succ_of_le h.output.le⟩,h.size,h.block⟩
structure Frm (base:Nat) (w0:W0) (w:World):Prop where
 os:w.os=w0.w.os
 tape:w.tape=w0.w.tape
 output:Outp w0.w w
 size:w0.w.heap.size≤w.heap.size
 block:∀ k,k < base→¬ w0.f k→w.heap[k]?=w0.w.heap[k]?
theorem Frm.refl (base:Nat) (w:World) (f:Nat→Prop):Frm base { w:=w,f:=f } w:=⟨rfl,rfl,.refl _,Nat.le_refl _,fun _ _ _=>rfl⟩
theorem Frm.below {base:Nat} {w0:W0} {w w':World} (h:Frm base w0 w) (hw:Blw base w w'):Frm base w0 w' :=
 ⟨hw.os.trans h.os,hw.tape.trans h.tape,hw.output.trans h.output,Nat.le_trans h.size hw.size,fun k hk hf=>(hw.block k hk).trans (h.block k hk hf)⟩
theorem Frm.turn {base:Nat} {w0:W0} {w w':World} (h:Frm base w0 w) (hos:w'.os=w.os) (hta:w'.tape=w.tape) (hou:Outp w w') (hsz:w.heap.size≤w'.heap.size)
  (hb:∀ k,k < base→¬ w0.f k→w'.heap[k]?=w.heap[k]?):Frm base w0 w' :=
 ⟨hos.trans h.os,hta.trans h.tape,hou.trans h.output,Nat.le_trans h.size hsz,fun k hk hf=>(hb k hk hf).trans (h.block k hk hf)⟩
structure Rel (N0:Nat→Prop) (base:Nat) (w0:W0) (m:Nat) (V:VV) (g:Nat→Option AV) (ob:Nat→Option AO) (A:Nat→Prop) (a:Act) (w:World):Prop where
 tm:∀ t x,g t=some x→RepT (Nf N0 base V ob) w V x (a.tmps.getD t undef)
 obs:∀ i o,ob i=some o→RepO (Nf N0 base V ob) w V i o
 inj:∀ i j b,live ob i→live ob j→V.f i b→V.f j b→i=j
 low:∀ i b,live ob i→V.f i b→(base≤b∨(w0.f b∧N0 b))∧b < w.heap.size
 bdt:∀ t x,g t=some x→bd A x
 bdo:∀ i o,ob i=some o→A i∧bdO A o
 bel:Frm base w0 w
 bas:base≤w.heap.size
 dfr:a.defers=w0.ds
 siz:a.tmps.size=m
 par:∀ i,i∈w0.m→A i∧V i=w0.v i
theorem bdO_mono {A A':Nat→Prop} (h:∀ i,A i→A' i):∀ o,bdO A o→bdO A' o
 | .box cs,hb=>bdL_mono h cs hb
 | .tre _ _,hb=>fun e he=>bdL_mono h _ (hb e he)
 | .arr _ _,_ | .pub _,_ | .dead,_ | .gh _,_ | .mp _ _ _,_=>trivial
theorem ArrAt.mono {N N':Nat→Prop} {w w':World} {v:Value} {k:Nat} {xs:List AV} (hb:∀ b,N b→b < w.heap.size→N' b∧w'.heap[b]?=w.heap[b]?)
  (hown:∀ b,bl v b→w'.heap[b]?=w.heap[b]?) (h:ArrAt N w v k xs):ArrAt N' w' v k xs:=by
 rcases h with ⟨a,h1,h2⟩ | ⟨b,o,cap,arr,T,h1,h2,h3,h4,h5,h6,h7⟩
 ·exact .inl ⟨a,h1,h2⟩
 ·refine .inr ⟨b,o,cap,arr,T,h1,by rw [hown b (by rw [h1];simp [bl,blk];omega)];exact h2,h3,h4,h5,h6,fun i e j c h8 h9=>?_⟩
  obtain ⟨u,hu,hr⟩:=h7 i e j c h8 h9
  exact ⟨u,hu,hr.mono hb⟩
theorem RepW.mono {N N':Nat→Prop} {w w':World} {V V':VV} {A:Nat→Prop} {g:Nat→Prop} {c:AV} {u:Value} (hb:∀ b,N b→b < w.heap.size→N' b∧w'.heap[b]?=w.heap[b]?)
  (hV:∀ i,A i→V' i=V i) (hown:∀ b,g b→w'.heap[b]?=w.heap[b]?) (h:RepW N w V g c u) (hx:bd A c):RepW N' w' V' g c u:=by
 cases c with
 | own k ys=>exact ⟨h.1.mono hb fun b hb'=>hown b ((h.2 b).2 hb'),h.2⟩
 | _=>exact ⟨h.1.mono hb hV hx,h.2⟩
theorem RepM.mono {N N':Nat→Prop} {w w':World} {g:Nat→Prop} {c:AV} {u:Value} (hb:∀ b,N b→b < w.heap.size→N' b∧w'.heap[b]?=w.heap[b]?)
  (hown:∀ b,g b→w'.heap[b]?=w.heap[b]?) (h:RepM N w g c u):RepM N' w' g c u:=by
 cases c with
 | own k ys=>exact ⟨h.1.mono hb fun b hb'=>hown b ((h.2 b).2 hb'),h.2⟩
 | undef=>exact h
 | ag cs =>
  obtain ⟨⟨vs,h1,h2,h3⟩,h4⟩:=h
  exact ⟨⟨vs,h1,h2,fun j c hc=>let ⟨x,q1,q2⟩:=h3 j c hc;⟨x,q1,q2.mono hb⟩⟩,h4⟩
 | _=>exact ⟨h.1.mono hb,h.2⟩
theorem RepO.mono {N N':Nat→Prop} {w w':World} {V V':VV} {A:Nat→Prop} {i:Nat} {o:AO}
  (hb:∀ b,N b→b < w.heap.size→N' b∧w'.heap[b]?=w.heap[b]?) (hsz:w.heap.size≤w'.heap.size) (hV:∀ i,A i→V' i=V i) (hF:∀ b,V'.f i b↔V.f i b) (hi:A i)
  (hown:o.live=true→∀ b,V.f i b→w'.heap[b]?=w.heap[b]?) (h:RepO N w V i o) (hx:bdO A o):RepO N' w' V' i o:=by
 cases o with
 | box cs =>
  obtain ⟨h0,b,arr,T,h1,h2,h3,h4⟩:=h
  refine ⟨fun b=>by rw [hF,hV i hi];exact h0 b,b,arr,T,by rw [hV i hi];exact h1,by rw [hown rfl b ((h0 b).2 (by rw [h1];rfl))];exact h2,h3,fun j c hc=>?_⟩
  obtain ⟨u,hu,hr,ho⟩:=h4 j c hc
  exact ⟨u,hu,hr.mono hb hV (bdL_iff.1 hx _ (List.mem_of_getElem? hc)),ho⟩
 | arr k xs =>
  refine ⟨fun b=>by rw [hF,hV i hi];exact h.1 b,?_⟩
  rw [hV i hi]
  exact h.2.mono hb fun b hb'=>hown rfl b ((h.1 b).2 hb')
 | tre k xs =>
  rcases h with ⟨a,h1,h2,h3⟩ | ⟨b,o,cap,arr,T,G,h1,h2,h3,h4,h5,h6,h7,h8,h9,h10⟩
  ·exact .inl ⟨a,by rw [hV i hi];exact h1,h2,fun b=>by rw [hF];exact h3 b⟩
  ·refine .inr ⟨b,o,cap,arr,T,G,by rw [hV i hi];exact h1,by rw [hown rfl b ((h10 b).2 (.inl rfl))];exact h2,h3,h4,h5,h6,fun i' e j c q1 q2=>?_,h8,fun q b' hg=>⟨(h9 q b' hg).1,Nat.lt_of_lt_of_le (h9 q b' hg).2 hsz⟩,fun b'=>by rw [hF];exact h10 b'⟩
   obtain ⟨u,hu,hr,hw⟩:=h7 i' e j c q1 q2
   have hjk:j < k:=by rw [← h6 e (List.mem_of_getElem? q1)];exact (List.getElem?_eq_some_iff.1 q2).1
   have hil:i' < xs.length:=(List.getElem?_eq_some_iff.1 q1).1
   have hq:i' * k+j < xs.length * k:=by
    have:=Nat.mul_le_mul_right k (show i'+1≤xs.length by omega)
    rw [Nat.add_mul,Nat.one_mul] at this
    omega
   exact ⟨u,hu,hr,hw.mono hb hV (fun b' hg=>hown rfl b' ((h10 b').2 (.inr ⟨_,hq,hg⟩))) (bdL_iff.1 (hx e (List.mem_of_getElem? q1)) _ (List.mem_of_getElem? q2))⟩
 | mp d ks xs =>
  obtain ⟨b,es,clock,G,h1,h2,h3,h3k,h4,h5,h6,h7,h8,h9⟩:=h
  refine ⟨b,es,clock,G,by rw [hV i hi];exact h1,by rw [hown rfl b ((h9 b).2 (.inl rfl))];exact h2,h3,h3k,h4,h5,fun q c hq=>?_,h7,fun q b' hg=>⟨(h8 q b' hg).1,Nat.lt_of_lt_of_le (h8 q b' hg).2 hsz⟩,fun b'=>by rw [hF];exact h9 b'⟩
  obtain ⟨e,q1,q2⟩:=h6 q c hq
  exact ⟨e,q1,q2.mono hb fun b' hg=>hown rfl b' ((h9 b').2 (.inr ⟨q,(List.getElem?_eq_some_iff.1 hq).1,hg⟩))⟩
 | pub xs =>
  show Rep N' w' (.sl xs) (V' i)
  rw [hV i hi]
  exact Rep.mono hb h
 | dead=>trivial
 | gh G =>
  have hf:V'.f i=V.f i:=funext fun b=>propext (hF b)
  show G.R N' w' (V'.f i)
  rw [hf]
  exact G.mono hb hsz (hown rfl) h
def upd (g:Nat→Option AV) (dst:Option Nat) (x:AV) (t:Nat):Option AV:=if dst=some t then some x else g t
theorem getD_put (a:Act) (dst:Option Nat) (v:Value) (t:Nat) (h:dst≠some t):(a.put dst v).tmps.getD t Go.undef=a.tmps.getD t Go.undef:=by
 cases dst with
 | none=>rfl
 | some d =>
  have:d≠t:=fun e=>h (by rw [e])
  simp [Act.put,Array.getElem?_setIfInBounds_ne this]
theorem getD_put_same (a:Act) (d:Nat) (v:Value) (h:d < a.tmps.size):(a.put (some d) v).tmps.getD d Go.undef=v:=by
 simp [Act.put,h]
theorem put_size (a:Act) (dst:Option Nat) (v:Value):(a.put dst v).tmps.size=a.tmps.size:=by cases dst <;> simp [Act.put]
theorem put_defers (a:Act) (dst:Option Nat) (v:Value):(a.put dst v).defers=a.defers:=by cases dst <;> simp [Act.put]
variable {N0:Nat→Prop} {base:Nat} {w0:W0} {m:Nat} {V:VV} {g:Nat→Option AV} {ob:Nat→Option AO} {A:Nat→Prop} {a:Act} {w:World}
theorem Rel.put (h:Rel N0 base w0 m V g ob A a w) {dst:Option Nat} {x:AV} {v:Value} (hd:∀ d,dst=some d→d < m)
  (hx:RepT (Nf N0 base V ob) w V x v) (hb:bd A x):Rel N0 base w0 m V (upd g dst x) ob A (a.put dst v) w :=
 { h with
  tm:=fun t y hy=>by
   unfold upd at hy
   split at hy
   ·rename_i hdt
    subst hdt
    obtain rfl:x=y:=by injection hy
    rw [getD_put_same _ _ _ (by rw [h.siz];exact hd t rfl)]
    exact hx
   ·rename_i hdt
    rw [getD_put _ _ _ _ hdt]
    exact h.tm t y hy
  bdt:=fun t y hy=>by
   unfold upd at hy
   split at hy
   ·obtain rfl:x=y:=by injection hy
    exact hb
   ·exact h.bdt t y hy
  dfr:=by rw [put_defers];exact h.dfr
  siz:=by rw [put_size];exact h.siz }
theorem Rel.grow (h:Rel N0 base w0 m V g ob A a w) {w':World} (hw:Blw w.heap.size w w'):Rel N0 base w0 m V g ob A a w' :=
 { h with
  tm:=fun t x hx=>(h.tm t x hx).mono (A:=A) (fun b hN hb=>⟨hN,hw.block b hb⟩) (fun _ _=>rfl) (h.bdt t x hx)
  obs:=fun i o ho=>(h.obs i o ho).mono (A:=A) (fun b hN hb=>⟨hN,hw.block b hb⟩) hw.size (fun _ _=>rfl) (fun _=>Iff.rfl) (h.bdo i o ho).1
   (fun hl b hb=>hw.block b (h.low i b ⟨o,ho,hl⟩ hb).2) (h.bdo i o ho).2
  low:=fun i b hl hb=>⟨(h.low i b hl hb).1,Nat.lt_of_lt_of_le (h.low i b hl hb).2 hw.size⟩
  bel:=h.bel.below (hw.mono h.bas)
  bas:=Nat.le_trans h.bas hw.size }
def updV (V:VV) (n:Nat) (v:Value):VV:=⟨fun i=>if i=n then v else V i,fun i=>if i=n then bl v else V.f i⟩
def setF (V:VV) (n:Nat) (f:Nat→Prop):VV:=⟨V.v,fun i=>if i=n then f else V.f i⟩
def updO (ob:Nat→Option AO) (n:Nat) (o:AO) (i:Nat):Option AO:=if i=n then some o else ob i
def addA (A:Nat→Prop) (n:Nat) (i:Nat):Prop:=A i∨i=n
theorem updV_same (V:VV) (n:Nat) (v:Value):updV V n v n=v:=by simp [updV]
theorem updV_ne (V:VV) (n:Nat) (v:Value) {i:Nat} (h:i≠n):updV V n v i=V i:=by simp [updV,h]
theorem updV_f (V:VV) (n:Nat) (v:Value):(updV V n v).f n=bl v:=by simp [updV]
theorem updV_fne (V:VV) (n:Nat) (v:Value) {i:Nat} (h:i≠n):(updV V n v).f i=V.f i:=by simp [updV,h]
theorem setF_v (V:VV) (n:Nat) (f:Nat→Prop) (i:Nat):setF V n f i=V i:=rfl
theorem setF_f (V:VV) (n:Nat) (f:Nat→Prop):(setF V n f).f n=f:=by simp [setF]
theorem setF_fne (V:VV) (n:Nat) (f:Nat→Prop) {i:Nat} (h:i≠n):(setF V n f).f i=V.f i:=by simp [setF,h]
theorem setF_self (V:VV) (n:Nat):setF V n (V.f n)=V:=by
 unfold setF
 congr
 funext i
 split
 ·rename_i h;rw [h]
 ·rfl
theorem live_updO {ob:Nat→Option AO} {n:Nat} {o:AO} {i:Nat} (h:live (updO ob n o) i):(i=n∧o.live=true)∨(i≠n∧live ob i):=by
 obtain ⟨o',h1,h2⟩:=h
 unfold updO at h1
 split at h1
 ·rename_i hi
  injection h1 with h1
  subst h1
  exact .inl ⟨hi,h2⟩
 ·rename_i hi
  exact .inr ⟨hi,o',h1,h2⟩
theorem Rel.new (h:Rel N0 base w0 m V g ob A a w) {w':World} (hw:Blw w.heap.size w w') {n:Nat} (hn:¬ A n) {v:Value} {o:AO}
  (hb:∀ b,blk v=some b→w.heap.size≤b∧b < w'.heap.size)
  (ho:RepO (Nf N0 base (updV V n v) (updO ob n o)) w' (updV V n v) n o) (hbd:bdO (addA A n) o) :
  Rel N0 base w0 m (updV V n v) g (updO ob n o) (addA A n) a w':=by
 have hV:∀ i,A i→updV V n v i=V i:=fun i hi=>updV_ne V n v (fun e=>hn (e ▸ hi))
 have hNf:∀ b,Nf N0 base V ob b→b < w.heap.size→Nf N0 base (updV V n v) (updO ob n o) b∧w'.heap[b]?=w.heap[b]?:=fun b hN hlt=>by
  refine ⟨⟨hN.1,fun i hl=>?_⟩,hw.block b hlt⟩
  rcases live_updO hl with ⟨rfl,_⟩ | ⟨hi,hl⟩
  ·rw [updV_f]
   intro hc
   have:=(hb b hc).1
   omega
  ·rw [updV_fne V n v hi];exact hN.2 i hl
 refine ⟨fun t x hx=>(h.tm t x hx).mono hNf hV (h.bdt t x hx),fun i o' hi=>?_,fun i j b hi hj hbi hbj=>?_,fun i b hi hbi=>?_,
  fun t x hx=>bd_mono (fun _=>.inl) x (h.bdt t x hx),fun i o' hi=>?_,h.bel.below (hw.mono h.bas),Nat.le_trans h.bas hw.size,h.dfr,h.siz,fun i hi=>⟨.inl (h.par i hi).1,(hV i (h.par i hi).1).trans (h.par i hi).2⟩⟩
 ·unfold updO at hi
  split at hi
  ·rename_i e
   subst e
   injection hi with hi
   subst hi
   exact ho
  ·rename_i hne
   refine (h.obs i o' hi).mono hNf hw.size hV (fun b=>by rw [updV_fne V n v hne]) (h.bdo i o' hi).1 (fun hl b hb'=>hw.block b (h.low i b ⟨o',hi,hl⟩ hb').2) (h.bdo i o' hi).2
 ·rcases live_updO hi with ⟨rfl,hl⟩ | ⟨hi,hl⟩ <;> rcases live_updO hj with ⟨rfl,hl'⟩ | ⟨hj,hl'⟩
  ·rfl
  ·rw [updV_f] at hbi;rw [updV_fne V _ v hj] at hbj
   have:=(hb b hbi).1;have:=(h.low j b hl' hbj).2;omega
  ·rw [updV_f] at hbj;rw [updV_fne V _ v hi] at hbi
   have:=(hb b hbj).1;have:=(h.low i b hl hbi).2;omega
  ·rw [updV_fne V _ v hi] at hbi;rw [updV_fne V _ v hj] at hbj
   exact h.inj i j b hl hl' hbi hbj
 ·rcases live_updO hi with ⟨rfl,hl⟩ | ⟨hi,hl⟩
  ·rw [updV_f] at hbi
   exact ⟨.inl (Nat.le_trans h.bas (hb b hbi).1),(hb b hbi).2⟩
  ·rw [updV_fne V _ v hi] at hbi
   exact ⟨(h.low i b hl hbi).1,Nat.lt_of_lt_of_le (h.low i b hl hbi).2 hw.size⟩
 ·unfold updO at hi
  split at hi
  ·rename_i e
   subst e
   injection hi with hi
   subst hi
   exact ⟨.inr rfl,hbd⟩
  ·exact ⟨.inl (h.bdo i o' hi).1,bdO_mono (fun _=>.inl) o' (h.bdo i o' hi).2⟩
theorem Rel.turnF (h:Rel N0 base w0 m V g ob A a w) {w':World} {n:Nat} {o o':AO} {f:Nat→Prop} (hon:ob n=some o) (hol:o.live=true) (hf:o'.live=true→∀ b,f b→V.f n b)
  (hsz:w.heap.size≤w'.heap.size) (hbl:∀ b,b < w.heap.size→¬ V.f n b→w'.heap[b]?=w.heap[b]?) (hos:w'.os=w.os) (hta:w'.tape=w.tape) (hou:Outp w w')
  (ho:RepO (Nf N0 base (setF V n f) (updO ob n o')) w' (setF V n f) n o') (hbd:bdO A o') :
  Rel N0 base w0 m (setF V n f) g (updO ob n o') A a w':=by
 have hln:live ob n:=⟨o,hon,hol⟩
 have hsub:∀ i,live (updO ob n o') i→live ob i∧∀ b,(setF V n f).f i b→V.f i b:=fun i hl=>by
  rcases live_updO hl with ⟨rfl,hl'⟩ | ⟨hne,hl⟩
  ·exact ⟨hln,fun b hb=>hf hl' b (by rwa [setF_f] at hb)⟩
  ·exact ⟨hl,fun b hb=>by rwa [setF_fne V _ _ hne] at hb⟩
 have hNf:∀ b,Nf N0 base V ob b→b < w.heap.size→Nf N0 base (setF V n f) (updO ob n o') b∧w'.heap[b]?=w.heap[b]?:=fun b hN hlt =>
  ⟨⟨hN.1,fun i hl hb=>hN.2 i (hsub i hl).1 ((hsub i hl).2 b hb)⟩,hbl b hlt (hN.2 n hln)⟩
 refine ⟨fun t x hx=>RepT.mono (V:=V) hNf (fun _ _=>rfl) (h.tm t x hx) (h.bdt t x hx),fun i o1 hi=>?_,fun i j b hi hj hbi hbj=>h.inj i j b (hsub i hi).1 (hsub j hj).1 ((hsub i hi).2 b hbi) ((hsub j hj).2 b hbj),fun i b hi hbi=>?_,
  h.bdt,fun i o1 hi=>?_,?_,Nat.le_trans h.bas hsz,h.dfr,h.siz,h.par⟩
 ·unfold updO at hi
  split at hi
  ·rename_i e
   subst e
   injection hi with hi
   subst hi
   exact ho
  ·rename_i hne
   refine RepO.mono (V:=V) hNf hsz (fun _ _=>rfl) (fun b=>by rw [setF_fne V _ _ hne]) (h.bdo i o1 hi).1 (fun hl b hb'=>hbl b (h.low i b ⟨o1,hi,hl⟩ hb').2 (fun e=>hne (h.inj i n b ⟨o1,hi,hl⟩ hln hb' e))) (h.obs i o1 hi) (h.bdo i o1 hi).2
 ·exact ⟨(h.low i b (hsub i hi).1 ((hsub i hi).2 b hbi)).1,Nat.lt_of_lt_of_le (h.low i b (hsub i hi).1 ((hsub i hi).2 b hbi)).2 hsz⟩
 ·unfold updO at hi
  split at hi
  ·rename_i e
   subst e
   injection hi with hi
   subst hi
   exact ⟨(h.bdo _ _ hon).1,hbd⟩
  ·exact h.bdo i o1 hi
 ·refine h.bel.turn hos hta hou hsz fun b hb hf'=>hbl b (Nat.lt_of_lt_of_le hb h.bas) (fun e=>?_)
  rcases (h.low n b hln e).1 with h1 | ⟨h1,_⟩
  ·omega
  ·exact hf' h1
theorem Rel.turn (h:Rel N0 base w0 m V g ob A a w) {w':World} {n:Nat} {o o':AO} (hon:ob n=some o) (hol:o.live=true)
  (hsz:w.heap.size≤w'.heap.size) (hbl:∀ b,b < w.heap.size→¬ V.f n b→w'.heap[b]?=w.heap[b]?) (hos:w'.os=w.os) (hta:w'.tape=w.tape) (hou:Outp w w')
  (ho:RepO (Nf N0 base V (updO ob n o')) w' V n o') (hbd:bdO A o') :
  Rel N0 base w0 m V g (updO ob n o') A a w':=by
 have:=h.turnF (f:=V.f n) (o':=o') hon hol (fun _ _ hb=>hb) hsz hbl hos hta hou (by rw [setF_self];exact ho) hbd
 rwa [setF_self] at this
end Go.Sk
namespace Go.Sk
open Go.RowKit
structure TI where
 desc:TypeDesc
 size:Nat
 bytes:Nat
 zero:Value
def TOK (P:Program) (T:TypeId→Option TI):Prop :=
 ∀ t i,T t=some i→∃ info,P.info? t=some info∧P.underlying t=some i.desc∧info.size=i.size∧info.bytes=i.bytes∧info.zero=some i.zero∧i.zero.cells.size=i.size
def TI.agg (i:TI):Bool:=match i.desc with | .struct _ | .array _ _=>true | _=>false
def constC:Value→Option AV
 | .slice none 0 0=>some .nils
 | .agg _ | .tuple _=>none
 | x=>some (.v x)
def constL:List Value→Option (List AV)
 | []=>some []
 | x :: r=>match constC x,constL r with | some y,some s=>some (y :: s) | _,_=>none
def constA:Value→Option AV
 | .agg cs=>(constL cs.toList).map .ag
 | x=>constC x
def evalA (g:Nat→Option AV):Operand→Option AV
 | .tmp t=>g t
 | .const v=>constA v
 | .func f=>some (.v (.func (.func f) #[] #[]))
 | .global _=>none
section
variable {N:Nat→Prop} {w:World} {V:VV} {P:Program} {T:TypeId→Option TI}
theorem constC_rep {x:Value} {y:AV} (h:constC x=some y):RepT N w V y x∧x.oneCell'=true∧∀ A,bd A y:=by
 unfold constC at h
 split at h
 ·injection h with h;subst h;exact ⟨.nils none,rfl,fun _=>by simp [bd]⟩
 ·cases h
 ·cases h
 ·injection h with h;subst h
  have ho:x.oneCell'=true:=by cases x <;> simp_all [Value.oneCell']
  exact ⟨.im (.v x ho),ho,fun _=>by simp [bd]⟩
theorem constL_rep:∀ {xs:List Value} {ys:List AV},constL xs=some ys→xs.length=ys.length∧(∀ (j:Nat) (h1:j < ys.length) (h2:j < xs.length),RepT N w V ys[j] xs[j]∧xs[j].oneCell'=true)∧∀ A,bdL A ys
 | [],ys,h=>by simp [constL] at h;subst h;exact ⟨rfl,fun j h1=>by simp at h1,fun _=>by simp [bdL]⟩
 | x :: r,ys,h=>by
  simp only [constL] at h
  split at h
  ·rename_i y s h1 h2
   injection h with h;subst h
   obtain ⟨i1,i2,i3⟩:=constL_rep (xs:=r) h2
   have hc:=constC_rep (N:=N) (w:=w) (V:=V) h1
   refine ⟨by simp [i1],fun j h1 h2=>?_,fun A=>by simp [bdL,hc.2.2 A,i3 A]⟩
   cases j with
   | zero=>exact ⟨hc.1,hc.2.1⟩
   | succ j=>simpa using i2 j (by simpa using h1) (by simpa using h2)
  ·cases h
theorem constA_rep {x:Value} {y:AV} (h:constA x=some y):RepT N w V y x∧∀ A,bd A y:=by
 unfold constA at h
 split at h
 ·rename_i cs
  cases hl:constL cs.toList with
  | none=>simp [hl] at h
  | some ys =>
   simp [hl] at h;subst h
   obtain ⟨i1,i2,i3⟩:=constL_rep (N:=N) (w:=w) (V:=V) hl
   refine ⟨.ag ys cs (by simpa using i1) (fun j h1 h2=>by have:=(i2 j h1 (by simpa using h2)).1;rwa [Array.getElem_toList] at this) (fun j h2=>by
    have:=(i2 j (by rw [← i1];simpa using h2) (by simpa using h2)).2;rwa [Array.getElem_toList] at this),fun A=>by simpa [bd] using i3 A⟩
 ·have:=constC_rep (N:=N) (w:=w) (V:=V) h
  exact ⟨this.1,this.2.2⟩
def okA:AV→Bool
 | .tup _ | .skip | .undef=>false
 | _=>true
theorem cells_one {v:Value} (h:v.oneCell'=true):v.cells=#[v]:=by cases v <;> simp_all [Value.cells,Value.oneCell']
theorem cells_rep {y:AV} {v:Value} (hy:okA y=true) (h:RepT N w V y v) :
  v.cells.size=(cellsA y).length∧∀ (j:Nat) (c:AV),(cellsA y)[j]?=some c→∃ u,v.cells[j]?=some u∧RepT N w V c u∧u.oneCell'=true:=by
 have one:∀ {y:AV} {v:Value},cellsA y=[y]→v.oneCell'=true→RepT N w V y v→v.cells.size=(cellsA y).length∧∀ (j:Nat) (c:AV),(cellsA y)[j]?=some c→∃ u,v.cells[j]?=some u∧RepT N w V c u∧u.oneCell'=true:=by
  intro y v hc ho hr
  rw [hc,cells_one ho]
  refine ⟨rfl,fun j c hj=>?_⟩
  cases j with
  | zero=>simp at hj;subst hj;exact ⟨v,by simp,hr,ho⟩
  | succ j=>simp at hj
 cases h with
 | im h =>
  refine one ?_ h.oneCell (.im h)
  cases h <;> rfl
 | nils a=>exact one rfl rfl (.nils a)
 | ref id h=>exact one rfl h (.ref id h)
 | ptr id j b o h=>exact one rfl rfl (.ptr id j b o h)
 | pea id k i j b o n c h=>exact one rfl rfl (.pea id k i j b o n c h)
 | sub id k i m b o n c h hi=>exact one rfl rfl (.sub id k i m b o n c h hi)
 | pel cs b o f hN hb hc hr=>exact one rfl rfl (.pel cs b o f hN hb hc hr)
 | ag cs vs hs hr ho =>
  refine ⟨hs,fun j c hj=>?_⟩
  obtain ⟨h1,h2⟩:=List.getElem?_eq_some_iff.1 hj
  have h3:j < vs.size:=by rw [hs];exact h1
  exact ⟨vs[j],by simp [Value.cells,h3],h2 ▸ hr j h1 h3,ho j h3⟩
 | tup cs vs hs hr=>simp [okA] at hy
 | fn f fs cs us vs hs hs' hr hr'=>exact one rfl rfl (.fn f fs cs us vs hs hs' hr hr')
 | skip=>simp [okA] at hy
 | undef v=>simp [okA] at hy
theorem run_isAgg (hT:TOK P T) {t:TypeId} {i:TI} (hi:T t=some i):(isAgg t).run P w=.ok i.agg w:=by
 obtain ⟨info,h1,h2,h3,h4,h5,_⟩:=hT t i hi
 unfold isAgg TI.agg
 rw [Sem.run_bind,run_underlying h2 w]
 simp only [Result.andThen_ok]
 cases i.desc <;> rfl
theorem run_sizeOf (hT:TOK P T) {t:TypeId} {i:TI} (hi:T t=some i):(sizeOf t).run P w=.ok i.size w:=by
 obtain ⟨info,h1,h2,h3,h4,h5,_⟩:=hT t i hi
 simp [sizeOf,typeInfo,h1,h3]
theorem run_zeroValue (hT:TOK P T) {t:TypeId} {i:TI} (hi:T t=some i):(zeroValue t).run P w=.ok i.zero w:=by
 obtain ⟨info,h1,h2,h3,h4,h5,_⟩:=hT t i hi
 simp [zeroValue,typeInfo,h1,h5]
def partA (cs:List AV) (i:TI) (off:Nat):Option AV :=
 match i.agg with
 | true=>if off+i.size≤cs.length then some (.ag ((cs.drop off).take i.size)) else none
 | false=>cs[off]?
theorem bdL_get {A:Nat→Prop} {cs:List AV} (h:bdL A cs) {j:Nat} {c:AV} (hj:cs[j]?=some c):bd A c:=bdL_iff.1 h c (List.mem_of_getElem? hj)
theorem bdL_sub {A:Nat→Prop} {cs ds:List AV} (h:bdL A cs) (hs:∀ x,x∈ds→x∈cs):bdL A ds:=bdL_iff.2 fun x hx=>bdL_iff.1 h x (hs x hx)
theorem bd_cells {A:Nat→Prop} {y:AV} (h:bd A y):bdL A (cellsA y):=by cases y <;> simp_all [cellsA,bd,bdL]
theorem bd_part {A:Nat→Prop} {cs:List AV} {i:TI} {off:Nat} {x:AV} (h:bdL A cs) (hp:partA cs i off=some x):bd A x:=by
 unfold partA at hp
 split at hp
 ·split at hp
  ·injection hp with hp;subst hp
   unfold bd
   exact bdL_sub h fun x hx=>List.mem_of_mem_drop (List.mem_of_mem_take hx)
  ·cases hp
 ·exact bdL_get h hp
def PtrR (N:Nat→Prop) (w:World) (V:VV) (cs:List AV) (v:Value):Prop :=
 ∃ b o,v=.pointer (some ⟨b,o,none⟩)∧∀ (j:Nat) (c:AV),cs[j]?=some c→∃ u,w.cell? ⟨b,o+j,none⟩=some u∧RepT N w V c u∧u.oneCell'=true
theorem PtrR.load (hT:TOK P T) {t:TypeId} {i:TI} (hi:T t=some i) {cs:List AV} {v:Value} (hp:PtrR N w V cs v) {x:AV} (hx:partA cs i 0=some x) :
  ∃ u,(Instr.loadAt t v).run P w=.ok u w∧RepT N w V x u:=by
 obtain ⟨b,o,rfl,hc⟩:=hp
 unfold partA at hx
 simp only [Instr.loadAt,Instr.sureAddr,Sem.run_bind,Sem.run_pure,Result.andThen_ok,loadVar,run_isAgg hT hi]
 cases ha:i.agg with
 | true =>
  simp only [ha,Nat.zero_add,List.drop_zero] at hx
  split at hx
  ·rename_i hlen
   injection hx with hx;subst hx
   have hall:∀ j,j < i.size→∃ u,w.cell? ⟨b,o+j,none⟩=some u∧(∀ c,cs[j]?=some c→RepT N w V c u)∧u.oneCell'=true:=fun j hj=>by
    obtain ⟨u,h1,h2,h3⟩:=hc j _ (List.getElem?_eq_getElem (by omega))
    exact ⟨u,h1,fun c hcj=>by rw [List.getElem?_eq_getElem (by omega)] at hcj;injection hcj with hcj;exact hcj ▸ h2,h3⟩
   have hl:=run_loadCells (P:=P) w ⟨b,o,none⟩ i.size (fun j=>(w.cell? ⟨b,o+j,none⟩).getD Go.undef) (fun j hj=>by
    obtain ⟨u,h1,_⟩:=hall j hj
    rw [Addr.add_lit,h1];rfl)
   refine ⟨.agg ((List.range i.size).map fun j=>(w.cell? ⟨b,o+j,none⟩).getD Go.undef).toArray,by simp only [if_true,Sem.run_bind,run_sizeOf hT hi,Result.andThen_ok,hl,Sem.run_pure],.ag _ _ (by simp;omega) (fun j h1 h2=>?_) (fun j h2=>?_)⟩
   ·have hj:j < i.size:=by simp at h2;exact h2
    obtain ⟨u,h3,h4,_⟩:=hall j hj
    simp only [List.getElem_toArray,List.getElem_map,List.getElem_range,h3,Option.getD_some,List.getElem_take]
    exact h4 _ (List.getElem?_eq_getElem (by omega))
   ·have hj:j < i.size:=by simp at h2;exact h2
    obtain ⟨u,h3,_,h5⟩:=hall j hj
    simp only [List.getElem_toArray,List.getElem_map,List.getElem_range,h3,Option.getD_some]
    exact h5
  ·cases hx
 | false =>
  simp only [ha] at hx
  obtain ⟨u,h1,h2,_⟩:=hc 0 x hx
  refine ⟨u,?_,h2⟩
  simp only [Bool.false_eq_true,if_false,run_load]
  rw [show (⟨b,o,none⟩:Addr)=⟨b,o+0,none⟩ from rfl,h1]
theorem part_rep (hT:TOK P T) {t:TypeId} {i:TI} (hi:T t=some i) {cs:List AV} {vs:Array Value} {off:Nat} (h:RepT N w V (.ag cs) (.agg vs)) {x:AV} (hx:partA cs i off=some x) :
  ∃ u,(part t vs off).run P w=.ok u w∧RepT N w V x u:=by
 cases h with
 | im h=>cases h
 | ag cs vs hs hr ho =>
  unfold partA at hx
  simp only [part,Sem.run_bind,run_isAgg hT hi,Result.andThen_ok]
  cases ha:i.agg with
  | true =>
   simp only [ha] at hx
   split at hx
   ·rename_i hlen
    injection hx with hx;subst hx
    refine ⟨.agg (vs.extract off (off+i.size)),by simp only [if_true,Sem.run_bind,run_sizeOf hT hi,Result.andThen_ok,Sem.run_pure],.ag _ _ (by simp;omega) (fun j h1 h2=>?_) (fun j h2=>?_)⟩
    ·simp only [Array.getElem_extract,List.getElem_take,List.getElem_drop]
     exact hr _ _ _
    ·simp only [Array.getElem_extract]
     exact ho _ _
   ·cases hx
  | false =>
   simp only [ha] at hx
   obtain ⟨h1,h2⟩:=List.getElem?_eq_some_iff.1 hx
   have h3:off < vs.size:=by rw [hs];exact h1
   refine ⟨vs[off],?_,h2 ▸ hr off h1 h3⟩
   simp [h3]
end
end Go.Sk
namespace Go.Sk
open Go.RowKit
def updN (ob:Nat→Option AO) (n:Nat):Option AO→Nat→Option AO
 | none=>ob
 | some o=>updO ob n o
def addN (A:Nat→Prop) (n:Nat):Option AO→Nat→Prop
 | none=>A
 | some _=>addA A n
def OKs (P:Program) (o:Oper) (ρ:Operand→Option AV) (ob:Nat→Option AO) (n:Nat) (x:AV) (no:Option AO):Prop :=
 ∀ {N0:Nat→Prop} {base:Nat} {w0:W0} {m:Nat} {V:VV} {g:Nat→Option AV} {ob':Nat→Option AO} {A:Nat→Prop} {a:Act} {w:World},
  Rel N0 base w0 m V g ob' A a w→(∀ y∈o.op.operands,evalA g y=ρ y)→(∀ i u,ob i=some u→ob' i=some u)→¬ A n→(∀ d,o.dst=some d→d < m) →
  ∀ (next:Act→World→Prop) (Q:Exit→Act→World→Prop),
   (∀ a' w' V',Rel N0 base w0 m V' (upd g o.dst x) (updN ob' n no) (addN A n no) a' w'→next a' w')→o.wp P a w next Q
section
variable {P:Program} {T:TypeId→Option TI} {o:Oper} {ρ:Operand→Option AV} {ob:Nat→Option AO} {n:Nat}
theorem OKs.value {x:AV}
  (h:∀ {N:Nat→Prop} {V:VV} {g:Nat→Option AV} {A:Nat→Prop} {a:Act} {w:World},
   (∀ y∈o.op.operands,evalA g y=ρ y)→(∀ y z,y∈o.op.operands→ρ y=some z→RepT N w V z (a.eval y)∧bd A z) →
   (∀ i u,ob i=some u→RepO N w V i u∧A i∧bdO A u) →
   ∃ u,(execOp a.eval o).run P w=.ok (.value u) w∧RepT N w V x u∧bd A x):OKs P o ρ ob n x none:=by
 intro N0 base w0 m V g ob' A a w hr hρ hob hn hd next Q hK
 obtain ⟨u,h1,h2,h3⟩:=h (N:=Nf N0 base V ob') (V:=V) (g:=g) (A:=A) (a:=a) (w:=w) hρ
  (fun y z hy hz=>by
   rw [← hρ y hy] at hz
   cases y with
   | tmp t=>exact ⟨hr.tm t z hz,hr.bdt t z hz⟩
   | const v=>have:=constA_rep (N:=Nf N0 base V ob') (w:=w) (V:=V) hz;exact ⟨this.1,this.2 A⟩
   | func f=>simp only [evalA,Option.some.injEq] at hz;subst hz;exact ⟨.im (.v _ rfl),by simp [bd]⟩
   | global i=>simp [evalA] at hz)
  (fun i u hu=>⟨hr.obs i u (hob i u hu),hr.bdo i u (hob i u hu)⟩)
 unfold Oper.wp
 rw [h1]
 exact hK _ _ _ (hr.put hd h2 h3)
end
def kx (ρ:Operand→Option AV) (x:Operand) (K:AV→Prop):Prop:=match ρ x with | some y=>K y | none=>False
theorem kx_iff {ρ:Operand→Option AV} {x:Operand} {K:AV→Prop} (h:kx ρ x K):∃ y,ρ x=some y∧K y:=by
 unfold kx at h;split at h
 ·exact ⟨_,by assumption,h⟩
 ·exact h.elim
inductive Calc (v:Int) (K:Int→Prop):Prop
 | mk (z:Int) (hz:v=z) (h:K z)
theorem Calc.elim {v:Int} {K:Int→Prop} (h:Calc v K):K v:=by
 obtain ⟨z,rfl,h⟩:=h
 exact h
def abin (T:TypeId→Option TI) (op:BinOp) (t:TypeId) (a b:Value) (K:Value→Prop):Prop :=
 match a,b with
 | .int k x,.int k' y =>
  match op with
  | .shl=>0≤y∧Calc (k.wrap (x * 2 ^ (min y.toNat k.bits))) fun z=>K (.int k z)
  | .shr=>0≤y∧Calc (x.fdiv (2 ^ (min y.toNat k.bits))) fun z=>K (.int k z)
  | .add=>if k=k' then Calc (k.wrap (x+y)) fun z=>K (.int k z) else False
  | .sub=>if k=k' then Calc (k.wrap (x - y)) fun z=>K (.int k z) else False
  | .mul=>if k=k' then Calc (k.wrap (x * y)) fun z=>K (.int k z) else False
  | .quo=>if k=k' then y≠0∧Calc (k.wrap (x.tdiv y)) fun z=>K (.int k z) else False
  | .rem=>if k=k' then y≠0∧Calc (x.tmod y) fun z=>K (.int k z) else False
  | .and=>if k=k' then Calc (k.wrap (BitVec.ofInt k.bits x &&& BitVec.ofInt k.bits y).toNat) fun z=>K (.int k z) else False
  | .or=>if k=k' then Calc (k.wrap (BitVec.ofInt k.bits x ||| BitVec.ofInt k.bits y).toNat) fun z=>K (.int k z) else False
  | .andNot=>if k=k' then Calc (k.wrap (BitVec.ofInt k.bits x &&& ~~~ (BitVec.ofInt k.bits y)).toNat) fun z=>K (.int k z) else False
  | .xor=>if k=k' then Calc (k.wrap (BitVec.ofInt k.bits x ^^^ BitVec.ofInt k.bits y).toNat) fun z=>K (.int k z) else False
  | .eql=>if k=k' then K (.bool (x == y)) else False
  | .neq=>if k=k' then K (.bool (x != y)) else False
  | .lss=>if k=k' then K (.bool (decide (x < y))) else False
  | .leq=>if k=k' then K (.bool (decide (x≤y))) else False
  | .gtr=>if k=k' then K (.bool (decide (x > y))) else False
  | .geq=>if k=k' then K (.bool (decide (x≥y))) else False
 | .bool x,.bool y =>
  match (T t).map TI.desc with
  | some TypeDesc.bool=>match op with
   | .eql=>K (.bool (x == y))
   | .neq=>K (.bool (!(x == y)))
   | _=>False
  | _=>False
 | .string x,.string y =>
  match op with
  | .add=>x.size+y.size≤4611686018427387904∧K (.string (x++y))
  | .eql=>K (.bool (x.toList == y.toList))
  | .neq=>K (.bool (!(x.toList == y.toList)))
  | .lss=>K (.bool (Op.bytesLess x.toList y.toList))
  | .gtr=>K (.bool (!(Op.bytesLess x.toList y.toList || x.toList == y.toList)))
  | .leq=>K (.bool (Op.bytesLess x.toList y.toList || x.toList == y.toList))
  | .geq=>K (.bool (!Op.bytesLess x.toList y.toList))
  | _=>False
 | _,_=>False
theorem run_equal_bool {P:Program} {t:TypeId} (hu:P.underlying t=some .bool) (a b:Bool) (w:World):(Op.equal t (.bool a) (.bool b)).run P w=.ok (a == b) w:=by
 unfold Op.equal
 rw [show Op.maxDepth=9999+1 from rfl]
 unfold Op.equalIn
 rw [Sem.run_bind,run_underlying hu]
 rfl
theorem abin_sound {P:Program} {T:TypeId→Option TI} (hT:TOK P T) {op:BinOp} {t:TypeId} {a b:Value} {K:Value→Prop} (h:abin T op t a b K) :
  ∃ r,K r∧r.oneCell'=true∧∀ (x y:Operand) (w:World),(do eqGuard op t x y a b;binOp op t a b:Sem Value).run P w=.ok r w:=by
 unfold abin at h
 split at h
 ·rename_i k x k' y
  have guard:∀ (x' y':Operand) (w:World),(eqGuard op t x' y' (.int k x) (.int k' y)).run P w=.ok () w:=by
   intro x' y' w
   unfold eqGuard
   split <;> simp
  split at h
  case h_1=>exact ⟨_,h.2.elim,rfl,fun x' y' w=>by rw [Sem.run_bind,guard];simp [binOp,Op.shift,Int.not_lt.2 h.1]⟩
  case h_2=>exact ⟨_,h.2.elim,rfl,fun x' y' w=>by rw [Sem.run_bind,guard];simp [binOp,Op.shift,Int.not_lt.2 h.1]⟩
  all_goals (try (exact h.elim))
  all_goals (by_cases hk:k=k')
  all_goals (try (rw [if_neg hk] at h;exact h.elim))
  all_goals (subst hk;rw [if_pos rfl] at h)
  all_goals first
   | exact ⟨_,h.2.elim,rfl,fun x' y' w=>by rw [Sem.run_bind,guard];simp [binOp,Op.intDiv,h.1]⟩
   | exact ⟨_,h.elim,rfl,fun x' y' w=>by rw [Sem.run_bind,guard];simp [binOp,Op.intArith,Op.intBits]⟩
   | exact ⟨_,h,rfl,fun x' y' w=>by rw [Sem.run_bind,guard];simp [binOp,Op.intCmp]⟩
 ·rename_i x y
  split at h
  ·rename_i hd
   have hu:P.underlying t=some .bool:=by
    cases ht:T t with
    | none=>simp [ht] at hd
    | some i =>
     simp [ht] at hd
     obtain ⟨info,h1,h2,_⟩:=hT t i ht
     rw [h2,hd]
   have guard:∀ (x' y':Operand) (w:World),(eqGuard op t x' y' (.bool x) (.bool y)).run P w=.ok () w:=by
    intro x' y' w
    unfold eqGuard
    split <;> simp
   split at h
   ·exact ⟨_,h,rfl,fun x' y' w=>by rw [Sem.run_bind,guard];simp only [Result.andThen_ok,binOp,Sem.run_bind,run_equal_bool hu,Sem.run_pure]⟩
   ·exact ⟨_,h,rfl,fun x' y' w=>by rw [Sem.run_bind,guard];simp only [Result.andThen_ok,binOp,Sem.run_bind,run_equal_bool hu,Sem.run_pure]⟩
   ·exact h.elim
  ·exact h.elim
 ·rename_i x y
  have guard:∀ (x' y':Operand) (w:World),(eqGuard op t x' y' (.string x) (.string y)).run P w=.ok () w:=by
   intro x' y' w
   unfold eqGuard
   split <;> simp
  split at h
  case h_1 =>
   refine ⟨_,h.2,rfl,fun x' y' w=>?_⟩
   have:¬ (((x.size+y.size:Nat):Int) > IntKind.i64.max):=by
    have:=h.1
    simp [IntKind.max,IntKind.signed,IntKind.bits]
    omega
   rw [Sem.run_bind,guard]
   simp only [Result.andThen_ok,binOp,Op.stringOp,this,if_false,Sem.run_pure]
  all_goals first
   | exact h.elim
   | exact ⟨_,h,rfl,fun x' y' w=>by rw [Sem.run_bind,guard];simp [binOp,Op.stringOp]⟩
 ·exact h.elim
end Go.Sk
