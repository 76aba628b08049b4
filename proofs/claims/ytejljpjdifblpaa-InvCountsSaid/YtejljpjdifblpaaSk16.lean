/- A checker of Go functions by conditions over small pure states: part 17. -/
import Derived.Test.YtejljpjdifblpaaSk15
import Derived.IntWalk
import Derived.KernelRfl
set_option linter.unusedVariables false
set_option linter.unusedSimpArgs false
namespace Go.Sk
open Go.RowKit
end Go.Sk
namespace Go.Sk
open Go.RowKit
theorem exitA {σ τ:St} (h1:(distinct (findS σ [] τ.tmps τ.objs τ.next) && fixB (findS σ [] τ.tmps τ.objs τ.next) σ.par)=true) (h2:(τ.size,τ.par)=(σ.size,σ.par))
  (h3:leT σ (findS σ [] τ.tmps τ.objs τ.next) τ.tmps) (h4:leOs σ (findS σ [] τ.tmps τ.objs τ.next) τ.objs):∃ bs,backK bs σ fun σ'=>∃ ss,LeS σ' ss τ :=
 ⟨[],_,h1,h2,findS_len _ _ _ _ _,h3,h4⟩
theorem srcI {a b:Option Src} (h:a=b):a=b:=h
theorem nsI {i:Nat} {ss:List Src} (h:notSrc i ss=true):notSrc i ss=true:=h
theorem ifD {p:Prop} [Decidable p] {P Q:Prop} (ht:p→P) (hf:¬p→Q):ifB (decide p) P Q:=ifB_intro (fun h=>ht (of_decide_eq_true h)) (fun h=>hf (of_decide_eq_false h))
theorem ifE {a b:Int} {P Q:Prop} (ht:a=b→P) (hf:a≠b→Q):ifB (a == b) P Q:=ifB_intro (fun h=>ht (eq_of_beq h)) (fun h=>hf (ne_of_beq_false h))
theorem ifN {a b:Int} {P Q:Prop} (ht:a≠b→P) (hf:a=b→Q):ifB (a != b) P Q:=ifB_intro (fun h=>ht (by simpa using h)) (fun h=>hf (by simpa using h))
theorem ifNot {b:Bool} {P Q:Prop} (h:ifB b Q P):@Bool.rec (fun _=>Prop) Q P (!b):=by cases b <;> exact h
theorem ifAnd {b c:Bool} {P Q:Prop} (ht:b=true→c=true→P) (hf:¬(b=true∧c=true)→Q):@Bool.rec (fun _=>Prop) Q P (b && c):=by cases b <;> cases c <;> simp_all
theorem ifAndD {p q:Prop} {_:Decidable p} {_:Decidable q} {P Q:Prop} (ht:p→q→P) (hf:¬(p∧q)→Q):@Bool.rec (fun _=>Prop) Q P (decide p && decide q):=ifAnd (fun h1 h2=>ht (by simpa using h1) (by simpa using h2)) (fun h=>hf (by simpa using h))
theorem exitS (ss:List Src) {σ τ:St} (h0:τ.next=ss.length) (h1:(distinct ss && fixB ss σ.par)=true) (h2:(τ.size,τ.par)=(σ.size,σ.par)) (h3:leT σ ss τ.tmps) (h4:leOs σ ss τ.objs):∃ bs,backK bs σ fun σ'=>∃ ss,LeS σ' ss τ :=
 ⟨[],ss,h1,h2,h0,h3,h4⟩
theorem ifNF {a b:Int} {P Q:Prop} (h:a=b) (k:Q):ifB (a != b) P Q:=by rw [h,bne_self_eq_false];exact k
theorem ifNT {a b:Int} {P Q:Prop} (h:a≠b) (k:P):ifB (a != b) P Q:=by rw [bne_iff_ne.2 h];exact k
theorem ifDT {p:Prop} [Decidable p] {P Q:Prop} (h:p) (k:P):ifB (decide p) P Q:=by rw [decide_eq_true h];exact k
theorem ifDF {p:Prop} [Decidable p] {P Q:Prop} (h:¬ p) (k:Q):ifB (decide p) P Q:=by rw [decide_eq_false h];exact k
theorem ifET {a b:Int} {P Q:Prop} (h:a=b) (k:P):ifB (a == b) P Q:=by rw [beq_iff_eq.2 h];exact k
theorem ifEF {a b:Int} {P Q:Prop} (h:a≠b) (k:Q):ifB (a == b) P Q:=by rw [beq_eq_false_iff_ne.2 h];exact k
def firstW:List Oper→Nat
 | []=>0
 | o :: r=>match o.op with
  | .store _ _ _=>0
  | _=>firstW r+1
theorem drawA {ops:Array Oper} {K':Nat→Prop} {R:Prop} (h:(preOK ops.toList (firstW ops.toList) && sufOK ops.toList (firstW ops.toList) && decide (firstW ops.toList≤ops.size))=true) (k:K' (firstW ops.toList)) :
  (∃ k,(preOK ops.toList k && sufOK ops.toList k && decide (k≤ops.size))=true∧K' k)∨R:=.inl ⟨_,h,k⟩
def firstA:List Oper→Nat
 | []=>0
 | o :: r=>match o.op with
  | .store _ _ _=>0
  | .assign _=>0
  | .call c=>match c.callee with
   | .builtin .append=>0
   | _=>firstA r+1
  | _=>firstA r+1
theorem drawA2 {ops:Array Oper} {K':Nat→Prop} {R:Prop} (h:(preOK ops.toList (firstA ops.toList) && sufOK ops.toList (firstA ops.toList) && decide (firstA ops.toList≤ops.size))=true) (k:K' (firstA ops.toList)) :
  (∃ k,(preOK ops.toList k && sufOK ops.toList k && decide (k≤ops.size))=true∧K' k)∨R:=.inl ⟨_,h,k⟩
def lateEs (ops:List Oper):List Nat:=(ops.zipIdx.filter fun p=>match p.1.op with | .extract _ _=>true | _=>false).map (·.2)
theorem drawL {P:Program} {T:TypeId→Option TI} {ops:Array Oper} {L M R:Prop} {σ:St} {K:St→Prop}
  (h:(lateOK ops (lateEs ops.toList) && (preOK (addE (lateEs ops.toList) ops).toList (firstW ops.toList) && sufOK (addE (lateEs ops.toList) ops).toList (firstW ops.toList) && decide (firstW ops.toList≤(addE (lateEs ops.toList) ops).size)))=true)
  (k:Pre P T (addE (lateEs ops.toList) ops) ⟨σ.obj,σ.next⟩ ((addE (lateEs ops.toList) ops).toList.take (firstW ops.toList)) σ.next { σ with next:=σ.next+firstW ops.toList } fun σ'=>vcOps0 P T (addE (lateEs ops.toList) ops) ((addE (lateEs ops.toList) ops).toList.drop (firstW ops.toList)) σ' K) :
  L∨M∨(∃ es,lateOK ops es=true∧vcDraw P T (addE es ops) σ K)∨R:=by
 rw [Bool.and_eq_true] at h
 exact .inr (.inr (.inl ⟨lateEs ops.toList,h.1,_,h.2,k⟩))
theorem drawH {P:Program} {T:TypeId→Option TI} {ops:Array Oper} {L M R X:Prop} {σ:St} {K:St→Prop} (es:List Nat) (ps:List Pin) (h:earlyOK ops es=true)
  (k:pinK ps σ (earlyH T ps ops (fun _=>True) es (σ.pin ps) ∧
  ∃ k,(preOK (addE es ops).toList k && sufOK (addE es ops).toList k && decide (k≤(addE es ops).size))=true ∧
   Pre P T (addE es ops) ⟨σ.obj,σ.next⟩ ((addE es ops).toList.take k) σ.next { σ.pin ps with next:=σ.next+k } fun σ'=>vcOpsP P T ps (addE es ops) ((addE es ops).toList.drop k) σ' fun σ'=>K (σ'.unpin σ.par))) :
  L∨M∨R∨(∃ es ps,vcDrawH P T ops es ps σ K)∨X:=.inr (.inr (.inr (.inl ⟨es,ps,h,k⟩)))
theorem drawP {L M R X X2:Prop} {Y:List (Nat × Nat × Nat) × List Nat→Prop} (is:List Nat) (k:Y ([],is)):L∨M∨R∨X∨X2∨∃ is,Y is:=.inr (.inr (.inr (.inr (.inr ⟨_,k⟩))))
theorem drawB {L M R X X2:Prop} {Y:List (Nat × Nat × Nat) × List Nat→Prop} (bs:List (Nat × Nat × Nat)) (is:List Nat) (k:Y (bs,is)):L∨M∨R∨X∨X2∨∃ is,Y is:=.inr (.inr (.inr (.inr (.inr ⟨_,k⟩))))
theorem drawJ {P:Program} {T:TypeId→Option TI} {ops:Array Oper} {L M R X Y:Prop} {σ:St} {K:St→Prop} (es:List Nat) (ps:List Pin) (tc:List (Nat × AV)) (oc:List (Nat × AO)) (next:Nat) (h:(earlyOK ops es && ops.toList.all noDefer && decide (es.length≤ops.size) && pkOK ops [])=true)
  (k:idsK σ.objs (movedL (refT tc++refO oc) oc) [] fun ids=>keepK ids σ.tmps (dstsR ops.toList []) [] fun kept=>keepO ids σ.objs (numsO oc) [] fun keptO =>
  pinK ps σ (earlyH T ps ops (fun σe=>allOrd P T ps ops [] (fun σ'=>ShowsJ ids kept keptO next tc oc σ.size (σ'.unpin σ.par)) (ops.size - es.length) es.reverse σe) es (σ.pin ps)) ∧
   K (headSt σ tc kept (oc++keptO) next)):L∨M∨R∨X∨(∃ es pk ps tc oc next,vcDrawJ P T ops es pk ps tc oc next σ K)∨Y:=.inr (.inr (.inr (.inr (.inl ⟨es,[],ps,tc,oc,next,h,k⟩))))
theorem drawJE {P:Program} {T:TypeId→Option TI} {ops:Array Oper} {L M R X Y:Prop} {σ:St} {K:St→Prop} (es:List Nat) (pk:List (Nat × List Nat)) (ps:List Pin) (tc:List (Nat × AV)) (oc:List (Nat × AO)) (next:Nat) (h:(earlyOK ops es && ops.toList.all noDefer && decide (es.length≤ops.size) && pkOK ops pk)=true)
  (k:idsK σ.objs (movedL (refT tc++refO oc) oc) [] fun ids=>keepK ids σ.tmps (dstsR ops.toList []) [] fun kept=>keepO ids σ.objs (numsO oc) [] fun keptO =>
  pinK ps σ (earlyH T ps ops (fun σe=>allOrd P T ps ops pk (fun σ'=>ShowsJ ids kept keptO next tc oc σ.size (σ'.unpin σ.par)) (ops.size - es.length) es.reverse σe) es (σ.pin ps)) ∧
   K (headSt σ tc kept (oc++keptO) next)):L∨M∨R∨X∨(∃ es pk ps tc oc next,vcDrawJ P T ops es pk ps tc oc next σ K)∨Y:=.inr (.inr (.inr (.inr (.inl ⟨es,pk,ps,tc,oc,next,h,k⟩))))
theorem drawN (n:Nat) {ops:Array Oper} {K':Nat→Prop} {R:Prop} (h:(preOK ops.toList n && sufOK ops.toList n && decide (n≤ops.size))=true) (k:K' n) :
  (∃ k,(preOK ops.toList k && sufOK ops.toList k && decide (k≤ops.size))=true∧K' k)∨R:=.inl ⟨_,h,k⟩
theorem drawK {ops:Array Oper} {K':Nat→Prop} (h:(preOK ops.toList (firstW ops.toList) && sufOK ops.toList (firstW ops.toList) && decide (firstW ops.toList≤ops.size))=true) (k:K' (firstW ops.toList)) :
  ∃ k,(preOK ops.toList k && sufOK ops.toList k && decide (k≤ops.size))=true∧K' k:=⟨_,h,k⟩
theorem w64 {x:Int} (h:-9223372036854775808≤x∧x≤9223372036854775807):IntKind.i64.wrap x=x:=IntWalk.i64_in _ (by omega)
theorem calI {x:Int} {K:Int→Prop} (h:-9223372036854775808≤x∧x≤9223372036854775807) (k:K x):Calc (IntKind.i64.wrap x) K:=.mk x (w64 h) k
theorem cu8 {x:Int} {K:Int→Prop} (h:0≤x∧x≤255) (k:K x):Calc (IntKind.u8.wrap x) K:=.mk x (by unfold IntKind.wrap;simp [IntKind.signed,IntKind.bits];omega) k
theorem cu64 {x:Int} {K:Int→Prop} (h:0≤x∧x≤18446744073709551615) (k:K x):Calc (IntKind.u64.wrap x) K:=.mk x (by unfold IntKind.wrap;simp [IntKind.signed,IntKind.bits];omega) k
theorem crem {x y:Int} {K:Int→Prop} (h:0≤x) (k:K (x % y)):Calc (x.tmod y) K:=.mk _ (Int.tmod_eq_emod_of_nonneg h) k
theorem cquo {x y:Int} {K:Int→Prop} (h:0≤x∧x≤9223372036854775807∧0 < y) (k:K (x / y)):Calc (IntKind.i64.wrap (x.tdiv y)) K :=
 .mk _ (by
  rw [Int.tdiv_eq_ediv_of_nonneg h.1]
  have h1:=Int.ediv_nonneg h.1 (Int.le_of_lt h.2.2)
  have h2:x / y≤x:=Int.ediv_le_self _ h.1
  exact w64 (by omega)) k
def nth {α:Type} [Inhabited α] (l:List α) (i:Int):α:=l.getD i.toNat default
theorem nth_some {α:Type} [Inhabited α] {l:List α} {i:Int} (h0:0≤i) (h:i < l.length):l[i.toNat]?=some (nth l i):=by
 unfold nth
 rw [List.getD_eq_getElem?_getD,List.getElem?_eq_getElem (by omega)];rfl
theorem ixM {α:Type} [Inhabited α] {l:List α} {f:α→AV} {i:Int} {n:Nat} {K:AV→Prop} (h0:0≤i) (h1:i < l.length) (hn:(cellsA (f (nth l i))).length=n) (k:K (f (nth l i))) :
  0≤i∧∃ y,(l.map f)[i.toNat]?=some y∧(cellsA y).length=n∧K y:=⟨h0,_,by rw [List.getElem?_map,nth_some h0 h1];rfl,hn,k⟩
theorem ixA {α:Type} [Inhabited α] {l:List α} {f:α→AV} {i:Int} {K:AV→Prop} (h0:0≤i) (h1:i < l.length) (k:K (f (nth l i))):∃ y,(l.map f)[i.toNat]?=some y∧K y:=⟨_,by rw [List.getElem?_map,nth_some h0 h1];rfl,k⟩
theorem ltM {α:Type} {l:List α} {f:α→AV} {i:Int} {P:Prop} (h0:0≤i) (h1:i < l.length) (k:P):0≤i∧i.toNat < (l.map f).length∧P:=⟨h0,by rw [List.length_map];omega,k⟩
theorem setI {α:Type} {l:List α} {f:α→AV} {n:Nat} {a:α} {v:Value} {z:α} {K:List AV→Prop} (hz:newElem (f a) 0 (cellsA (.v v)) (.v v)=f z) (k:K ((l.set n z).map f)):CalcL ((l.map f).set n (newElem (f a) 0 (cellsA (.v v)) (.v v))) K :=
 .mk _ (by rw [List.map_set,hz]) k
end Go.Sk
namespace Go.Sk
open Go.RowKit
set_option linter.unusedVariables false
structure Cj (A0 A1 A2 A3 A4 A5 A6 A7 A8 A9 A10 A11 A12 A13 A14 A15 A16 A17 A18 A19 A20 A21 A22 A23:Prop):Prop where
 a0:A0
 a1:A1
 a2:A2
 a3:A3
 a4:A4
 a5:A5
 a6:A6
 a7:A7
 a8:A8
 a9:A9
 a10:A10
 a11:A11
 a12:A12
 a13:A13
 a14:A14
 a15:A15
 a16:A16
 a17:A17
 a18:A18
 a19:A19
 a20:A20
 a21:A21
 a22:A22
 a23:A23
inductive IsT:Prop→Prop
 | t:IsT True
 | any {A:Prop}:IsT A
structure Ti (A0 A1 A2 A3 A4 A5 A6 A7 A8 A9 A10 A11 A12 A13 A14 A15 A16 A17 A18 A19 A20 A21 A22 A23:Prop):Prop where
 a0:IsT A0
 a1:IsT A1
 a2:IsT A2
 a3:IsT A3
 a4:IsT A4
 a5:IsT A5
 a6:IsT A6
 a7:IsT A7
 a8:IsT A8
 a9:IsT A9
 a10:IsT A10
 a11:IsT A11
 a12:IsT A12
 a13:IsT A13
 a14:IsT A14
 a15:IsT A15
 a16:IsT A16
 a17:IsT A17
 a18:IsT A18
 a19:IsT A19
 a20:IsT A20
 a21:IsT A21
 a22:IsT A22
 a23:IsT A23
theorem hdA {A B C D E:Prop} (d:D) (e:E) (a:A:=by kernel_rfl) (b:B:=by kernel_rfl) (c:C:=by kernel_rfl):A∧B∧C∧D∧E:=⟨a,b,c,d,e⟩
theorem ap1 {α:Type} {l:List α} {f:α→AV} {y:AV} {a:α} {n b:Nat} {K:List AV→Prop} (hb:b≤4096) (hl:l.length≤34359738367) (hy:(cellsA y).length=n) (ha:y=f a) (k:K ((l++[a]).map f)) :
  (∀ e,e∈[y]→(cellsA e).length=n)∧((l.map f).length+[y].length) * b≤140737488355328∧(l.map f).length+[y].length≤4611686018427387904∧CalcL (l.map f++[y]) K:=by
 refine ⟨fun e he=>by simp at he;subst he;exact hy,?_,by simp;omega,.mk _ (by rw [List.map_append,ha];rfl) k⟩
 simp only [List.length_map,List.length_cons,List.length_nil]
 calc (l.length+(0+1)) * b≤34359738368 * 4096:=Nat.mul_le_mul (by omega) hb
  _≤_:=by decide
theorem ap0 {y:AV} {n b:Nat} {K:Prop} (hb:b≤4096) (hy:(cellsA y).length=n) (k:K) :
  (∀ e,e∈[y]→(cellsA e).length=n)∧[y].length * b≤140737488355328∧[y].length≤4611686018427387904∧K:=by
 refine ⟨fun e he=>by simp at he;subst he;exact hy,?_,by simp,k⟩
 simp only [List.length_cons,List.length_nil];omega
theorem apL {α:Type} {l:List α} {f:α→AV} {n b:Nat} {K:Prop} (hb:b≤4096) (hl:l.length≤34359738368) (hy:∀ x,(cellsA (f x)).length=n) (k:K) :
  (∀ e,e∈l.map f→(cellsA e).length=n)∧(l.map f).length * b≤140737488355328∧(l.map f).length≤4611686018427387904∧K:=by
 refine ⟨fun e he=>by obtain ⟨x,_,rfl⟩:=List.mem_map.1 he;exact hy x,?_,by rw [List.length_map];omega,k⟩
 rw [List.length_map]
 calc l.length * b≤34359738368 * 4096:=Nat.mul_le_mul hl hb
  _≤_:=by decide
theorem apM {α:Type} {l r:List α} {f:α→AV} {n b:Nat} {K:List AV→Prop} (hb:b≤4096) (hl:l.length+r.length≤34359738368) (hy:∀ x,(cellsA (f x)).length=n) (k:K ((l++r).map f)) :
  (∀ e,e∈r.map f→(cellsA e).length=n)∧((l.map f).length+(r.map f).length) * b≤140737488355328∧(l.map f).length+(r.map f).length≤4611686018427387904∧CalcL (l.map f++r.map f) K:=by
 refine ⟨fun e he=>by obtain ⟨x,_,rfl⟩:=List.mem_map.1 he;exact hy x,?_,by rw [List.length_map,List.length_map];omega,.mk _ (by rw [List.map_append]) k⟩
 rw [List.length_map,List.length_map]
 calc (l.length+r.length) * b≤34359738368 * 4096:=Nat.mul_le_mul hl hb
  _≤_:=by decide
theorem cshr8 {x n:Int} {K:Int→Prop} (h:0≤x∧x≤255) (k:K (x / 2 ^ n.toNat)):Calc (x.fdiv (2 ^ (min n.toNat IntKind.u8.bits))) K :=
 .mk _ (by
  rw [Int.fdiv_eq_ediv_of_nonneg _ (Int.le_of_lt (Int.pow_pos (by decide)))]
  rcases Nat.lt_or_ge n.toNat 8 with h1 | h1
  ·rw [Nat.min_eq_left (by simp [IntKind.bits];omega)]
  ·rw [Nat.min_eq_right (by simp [IntKind.bits];omega)]
   have h2:(2:Int) ^ 8≤2 ^ n.toNat:=by exact_mod_cast Nat.pow_le_pow_right (by decide) h1
   rw [show IntKind.u8.bits=8 from rfl,Int.ediv_eq_zero_of_lt h.1 (by omega),Int.ediv_eq_zero_of_lt h.1 (by omega)]) k
theorem cshr64 {x n:Int} {K:Int→Prop} (h:0≤x∧x≤9223372036854775807) (k:K (x / 2 ^ n.toNat)):Calc (x.fdiv (2 ^ (min n.toNat IntKind.i64.bits))) K :=
 .mk _ (by
  rw [Int.fdiv_eq_ediv_of_nonneg _ (Int.le_of_lt (Int.pow_pos (by decide)))]
  rcases Nat.lt_or_ge n.toNat 64 with h1 | h1
  ·rw [Nat.min_eq_left (by simp [IntKind.bits];omega)]
  ·rw [Nat.min_eq_right (by simp [IntKind.bits];omega)]
   have h2:(2:Int) ^ 64≤2 ^ n.toNat:=by exact_mod_cast Nat.pow_le_pow_right (by decide) h1
   rw [show IntKind.i64.bits=64 from rfl,Int.ediv_eq_zero_of_lt h.1 (by omega),Int.ediv_eq_zero_of_lt h.1 (by omega)]) k
theorem cand8 {x:Int} {K:Int→Prop} (k:K (x % 2)):Calc (IntKind.u8.wrap (BitVec.ofInt IntKind.u8.bits x &&& BitVec.ofInt IntKind.u8.bits 1).toNat) K:=by
 refine .mk _ ?_ k
 have h1:(BitVec.ofInt IntKind.u8.bits 1).toNat=1:=rfl
 have h2:(BitVec.ofInt IntKind.u8.bits x).toNat=(x % 256).toNat:=by rw [BitVec.toNat_ofInt];rfl
 rw [BitVec.toNat_and,h1,Nat.and_one_is_mod,h2]
 unfold IntKind.wrap;simp [IntKind.signed,IntKind.bits];omega
theorem cand64 {x:Int} {K:Int→Prop} (k:K (x % 2)):Calc (IntKind.i64.wrap (BitVec.ofInt IntKind.i64.bits x &&& BitVec.ofInt IntKind.i64.bits 1).toNat) K:=by
 refine .mk _ ?_ k
 have h1:(BitVec.ofInt IntKind.i64.bits 1).toNat=1:=rfl
 have h2:(BitVec.ofInt IntKind.i64.bits x).toNat=(x % 18446744073709551616).toNat:=by rw [BitVec.toNat_ofInt];rfl
 rw [BitVec.toNat_and,h1,Nat.and_one_is_mod,h2,w64 (by omega)]
 omega
theorem cshl64 {n:Int} {K:Int→Prop} (h:n≤62) (k:K (2 ^ n.toNat)):Calc (IntKind.i64.wrap (1 * 2 ^ (min n.toNat IntKind.i64.bits))) K :=
 .mk _ (by
  rw [Nat.min_eq_left (by simp [IntKind.bits];omega),Int.one_mul]
  have h2:(2:Int) ^ n.toNat≤2 ^ 62:=by exact_mod_cast Nat.pow_le_pow_right (by decide) (by omega)
  have h3:0 < (2:Int) ^ n.toNat:=Int.pow_pos (by decide)
  exact w64 (by omega)) k
theorem ixC {l:List AV} {i n:Nat} {y:AV} {P:Prop} {K:AV→Prop} (hp:P) (hy:l[i]?=some y) (hn:(cellsA y).length=n) (k:K y):P∧∃ y,l[i]?=some y∧(cellsA y).length=n∧K y:=⟨hp,y,hy,hn,k⟩
theorem slM1 {α:Type} {l:List α} {f:α→AV} {n:Nat} {K:Prop} (h:∀ x,(cellsA (f x)).length=n) (k:K):(∀ y,y∈l.map f→(cellsA y).length=n)∧K:=⟨fun y hy=>by obtain ⟨x,_,rfl⟩:=List.mem_map.1 hy;exact h x,k⟩
theorem slM {α:Type} {l:List α} {f:α→AV} {a b:Nat} {K:List AV→Prop} (k:K (((l.take b).drop a).map f)):CalcL (((l.map f).take b).drop a) K:=.mk _ (by rw [← List.map_take,← List.map_drop]) k
theorem mkS {a:Int} {b:Nat} {K:Prop} (hb:b≤4096) (h0:0≤a) (h:a≤34359738368) (k:K):a=a∧0≤a∧a≤4611686018427387904∧(b:Int) * a≤140737488355328∧K:=by
 refine ⟨rfl,h0,by omega,?_,k⟩
 calc (b:Int) * a≤4096 * 34359738368:=Int.mul_le_mul (by omega) h h0 (by omega)
  _≤_:=by decide
def bitR (r n:Int):Int:=r / 2 ^ n.toNat % 2
def clrR (r n:Int):Int:=r - bitR r n * 2 ^ n.toNat
theorem candn_tab:∀ r,r < 16→∀ n,n < 4→(IntKind.i64.wrap (BitVec.ofInt IntKind.i64.bits (r:Nat) &&& ~~~ (BitVec.ofInt IntKind.i64.bits (2 ^ (n:Nat)))).toNat)=clrR r n:=by decide +kernel
theorem candn {r n:Int} {K:Int→Prop} (h:0≤r∧r < 16∧0≤n∧n < 4) (k:K (clrR r n)):Calc (IntKind.i64.wrap (BitVec.ofInt IntKind.i64.bits r &&& ~~~ (BitVec.ofInt IntKind.i64.bits (2 ^ n.toNat))).toNat) K:=by
 obtain ⟨a,rfl⟩:=Int.eq_ofNat_of_zero_le h.1
 obtain ⟨b,rfl⟩:=Int.eq_ofNat_of_zero_le h.2.2.1
 exact .mk _ (candn_tab a (by omega) b (by omega)) k
def lowR (r:Int):Int:=if r % 2=1 then r - 1 else if r / 2 % 2=1 then r - 2 else if r / 4 % 2=1 then r - 4 else r - 8
theorem candlow_tab:∀ r,r < 16→0 < r→(IntKind.i64.wrap (BitVec.ofInt IntKind.i64.bits (r:Nat) &&& BitVec.ofInt IntKind.i64.bits ((r:Nat) - 1:Int)).toNat)=lowR (r:Nat):=by decide +kernel
theorem candlow {r:Int} {K:Int→Prop} (h:0 < r∧r < 16) (k:K (lowR r)):Calc (IntKind.i64.wrap (BitVec.ofInt IntKind.i64.bits r &&& BitVec.ofInt IntKind.i64.bits (r - 1)).toNat) K:=by
 obtain ⟨a,rfl⟩:=Int.eq_ofNat_of_zero_le (by omega:0≤r)
 exact .mk _ (candlow_tab a (by omega) (by omega)) k
theorem cquo8 {x y:Int} {K:Int→Prop} (h:0≤x∧x≤255∧0 < y) (k:K (x / y)):Calc (IntKind.u8.wrap (x.tdiv y)) K :=
 .mk _ (by
  rw [Int.tdiv_eq_ediv_of_nonneg h.1]
  have h1:=Int.ediv_nonneg h.1 (Int.le_of_lt h.2.2)
  have h2:x / y≤x:=Int.ediv_le_self _ h.1
  unfold IntKind.wrap;simp [IntKind.signed,IntKind.bits];omega) k
theorem lvA {P A0 A1 A2 A3 A4 A5 A6 A7 A8 A9 A10 A11 A12 A13 A14 A15 A16 A17 A18 A19 A20 A21 A22 A23:Prop} (k:Cj A0 A1 A2 A3 A4 A5 A6 A7 A8 A9 A10 A11 A12 A13 A14 A15 A16 A17 A18 A19 A20 A21 A22 A23) (h:Cj A0 A1 A2 A3 A4 A5 A6 A7 A8 A9 A10 A11 A12 A13 A14 A15 A16 A17 A18 A19 A20 A21 A22 A23→P:=by
  intro _
  conv=>whnf
  try dsimp only [St.after,St.afterAt,St.pin,St.unpin,initSt,initT,numO,cellsA,Option.map,ren,renL,renO,St.setObj,headSt,List.cons_append,List.nil_append,List.length_nil,Nat.reduceAdd]
  repeat1'
   ((first
    | (refine Ck.mk ?_)
    | (refine PinE.mk (by kernel_rfl) ?_)
    | (refine AndJ.mk ?_ ?_)
    | (refine ifD (fun _=>?_) (fun _=>?_))
    | (refine ifE (fun _=>?_) (fun _=>?_))
    | (refine ifN (fun _=>?_) (fun _=>?_))
    | ((with_reducible refine natI ?_))
    | ((with_reducible refine ifNot ?_))
    | ((with_reducible refine ifAndD (fun _ _=>?_) (fun _=>?_)))
    | ((with_reducible refine ifAnd (fun _ _=>?_) (fun _=>?_)))
    | (refine ixM (by omega) (by first | omega | (simp only [List.length_set,List.length_map,List.length_append,List.length_cons,List.length_nil,List.length_replicate];omega)) rfl ?_)
    | (refine ixA (by omega) (by first | omega | (simp only [List.length_set,List.length_map,List.length_append,List.length_cons,List.length_nil,List.length_replicate];omega)) ?_)
    | (refine ixC (by decide) rfl rfl ?_)
    | (refine ltM (by omega) (by first | omega | (simp only [List.length_set,List.length_map,List.length_append,List.length_cons,List.length_nil,List.length_replicate];omega)) ?_)
    | (with_reducible refine candlow (by omega) ?_)
    | (refine calI (by omega) ?_)
    | (refine cu8 (by omega) ?_)
    | (refine cu64 (by omega) ?_)
    | (refine And.intro (by omega) ?_;refine crem (by omega) ?_)
    | (refine And.intro (by omega) ?_;refine cquo (by omega) ?_)
    | (refine And.intro (by omega) ?_;refine cquo8 (by omega) ?_)
    | (refine And.intro (by omega) ?_;refine cshr8 (by omega) ?_)
    | (refine And.intro (by omega) ?_;refine cshr64 (by omega) ?_)
    | (refine And.intro (by omega) ?_;refine cshl64 (by omega) ?_)
    | (refine candn (by omega) ?_)
    | (refine cand8 ?_)
    | (refine cand64 ?_)
    | ((with_reducible refine preI ?_);(first | refine preNil ?_ | refine preOp rfl rfl ?_ | refine preT rfl rfl rfl rfl ?_ | refine preF rfl rfl rfl rfl ?_ | refine preTS rfl rfl rfl rfl ?_ | refine preFS rfl rfl rfl rfl ?_ | refine preSkip rfl rfl rfl rfl ?_ | refine preGT rfl rfl rfl rfl ?_ | refine preGF rfl rfl rfl rfl ?_))
    | (refine AltS.own (by assumption) ?_)
    | (refine AltS.im ?_)
    | (refine AltT.own (by assumption) ?_)
    | (refine AltT.im ?_)
    | (refine AltR.own (by assumption) ?_)
    | (refine AltR.im ?_)
    | (refine NilK.mk (fun _=>?_) ?_)
    | (refine AltV.own (by assumption) ?_)
    | (refine AltV.im ?_)
    | (refine BytesK.mk _ rfl rfl ?_)
    | (refine mkS (by decide) (by omega) (by omega) ?_)
    | ((first | refine drawA2 (by decide +kernel) ?_ | refine drawA (by decide +kernel) ?_ | refine drawL (by decide +kernel) ?_);(conv=>whnf);(try dsimp only [St.after,St.afterAt,St.pin,St.unpin,initSt,initT,numO,cellsA,Option.map,ren,renL,renO,St.setObj,headSt,List.cons_append,List.nil_append,List.length_nil,Nat.reduceAdd]);try (conv=>enter [7,3];whnf))
    | (refine ap1 (by decide) (by omega) rfl rfl ?_)
    | (refine ap0 (by decide) rfl ?_)
    | (refine apL (by decide) (by omega) (fun _=>rfl) ?_)
    | (refine apM (by decide) (by omega) (fun _=>rfl) ?_)
    | (refine slM1 (fun _=>rfl) ?_)
    | (refine And.intro (by omega) ?_;refine slM ?_)
    | (refine setI (z:=_) rfl ?_)
    | (refine And.intro (by omega) (And.intro (by omega) ?_))
    | (refine ifB_intro (fun _=>?_) (fun _=>?_))
    | fail) <;> (conv=>whnf;try dsimp only [St.after,St.afterAt,St.pin,St.unpin,initSt,initT,numO,cellsA,Option.map,ren,renL,renO,St.setObj,headSt,List.cons_append,List.nil_append,List.length_nil,Nat.reduceAdd]))
  try focus (repeat (rename_i z;first | exact Cj.a0 z | revert z))
  try focus (repeat (rename_i z;first | exact Cj.a1 z | revert z))
  try focus (repeat (rename_i z;first | exact Cj.a2 z | revert z))
  try focus (repeat (rename_i z;first | exact Cj.a3 z | revert z))
  try focus (repeat (rename_i z;first | exact Cj.a4 z | revert z))
  try focus (repeat (rename_i z;first | exact Cj.a5 z | revert z))
  try focus (repeat (rename_i z;first | exact Cj.a6 z | revert z))
  try focus (repeat (rename_i z;first | exact Cj.a7 z | revert z))
  try focus (repeat (rename_i z;first | exact Cj.a8 z | revert z))
  try focus (repeat (rename_i z;first | exact Cj.a9 z | revert z))
  try focus (repeat (rename_i z;first | exact Cj.a10 z | revert z))
  try focus (repeat (rename_i z;first | exact Cj.a11 z | revert z))
  try focus (repeat (rename_i z;first | exact Cj.a12 z | revert z))
  try focus (repeat (rename_i z;first | exact Cj.a13 z | revert z))
  try focus (repeat (rename_i z;first | exact Cj.a14 z | revert z))
  try focus (repeat (rename_i z;first | exact Cj.a15 z | revert z))
  try focus (repeat (rename_i z;first | exact Cj.a16 z | revert z))
  try focus (repeat (rename_i z;first | exact Cj.a17 z | revert z))
  try focus (repeat (rename_i z;first | exact Cj.a18 z | revert z))
  try focus (repeat (rename_i z;first | exact Cj.a19 z | revert z))
  try focus (repeat (rename_i z;first | exact Cj.a20 z | revert z))
  try focus (repeat (rename_i z;first | exact Cj.a21 z | revert z))
  try focus (repeat (rename_i z;first | exact Cj.a22 z | revert z))
  try focus (repeat (rename_i z;first | exact Cj.a23 z | revert z)))
  (e:Ti A0 A1 A2 A3 A4 A5 A6 A7 A8 A9 A10 A11 A12 A13 A14 A15 A16 A17 A18 A19 A20 A21 A22 A23:=by constructor <;> first | exact IsT.t | exact IsT.any):P:=h k
theorem lvK {P A0 A1 A2 A3 A4 A5 A6 A7 A8 A9 A10 A11 A12 A13 A14 A15 A16 A17 A18 A19 A20 A21 A22 A23:Prop} (k:Cj A0 A1 A2 A3 A4 A5 A6 A7 A8 A9 A10 A11 A12 A13 A14 A15 A16 A17 A18 A19 A20 A21 A22 A23) (h:Cj A0 A1 A2 A3 A4 A5 A6 A7 A8 A9 A10 A11 A12 A13 A14 A15 A16 A17 A18 A19 A20 A21 A22 A23→P:=by
  intro _
  conv=>whnf
  try dsimp only [St.after,St.afterAt,St.pin,St.unpin,initSt,initT,numO,cellsA,Option.map,ren,renL,renO,St.setObj,headSt,List.cons_append,List.nil_append,List.length_nil,Nat.reduceAdd]
  repeat1'
   ((first
    | (refine ifNF (by omega) ?_)
    | (refine ifNT (by omega) ?_)
    | (refine ifET (by omega) ?_)
    | (refine ifEF (by omega) ?_)
    | (refine ifDT (by omega) ?_)
    | (refine ifDF (by omega) ?_)
    | (refine Ck.mk ?_)
    | (refine PinE.mk (by kernel_rfl) ?_)
    | (refine AndJ.mk ?_ ?_)
    | (refine ifD (fun _=>?_) (fun _=>?_))
    | (refine ifE (fun _=>?_) (fun _=>?_))
    | (refine ifN (fun _=>?_) (fun _=>?_))
    | ((with_reducible refine natI ?_))
    | ((with_reducible refine ifNot ?_))
    | ((with_reducible refine ifAndD (fun _ _=>?_) (fun _=>?_)))
    | ((with_reducible refine ifAnd (fun _ _=>?_) (fun _=>?_)))
    | (refine ixM (by omega) (by first | omega | (simp only [List.length_set,List.length_map,List.length_append,List.length_cons,List.length_nil,List.length_replicate];omega)) rfl ?_)
    | (refine ixA (by omega) (by first | omega | (simp only [List.length_set,List.length_map,List.length_append,List.length_cons,List.length_nil,List.length_replicate];omega)) ?_)
    | (refine ixC (by decide) rfl rfl ?_)
    | (refine ltM (by omega) (by first | omega | (simp only [List.length_set,List.length_map,List.length_append,List.length_cons,List.length_nil,List.length_replicate];omega)) ?_)
    | (with_reducible refine candlow (by omega) ?_)
    | (refine calI (by omega) ?_)
    | (refine cu8 (by omega) ?_)
    | (refine cu64 (by omega) ?_)
    | (refine And.intro (by omega) ?_;refine crem (by omega) ?_)
    | (refine And.intro (by omega) ?_;refine cquo (by omega) ?_)
    | (refine And.intro (by omega) ?_;refine cquo8 (by omega) ?_)
    | (refine And.intro (by omega) ?_;refine cshr8 (by omega) ?_)
    | (refine And.intro (by omega) ?_;refine cshr64 (by omega) ?_)
    | (refine And.intro (by omega) ?_;refine cshl64 (by omega) ?_)
    | (refine candn (by omega) ?_)
    | (refine cand8 ?_)
    | (refine cand64 ?_)
    | ((with_reducible refine preI ?_);(first | refine preNil ?_ | refine preOp rfl rfl ?_ | refine preT rfl rfl rfl rfl ?_ | refine preF rfl rfl rfl rfl ?_ | refine preTS rfl rfl rfl rfl ?_ | refine preFS rfl rfl rfl rfl ?_ | refine preSkip rfl rfl rfl rfl ?_ | refine preGT rfl rfl rfl rfl ?_ | refine preGF rfl rfl rfl rfl ?_))
    | (refine AltS.own (by assumption) ?_)
    | (refine AltS.im ?_)
    | (refine AltT.own (by assumption) ?_)
    | (refine AltT.im ?_)
    | (refine AltR.own (by assumption) ?_)
    | (refine AltR.im ?_)
    | (refine NilK.mk (fun _=>?_) ?_)
    | (refine AltV.own (by assumption) ?_)
    | (refine AltV.im ?_)
    | (refine BytesK.mk _ rfl rfl ?_)
    | (refine mkS (by decide) (by omega) (by omega) ?_)
    | ((first | refine drawA2 (by decide +kernel) ?_ | refine drawA (by decide +kernel) ?_ | refine drawL (by decide +kernel) ?_);(conv=>whnf);(try dsimp only [St.after,St.afterAt,St.pin,St.unpin,initSt,initT,numO,cellsA,Option.map,ren,renL,renO,St.setObj,headSt,List.cons_append,List.nil_append,List.length_nil,Nat.reduceAdd]);try (conv=>enter [7,3];whnf))
    | (refine ap1 (by decide) (by omega) rfl rfl ?_)
    | (refine ap0 (by decide) rfl ?_)
    | (refine apL (by decide) (by omega) (fun _=>rfl) ?_)
    | (refine apM (by decide) (by omega) (fun _=>rfl) ?_)
    | (refine slM1 (fun _=>rfl) ?_)
    | (refine And.intro (by omega) ?_;refine slM ?_)
    | (refine setI (z:=_) rfl ?_)
    | (refine And.intro (by omega) (And.intro (by omega) ?_))
    | (refine ifB_intro (fun _=>?_) (fun _=>?_))
    | fail) <;> (conv=>whnf;try dsimp only [St.after,St.afterAt,St.pin,St.unpin,initSt,initT,numO,cellsA,Option.map,ren,renL,renO,St.setObj,headSt,List.cons_append,List.nil_append,List.length_nil,Nat.reduceAdd]))
  try focus (repeat (rename_i z;first | exact Cj.a0 z | revert z))
  try focus (repeat (rename_i z;first | exact Cj.a1 z | revert z))
  try focus (repeat (rename_i z;first | exact Cj.a2 z | revert z))
  try focus (repeat (rename_i z;first | exact Cj.a3 z | revert z))
  try focus (repeat (rename_i z;first | exact Cj.a4 z | revert z))
  try focus (repeat (rename_i z;first | exact Cj.a5 z | revert z))
  try focus (repeat (rename_i z;first | exact Cj.a6 z | revert z))
  try focus (repeat (rename_i z;first | exact Cj.a7 z | revert z))
  try focus (repeat (rename_i z;first | exact Cj.a8 z | revert z))
  try focus (repeat (rename_i z;first | exact Cj.a9 z | revert z))
  try focus (repeat (rename_i z;first | exact Cj.a10 z | revert z))
  try focus (repeat (rename_i z;first | exact Cj.a11 z | revert z))
  try focus (repeat (rename_i z;first | exact Cj.a12 z | revert z))
  try focus (repeat (rename_i z;first | exact Cj.a13 z | revert z))
  try focus (repeat (rename_i z;first | exact Cj.a14 z | revert z))
  try focus (repeat (rename_i z;first | exact Cj.a15 z | revert z))
  try focus (repeat (rename_i z;first | exact Cj.a16 z | revert z))
  try focus (repeat (rename_i z;first | exact Cj.a17 z | revert z))
  try focus (repeat (rename_i z;first | exact Cj.a18 z | revert z))
  try focus (repeat (rename_i z;first | exact Cj.a19 z | revert z))
  try focus (repeat (rename_i z;first | exact Cj.a20 z | revert z))
  try focus (repeat (rename_i z;first | exact Cj.a21 z | revert z))
  try focus (repeat (rename_i z;first | exact Cj.a22 z | revert z))
  try focus (repeat (rename_i z;first | exact Cj.a23 z | revert z)))
  (e:Ti A0 A1 A2 A3 A4 A5 A6 A7 A8 A9 A10 A11 A12 A13 A14 A15 A16 A17 A18 A19 A20 A21 A22 A23:=by constructor <;> first | exact IsT.t | exact IsT.any):P:=h k
theorem lvD {P A0 A1 A2 A3 A4 A5 A6 A7 A8 A9 A10 A11 A12 A13 A14 A15 A16 A17 A18 A19 A20 A21 A22 A23:Prop} (k:Cj A0 A1 A2 A3 A4 A5 A6 A7 A8 A9 A10 A11 A12 A13 A14 A15 A16 A17 A18 A19 A20 A21 A22 A23) (h:Cj A0 A1 A2 A3 A4 A5 A6 A7 A8 A9 A10 A11 A12 A13 A14 A15 A16 A17 A18 A19 A20 A21 A22 A23→P:=by
  intro _
  conv=>whnf
  try dsimp only [St.after,St.afterAt,St.pin,St.unpin,initSt,initT,numO,cellsA,Option.map,ren,renL,renO,St.setObj,headSt,List.cons_append,List.nil_append,List.length_nil,Nat.reduceAdd]
  repeat1'
   ((first
    | (refine ifNF (by omega) ?_)
    | (refine ifNT (by omega) ?_)
    | (refine ifET (by omega) ?_)
    | (refine ifEF (by omega) ?_)
    | (refine ifDT (by omega) ?_)
    | (refine ifDF (by omega) ?_)
    | (refine Ck.mk ?_)
    | (refine PinE.mk (by kernel_rfl) ?_)
    | (refine AndJ.mk ?_ ?_)
    | (refine ifD (fun _=>?_) (fun _=>?_))
    | (refine ifE (fun _=>?_) (fun _=>?_))
    | (refine ifN (fun _=>?_) (fun _=>?_))
    | ((with_reducible refine natI ?_))
    | ((with_reducible refine ifNot ?_))
    | ((with_reducible refine ifAndD (fun _ _=>?_) (fun _=>?_)))
    | ((with_reducible refine ifAnd (fun _ _=>?_) (fun _=>?_)))
    | (refine ixM (by omega) (by first | omega | (simp only [List.length_set,List.length_map,List.length_append,List.length_cons,List.length_nil,List.length_replicate];omega)) rfl ?_)
    | (refine ixA (by omega) (by first | omega | (simp only [List.length_set,List.length_map,List.length_append,List.length_cons,List.length_nil,List.length_replicate];omega)) ?_)
    | (refine ixC (by decide) rfl rfl ?_)
    | (refine ltM (by omega) (by first | omega | (simp only [List.length_set,List.length_map,List.length_append,List.length_cons,List.length_nil,List.length_replicate];omega)) ?_)
    | (with_reducible refine candlow (by omega) ?_)
    | (refine calI (by omega) ?_)
    | (refine cu8 (by omega) ?_)
    | (refine cu64 (by omega) ?_)
    | (refine And.intro (by omega) ?_;refine crem (by omega) ?_)
    | (refine And.intro (by omega) ?_;refine cquo (by omega) ?_)
    | (refine And.intro (by omega) ?_;refine cquo8 (by omega) ?_)
    | (refine And.intro (by omega) ?_;refine cshr8 (by omega) ?_)
    | (refine And.intro (by omega) ?_;refine cshr64 (by omega) ?_)
    | (refine And.intro (by omega) ?_;refine cshl64 (by omega) ?_)
    | (refine candn (by omega) ?_)
    | (refine cand8 ?_)
    | (refine cand64 ?_)
    | ((with_reducible refine preI ?_);(first | refine preNil ?_ | refine preOp rfl rfl ?_ | refine preT rfl rfl rfl rfl ?_ | refine preF rfl rfl rfl rfl ?_ | refine preTS rfl rfl rfl rfl ?_ | refine preFS rfl rfl rfl rfl ?_ | refine preSkip rfl rfl rfl rfl ?_ | refine preGT rfl rfl rfl rfl ?_ | refine preGF rfl rfl rfl rfl ?_))
    | (refine AltS.own (by assumption) ?_)
    | (refine AltS.im ?_)
    | (refine AltT.own (by assumption) ?_)
    | (refine AltT.im ?_)
    | (refine AltR.own (by assumption) ?_)
    | (refine AltR.im ?_)
    | (refine NilK.mk (fun _=>?_) ?_)
    | (refine AltV.own (by assumption) ?_)
    | (refine AltV.im ?_)
    | (refine BytesK.mk _ rfl rfl ?_)
    | (refine mkS (by decide) (by omega) (by omega) ?_)
    | (refine ap1 (by decide) (by omega) rfl rfl ?_)
    | (refine ap0 (by decide) rfl ?_)
    | (refine apL (by decide) (by omega) (fun _=>rfl) ?_)
    | (refine apM (by decide) (by omega) (fun _=>rfl) ?_)
    | (refine slM1 (fun _=>rfl) ?_)
    | (refine And.intro (by omega) ?_;refine slM ?_)
    | (refine setI (z:=_) rfl ?_)
    | (refine And.intro (by omega) (And.intro (by omega) ?_))
    | (refine ifB_intro (fun _=>?_) (fun _=>?_))
    | fail) <;> (conv=>whnf;try dsimp only [St.after,St.afterAt,St.pin,St.unpin,initSt,initT,numO,cellsA,Option.map,ren,renL,renO,St.setObj,headSt,List.cons_append,List.nil_append,List.length_nil,Nat.reduceAdd]))
  try focus (repeat (rename_i z;first | exact Cj.a0 z | revert z))
  try focus (repeat (rename_i z;first | exact Cj.a1 z | revert z))
  try focus (repeat (rename_i z;first | exact Cj.a2 z | revert z))
  try focus (repeat (rename_i z;first | exact Cj.a3 z | revert z))
  try focus (repeat (rename_i z;first | exact Cj.a4 z | revert z))
  try focus (repeat (rename_i z;first | exact Cj.a5 z | revert z))
  try focus (repeat (rename_i z;first | exact Cj.a6 z | revert z))
  try focus (repeat (rename_i z;first | exact Cj.a7 z | revert z))
  try focus (repeat (rename_i z;first | exact Cj.a8 z | revert z))
  try focus (repeat (rename_i z;first | exact Cj.a9 z | revert z))
  try focus (repeat (rename_i z;first | exact Cj.a10 z | revert z))
  try focus (repeat (rename_i z;first | exact Cj.a11 z | revert z))
  try focus (repeat (rename_i z;first | exact Cj.a12 z | revert z))
  try focus (repeat (rename_i z;first | exact Cj.a13 z | revert z))
  try focus (repeat (rename_i z;first | exact Cj.a14 z | revert z))
  try focus (repeat (rename_i z;first | exact Cj.a15 z | revert z))
  try focus (repeat (rename_i z;first | exact Cj.a16 z | revert z))
  try focus (repeat (rename_i z;first | exact Cj.a17 z | revert z))
  try focus (repeat (rename_i z;first | exact Cj.a18 z | revert z))
  try focus (repeat (rename_i z;first | exact Cj.a19 z | revert z))
  try focus (repeat (rename_i z;first | exact Cj.a20 z | revert z))
  try focus (repeat (rename_i z;first | exact Cj.a21 z | revert z))
  try focus (repeat (rename_i z;first | exact Cj.a22 z | revert z))
  try focus (repeat (rename_i z;first | exact Cj.a23 z | revert z)))
  (e:Ti A0 A1 A2 A3 A4 A5 A6 A7 A8 A9 A10 A11 A12 A13 A14 A15 A16 A17 A18 A19 A20 A21 A22 A23:=by constructor <;> first | exact IsT.t | exact IsT.any):P:=h k
theorem lvN {P A0 A1 A2 A3 A4 A5 A6 A7 A8 A9 A10 A11 A12 A13 A14 A15 A16 A17 A18 A19 A20 A21 A22 A23:Prop} (k:Cj A0 A1 A2 A3 A4 A5 A6 A7 A8 A9 A10 A11 A12 A13 A14 A15 A16 A17 A18 A19 A20 A21 A22 A23) (h:Cj A0 A1 A2 A3 A4 A5 A6 A7 A8 A9 A10 A11 A12 A13 A14 A15 A16 A17 A18 A19 A20 A21 A22 A23→P:=by
  intro _
  conv=>whnf
  try dsimp only [St.after,St.afterAt,St.pin,St.unpin,initSt,initT,numO,cellsA,Option.map,ren,renL,renO,St.setObj,headSt,List.cons_append,List.nil_append,List.length_nil,Nat.reduceAdd]
  try focus (repeat (rename_i z;first | exact Cj.a0 z | revert z))
  try focus (repeat (rename_i z;first | exact Cj.a1 z | revert z))
  try focus (repeat (rename_i z;first | exact Cj.a2 z | revert z))
  try focus (repeat (rename_i z;first | exact Cj.a3 z | revert z))
  try focus (repeat (rename_i z;first | exact Cj.a4 z | revert z))
  try focus (repeat (rename_i z;first | exact Cj.a5 z | revert z))
  try focus (repeat (rename_i z;first | exact Cj.a6 z | revert z))
  try focus (repeat (rename_i z;first | exact Cj.a7 z | revert z))
  try focus (repeat (rename_i z;first | exact Cj.a8 z | revert z))
  try focus (repeat (rename_i z;first | exact Cj.a9 z | revert z))
  try focus (repeat (rename_i z;first | exact Cj.a10 z | revert z))
  try focus (repeat (rename_i z;first | exact Cj.a11 z | revert z))
  try focus (repeat (rename_i z;first | exact Cj.a12 z | revert z))
  try focus (repeat (rename_i z;first | exact Cj.a13 z | revert z))
  try focus (repeat (rename_i z;first | exact Cj.a14 z | revert z))
  try focus (repeat (rename_i z;first | exact Cj.a15 z | revert z))
  try focus (repeat (rename_i z;first | exact Cj.a16 z | revert z))
  try focus (repeat (rename_i z;first | exact Cj.a17 z | revert z))
  try focus (repeat (rename_i z;first | exact Cj.a18 z | revert z))
  try focus (repeat (rename_i z;first | exact Cj.a19 z | revert z))
  try focus (repeat (rename_i z;first | exact Cj.a20 z | revert z))
  try focus (repeat (rename_i z;first | exact Cj.a21 z | revert z))
  try focus (repeat (rename_i z;first | exact Cj.a22 z | revert z))
  try focus (repeat (rename_i z;first | exact Cj.a23 z | revert z)))
  (e:Ti A0 A1 A2 A3 A4 A5 A6 A7 A8 A9 A10 A11 A12 A13 A14 A15 A16 A17 A18 A19 A20 A21 A22 A23:=by constructor <;> first | exact IsT.t | exact IsT.any):P:=h k
theorem lvL {P A0 A1 A2 A3 A4 A5 A6 A7 A8 A9 A10 A11 A12 A13 A14 A15 A16 A17 A18 A19 A20 A21 A22 A23:Prop} (k:Cj A0 A1 A2 A3 A4 A5 A6 A7 A8 A9 A10 A11 A12 A13 A14 A15 A16 A17 A18 A19 A20 A21 A22 A23) (h:Cj A0 A1 A2 A3 A4 A5 A6 A7 A8 A9 A10 A11 A12 A13 A14 A15 A16 A17 A18 A19 A20 A21 A22 A23→P:=by
  intro _
  conv=>whnf
  repeat' (first | exact trivial | with_reducible rfl | (refine srcI ?_;kernel_rfl) | (refine nsI ?_;kernel_rfl) | (with_reducible refine AltR.own (by assumption) ?_ <;> (conv=>whnf)) | (with_reducible refine AltR.im ?_ <;> (conv=>whnf)) | (refine And.intro ?_ ?_ <;> (conv=>whnf)) | rfl | fail)
  try focus (repeat (rename_i z;first | exact Cj.a0 z | revert z))
  try focus (repeat (rename_i z;first | exact Cj.a1 z | revert z))
  try focus (repeat (rename_i z;first | exact Cj.a2 z | revert z))
  try focus (repeat (rename_i z;first | exact Cj.a3 z | revert z))
  try focus (repeat (rename_i z;first | exact Cj.a4 z | revert z))
  try focus (repeat (rename_i z;first | exact Cj.a5 z | revert z))
  try focus (repeat (rename_i z;first | exact Cj.a6 z | revert z))
  try focus (repeat (rename_i z;first | exact Cj.a7 z | revert z))
  try focus (repeat (rename_i z;first | exact Cj.a8 z | revert z))
  try focus (repeat (rename_i z;first | exact Cj.a9 z | revert z))
  try focus (repeat (rename_i z;first | exact Cj.a10 z | revert z))
  try focus (repeat (rename_i z;first | exact Cj.a11 z | revert z))
  try focus (repeat (rename_i z;first | exact Cj.a12 z | revert z))
  try focus (repeat (rename_i z;first | exact Cj.a13 z | revert z))
  try focus (repeat (rename_i z;first | exact Cj.a14 z | revert z))
  try focus (repeat (rename_i z;first | exact Cj.a15 z | revert z))
  try focus (repeat (rename_i z;first | exact Cj.a16 z | revert z))
  try focus (repeat (rename_i z;first | exact Cj.a17 z | revert z))
  try focus (repeat (rename_i z;first | exact Cj.a18 z | revert z))
  try focus (repeat (rename_i z;first | exact Cj.a19 z | revert z))
  try focus (repeat (rename_i z;first | exact Cj.a20 z | revert z))
  try focus (repeat (rename_i z;first | exact Cj.a21 z | revert z))
  try focus (repeat (rename_i z;first | exact Cj.a22 z | revert z))
  try focus (repeat (rename_i z;first | exact Cj.a23 z | revert z)))
  (e:Ti A0 A1 A2 A3 A4 A5 A6 A7 A8 A9 A10 A11 A12 A13 A14 A15 A16 A17 A18 A19 A20 A21 A22 A23:=by constructor <;> first | exact IsT.t | exact IsT.any):P:=h k
theorem lvE {P A0 A1 A2 A3 A4 A5 A6 A7 A8 A9 A10 A11 A12 A13 A14 A15 A16 A17 A18 A19 A20 A21 A22 A23:Prop} (k:Cj A0 A1 A2 A3 A4 A5 A6 A7 A8 A9 A10 A11 A12 A13 A14 A15 A16 A17 A18 A19 A20 A21 A22 A23) (h:Cj A0 A1 A2 A3 A4 A5 A6 A7 A8 A9 A10 A11 A12 A13 A14 A15 A16 A17 A18 A19 A20 A21 A22 A23→P:=by
  intro _
  conv=>whnf
  try dsimp only [St.after,St.afterAt,St.pin,St.unpin,initSt,initT,numO,cellsA,Option.map,ren,renL,renO,St.setObj,headSt,List.cons_append,List.nil_append,List.length_nil,Nat.reduceAdd]
  refine exitA (by kernel_rfl) (by kernel_rfl) ⟨?_,trivial⟩ ?_ <;> (conv=>whnf)
  all_goals repeat' (first | exact trivial | with_reducible rfl | (refine srcI ?_;kernel_rfl) | (refine nsI ?_;kernel_rfl) | (with_reducible refine AltR.own (by assumption) ?_ <;> (conv=>whnf)) | (with_reducible refine AltR.im ?_ <;> (conv=>whnf)) | (refine And.intro ?_ ?_ <;> (conv=>whnf)) | rfl | fail)
  try focus (repeat (rename_i z;first | exact Cj.a0 z | revert z))
  try focus (repeat (rename_i z;first | exact Cj.a1 z | revert z))
  try focus (repeat (rename_i z;first | exact Cj.a2 z | revert z))
  try focus (repeat (rename_i z;first | exact Cj.a3 z | revert z))
  try focus (repeat (rename_i z;first | exact Cj.a4 z | revert z))
  try focus (repeat (rename_i z;first | exact Cj.a5 z | revert z))
  try focus (repeat (rename_i z;first | exact Cj.a6 z | revert z))
  try focus (repeat (rename_i z;first | exact Cj.a7 z | revert z))
  try focus (repeat (rename_i z;first | exact Cj.a8 z | revert z))
  try focus (repeat (rename_i z;first | exact Cj.a9 z | revert z))
  try focus (repeat (rename_i z;first | exact Cj.a10 z | revert z))
  try focus (repeat (rename_i z;first | exact Cj.a11 z | revert z))
  try focus (repeat (rename_i z;first | exact Cj.a12 z | revert z))
  try focus (repeat (rename_i z;first | exact Cj.a13 z | revert z))
  try focus (repeat (rename_i z;first | exact Cj.a14 z | revert z))
  try focus (repeat (rename_i z;first | exact Cj.a15 z | revert z))
  try focus (repeat (rename_i z;first | exact Cj.a16 z | revert z))
  try focus (repeat (rename_i z;first | exact Cj.a17 z | revert z))
  try focus (repeat (rename_i z;first | exact Cj.a18 z | revert z))
  try focus (repeat (rename_i z;first | exact Cj.a19 z | revert z))
  try focus (repeat (rename_i z;first | exact Cj.a20 z | revert z))
  try focus (repeat (rename_i z;first | exact Cj.a21 z | revert z))
  try focus (repeat (rename_i z;first | exact Cj.a22 z | revert z))
  try focus (repeat (rename_i z;first | exact Cj.a23 z | revert z)))
  (e:Ti A0 A1 A2 A3 A4 A5 A6 A7 A8 A9 A10 A11 A12 A13 A14 A15 A16 A17 A18 A19 A20 A21 A22 A23:=by constructor <;> first | exact IsT.t | exact IsT.any):P:=h k
end Go.Sk
