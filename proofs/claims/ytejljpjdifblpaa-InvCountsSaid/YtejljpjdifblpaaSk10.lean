/- A checker of Go functions by conditions over small pure states: part 11. -/
import Derived.Test.YtejljpjdifblpaaSk9
import Derived.Test.YtejljpjdifblpaaSk8
import Derived.Tactics
import Derived.Deep.LoopGhost
import Derived.TacticsIn
import Derived.OrdersIn
import Derived.RangeFuncLeaves
import Derived.RangeFuncRecord
import Derived.RangeFuncIn
import Derived.Sort.LoopGhostIn
set_option linter.unusedVariables false
set_option linter.unusedSimpArgs false
namespace Go.Sk
open Go.RowKit
def liveC (ob:Nat→Option AO):AV→List Nat
 | .ref id=>match ob id with
  | some (.arr _ _)=>[id]
  | _=>[]
 | _=>[]
def liveL (ob:Nat→Option AO):List AV→List Nat
 | []=>[]
 | x :: r=>liveC ob x++liveL ob r
def liveA (ob:Nat→Option AO):AV→List Nat
 | .ag cs=>liveL ob cs
 | x=>liveC ob x
def liveAs (ob:Nat→Option AO):List AV→List Nat
 | []=>[]
 | x :: r=>liveA ob x++liveAs ob r
section
variable (P:Program) (T:TypeId→Option TI)
def pureS (σ:St) (o:Oper) (K:St→Prop):Prop:=pstep P T true σ.eval σ.obj σ.next o fun x no=>K (σ.after o.dst x no)
def sappend (σ:St) (o:Oper) (t t':TypeId) (id k:Nat) (xs:List AV) (y:AV) (K:St→Prop):Prop :=
 match (T t).map TI.desc,elemsA σ.obj y with
 | some (TypeDesc.slice e),some ys=>match T e with
  | none=>False
  | some ie=>if t=t'∧k=ie.size∧0 < ie.size then (∀ e,e∈ys→(cellsA e).length=ie.size)∧(xs.length+ys.length) * ie.bytes≤140737488355328∧xs.length+ys.length≤4611686018427387904 ∧
    CalcL (xs++ys) fun zs=>K ((σ.setObj id .dead).after o.dst (.ref σ.next) (some (.arr k zs))) else False
 | _,_=>False
def stappend (σ:St) (o:Oper) (t t':TypeId) (ks:List Nat) (k:Nat) (xs:List AV) (y:AV) (K:St→Prop):Prop :=
 match k.beq 1,y with
 | true,.ref id2=>match σ.obj id2 with
  | some (.tre k2 ys)=>match k2.beq 1,memB id2 ks with
   | true,false=>tappend T σ o t t' (ks++[id2]) xs ys K
   | _,_=>False
  | _=>False
 | _,_=>False
def scut (σ:St) (o:Oper) (t:TypeId) (lo hi:Option Operand) (id k:Nat) (xs:List AV) (K:St→Prop):Prop :=
 match (T t).map TI.desc with
 | some (TypeDesc.slice e)=>match T e with
  | none=>False
  | some ie=>if k=ie.size then optK σ.eval lo 0 fun l=>optK σ.eval hi xs.length fun h=>0≤l∧l≤h∧h≤xs.length ∧
    K ((σ.setObj id .dead).after o.dst (.ref σ.next) (some (.arr k ((xs.take h.toNat).drop l.toNat)))) else False
 | _=>False
def needs1 (ob:Nat→Option AO):AV→Bool
 | .ptr _ _ | .pea _ _ _ _ | .sub _ _ _ _ | .fn _ _ _=>true
 | .ref i=>match ob i with
  | some (.tre _ _)=>true
  | some (.mp _ _ _)=>true
  | _=>false
 | _=>false
def needsL (ob:Nat→Option AO):List AV→Bool
 | []=>false
 | x :: r=>match needs1 ob x with
  | true=>true
  | false=>needsL ob r
def needsA (ob:Nat→Option AO):List AV→Bool
 | []=>false
 | .ag cs :: r=>match needsL ob cs with
  | true=>true
  | false=>needsA ob r
 | x :: r=>match needs1 ob x with
  | true=>true
  | false=>needsA ob r
def gc (σ:St) (o:Oper) (f:Operand) (args:List Operand) (K:St→Prop):Prop :=
 kx σ.eval f fun fv=>kl σ.eval args fun ys=>match calleeOf fv with
  | some (fid,fs,cs)=>gcall P σ o fid (fs++ys++cs) K
  | none=>False
def Forget (σ τ:St):Prop:=∃ bs,backK bs σ fun σ'=>∃ ss,LeS σ' ss τ
def gcX (σ:St) (o:Oper) (f:Operand) (args:List Operand) (K:St→Prop):Prop :=
 kx σ.eval f fun fv=>kl σ.eval args fun ys=>match calleeOf fv with
  | some (fid,fs,cs)=>gcallX P σ o fid (fs++ys++cs) K
  | none=>False
def gc' (σ:St) (o:Oper) (f:Operand) (args:List Operand) (K:St→Prop):Prop :=
 gc P σ o f args K∨(∃ τ,Forget σ τ∧(gc P τ o f args K∨gcX P τ o f args K∨pureS P T τ o K))∨gcX P σ o f args K∨∃ bs,backK bs σ fun σ'=>gc P σ' o f args K∨pureS P T σ' o K
def ownRow (σ:St):AV→Bool
 | .ref p=>match σ.obj p with
  | some (.arr _ _)=>true
  | _=>false
 | _=>false
def sstep0 (σ:St) (o:Oper) (K:St→Prop):Prop :=
 match dstOk σ o with
 | false=>False
 | true=>match o.op with
  | .store t p x=>match o.dst with
   | some _=>False
   | none=>kx σ.eval p fun pv=>kx σ.eval x fun xv=>match pv with
    | .pea id k i j=>match σ.obj id with
     | some (.tre k' xs)=>tstore T σ t id k i j k' xs xv K
     | some (.arr k' xs)=>match k'.beq 1,ownRow σ xv with
      | false,true=>AltT (tstore T (σ.setObj id (.tre k' xs)) t id k i j k' xs xv K) (sstore T (σ.pub (liveA σ.obj xv)) t (.pea id k i j) xv K)
      | _,_=>sstore T (σ.pub (liveA σ.obj xv)) t (.pea id k i j) xv K
     | _=>sstore T (σ.pub (liveA σ.obj xv)) t (.pea id k i j) xv K
    | pv=>sstore T σ t pv xv K
  | .load t p=>kx σ.eval p fun pv=>match pv with
   | .pea id k i j=>match σ.obj id with
    | some (.tre k' xs)=>match k'.beq 1 && k.beq 1 && j.beq 0 with
     | true=>tload P T σ o t id i xs K
     | false=>match k'.beq 1 with
      | true=>pureS P T σ o K
      | false=>tloadK P T σ o t id k i j k' xs K
    | _=>pureS P T σ o K
   | _=>pureS P T σ o K
  | .slice t x lo hi mx=>match mx with
   | some _=>pureS P T σ o K
   | none=>kx σ.eval x fun xv=>match xv with
    | .ref id=>match σ.obj id with
     | some (.arr k xs)=>AltV (ssub T σ o t lo hi id k xs K) (scut T σ o t lo hi id k xs K)
     | _=>pureS P T σ o K
    | _=>pureS P T σ o K
  | .buildSlice t len parts=>kl σ.eval (parts.toList.map (·.2)) fun ys=>match treAs σ.obj ys with
   | []=>(match liveAs σ.obj ys with
    | []=>pureS P T σ o K
    | is=>AltT (sbuild1 T σ o t len parts.toList ys K) (AltR (sbuildR T σ o t len parts.toList ys K) (pureS P T (σ.pub is) o K)))
   | ts=>∃ bs,backK bs σ fun σ0=>pubT ts σ0 fun σ'=>pureS P T (σ'.pub (liveAs σ'.obj ys)) o K
  | .call c=>kl σ.eval c.args.toList fun ys=>match c.callee with
   | .builtin .append=>match ys,c.argTypes.toList with
    | [.ref id,y],[t,t']=>match σ.obj id with
     | some (.arr k xs)=>sappend T σ o t t' id k xs y K
     | some (.tre k xs)=>stappend T σ o t t' [id] k xs y K
     | _=>pureS P T σ o K
    | [.nils,y],[t,t']=>match treC σ.obj y with
     | []=>pureS P T σ o K
     | _=>stappend T σ o t t' [] 1 [] y K
    | _,_=>pureS P T σ o K
   | .builtin .copy=>match ys,c.argTypes.toList with
    | [d,s],[dT,_]=>scopy T σ o dT d s K
    | _,_=>False
   | .builtin .clear=>match ys,c.argTypes.toList with
    | [.sub id k q m],[t]=>match σ.obj id with
     | some (.arr k' xs)=>sclear T σ o t id k q m k' xs K
     | _=>False
    | _,_=>False
   | .builtin .len=>match ys,c.argTypes.toList with
    | [.ref id],[t]=>match σ.obj id with
     | some (.mp _ _ _)=>slen T σ o t id K
     | _=>pureS P T σ o K
    | _,_=>pureS P T σ o K
   | .value f=>kx σ.eval f fun fv=>match needsA σ.obj (fv :: ys) with
    | true=>gc' P T σ o f c.args.toList K
    | false=>match liveAs σ.obj ys with
     | []=>pureS P T σ o K∨gc' P T σ o f c.args.toList K
     | is=>pureS P T σ o K∨pureS P T (σ.pub is) o K∨gc' P T σ o f c.args.toList K
   | _=>pureS P T σ o K
  | .lookup t x i ok=>kx σ.eval x fun xv=>kx σ.eval i fun iv=>match xv,iv with
   | .ref id,.v key=>slook T σ o t id key ok K
   | _,_=>False
  | .mapUpdate t m k v=>match o.dst with
   | some _=>False
   | none=>kx σ.eval m fun mv=>kx σ.eval k fun kv=>kx σ.eval v fun vv=>match mv,kv with
    | .ref id,.v key=>supd T σ t id key vv K
    | _,_=>False
  | .insert t m k v=>match o.dst with
   | some _=>False
   | none=>kx σ.eval m fun mv=>kx σ.eval k fun kv=>kx σ.eval v fun vv=>match mv,kv with
    | .ref id,.v key=>supd T σ t id key vv K
    | _,_=>False
  | .makeMap t r=>match r with
   | none=>smake T σ o t K
   | some _=>False
  | .binOp op t x y _=>match nilOp op y with
   | some (e,s)=>snil T σ o e s t x K
   | none=>pureS P T σ o K
  | _=>pureS P T σ o K
end
section
variable {P:Program} {T:TypeId→Option TI} {N0:Nat→Prop} {base:Nat} {w0:W0}
theorem pub_size:∀ (is:List Nat) (σ:St),(σ.pub is).size=σ.size
 | [],σ=>rfl
 | i :: r,σ=>by
  unfold St.pub
  split
  ·rw [pub_size r];rfl
  ·exact pub_size r σ
theorem pub_tmps:∀ (is:List Nat) (σ:St),(σ.pub is).tmps=σ.tmps
 | [],σ=>rfl
 | i :: r,σ=>by
  unfold St.pub
  split
  ·rw [pub_tmps r];rfl
  ·exact pub_tmps r σ
theorem pub_eval (is:List Nat) (σ:St):(σ.pub is).eval=σ.eval:=by
 unfold St.eval
 have:(σ.pub is).get=σ.get:=by funext t;unfold St.get;rw [pub_tmps]
 rw [this]
theorem pub_dstOk {is:List Nat} {σ:St} {o:Oper} (h:dstOk σ o=true):dstOk (σ.pub is) o=true:=by
 unfold dstOk at *
 rw [pub_size];exact h
theorem pureS_step (hT:TOK P T) {o:Oper} {σ:St} {K:St→Prop} (hd:dstOk σ o=true) (h:pureS P T σ o K) {a:Act} {w:World} (hr:RS N0 base w0 σ a w) {next:Act→World→Prop} {Q:Exit→Act→World→Prop}
  (hK:∀ σ' a' w',K σ'→RS N0 base w0 σ' a' w'→next a' w'):o.wp P a w next Q:=pure_step hT hd h hr hK
theorem Forget.sound {σ τ:St} {a:Act} {w:World} (h:Forget σ τ) (hr:RS N0 base w0 σ a w):RS N0 base w0 τ a w∧τ.size=σ.size:=by
 obtain ⟨bs,h⟩:=h
 obtain ⟨σ',⟨ss,h1⟩,h2,h3,h4⟩:=backK_elim h hr
 refine ⟨h1.sound h2,?_⟩
 have:=h1.2.1
 simp only [Prod.mk.injEq] at this
 rw [this.1,h3]
theorem call_hex {o:Oper} {f:Operand} {c:Call} {σ:St} (ho:o.op=.call c) (hc:c.callee=.value f) {a:Act} {w:World} {fv:AV} (h1:σ.eval f=some fv) {ys:List AV} (h3:ys.length=c.args.toList.length)
  (h4:∀ (j:Nat) (h1:j < c.args.toList.length) (h2:j < ys.length),σ.eval c.args.toList[j]=some ys[j]) {fid:FuncId} {fs cs:List AV} (hcal:calleeOf fv=some (fid,fs,cs)) (V:VV)
  (hV:Rel N0 base w0 σ.size V σ.get σ.obj (fun i=>i < σ.next) a w):∃ vs:Array Value,vs.size=(fs++ys++cs).length∧(execOp a.eval o).run P w=(callFunc fid vs).run P w ∧
   ∀ (j:Nat) (h1:j < (fs++ys++cs).length) (h2:j < vs.size),RepT (Nf N0 base V σ.obj) w V (fs++ys++cs)[j] vs[j]∧bd (fun i=>i < σ.next) (fs++ys++cs)[j]:=by
 have hop:∀ y z,y∈o.op.operands→σ.eval y=some z→RepT (Nf N0 base V σ.obj) w V z (a.eval y)∧bd (fun i=>i < σ.next) z:=fun y z _ hz=>eval_rep hV hz
 obtain ⟨e1,e2⟩:=ev_kl (xs:=c.args) (fun y hy=>by rw [ho];simp [Op.operands,Call.operands,hc,hy]) hop h3 h4
 have hfv:=eval_rep hV h1
 obtain ⟨us,vs,hev,r1,r2,r3,r4⟩:∃ us vs:Array Value,a.eval f=.func (.func fid) us vs∧us.size=fs.length∧vs.size=cs.length∧(∀ (j:Nat) (h1:j < fs.length) (h2:j < us.size),RepT (Nf N0 base V σ.obj) w V fs[j] us[j]∧bd (fun i=>i < σ.next) fs[j])∧(∀ (j:Nat) (h1:j < cs.length) (h2:j < vs.size),RepT (Nf N0 base V σ.obj) w V cs[j] vs[j]∧bd (fun i=>i < σ.next) cs[j]):=by
  obtain ⟨hfr,hbd⟩:=hfv
  unfold calleeOf at hcal
  split at hcal
  ·split at hcal
   ·rename_i hz
    injection hcal with hcal
    simp only [Prod.mk.injEq] at hcal
    obtain ⟨rfl,rfl,rfl⟩:=hcal
    exact ⟨_,_,eval_v hfr,by simpa using hz.1,by simpa using hz.2,fun j h1=>by simp at h1,fun j h1=>by simp at h1⟩
   ·cases hcal
  ·injection hcal with hcal
   simp only [Prod.mk.injEq] at hcal
   obtain ⟨rfl,rfl,rfl⟩:=hcal
   unfold bd at hbd
   generalize a.eval f=v at hfr
   cases hfr with
   | im h=>cases h
   | fn _ _ _ us vs q1 q2 q3 q4=>exact ⟨us,vs,rfl,q1,q2,fun j h1 h2=>⟨q3 j h1 h2,bdL_iff.1 hbd.1 _ (List.getElem_mem h1)⟩,fun j h1 h2=>⟨q4 j h1 h2,bdL_iff.1 hbd.2 _ (List.getElem_mem h1)⟩⟩
  ·cases hcal
 refine ⟨us++c.args.map a.eval++vs,by simp only [Array.size_append,List.length_append,r1,r2,e1],?_,fun j h6 h7=>?_⟩
 ·simp only [execOp,ho,resolve,hc,hev,Deferred.ofValue,Sem.run_bind,Sem.run_pure,Result.andThen_ok,invoke]
 ·simp only [Array.getElem_append,List.getElem_append,Array.size_append,List.length_append,r1,e1]
  split
  ·split
   ·exact r3 _ _ _
   ·exact e2 _ _ _
  ·exact r4 _ _ _
theorem gc_step {o:Oper} {f:Operand} {c:Call} {σ:St} {K:St→Prop} (hd:dstOk σ o=true) (ho:o.op=.call c) (hc:c.callee=.value f) (h:gc P σ o f c.args.toList K) {a:Act} {w:World} (hr:RS N0 base w0 σ a w) {next:Act→World→Prop} {Q:Exit→Act→World→Prop}
  (hK:∀ σ' a' w',K σ'→RS N0 base w0 σ' a' w'→next a' w'):o.wp P a w next Q:=by
 obtain ⟨fv,h1,h2⟩:=kx_iff h
 obtain ⟨ys,h3,h4,h5⟩:=kl_iff h2
 split at h5
 ·rename_i fid fs cs hcal
  exact gcall_step hd h5 hr (call_hex ho hc h1 h3 h4 hcal) hK
 ·exact h5.elim
theorem gcX_step {o:Oper} {f:Operand} {c:Call} {σ:St} {K:St→Prop} (hd:dstOk σ o=true) (ho:o.op=.call c) (hc:c.callee=.value f) (h:gcX P σ o f c.args.toList K) {a:Act} {w:World} (hr:RS N0 base w0 σ a w) {next:Act→World→Prop} {Q:Exit→Act→World→Prop}
  (hK:∀ σ' a' w',K σ'→RS N0 base w0 σ' a' w'→next a' w'):o.wp P a w next Q:=by
 obtain ⟨fv,h1,h2⟩:=kx_iff h
 obtain ⟨ys,h3,h4,h5⟩:=kl_iff h2
 split at h5
 ·rename_i fid fs cs hcal
  exact gcallX_step hd h5 hr (call_hex ho hc h1 h3 h4 hcal) hK
 ·exact h5.elim
theorem gc'_step (hT:TOK P T) {o:Oper} {f:Operand} {c:Call} {σ:St} {K:St→Prop} (hd:dstOk σ o=true) (ho:o.op=.call c) (hc:c.callee=.value f) (h:gc' P T σ o f c.args.toList K) {a:Act} {w:World} (hr:RS N0 base w0 σ a w) {next:Act→World→Prop} {Q:Exit→Act→World→Prop}
  (hK:∀ σ' a' w',K σ'→RS N0 base w0 σ' a' w'→next a' w'):o.wp P a w next Q:=by
 rcases h with h | ⟨τ,hF,h⟩ | h | ⟨bs,h⟩
 ·exact gc_step hd ho hc h hr hK
 ·obtain ⟨hr',hs⟩:=hF.sound hr
  have hd':dstOk τ o=true:=by unfold dstOk at *;rw [hs];exact hd
  rcases h with h | h | h
  ·exact gc_step hd' ho hc h hr' hK
  ·exact gcX_step hd' ho hc h hr' hK
  ·exact pureS_step hT hd' h hr' hK
 ·exact gcX_step hd ho hc h hr hK
 ·obtain ⟨σ',h,hr',hs,_⟩:=backK_elim h hr
  have hd':dstOk σ' o=true:=by unfold dstOk at *;rw [hs];exact hd
  rcases h with h | h
  ·exact gc_step hd' ho hc h hr' hK
  ·exact pureS_step hT hd' h hr' hK
theorem sstep0_sound (hT:TOK P T) {o:Oper} {σ:St} {K:St→Prop} (h:sstep0 P T σ o K) {a:Act} {w:World} (hr:RS N0 base w0 σ a w) {next:Act→World→Prop} {Q:Exit→Act→World→Prop}
  (hK:∀ σ' a' w',K σ'→RS N0 base w0 σ' a' w'→next a' w'):o.wp P a w next Q:=by
 unfold sstep0 at h
 split at h
 ·exact h.elim
 ·rename_i hd
  have pure:pureS P T σ o K→o.wp P a w next Q:=fun h=>pureS_step hT hd h hr hK
  split at h
  ·rename_i t p x ho
   split at h
   ·exact h.elim
   ·rename_i hdst
    obtain ⟨pv,h1,h2⟩:=kx_iff h
    obtain ⟨xv,h3,h4⟩:=kx_iff h2
    split at h4
    ·rename_i id k i j
     split at h4
     ·rename_i k' xs hob
      exact tstore_step hT ho hdst h1 h3 hob h4 hr hK
     ·rename_i k' xs hob
      split at h4
      ·refine h4.el (fun h4=>?_) fun h4=>store_step hT ho hdst (by rw [pub_eval];exact h1) (by rw [pub_eval];exact h3) h4 hr.pub hK
       have hr':RS N0 base w0 (σ.setObj id (.tre k' xs)) a w:=by
        obtain ⟨hpar,V,hV⟩:=hr
        exact ⟨hpar,V,by rw [St.obj_setObj];exact hV.arrTre hob⟩
       exact tstore_step (σ:=σ.setObj id (.tre k' xs)) hT ho hdst h1 h3 (by rw [St.obj_setObj];simp [updO]) h4 hr' hK
      ·exact store_step hT ho hdst (by rw [pub_eval];exact h1) (by rw [pub_eval];exact h3) h4 hr.pub hK
     ·exact store_step hT ho hdst (by rw [pub_eval];exact h1) (by rw [pub_eval];exact h3) h4 hr.pub hK
    ·exact store_step hT ho hdst h1 h3 h4 hr hK
  ·rename_i t p ho
   obtain ⟨pv,h1,h2⟩:=kx_iff h
   split at h2
   ·rename_i id k i j
    split at h2
    ·rename_i k' xs hob
     split at h2
     ·rename_i hb
      simp only [Bool.and_eq_true] at hb
      obtain ⟨⟨b1,b2⟩,b3⟩:=hb
      have e1:=Nat.eq_of_beq_eq_true b1
      have e2:=Nat.eq_of_beq_eq_true b2
      have e3:=Nat.eq_of_beq_eq_true b3
      subst e1;subst e2;subst e3
      exact tload_step hT hd ho h1 hob h2 hr hK
     ·split at h2
      ·exact pure h2
      ·exact tloadK_step hT hd ho h1 hob h2 hr hK
    ·exact pure h2
   ·exact pure h2
  ·rename_i t x lo hi mx ho
   split at h
   ·exact pure h
   ·obtain ⟨xv,h1,h2⟩:=kx_iff h
    split at h2
    ·rename_i id
     split at h2
     ·rename_i k xs hob
      have cut:scut T σ o t lo hi id k xs K→o.wp P a w next Q:=by
       intro h2
       unfold scut at h2
       split at h2
       ·rename_i e hde
        split at h2
        ·exact h2.elim
        ·rename_i ie hie
         by_cases hk:k=ie.size
         ·rw [if_pos hk] at h2
          subst hk
          obtain ⟨l,h3,hlo⟩:=optK_get h2
          obtain ⟨r,h4,hhi⟩:=optK_get h3
          obtain ⟨q0,q1,q2,hKK⟩:=h4
          exact cut_step hT ho (under_of hT hde) hie hd h1 hob hlo hhi q0 q1 q2 hKK hr hK
         ·rw [if_neg hk] at h2;exact h2.elim
       ·exact h2.elim
      exact h2.el (fun h2=>ssub_step hT ho hd h1 hob h2 hr hK) cut
     ·exact pure h2
    ·exact pure h2
  ·rename_i t len parts ho
   obtain ⟨ys,h1,h2,h3⟩:=kl_iff h
   split at h3
   ·split at h3
    ·exact pure h3
    ·refine h3.el (fun h4=>?_) (fun h3=>h3.el (fun h5=>sbuildR_step hT ho hd h1 h2 h5 hr hK) fun h3=>pureS_step hT (pub_dstOk hd) h3 hr.pub hK)
     unfold sbuild1 at h4
     split at h4
     ·rename_i x p hlen hps _ _
      split at h4
      ·rename_i k2 xs hob
       have hlen:=Nat.eq_of_beq_eq_true hlen
       subst hlen
       have hx:σ.eval x=some (.ref p):=by
        have:=h2 0 (by rw [hps];simp) (by simp)
        simpa [hps] using this
       exact sbuildT_step hT ho hps hd hx hob h4 hr hK
      ·exact h4.elim
     ·exact h4.elim
   ·obtain ⟨bs,h3⟩:=h3
    obtain ⟨σ0,p1,p2,p3,_⟩:=backK_elim h3 hr
    obtain ⟨σ',q1,q2,q3⟩:=pubT_elim p1 p2
    have hd':dstOk σ' o=true:=by unfold dstOk at *;rw [q3,p3];exact hd
    exact pureS_step hT (pub_dstOk hd') q1 q2.pub hK
  ·rename_i c ho
   obtain ⟨ys,h1,h2,h3⟩:=kl_iff h
   have tapp:∀ {xv y:AV} {t t':TypeId} {ks:List Nat} {k:Nat} {xs:List AV},c.callee=.builtin .append→c.argTypes.toList=[t,t']→[xv,y].length=c.args.toList.length→(∀ (j:Nat) (h1:j < c.args.toList.length) (h2:j < [xv,y].length),σ.eval c.args.toList[j]=some [xv,y][j]) →
     stappend T σ o t t' ks k xs y K→True→(∀ id2,id2 ∉ ks→k=1→(xv=.nils∧xs=[]∧ks++[id2]=[id2])∨∃ id1,xv=.ref id1∧id1≠id2∧σ.obj id1=some (.tre 1 xs)∧ks++[id2]=[id1,id2])→o.wp P a w next Q:=by
    intro xv y t t' ks k xs hc hts h1 h2 h3 _ hfin
    obtain ⟨x0,x1,hx0⟩:∃ x0 x1,c.args.toList=[x0,x1]:=by
     cases hh:c.args.toList with
     | nil=>rw [hh] at h1;cases h1
     | cons x0 r=>cases r with
      | nil=>rw [hh] at h1;cases h1
      | cons x1 r=>cases r with
       | nil=>exact ⟨x0,x1,rfl⟩
       | cons x2 r=>rw [hh] at h1;simp at h1
    have hceta:=call_eta hc hx0 hts
    have hxa:σ.eval x0=some xv:=by have:=h2 0 (by rw [hx0];simp) (by simp);simpa [hx0] using this
    have hxb:σ.eval x1=some y:=by have:=h2 1 (by rw [hx0];simp) (by simp);simpa [hx0] using this
    unfold stappend at h3
    split at h3
    ·rename_i id2 hk
     have hk:=Nat.eq_of_beq_eq_true hk
     split at h3
     ·rename_i k2 ys hob2
      split at h3
      ·rename_i hk2 hm
       have hk2:=Nat.eq_of_beq_eq_true hk2
       subst hk2
       exact tappend_step hT (by rw [ho,hceta]) hd hxa hxb (hfin id2 (fun q=>by rw [memB_iff.2 q] at hm;cases hm) hk) hob2 h3 hr hK
      ·exact h3.elim
     ·exact h3.elim
    ·exact h3.elim
   split at h3
   ·rename_i hc
    split at h3
    ·rename_i id y t t' hts
     split at h3
     ·rename_i k xs hob
      unfold sappend at h3
      split at h3
      ·rename_i e ys hde hys
       split at h3
       ·exact h3.elim
       ·rename_i ie hie
        by_cases hk:t=t'∧k=ie.size∧0 < ie.size
        ·rw [if_pos hk] at h3
         obtain ⟨rfl,rfl,hpos⟩:=hk
         obtain ⟨q1,q2,q3,q4⟩:=h3
         replace q4:=q4.elim
         obtain ⟨x0,x1,hx0⟩:∃ x0 x1,c.args.toList=[x0,x1]:=by
          cases hh:c.args.toList with
          | nil=>rw [hh] at h1;cases h1
          | cons x0 r=>cases r with
           | nil=>rw [hh] at h1;cases h1
           | cons x1 r=>cases r with
            | nil=>exact ⟨x0,x1,rfl⟩
            | cons x2 r=>rw [hh] at h1;simp at h1
         have hceta:=call_eta hc hx0 hts
         have hxa:σ.eval x0=some (.ref id):=by have:=h2 0 (by rw [hx0];simp) (by simp);simpa [hx0] using this
         have hxb:σ.eval x1=some y:=by have:=h2 1 (by rw [hx0];simp) (by simp);simpa [hx0] using this
         exact append_step hT (by rw [ho,hceta]) (under_of hT hde) hie hpos hd hxa hxb hob hys q1 q2 q3 q4 hr hK
        ·rw [if_neg hk] at h3;exact h3.elim
      ·exact h3.elim
     ·rename_i k xs hob
      exact tapp hc hts h1 h2 h3 (by simp) (fun id2 hne hk=>.inr ⟨id,rfl,fun e=>hne (by simp [e]),hk ▸ hob,rfl⟩)
     ·exact pure h3
    ·rename_i y t t' hts
     split at h3
     ·exact pure h3
     ·exact tapp hc hts h1 h2 h3 (by simp) (fun id2 _ _=>.inl ⟨rfl,rfl,rfl⟩)
    ·exact pure h3
   ·rename_i hc
    split at h3
    ·rename_i d s dT sT hts
     obtain ⟨x0,x1,hx0⟩:∃ x0 x1,c.args.toList=[x0,x1]:=by
      cases hh:c.args.toList with
      | nil=>rw [hh] at h1;cases h1
      | cons x0 r=>cases r with
       | nil=>rw [hh] at h1;cases h1
       | cons x1 r=>cases r with
        | nil=>exact ⟨x0,x1,rfl⟩
        | cons x2 r=>rw [hh] at h1;simp at h1
     have hceta:=call_eta hc hx0 hts
     have hxa:σ.eval x0=some d:=by have:=h2 0 (by rw [hx0];simp) (by simp);simpa [hx0] using this
     have hxb:σ.eval x1=some s:=by have:=h2 1 (by rw [hx0];simp) (by simp);simpa [hx0] using this
     exact scopy_step hT (by rw [ho,hceta]) hd hxa hxb h3 hr hK
    ·exact h3.elim
   ·rename_i hc
    split at h3
    ·rename_i id k q m t hts
     split at h3
     ·rename_i k' xs hob
      obtain ⟨x0,hx0⟩:∃ x0,c.args.toList=[x0]:=List.length_eq_one_iff.1 (by rw [← h1];rfl)
      have hceta:=call_eta hc hx0 hts
      have hxa:σ.eval x0=some (.sub id k q m):=by have:=h2 0 (by rw [hx0];simp) (by simp);simpa [hx0] using this
      exact sclear_step hT (by rw [ho,hceta]) hd hxa hob h3 hr hK
     ·exact h3.elim
    ·exact h3.elim
   ·rename_i hc
    split at h3
    ·rename_i id t hts
     split at h3
     ·rename_i hob
      obtain ⟨x0,hx0⟩:∃ x0,c.args.toList=[x0]:=List.length_eq_one_iff.1 (by rw [← h1];rfl)
      have hceta:=call_eta hc hx0 hts
      have hxa:σ.eval x0=some (.ref id):=by have:=h2 0 (by rw [hx0];simp) (by simp);simpa [hx0] using this
      exact mlen_step hT hd (by rw [ho,hceta]) hxa h3 hr hK
     ·exact pure h3
    ·exact pure h3
   ·rename_i f hc
    obtain ⟨fv,h5,h6⟩:=kx_iff h3
    split at h6
    ·exact gc'_step hT hd ho hc h6 hr hK
    ·split at h6
     ·rcases h6 with h6 | h6
      ·exact pure h6
      ·exact gc'_step hT hd ho hc h6 hr hK
     ·rcases h6 with h6 | h6 | h6
      ·exact pure h6
      ·exact pureS_step hT (pub_dstOk hd) h6 hr.pub hK
      ·exact gc'_step hT hd ho hc h6 hr hK
   ·exact pure h3
  ·rename_i t x i ok ho
   obtain ⟨xv,h1,h2⟩:=kx_iff h
   obtain ⟨iv,h3,h4⟩:=kx_iff h2
   split at h4
   ·exact look_step hT hd ho h1 h3 h4 hr hK
   ·exact h4.elim
  ·rename_i t m k v ho
   split at h
   ·exact h.elim
   ·rename_i hdst
    obtain ⟨mv,h1,h2⟩:=kx_iff h
    obtain ⟨kv,h3,h4⟩:=kx_iff h2
    obtain ⟨vv,h5,h6⟩:=kx_iff h4
    split at h6
    ·exact upd_step hT (.inl ho) hdst h1 h3 h5 h6 hr hK
    ·exact h6.elim
  ·rename_i t m k v ho
   split at h
   ·exact h.elim
   ·rename_i hdst
    obtain ⟨mv,h1,h2⟩:=kx_iff h
    obtain ⟨kv,h3,h4⟩:=kx_iff h2
    obtain ⟨vv,h5,h6⟩:=kx_iff h4
    split at h6
    ·exact upd_step hT (.inr ho) hdst h1 h3 h5 h6 hr hK
    ·exact h6.elim
  ·rename_i t r ho
   split at h
   ·exact make_step hd ho h hr hK
   ·exact h.elim
  ·rename_i op t x y t' ho
   split at h
   ·rename_i e s hn
    exact snil_step hT ho hn hd h hr hK
   ·exact pure h
  ·exact pure h
theorem RS.skip {σ:St} {a:Act} {w:World} (h:RS N0 base w0 σ a w) {o:Oper} (hd:dstOk σ o=true):RS N0 base w0 (σ.after o.dst .skip none) (a.put o.dst Go.undef) w:=by
 obtain ⟨hp,V,hV⟩:=h
 refine ⟨hp,V,?_⟩
 rw [St.get_after,St.obj_after,St.next_after]
 exact hV.put (dstOk_spec hd) .skip (by simp [bd])
theorem RS.learn {σ:St} {a:Act} {w:World} (h:RS N0 base w0 σ a w) {d:Nat} {b c:Bool} (hg:σ.get d=some (.v (.bool b))) (hb:b=c):RS N0 base w0 (σ.after (some d) (.v (.bool c)) none) a w:=by
 obtain ⟨hp,V,hV⟩:=h
 refine ⟨hp,V,?_⟩
 have:(σ.after (some d) (.v (.bool c)) none).get=σ.get:=by
  rw [St.get_after]
  funext t
  unfold upd
  split
  ·rename_i e;injection e with e;subst e;rw [hg,hb]
  ·rfl
 rw [this,St.obj_after,St.next_after]
 exact hV
theorem yielded_of {σ:St} {a:Act} {w:World} (h:RS N0 base w0 σ a w) {all:Array Oper} {j d:Nat} (hj:(all[j]?).bind Oper.dst=some d) :
  (∀ b,σ.get d=some (.v (.bool b))→yielded all a.tmps j=some b)∧(σ.get d=some .skip→yielded all a.tmps j=none):=by
 obtain ⟨hp,V,hV⟩:=h
 refine ⟨fun b hb=>?_,fun hb=>?_⟩
 ·have:=eval_v (hV.tm d _ hb)
  unfold yielded
  have hj':((all[j]?).bind (·.dst))=some d:=hj
  rw [hj']
  simp only [Option.bind_some]
  simp at this
  cases ht:a.tmps[d]? with
  | none=>simp [ht,Go.undef] at this
  | some v=>simp [ht] at this;subst this;rfl
 ·have:=hV.tm d _ hb
  unfold yielded
  have hj':((all[j]?).bind (·.dst))=some d:=hj
  rw [hj']
  simp only [Option.bind_some]
  generalize hv:a.tmps.getD d Go.undef=v at this
  cases this with
  | im h=>cases h
  | skip =>
   simp at hv
   cases ht:a.tmps[d]? with
   | none=>rfl
   | some v=>simp [ht] at hv;subst hv;rfl
end
section
variable (P:Program) (T:TypeId→Option TI)
def vcOps0 (all:Array Oper):List Oper→St→(St→Prop)→Prop
 | [],σ,K=>K σ
 | o :: r,σ,K=>match o.guard with
  | none=>sstep0 P T σ o fun σ'=>vcOps0 all r σ' K
  | some (j,want)=>match (all[j]?).bind Oper.dst with
   | none=>False
   | some d=>match σ.get d with
    | some (.v (.bool b))=>match want with
     | true=>ifB b (sstep0 P T (σ.after (some d) (.v (.bool true)) none) o fun σ'=>vcOps0 all r σ' K)
       (match dstOk σ o with
       | true=>vcOps0 all r ((σ.after (some d) (.v (.bool false)) none).after o.dst .skip none) K
       | false=>False)
     | false=>ifB b (match dstOk σ o with
       | true=>vcOps0 all r ((σ.after (some d) (.v (.bool true)) none).after o.dst .skip none) K
       | false=>False) (sstep0 P T (σ.after (some d) (.v (.bool false)) none) o fun σ'=>vcOps0 all r σ' K)
    | some .skip=>match dstOk σ o with
     | true=>vcOps0 all r (σ.after o.dst .skip none) K
     | false=>False
    | _=>False
end
section
variable {P:Program} {T:TypeId→Option TI} {N0:Nat→Prop} {base:Nat} {w0:W0}
theorem vcOps0_sound (hT:TOK P T) {all:Array Oper}:∀ {ops:List Oper} {σ:St} {K:St→Prop} {a:Act} {w:World} {Q:Exit→Act→World→Prop},vcOps0 P T all ops σ K→RS N0 base w0 σ a w→(∀ σ' a' w',K σ'→RS N0 base w0 σ' a' w'→Q .normal a' w') →
  wpList P all Q ops a w
 | [],σ,K,a,w,Q,h,hr,hK=>hK _ _ _ h hr
 | o :: r,σ,K,a,w,Q,h,hr,hK=>by
  refine wpList_step fun KK hKK=>?_
  unfold vcOps0 at h
  split at h
  ·rename_i hg
   simp only [Region.wanted,hg,if_true]
   exact sstep0_sound hT h hr fun σ' a' w' h1 h2=>hKK _ _ (vcOps0_sound hT h1 h2 hK)
  ·rename_i j want hg
   split at h
   ·exact h.elim
   ·rename_i d hj
    obtain ⟨y1,y2⟩:=yielded_of hr hj
    split at h
    ·rename_i b hb
     have hy:=y1 b hb
     replace h:(b=want→sstep0 P T (σ.after (some d) (.v (.bool want)) none) o fun σ'=>vcOps0 P T all r σ' K) ∧
      (b=!want→match dstOk σ o with
       | true=>vcOps0 P T all r ((σ.after (some d) (.v (.bool (!want))) none).after o.dst .skip none) K
       | false=>False):=by
      cases want with
      | true=>exact ifB_elim h
      | false=>exact ⟨(ifB_elim h).2,(ifB_elim h).1⟩
     by_cases hbw:b=want
     ·subst hbw
      simp only [Region.wanted,hg,hy,beq_self_eq_true,if_true]
      exact sstep0_sound hT (h.1 rfl) (hr.learn hb rfl) fun σ' a' w' h1 h2=>hKK _ _ (vcOps0_sound hT h1 h2 hK)
     ·have hbn:b=!want:=by cases b <;> cases want <;> simp_all
      have hw:Region.wanted o (yielded all a.tmps)=false:=by
       simp only [Region.wanted,hg,hy]
       simpa using hbw
      rw [hw]
      simp only [Bool.false_eq_true,if_false]
      have h2:=h.2 hbn
      split at h2
      ·rename_i hd
       exact hKK _ _ (vcOps0_sound hT h2 ((hr.learn hb hbn).skip hd) hK)
      ·exact h2.elim
    ·rename_i hb
     have hw:Region.wanted o (yielded all a.tmps)=false:=by
      simp only [Region.wanted,hg,y2 hb]
      rfl
     rw [hw]
     simp only [Bool.false_eq_true,if_false]
     split at h
     ·rename_i hd
      exact hKK _ _ (vcOps0_sound hT h (hr.skip hd) hK)
     ·exact h.elim
    ·exact h.elim
end
end Go.Sk
namespace Go.Sk
open Go.RowKit
def WR (r:Option Nat):Fence:={ Fence.wide with round:=r }
theorem calls_WR {r:Option Nat} {n:Nat} {P:Program} {f:FuncId} {args:Array Value} {w:World} {R:Ending→World→Prop}:CallsIn (WR r) n P f args w R↔Calls P f args w R:=callsIn_wide (n:=n)
theorem round_WR {r:Option Nat} {n m:Nat} {P:Program} {l:Nat} {f:FuncId} {tmps:Array Value} {x y:Code} {w:World} {R:Ending→World→Prop} (h:RoundIn Fence.wide n P l f tmps x y w R):RoundIn (WR r) m P l f tmps x y w R :=
 ⟨trivial,fun c cs _=>h.2 c cs (room_wide _)⟩
theorem wpIn_of_wp {P:Program} {o:Oper} {a:Act} {w:World} {next:Act→World→Prop} {Q:Exit→Act→World→Prop} {r:Option Nat} {n:Nat} (hd:∀ c,o.op≠.defer c) (h:o.wp P a w next Q):o.wpIn (WR r) n P a w next Q:=by
 refine ⟨fun _ _=>trivial,?_⟩
 rw [Oper.semAt_eq _ _ _ hd]
 unfold Oper.wp at h
 generalize (execOp a.eval o).run P w=res at h
 cases res with
 | ok x w' =>
  cases x <;> simp only [Oper.upon,Oper.uponIn] at h ⊢ <;> first
   | exact h
   | exact ⟨(fun q=>by cases q),calls_WR.2 h⟩
   | exact ⟨(fun q=>by cases q),fun c cs _=>let ⟨v,w',q1,q2⟩:=h c cs;⟨v,w',q1,stepsIn_wide.2 q2⟩⟩
 | halt x w'=>cases x <;> simp only [Oper.upon,Oper.uponIn] at h ⊢ <;> exact h
def markOf (D:Nat):Deferred:={ target:=.collected D,args:=#[] }
structure Ext (N0:Nat→Prop) (base:Nat) (w0:W0) (N0':Nat→Prop) (base':Nat) (w0':W0):Prop where
 le:base≤base'
 vis:∀ b,b < base→N0' b→N0 b
 low:∀ b,w0'.f b→base≤b∨(w0.f b∧N0 b)
 frm:Frm base w0 w0'.w
 keep:∀ k,k < base→¬ w0.f k→¬ w0'.f k
 m:w0'.m=w0.m
 v:w0'.v=w0.v
 bs:base'≤w0'.w.heap.size
 ds:∃ Ds:List Nat,w0'.ds=Ds.map markOf++w0.ds∧Ds.Nodup∧∀ D,D∈Ds→base≤D∧D < base'∧¬ N0' D∧¬ w0'.f D∧w0'.w.heap[D]?=some (.deferred (some []))
theorem Ext.trans {N0 N1 N2:Nat→Prop} {b0 b1 b2:Nat} {w0 w1 w2:W0} (h:Ext N0 b0 w0 N1 b1 w1) (k:Ext N1 b1 w1 N2 b2 w2):Ext N0 b0 w0 N2 b2 w2:=by
 refine ⟨Nat.le_trans h.le k.le,fun b hb hN=>h.vis b hb (k.vis b (Nat.lt_of_lt_of_le hb h.le) hN),fun b hb=>?_,?_,fun q hq hf=>k.keep q (Nat.lt_of_lt_of_le hq h.le) (h.keep q hq hf),k.m.trans h.m,k.v.trans h.v,k.bs,?_⟩
 ·rcases k.low b hb with q | ⟨q,_⟩
  ·exact .inl (Nat.le_trans h.le q)
  ·exact h.low b q
 ·exact h.frm.turn k.frm.os k.frm.tape k.frm.output k.frm.size fun q hq hf=>k.frm.block q (Nat.lt_of_lt_of_le hq h.le) (h.keep q hq hf)
 ·obtain ⟨Ds,q1,q2,q3⟩:=h.ds
  obtain ⟨Es,r1,r2,r3⟩:=k.ds
  refine ⟨Es++Ds,by rw [r1,q1,List.map_append,List.append_assoc],List.nodup_append.2 ⟨r2,q2,fun x hx y hy e=>?_⟩,fun D hD=>?_⟩
  ·subst e
   have:=(r3 x hx).1
   have:=(q3 x hy).2.1
   omega
  ·rcases List.mem_append.1 hD with hD | hD
   ·have:=r3 D hD
    exact ⟨Nat.le_trans h.le this.1,this.2⟩
   ·obtain ⟨p1,p2,p3,p4,p5⟩:=q3 D hD
    exact ⟨p1,Nat.lt_of_lt_of_le p2 k.le,fun hN=>p3 (k.vis D p2 hN),k.keep D p2 p4,(k.frm.block D p2 p4).trans p5⟩
theorem Ext.refl {N0:Nat→Prop} {base:Nat} {w0:W0} (hb:base≤w0.w.heap.size) (hl:∀ b,w0.f b→base≤b∨(w0.f b∧N0 b)):Ext N0 base w0 N0 base w0 :=
 ⟨Nat.le_refl _,fun _ _ h=>h,hl,⟨rfl,rfl,.refl _,Nat.le_refl _,fun _ _ _=>rfl⟩,fun _ _ h=>h,rfl,rfl,hb,[],by simp,List.nodup_nil,fun _ h=>by simp at h⟩
section
variable {P:Program} {T:TypeId→Option TI} {N0:Nat→Prop} {base:Nat} {w0:W0}
def RSX (N0:Nat→Prop) (base:Nat) (w0:W0) (σ:St) (a:Act) (w:World):Prop:=∃ N0' base' w0',Ext N0 base w0 N0' base' w0'∧RS N0' base' w0' σ a w
theorem RSX.map {σ σ':St} {a a':Act} {w w':World} (h:RSX N0 base w0 σ a w) (k:∀ {N0 base w0},RS N0 base w0 σ a w→RS N0 base w0 σ' a' w'):RSX N0 base w0 σ' a' w' :=
 let ⟨N1,b1,w1,e,h⟩:=h;⟨N1,b1,w1,e,k h⟩
theorem RSX.up {N1:Nat→Prop} {b1:Nat} {w1:W0} {σ:St} {a:Act} {w:World} (e:Ext N0 base w0 N1 b1 w1) (h:RSX N1 b1 w1 σ a w):RSX N0 base w0 σ a w :=
 let ⟨N2,b2,w2,e',h⟩:=h;⟨N2,b2,w2,e.trans e',h⟩
theorem Rel.settle {N0':Nat→Prop} {base':Nat} {w0':W0} {m:Nat} {V:VV} {g:Nat→Option AV} {ob:Nat→Option AO} {A:Nat→Prop} {a:Act} {w w2:World} (h:Rel N0' base' w0' m V g ob A a w) (hx:Ext N0 base w0 N0' base' w0')
  (hsz:w.heap.size≤w2.heap.size) (hb:∀ b,b < w.heap.size→((b < base'→N0' b)∨base'≤b∨w0'.f b)→w2.heap[b]?=w.heap[b]?) (hf:∀ b,b < base→¬ w0.f b→w2.heap[b]?=w.heap[b]?)
  (hos:w2.os=w.os) (hta:w2.tape=w.tape) (hou:Outp w w2):Rel N0 base w0 m V g ob A { a with defers:=w0.ds } w2:=by
 have hN:∀ b,Nf N0' base' V ob b→b < w.heap.size→Nf N0 base V ob b∧w2.heap[b]?=w.heap[b]?:=fun b hn hlt =>
  ⟨⟨fun q=>hx.vis b q (hn.1 (Nat.lt_of_lt_of_le q hx.le)),hn.2⟩,hb b hlt (.inl hn.1)⟩
 refine ⟨fun t x ht=>(h.tm t x ht).mono hN (fun _ _=>rfl) (h.bdt t x ht),fun i o ho=>(h.obs i o ho).mono hN hsz (fun _ _=>rfl) (fun _=>Iff.rfl) (h.bdo i o ho).1 (fun hl b hbb=>?_) (h.bdo i o ho).2,h.inj,fun i b hl hbb=>⟨?_,Nat.lt_of_lt_of_le (h.low i b hl hbb).2 hsz⟩,h.bdt,h.bdo,?_,
  Nat.le_trans hx.le (Nat.le_trans h.bas hsz),rfl,h.siz,fun i hi=>?_⟩
 ·refine hb b (h.low i b ⟨o,ho,hl⟩ hbb).2 ?_
  rcases (h.low i b ⟨o,ho,hl⟩ hbb).1 with q | ⟨q,_⟩
  ·exact .inr (.inl q)
  ·exact .inr (.inr q)
 ·rcases (h.low i b hl hbb).1 with q | ⟨q,_⟩
  ·exact .inl (Nat.le_trans hx.le q)
  ·exact hx.low b q
 ·have h1:Frm base w0 w:=hx.frm.turn h.bel.os h.bel.tape h.bel.output h.bel.size fun k hk hf=>h.bel.block k (Nat.lt_of_lt_of_le hk hx.le) (hx.keep k hk hf)
  exact h1.turn hos hta hou hsz hf
 ·have:=h.par i (by rw [hx.m];exact hi)
  rw [hx.v] at this
  exact this
def W0.poke (w0:W0) (l:Nat) (o:Obj):W0:={ w0 with w:=w0.w.putObj l o }
theorem Frm.poke {w:World} (h:Frm base w0 w) {l:Nat} (o:Obj):Frm base (w0.poke l o) (w.putObj l o) :=
 ⟨h.os,h.tape,⟨h.output.eq,h.output.le⟩,by rw [World.putObj_size];exact (World.putObj_size (w:=w0.w)).symm ▸ h.size,fun k hk hf=>by
  by_cases e:k=l
  ·subst e
   unfold World.putObj W0.poke World.putObj
   simp only [Array.getElem?_setIfInBounds_self]
   have hs:=h.size
   by_cases q:k < w0.w.heap.size
   ·rw [if_pos q,if_pos (by omega)]
   ·have hb:=h.block k hk hf
    rw [Array.getElem?_eq_none (show w0.w.heap.size≤k by omega)] at hb
    have:¬ k < w.heap.size:=fun q=>by rw [Array.getElem?_eq_getElem q] at hb;cases hb
    rw [if_neg q,if_neg this]
  ·exact (World.putObj_heap_other e).trans ((h.block k hk hf).trans (World.putObj_heap_other (w:=w0.w) e).symm)⟩
theorem Rel.poke {m:Nat} {V:VV} {g:Nat→Option AV} {ob:Nat→Option AO} {A:Nat→Prop} {a:Act} {w:World} (h:Rel N0 base w0 m V g ob A a w) {l:Nat} (o:Obj) (hl:l < base) (hN:¬ N0 l) (hf:¬ w0.f l) :
  Rel N0 base (w0.poke l o) m V g ob A a (w.putObj l o):=by
 have hsz:(w.putObj l o).heap.size=w.heap.size:=World.putObj_size
 have hm:∀ b,Nf N0 base V ob b→b < w.heap.size→Nf N0 base V ob b∧(w.putObj l o).heap[b]?=w.heap[b]?:=fun b hn _=>⟨hn,World.putObj_heap_other fun e=>by subst e;exact hN (hn.1 hl)⟩
 refine ⟨fun t x ht=>(h.tm t x ht).mono hm (fun _ _=>rfl) (h.bdt t x ht),fun i u ho=>(h.obs i u ho).mono hm (by rw [hsz];exact Nat.le_refl _) (fun _ _=>rfl) (fun _=>Iff.rfl) (h.bdo i u ho).1 (fun hlv b hbb=>World.putObj_heap_other fun e=>?_) (h.bdo i u ho).2,h.inj,
  fun i b hlv hbb=>⟨(h.low i b hlv hbb).1,by rw [hsz];exact (h.low i b hlv hbb).2⟩,h.bdt,h.bdo,h.bel.poke o,by rw [hsz];exact h.bas,h.dfr,h.siz,h.par⟩
 subst e
 rcases (h.low i b ⟨u,ho,hlv⟩ hbb).1 with q | ⟨q,_⟩
 ·omega
 ·exact hf q
theorem RSX.poke {σ:St} {a:Act} {w:World} (h:RSX N0 base w0 σ a w) {l:Nat} (o:Obj) (hl:l < base) (hN:¬ N0 l) (hf:¬ w0.f l):RSX N0 base (w0.poke l o) σ a (w.putObj l o):=by
 obtain ⟨N1,b1,w1,e,hp,V,hV⟩:=h
 refine ⟨N1,b1,w1.poke l o,⟨e.le,e.vis,e.low,?_,e.keep,e.m,e.v,?_,?_⟩,hp,V,hV.poke o (Nat.lt_of_lt_of_le hl e.le) (fun q=>hN (e.vis l hl q)) (e.keep l hl hf)⟩
 ·exact e.frm.poke o
 ·exact Nat.le_trans e.bs (by unfold W0.poke;rw [World.putObj_size];exact Nat.le_refl _)
 ·obtain ⟨Ds,q1,q2,q3⟩:=e.ds
  refine ⟨Ds,q1,q2,fun D hD=>?_⟩
  obtain ⟨p1,p2,p3,p4,p5⟩:=q3 D hD
  exact ⟨p1,p2,p3,p4,(World.putObj_heap_other (by omega)).trans p5⟩
end
end Go.Sk
namespace Go.Sk
open Go.RowKit
def YCall (P:Program) (l:Nat) (G:Ghost) (xs:List AV) (Gf:Bool→Ghost):Prop :=
 bdL (fun _=>False) xs∧∀ (N:Nat→Prop) (w:World) (V:VV) (vs:Array Value),vs.size=xs.length→Own N V (obL [.gh G]) (ltA 1) w→(∀ (j:Nat) (h1:j < xs.length) (h2:j < vs.size),RepT N w V xs[j] vs[j]) →
  ∃ fn tmps assign body,(Instr.yield l vs).run P w=.ok (.round l fn tmps assign body) w∧RoundIn Fence.wide 0 P l fn tmps assign body w fun e w' =>
   ∃ b,e=.returned (.bool b)∧Frm w.heap.size { w:=w,f:=foot V (obL [.gh G]) } w'∧Outc N w V [.gh G] w' (.v (.bool b)) [.gh (Gf b)] (.bool b)
def Gone (G:Ghost):Prop:=∀ N w f,¬ G.R N w f
def yieldOf:AV→Option Nat
 | .v (.func (.yield l) ⟨[]⟩ _)=>some l
 | _=>none
def ycall (P:Program) (σ:St) (o:Oper) (l:Nat) (ys:List AV) (K:St→Prop):Prop :=
 ∃ (id:Nat) (G:Ghost) (Gf:Bool→Ghost) (xs:List AV),([id].map σ.obj=[AO.gh G].map (fun o=>some (renO (rn [id] σ.next) o))∧xs.map (ren (rn [id] σ.next))=ys.map (pubA σ.obj)∧numsOK σ.next [id]=true)∧YCall P l G xs Gf ∧
  (K (afterCall σ o [id] [.gh G] [.gh (Gf true)] (.v (.bool true)))∨Gone (Gf true))∧(K (afterCall σ o [id] [.gh G] [.gh (Gf false)] (.v (.bool false)))∨Gone (Gf false))
section
variable (P:Program) (T:TypeId→Option TI)
def sstep (σ:St) (o:Oper) (K:St→Prop):Prop :=
 match o.op with
 | .call c=>match c.callee with
  | .value f=>kx σ.eval f fun fv=>match yieldOf fv with
   | some l=>match dstOk σ o with
    | true=>kl σ.eval c.args.toList fun ys=>ycall P (σ.pub (liveAs σ.obj ys)) o l ys K
    | false=>False
   | none=>sstep0 P T σ o K
  | _=>sstep0 P T σ o K
 | _=>sstep0 P T σ o K
def vcOps (all:Array Oper):List Oper→St→(St→Prop)→Prop
 | [],σ,K=>K σ
 | o :: r,σ,K=>match o.guard with
  | none=>sstep P T σ o fun σ'=>vcOps all r σ' K
  | some (j,want)=>match (all[j]?).bind Oper.dst with
   | none=>False
   | some d=>match σ.get d with
    | some (.v (.bool b))=>match want with
     | true=>ifB b (sstep P T (σ.after (some d) (.v (.bool true)) none) o fun σ'=>vcOps all r σ' K)
       (match dstOk σ o with
       | true=>vcOps all r ((σ.after (some d) (.v (.bool false)) none).after o.dst .skip none) K
       | false=>False)
     | false=>ifB b (match dstOk σ o with
       | true=>vcOps all r ((σ.after (some d) (.v (.bool true)) none).after o.dst .skip none) K
       | false=>False) (sstep P T (σ.after (some d) (.v (.bool false)) none) o fun σ'=>vcOps all r σ' K)
    | some .skip=>match dstOk σ o with
     | true=>vcOps all r (σ.after o.dst .skip none) K
     | false=>False
    | _=>False
end
section
variable {P:Program} {T:TypeId→Option TI} {N0:Nat→Prop} {base:Nat} {w0:W0}
theorem sstep0_nodefer {σ:St} {o:Oper} {K:St→Prop} (h:sstep0 P T σ o K):∀ c,o.op≠.defer c:=fun c hc=>by
 unfold sstep0 at h
 split at h
 ·exact h
 ·rw [hc] at h
  simp only [pureS,pstep,hc] at h
theorem sstep_sound (hT:TOK P T) {r0:Option Nat} {n:Nat} {o:Oper} {σ:St} {K:St→Prop} (h:sstep P T σ o K) {a:Act} {w:World} (hr:RSX N0 base w0 σ a w) {next:Act→World→Prop} {Q:Exit→Act→World→Prop}
  (hK:∀ σ' a' w',K σ'→RSX N0 base w0 σ' a' w'→next a' w'):o.wpIn (WR r0) n P a w next Q:=by
 obtain ⟨N1,b1,w1,hx,hr⟩:=hr
 have old:sstep0 P T σ o K→o.wpIn (WR r0) n P a w next Q:=fun h=>wpIn_of_wp (sstep0_nodefer h) (sstep0_sound hT h hr fun σ' a' w' h1 h2=>hK σ' a' w' h1 ⟨N1,b1,w1,hx,h2⟩)
 unfold sstep at h
 split at h
 ·rename_i c ho
  split at h
  ·rename_i f hc
   obtain ⟨fv,h1,h2⟩:=kx_iff h
   split at h2
   ·rename_i l hl
    split at h2
    ·rename_i hd
     obtain ⟨ys,h3,h4,id,G,Gf,xs,⟨e1,e2,e3⟩,⟨hfree,hy⟩,hk1,hk2⟩:=kl_iff h2
     have hr':=hr.pub (is:=liveAs σ.obj ys)
     obtain ⟨hpar,V,hV⟩:=hr'
     have hd':=pub_dstOk (is:=liveAs σ.obj ys) hd
     have hop:∀ y z,y∈o.op.operands→(σ.pub (liveAs σ.obj ys)).eval y=some z→RepT (Nf N1 b1 V (σ.pub (liveAs σ.obj ys)).obj) w V z (a.eval y)∧bd (fun i=>i < (σ.pub (liveAs σ.obj ys)).next) z:=fun y z _ hz=>eval_rep hV hz
     obtain ⟨g1,g2⟩:=ev_kl (xs:=c.args) (fun y hy=>by rw [ho];simp [Op.operands,Call.operands,hc,hy]) hop h3 (by rw [pub_eval];exact h4)
     obtain ⟨q1,q2,q3,q4⟩:=call_give hV (vs:=c.args.map a.eval) e1 e2 e3 g1 g2
     obtain ⟨fn,tmps,assign,body,hrun,hround⟩:=hy _ w _ _ q1 q2 q3
     have hev:∃ cs,a.eval f=.func (.yield l) #[] cs:=by
      have h1':(σ.pub (liveAs σ.obj ys)).eval f=some fv:=by rw [pub_eval];exact h1
      have hfv:=(eval_rep hV h1').1
      unfold yieldOf at hl
      split at hl
      ·injection hl with hl
       subst hl
       exact ⟨_,eval_v hfv⟩
      ·cases hl
     obtain ⟨cs,hev⟩:=hev
     refine ⟨fun _ _=>trivial,?_⟩
     rw [Oper.semAt_eq _ _ _ (fun c'=>by rw [ho];simp)]
     have hex:(execOp a.eval o).run P w=(Instr.yield l (c.args.map a.eval)).run P w:=by
      simp only [execOp,ho,resolve,hc,hev,Deferred.ofValue,Sem.run_bind,Sem.run_pure,Result.andThen_ok,invoke,Array.empty_append]
     rw [hex,hrun]
     refine ⟨(fun q=>by cases q),(round_WR hround).mono ?_⟩
     rintro e w' ⟨b,rfl,hfr,hout⟩
     have ht:=call_take hd' hpar hV e1 e3 (os':=[.gh (Gf b)]) (Nat.le_refl 1) hfr hout
     have hgone:Gone (Gf b)→False:=fun hg=>by
      obtain ⟨V',_,_,_,ho,_⟩:=hout
      exact hg _ _ _ (ho 0 _ rfl).1
     cases b with
     | true =>
      rcases hk1 with hk1 | hk1
      ·exact hK _ _ _ hk1 ⟨N1,b1,w1,hx,ht⟩
      ·exact (hgone hk1).elim
     | false =>
      rcases hk2 with hk2 | hk2
      ·exact hK _ _ _ hk2 ⟨N1,b1,w1,hx,ht⟩
      ·exact (hgone hk2).elim
    ·exact h2.elim
   ·exact old h2
  ·exact old h
 ·exact old h
theorem yielded_ofX {σ:St} {a:Act} {w:World} (h:RSX N0 base w0 σ a w) {all:Array Oper} {j d:Nat} (hj:(all[j]?).bind Oper.dst=some d) :
  (∀ b,σ.get d=some (.v (.bool b))→yielded all a.tmps j=some b)∧(σ.get d=some .skip→yielded all a.tmps j=none) :=
 let ⟨_,_,_,_,h⟩:=h;yielded_of h hj
theorem vcOps_sound (hT:TOK P T) {r0:Option Nat} {n:Nat} {all:Array Oper}:∀ {ops:List Oper} {σ:St} {K:St→Prop} {a:Act} {w:World} {Q:Exit→Act→World→Prop},vcOps P T all ops σ K→RSX N0 base w0 σ a w→(∀ σ' a' w',K σ'→RSX N0 base w0 σ' a' w'→Q .normal a' w') →
  wpListIn (WR r0) n P all Q ops a w
 | [],σ,K,a,w,Q,h,hr,hK=>hK _ _ _ h hr
 | o :: r,σ,K,a,w,Q,h,hr,hK=>by
  refine wpListIn_step fun KK hKK=>?_
  unfold vcOps at h
  split at h
  ·rename_i hg
   simp only [Region.wanted,hg,if_true]
   exact sstep_sound hT h hr fun σ' a' w' h1 h2=>hKK _ _ (vcOps_sound hT h1 h2 hK)
  ·rename_i j want hg
   split at h
   ·exact h.elim
   ·rename_i d hj
    obtain ⟨y1,y2⟩:=yielded_ofX hr hj
    split at h
    ·rename_i b hb
     have hy:=y1 b hb
     replace h:(b=want→sstep P T (σ.after (some d) (.v (.bool want)) none) o fun σ'=>vcOps P T all r σ' K) ∧
      (b=!want→match dstOk σ o with
       | true=>vcOps P T all r ((σ.after (some d) (.v (.bool (!want))) none).after o.dst .skip none) K
       | false=>False):=by
      cases want with
      | true=>exact ifB_elim h
      | false=>exact ⟨(ifB_elim h).2,(ifB_elim h).1⟩
     by_cases hbw:b=want
     ·subst hbw
      simp only [Region.wanted,hg,hy,beq_self_eq_true,if_true]
      exact sstep_sound hT (h.1 rfl) (hr.map fun h=>h.learn hb rfl) fun σ' a' w' h1 h2=>hKK _ _ (vcOps_sound hT h1 h2 hK)
     ·have hbn:b=!want:=by cases b <;> cases want <;> simp_all
      have hw:Region.wanted o (yielded all a.tmps)=false:=by
       simp only [Region.wanted,hg,hy]
       simpa using hbw
      rw [hw]
      simp only [Bool.false_eq_true,if_false]
      have h2:=h.2 hbn
      split at h2
      ·rename_i hd
       exact ⟨fun _ _=>trivial,hKK _ _ (vcOps_sound hT h2 (hr.map fun h=>(h.learn hb hbn).skip hd) hK)⟩
      ·exact h2.elim
    ·rename_i hb
     have hw:Region.wanted o (yielded all a.tmps)=false:=by
      simp only [Region.wanted,hg,y2 hb]
      rfl
     rw [hw]
     simp only [Bool.false_eq_true,if_false]
     split at h
     ·rename_i hd
      exact ⟨fun _ _=>trivial,hKK _ _ (vcOps_sound hT h (hr.map fun h=>h.skip hd) hK)⟩
     ·exact h.elim
    ·exact h.elim
end
end Go.Sk
