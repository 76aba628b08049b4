/- A checker of Go functions by conditions over small pure states: part 9. -/
import Derived.Test.YtejljpjdifblpaaSk7
import Derived.Laws.IdiomCopy
import Derived.Test.YtejljpjdifblpaaSk5
set_option linter.unusedVariables false
set_option linter.unusedSimpArgs false
namespace Go.Sk
open Go.RowKit
section
variable {P:Program} {T:TypeId→Option TI} {N0:Nat→Prop} {base:Nat} {w0:W0} {σ:St} {a:Act} {w:World}
def dview (ob:Nat→Option AO):AV→Option (Nat × List AV × Nat × Nat)
 | .ref id=>match ob id with
  | some (.arr k xs)=>match k.beq 1 with
   | true=>some (id,xs,0,xs.length)
   | false=>none
  | _=>none
 | .sub id k q m=>match ob id with
  | some (.arr k' xs)=>match k.beq 1,k'.beq 1 with
   | true,true=>some (id,xs,q,m)
   | _,_=>none
  | _=>none
 | _=>none
def selems (ob:Nat→Option AO):AV→Option (List AV)
 | .sub id k q m=>match ob id with
  | some (.arr k' xs)=>match k.beq 1,k'.beq 1 with
   | true,true=>some ((xs.drop q).take m)
   | _,_=>none
  | _=>none
 | x=>elemsA ob x
def srcIn (ob:Nat→Option AO):AV→Prop
 | .sub id _ q m=>match ob id with
  | some (.arr _ xs)=>q+m≤xs.length
  | _=>True
 | _=>True
inductive CopyK (m:Nat) (ys:List AV) (K:Nat→Prop):Prop
 | mk (n:Nat) (h:n=min m ys.length) (k:K n)
def scopy (T:TypeId→Option TI) (σ:St) (o:Oper) (dT:TypeId) (d s:AV) (K:St→Prop):Prop :=
 match (T dT).map TI.desc,dview σ.obj d,selems σ.obj s with
 | some (TypeDesc.slice e),some (id,xs,q,m),some ys=>match T e with
  | none=>False
  | some ie=>if ie.size=1 then (∀ y,y∈ys→(cellsA y).length=1)∧q+m≤xs.length∧srcIn σ.obj s∧CopyK m ys fun n=>CalcL (xs.take q++ys.take n++xs.drop (q+n)) fun zs =>
    K ((σ.setObj id (.arr 1 zs)).after o.dst (.v (.int .i64 n)) none) else False
 | _,_,_=>False
theorem src_copy {N:Nat→Prop} {V:VV} {ob:Nat→Option AO} {s:AV} {ys:List AV} {v:Value} (hs:selems ob s=some ys) (hr:RepT N w V s v) (ho:∀ i u,ob i=some u→RepO N w V i u) (hk:∀ y,y∈ys→(cellsA y).length=1) (hin:∀ id k q m k' xs,s=.sub id k q m→ob id=some (.arr k' xs)→q+m≤xs.length) :
  ∃ sp c,v=.slice sp ys.length c∧(ys=[]∨∃ (b:Addr) (news:List Value),sp=some b∧news.length=ys.length∧(∀ j u,news[j]?=some u→w.cell? (b.add j)=some u)∧(∀ u∈news,u.oneCell'=true) ∧
   ∀ (i:Nat) (e:AV) (j:Nat) (c:AV),ys[i]?=some e→(cellsA e)[j]?=some c→j=0∧∃ u:Value,news[i]?=some u∧Rep N w c u):=by
 have plain:elemsA ob s=some ys→∃ sp c,v=.slice sp ys.length c∧(ys=[]∨∃ (b:Addr) (news:List Value),sp=some b∧news.length=ys.length∧(∀ j u,news[j]?=some u→w.cell? (b.add j)=some u)∧(∀ u∈news,u.oneCell'=true) ∧
   ∀ (i:Nat) (e:AV) (j:Nat) (c:AV),ys[i]?=some e→(cellsA e)[j]?=some c→j=0∧∃ u:Value,news[i]?=some u∧Rep N w c u):=fun h=>by
  obtain ⟨sp,c,h1,h2⟩:=src_values (k:=1) h hr ho (by omega) hk
  refine ⟨sp,c,h1,?_⟩
  rcases h2 with h2 | ⟨b,news,q1,q2,q3,q4,q5⟩
  ·exact .inl h2
  ·refine .inr ⟨b,news,q1,by omega,q3,q4,fun i e j c g1 g2=>?_⟩
   have hj:j < 1:=by rw [← hk e (List.mem_of_getElem? g1)];exact (List.getElem?_eq_some_iff.1 g2).1
   obtain rfl:j=0:=by omega
   obtain ⟨u,hu,hr⟩:=q5 i e 0 c g1 g2
   exact ⟨rfl,u,by rw [show i * 1+0=i by omega] at hu;exact hu,hr⟩
 unfold selems at hs
 split at hs
 ·rename_i id k q m
  split at hs
  ·rename_i k' xs hob
   split at hs
   ·rename_i hk1 hk2
    have hk1:=Nat.eq_of_beq_eq_true hk1
    have hk2:=Nat.eq_of_beq_eq_true hk2
    subst hk1 hk2
    injection hs with hs
    have hqm:=hin id 1 q m 1 xs rfl hob
    cases hr with
    | im h=>cases h
    | sub _ _ _ _ b o n c h1 hi =>
     rcases (ho id _ hob).2 with ⟨a',g1,g2⟩ | ⟨b',o',cap,arr,Ty,g1,g2,g3,g4,g5,g6,g7⟩
     ·rw [g1] at h1;injection h1 with _ _ h1;omega
     ·rw [g1] at h1
      simp only [Value.slice.injEq,Option.some.injEq,Addr.mk.injEq] at h1
      obtain ⟨⟨rfl,rfl,_⟩,rfl,rfl⟩:=h1
      have hlen:ys.length=m:=by rw [← hs];simp;omega
      obtain ⟨vs,v1,v2,v3,v4⟩:=Laid.values (N:=N) (w:=w) (k:=1) (xs:=xs) (o:=o') (arr:=arr) ⟨g6,g7⟩ (.inl (by omega))
      refine ⟨_,_,by rw [hlen],.inr ⟨_,(vs.drop q).take m,rfl,by simp;omega,fun j u hj=>?_,fun u hu=>v3 u (List.mem_of_mem_drop (List.mem_of_mem_take hu)),fun i e j c h1 h2=>?_⟩⟩
      ·rw [List.getElem?_take] at hj
       split at hj
       ·rw [List.getElem?_drop] at hj
        rw [Addr.add_lit,cell_of_row w b' _ arr Ty (0,0) g2,show o'+q * 1+j=o'+(q+j) by omega]
        exact v2 _ _ hj
       ·cases hj
      ·have hj:j < 1:=by rw [← hk e (List.mem_of_getElem? h1)];exact (List.getElem?_eq_some_iff.1 h2).1
       obtain rfl:j=0:=by omega
       rw [← hs,List.getElem?_take] at h1
       split at h1
       ·rename_i him
        rw [List.getElem?_drop] at h1
        obtain ⟨u,hu,hr⟩:=v4 (q+i) e 0 c h1 h2
        refine ⟨rfl,u,?_,hr⟩
        rw [List.getElem?_take,if_pos him,List.getElem?_drop]
        rw [show (q+i) * 1+0=q+i by omega] at hu
        exact hu
       ·cases h1
   ·cases hs
  ·cases hs
 ·exact plain hs
theorem scopy_step (hT:TOK P T) {o:Oper} {dT sT:TypeId} {x y:Operand} {d s:AV} {K:St→Prop} (ho:o.op=.call { callee:=.builtin .copy,args:=#[x,y],argTypes:=#[dT,sT] }) (hd:dstOk σ o=true) (hx:σ.eval x=some d) (hy:σ.eval y=some s)
  (h:scopy T σ o dT d s K) (hr:RS N0 base w0 σ a w) {next:Act→World→Prop} {Q:Exit→Act→World→Prop} (hK:∀ σ' a' w',K σ'→RS N0 base w0 σ' a' w'→next a' w'):o.wp P a w next Q:=by
 unfold scopy at h
 split at h
 ·rename_i e id xs q m ys hdsc hdv hsel
  split at h
  ·exact h.elim
  ·rename_i ie hie
   by_cases hs1:ie.size=1
   ·rw [if_pos hs1] at h
    obtain ⟨hks,hqm,hsi,n,hn,hKσ⟩:=h
    have hin:∀ id k q m k' xs,s=.sub id k q m→σ.obj id=some (.arr k' xs)→q+m≤xs.length:=fun id k q m k' xs h1 h2=>by
     subst h1
     simpa only [srcIn,h2] using hsi
    replace hKσ:=hKσ.elim
    obtain ⟨hp,V,hV⟩:=hr
    obtain ⟨hrx,hbx⟩:=eval_rep hV hx
    obtain ⟨hry,_⟩:=eval_rep hV hy
    obtain ⟨sp,sc,hyv,hsrc⟩:=src_copy hsel hry (fun i u hu=>hV.obs i u hu) hks hin
    have hsz:(P.info? e).map (·.size)=some 1:=by
     obtain ⟨info,h1,_,h3,_⟩:=hT e ie hie
     rw [h1];simp [h3,hs1]
    obtain ⟨hob,hxv⟩:σ.obj id=some (.arr 1 xs)∧((∃ a':Option Addr,a.eval x=.slice a' 0 0∧xs=[]∧m=0)∨∃ (b o' cap c:Nat) (arr:Array Value) (Ty:TypeId),V id=.slice (some ⟨b,o',none⟩) xs.length cap∧w.heap[b]?=some (.cells arr Ty (0,0))∧0 < cap∧xs.length≤cap∧o'+cap * 1≤arr.size ∧
      (∀ e,e∈xs→(cellsA e).length=1)∧(∀ (i:Nat) (e:AV) (j:Nat) (c:AV),xs[i]?=some e→(cellsA e)[j]?=some c→∃ u:Value,arr[o'+(i * 1+j)]?=some u∧Rep (Nf N0 base V σ.obj) w c u)∧a.eval x=.slice (some ⟨b,o'+q,none⟩) m c):=by
     unfold dview at hdv
     split at hdv
     ·rename_i id'
      split at hdv
      ·rename_i k xs' hob
       split at hdv
       ·rename_i hk
        have hk:=Nat.eq_of_beq_eq_true hk
        subst hk
        injection hdv with hdv
        simp only [Prod.mk.injEq] at hdv
        obtain ⟨rfl,rfl,rfl,rfl⟩:=hdv
        refine ⟨hob,?_⟩
        have hxe:a.eval x=V id':=by
         generalize a.eval x=v at hrx
         cases hrx with
         | im h=>cases h
         | ref _ h=>rfl
        rcases (hV.obs id' _ hob).2 with ⟨a',g1,g2⟩ | ⟨b',o',cap,arr,Ty,g1,g2,g3,g4,g5,g6,g7⟩
        ·exact .inl ⟨a',by rw [hxe,g1],g2,by rw [g2];rfl⟩
        ·exact .inr ⟨b',o',cap,cap,arr,Ty,g1,g2,g3,g4,g5,g6,g7,by rw [hxe,g1];rfl⟩
       ·cases hdv
      ·cases hdv
     ·rename_i id' k q' m'
      split at hdv
      ·rename_i k' xs' hob
       split at hdv
       ·rename_i hk1 hk2
        have hk1:=Nat.eq_of_beq_eq_true hk1
        have hk2:=Nat.eq_of_beq_eq_true hk2
        subst hk1 hk2
        injection hdv with hdv
        simp only [Prod.mk.injEq] at hdv
        obtain ⟨rfl,rfl,rfl,rfl⟩:=hdv
        refine ⟨hob,.inr ?_⟩
        generalize a.eval x=v at hrx
        cases hrx with
        | im h=>cases h
        | sub _ _ _ _ b o n c h1 hi =>
         rcases (hV.obs id' _ hob).2 with ⟨a',g1,g2⟩ | ⟨b',o',cap,arr,Ty,g1,g2,g3,g4,g5,g6,g7⟩
         ·rw [g1] at h1;injection h1 with _ _ h1;omega
         ·rw [g1] at h1
          simp only [Value.slice.injEq,Option.some.injEq,Addr.mk.injEq] at h1
          obtain ⟨⟨rfl,rfl,_⟩,rfl,rfl⟩:=h1
          exact ⟨b',o',cap,_,arr,Ty,g1,g2,g3,g4,g5,g6,g7,by rw [Nat.mul_one]⟩
       ·cases hdv
      ·cases hdv
     ·cases hdv
    have fin:∀ {w':World},(Builtin.copy_ #[dT,sT] o.type #[a.eval x,a.eval y]).run P w=.ok (goInt n) w'→Rel N0 base w0 σ.size V σ.get (updO σ.obj id (.arr 1 (xs.take q++ys.take n++xs.drop (q+n)))) (fun i=>i < σ.next) a w'→o.wp P a w next Q:=fun {w'} hrun hnew=>by
     have hex:(execOp a.eval o).run P w=.ok (.value (goInt n)) w':=by
      simp [execOp,ho,resolve,invoke,builtin,hrun]
     unfold Oper.wp
     rw [hex]
     refine hK _ _ _ hKσ ⟨hp,V,?_⟩
     rw [St.get_after,St.obj_after,St.next_after,St.obj_setObj]
     exact hnew.put (dstOk_spec hd) (.im (.v _ rfl)) trivial
    by_cases hn0:n=0
    ·have hrun:=run_copy_none (P:=P) w dT sT o.type e
     have hself:xs.take q++ys.take n++xs.drop (q+n)=xs:=by rw [hn0];simp
     rw [hself] at fin
     have hsame:Rel N0 base w0 σ.size V σ.get (updO σ.obj id (.arr 1 xs)) (fun i=>i < σ.next) a w:=by
      have:updO σ.obj id (.arr 1 xs)=σ.obj:=by
       funext i
       unfold updO
       split
       ·rename_i hi;rw [hi,hob]
       ·rfl
      rw [this];exact hV
     have hmin:Nat.min ys.length m=0:=by
      have hc:=Nat.min_comm m ys.length
      show min ys.length m=0
      rw [← hc,← hn,hn0]
     refine fin (w':=w) ?_ hsame
     rw [hn0,hyv]
     rcases hxv with ⟨a',h1,h2,h3⟩ | ⟨b,o',cap,c,arr,Ty,g1,g2,g3,g4,g5,g6,g7,g8⟩
     ·rw [h1]
      exact hrun a' sp 0 0 ys.length sc (under_of hT hdsc) hsz (by rw [h3] at hmin;exact hmin)
     ·rw [g8]
      exact hrun _ sp m c ys.length sc (under_of hT hdsc) hsz hmin
    ·rcases hxv with ⟨a',h1,h2,h3⟩ | ⟨b,o',cap,c,arr,Ty,g1,g2,g3,g4,g5,g6,g7,g8⟩
     ·omega
     rcases hsrc with h | ⟨ad,news,rfl,s1,s2,s3,s4⟩
     ·rw [h] at hn;simp at hn;omega
     have hcs:(news.take n).length=n:=by simp;omega
     have hrun:=run_copy_row (P:=P) w dT sT o.type e b (o'+q) m c ad ys.length sc arr Ty (news.take n) (under_of hT hdsc) hsz g2 (by rw [hcs,hn];exact Nat.min_comm _ _)
      (fun j v hj=>by
       rw [List.getElem?_take] at hj
       split at hj
       ·exact s2 j v hj
       ·cases hj) (by rw [hcs];omega) (fun v hv=>s3 v (List.mem_of_mem_take hv))
     rw [hcs] at hrun
     generalize hzs:xs.take q++ys.take n++xs.drop (q+n)=zs at *
     have hzlen:zs.length=xs.length:=by rw [← hzs];simp;omega
     have hlive:live σ.obj id:=⟨_,hob,rfl⟩
     obtain ⟨h0,_⟩:=hV.obs id _ hob
     have hbk:V.f id b:=(h0 b).2 (by rw [g1];simp [bl,blk];omega)
     refine fin (by rw [g8,hyv];exact hrun) ?_
     have hNf:∀ b',Nf N0 base V σ.obj b'→b' < w.heap.size→Nf N0 base V (updO σ.obj id (.arr 1 zs)) b' ∧
       (w.setRow b (arr.toList.take (o'+q)++news.take n++arr.toList.drop (o'+q+n)).toArray).heap[b']?=w.heap[b']?:=fun b' hN _ =>
      ⟨⟨hN.1,fun i' hl=>by
       rcases live_updO hl with ⟨rfl,_⟩ | ⟨_,hl⟩
       ·exact hN.2 _ hlive
       ·exact hN.2 i' hl⟩,setRow_other w b b' _ (fun e=>hN.2 id hlive (e ▸ hbk))⟩
     refine hV.turn (o':=.arr 1 zs) hob rfl (by rw [setRow_size];exact Nat.le_refl _) (fun b' _ hne=>setRow_other w b b' _ (fun e=>hne (e ▸ hbk))) rfl rfl (.same rfl rfl) ?_ trivial
     have hmem:∀ z,z∈zs→(cellsA z).length=1:=fun z hz=>by
      rw [← hzs] at hz
      rcases List.mem_append.1 hz with h | h
      ·rcases List.mem_append.1 h with h | h
       ·exact g6 z (List.mem_of_mem_take h)
       ·exact hks z (List.mem_of_mem_take h)
      ·exact g6 z (List.mem_of_mem_drop h)
     refine ⟨h0,.inr ⟨b,o',cap,_,Ty,by rw [hzlen];exact g1,setRow_heap w b arr _ Ty _ g2,g3,by rw [hzlen];exact g4,by simp;omega,hmem,fun i z j cc hi hj=>?_⟩⟩
     have hj1:j < 1:=by rw [← hmem z (List.mem_of_getElem? hi)];exact (List.getElem?_eq_some_iff.1 hj).1
     obtain rfl:j=0:=by omega
     simp only [List.getElem?_toArray]
     have hspl:=splice_get (l:=arr.toList) (vs:=news.take n) (off:=o'+q) (by rw [hcs];simp;omega) (o'+(i * 1+0))
     rw [hcs] at hspl
     rw [hspl]
     rw [← hzs,List.append_assoc,List.getElem?_append] at hi
     split at hi
     ·rename_i hlt
      have hq:i < q:=by simp at hlt;omega
      rw [if_neg (by omega)]
      rw [List.getElem?_take,if_pos hq] at hi
      obtain ⟨u,hu,hr⟩:=g7 i z 0 cc hi hj
      exact ⟨u,by simpa using hu,hr.mono hNf⟩
     ·rename_i hlt
      have hlq:(xs.take q).length=q:=by simp;omega
      rw [hlq] at hi hlt
      rw [List.getElem?_append] at hi
      split at hi
      ·rename_i hlt2
       have hin2:i - q < n:=by simp at hlt2;omega
       rw [List.getElem?_take,if_pos hin2] at hi
       obtain ⟨_,u,hu,hr⟩:=s4 (i - q) z 0 cc hi hj
       rw [if_pos ⟨by omega,by omega⟩,show o'+(i * 1+0) - (o'+q)=i - q by omega]
       exact ⟨u,by rw [List.getElem?_take,if_pos hin2];exact hu,hr.mono hNf⟩
      ·rename_i hlt2
       have hyl:(ys.take n).length=n:=by simp;omega
       rw [hyl] at hi hlt2
       rw [List.getElem?_drop,show q+n+(i - q - n)=i by omega] at hi
       rw [if_neg (by omega)]
       obtain ⟨u,hu,hr⟩:=g7 i z 0 cc hi hj
       exact ⟨u,by simpa using hu,hr.mono hNf⟩
   ·rw [if_neg hs1] at h;exact h.elim
 ·exact h.elim
end
end Go.Sk
namespace Go.Sk
open Go.RowKit
section
variable {P:Program} {T:TypeId→Option TI} {N0:Nat→Prop} {base:Nat} {w0:W0} {σ:St} {a:Act} {w:World}
inductive NilK (xs:List AV) (e:Bool) (K:Bool→Prop):Prop
 | mk (h0:xs=[]→K e) (h1:K (!e))
def isEql:BinOp→Option Bool
 | .eql=>some true
 | .neq=>some false
 | _=>none
def nilLit:Operand→Option Bool
 | .const (.slice none _ _)=>some true
 | .const .nilFunc=>some false
 | _=>none
def nilOp (op:BinOp) (y:Operand):Option (Bool × Bool) :=
 match isEql op,nilLit y with
 | some e,some s=>some (e,s)
 | _,_=>none
def snil (T:TypeId→Option TI) (σ:St) (o:Oper) (e s:Bool) (t:TypeId) (x:Operand) (K:St→Prop):Prop :=
 kx σ.eval x fun xv=>match s,(T t).map TI.desc with
  | true,some (TypeDesc.slice _)=>match elemsA σ.obj xv with
   | some xs=>NilK xs e fun b=>K (σ.after o.dst (.v (.bool b)) none)
   | none=>False
  | false,some (TypeDesc.func _ _ _)=>match xv with
   | .v .nilFunc=>K (σ.after o.dst (.v (.bool e)) none)
   | .v (.func _ _ _)=>K (σ.after o.dst (.v (.bool (!e))) none)
   | .fn _ _ _=>K (σ.after o.dst (.v (.bool (!e))) none)
   | _=>False
  | _,_=>False
theorem snil_step (hT:TOK P T) {o:Oper} {op:BinOp} {t t':TypeId} {x y:Operand} {e s:Bool} {K:St→Prop} (ho:o.op=.binOp op t x y t') (hn:nilOp op y=some (e,s)) (hd:dstOk σ o=true) (h:snil T σ o e s t x K) (hr:RS N0 base w0 σ a w)
  {next:Act→World→Prop} {Q:Exit→Act→World→Prop} (hK:∀ σ' a' w',K σ'→RS N0 base w0 σ' a' w'→next a' w'):o.wp P a w next Q:=by
 have hh:=kx_iff h
 clear h
 obtain ⟨xv,hx,h⟩:=hh
 obtain ⟨hp,V,hV⟩:=hr
 have hrx:=(eval_rep hV hx).1
 obtain ⟨he,hl⟩:isEql op=some e∧nilLit y=some s:=by
  unfold nilOp at hn
  split at hn
  ·rename_i h1 h2
   injection hn with hn
   injection hn with hn1 hn2
   subst hn1 hn2
   exact ⟨h1,h2⟩
  ·cases hn
 have hop:(op=.eql∧e=true)∨(op=.neq∧e=false):=by
  unfold isEql at he
  split at he
  ·injection he with he;exact .inl ⟨rfl,he.symm⟩
  ·injection he with he;exact .inr ⟨rfl,he.symm⟩
  ·cases he
 have fin:∀ {b:Bool},K (σ.after o.dst (.v (.bool b)) none)→(execOp a.eval o).run P w=.ok (.value (.bool b)) w→o.wp P a w next Q:=fun {b} hKb hrun=>by
  unfold Oper.wp
  rw [hrun]
  refine hK _ _ _ hKb ⟨hp,V,?_⟩
  rw [St.get_after,St.obj_after,St.next_after]
  exact hV.put (dstOk_spec hd) (.im (.v _ rfl)) trivial
 have eq:∀ {u v:Value} {d:TypeDesc} {q:Bool},P.underlying t=some d→(∀ n,(Op.equalIn (n+1) t u v).run P w=.ok q w)→(Op.equal t u v).run P w=.ok q w:=fun {u v d q} _ h=>by
  unfold Op.equal
  rw [show Op.maxDepth=9999+1 from rfl]
  exact h _
 split at h
 ·rename_i e' hdsc
  have hu:=under_of hT hdsc
  have hy:∃ n' c',a.eval y=.slice none n' c':=by
   unfold nilLit at hl
   split at hl
   ·exact ⟨_,_,rfl⟩
   ·cases hl
   ·cases hl
  obtain ⟨n',c',hy⟩:=hy
  split at h
  ·rename_i xs hxs
   obtain ⟨h0,h1⟩:=h
   obtain ⟨p,c,hv⟩:=elemsA_len hxs hrx (fun i u hu=>hV.obs i u hu)
   have hq:(Op.equal t (.slice p xs.length c) (.slice none n' c')).run P w=.ok p.isNone w:=eq hu fun n=>by
    unfold Op.equalIn
    rw [Sem.run_bind,run_underlying hu]
    cases p <;> rfl
   have hrun:(execOp a.eval o).run P w=.ok (.value (.bool (if e then p.isNone else !p.isNone))) w:=by
    simp only [execOp,ho,hv,hy]
    rcases hop with ⟨rfl,rfl⟩ | ⟨rfl,rfl⟩
    ·rw [Sem.run_bind,Sem.run_bind,show (eqGuard BinOp.eql t x y (.slice p xs.length c) (.slice none n' c')).run P w=.ok () w from rfl]
     simp only [Result.andThen_ok,binOp,Sem.run_bind,hq,Sem.run_pure];rfl
    ·rw [Sem.run_bind,Sem.run_bind,show (eqGuard BinOp.neq t x y (.slice p xs.length c) (.slice none n' c')).run P w=.ok () w from rfl]
     simp only [Result.andThen_ok,binOp,Sem.run_bind,hq,Sem.run_pure];rfl
   cases hpn:p.isNone with
   | false =>
    refine fin h1 ?_
    rw [hrun,hpn]
    cases e <;> rfl
   | true =>
    by_cases hxe:xs=[]
    ·refine fin (h0 hxe) ?_
     rw [hrun,hpn]
     cases e <;> rfl
    ·exfalso
     have hp0:p=none:=by cases p <;> simp_all
     subst hp0
     have hpos:0 < xs.length:=by cases xs with | nil=>exact absurd rfl hxe | cons _ _=>simp
     have nilRep:∀ {ys:List AV} {v:Value},Rep (Nf N0 base V σ.obj) w (.sl ys) v→v=.slice none xs.length c→False:=fun hr hv=>by
      cases hr with
      | nil a c=>injection hv with _ h _;omega
      | sl=>injection hv with h;cases h
     unfold elemsA at hxs
     split at hxs
     ·cases hrx with
      | im hr=>exact nilRep hr hv
     ·injection hxs with hxs;subst hxs;simp at hpos
     ·rename_i id
      have hvid:a.eval x=V id:=by
       generalize a.eval x=v at hrx
       cases hrx with
       | im h=>cases h
       | ref _ h=>rfl
      rw [hvid] at hv
      split at hxs
      ·rename_i k' ys hob
       injection hxs with hxs;subst hxs
       rcases (hV.obs id _ hob).2 with ⟨a',g1,g2⟩ | ⟨b',o',cap,arr,Ty,g1,_⟩
       ·subst g2;simp at hpos
       ·rw [g1] at hv;injection hv with h;cases h
      ·rename_i ys hob
       injection hxs with hxs;subst hxs
       exact nilRep (hV.obs id _ hob) hv
      ·cases hxs
     ·cases hxs
  ·exact h.elim
 ·rename_i hdsc
  have hu:=under_of hT hdsc
  have hy:a.eval y=.nilFunc:=by
   unfold nilLit at hl
   split at hl
   ·cases hl
   ·rfl
   ·cases hl
  have go:∀ {u:Value} {q:Bool},a.eval x=u→(u=.nilFunc∧q=true∨(∃ f fs cs,u=.func f fs cs)∧q=false)→(execOp a.eval o).run P w=.ok (.value (.bool (if e then q else !q))) w:=fun {u q} hv huq=>by
   have hq:(Op.equal t u .nilFunc).run P w=.ok q w:=eq hu fun n=>by
    unfold Op.equalIn
    rw [Sem.run_bind,run_underlying hu]
    rcases huq with ⟨rfl,rfl⟩ | ⟨⟨f,fs,cs,rfl⟩,rfl⟩ <;> rfl
   have hg:∀ op',(eqGuard op' t x y u .nilFunc).run P w=.ok () w:=fun op'=>by
    rcases huq with ⟨rfl,rfl⟩ | ⟨⟨f,fs,cs,rfl⟩,rfl⟩ <;> cases op' <;> rfl
   simp only [execOp,ho,hv,hy]
   rw [Sem.run_bind,Sem.run_bind,hg]
   rcases huq with ⟨rfl,rfl⟩ | ⟨⟨f,fs,cs,rfl⟩,rfl⟩ <;> rcases hop with ⟨rfl,rfl⟩ | ⟨rfl,rfl⟩ <;>
    (simp only [Result.andThen_ok,binOp,Sem.run_bind,hq,Sem.run_pure];rfl)
  split at h
  ·refine fin h ?_
   rw [go (eval_v hrx) (.inl ⟨rfl,rfl⟩)]
   cases e <;> rfl
  ·refine fin h ?_
   rw [go (eval_v hrx) (.inr ⟨⟨_,_,_,rfl⟩,rfl⟩)]
   cases e <;> rfl
  ·obtain ⟨f,fs,cs,hv⟩:∃ f fs cs,a.eval x=.func f fs cs:=by
    generalize a.eval x=v at hrx
    cases hrx with
    | im h=>cases h
    | fn=>exact ⟨_,_,_,rfl⟩
   refine fin h ?_
   rw [go hv (.inr ⟨⟨_,_,_,rfl⟩,rfl⟩)]
   cases e <;> rfl
  ·exact h.elim
 ·exact h.elim
end
end Go.Sk
namespace Go.Sk
open Go.RowKit
inductive Src where
 | obj (i:Nat)
 | tmp (t:Nat)
 | cell (i j:Nat)
 deriving DecidableEq
def notSrc (i:Nat):List Src→Bool
 | []=>true
 | .obj k :: r=>(k != i) && notSrc i r
 | _ :: r=>notSrc i r
def distinct:List Src→Bool
 | []=>true
 | .obj k :: r=>notSrc k r && distinct r
 | _ :: r=>distinct r
def fixB (ss:List Src):List Nat→Bool
 | []=>true
 | i :: r=>(match ss[i]? with | some (.obj k)=>k.beq i | _=>false) && fixB ss r
theorem fixB_spec {ss:List Src}:∀ {ids:List Nat},fixB ss ids=true→∀ i,i∈ids→ss[i]?=some (.obj i)
 | [],_,i,h=>by cases h
 | k :: r,h,i,hi=>by
  simp only [fixB,Bool.and_eq_true] at h
  rcases List.mem_cons.1 hi with rfl | hi
  ·have h1:=h.1
   split at h1
   ·rename_i k' hk
    rw [hk,Nat.eq_of_beq_eq_true h1]
   ·cases h1
  ·exact fixB_spec h.2 i hi
def pubC:AV→Option AV
 | .own _ ys=>some (.sl ys)
 | .sl xs=>some (.sl xs)
 | .v x=>if x.oneCell' then some (.v x) else none
 | .nils=>some (.sl [])
 | _=>none
def pubCL:List AV→Option (List AV)
 | []=>some []
 | x :: r=>match pubC x,pubCL r with | some y,some s=>some (y :: s) | _,_=>none
def pubE:AV→Option AV
 | .ag cs=>(pubCL cs).map .ag
 | x=>pubC x
def PubL (xs ys:List AV):Prop:=xs.length=ys.length∧∀ (i:Nat) (e e':AV),xs[i]?=some e→ys[i]?=some e'→pubE e=some e'
theorem pubC_repT {N:Nat→Prop} {w:World} {V:VV} {c c':AV} {u:Value} (h:pubC c=some c') (hr:RepT N w V c u):Rep N w c' u:=by
 unfold pubC at h
 split at h
 ·cases hr with
  | im h=>cases h
 ·injection h with h;subst h
  cases hr with
  | im h=>exact h
 ·split at h
  ·injection h with h;subst h
   cases hr with
   | im h=>exact h
  ·cases h
 ·injection h with h;subst h
  cases hr with
  | im h=>cases h
  | nils a=>exact .nil a 0
 ·cases h
theorem pubCL_at:∀ {xs ys:List AV},pubCL xs=some ys→∀ (j:Nat) (c':AV),ys[j]?=some c'→∃ c,xs[j]?=some c∧pubC c=some c'
 | [],ys,h,j,c',hc=>by
  simp [pubCL] at h
  subst h
  simp at hc
 | x :: r,ys,h,j,c',hc=>by
  unfold pubCL at h
  split at h
  ·rename_i y s h1 h2
   injection h with h;subst h
   cases j with
   | zero=>simp at hc;subst hc;exact ⟨x,by simp,h1⟩
   | succ j=>simpa using pubCL_at h2 j c' (by simpa using hc)
  ·cases h
def plainC:AV→Bool
 | .v _ | .sl _=>true
 | _=>false
def plainL:List AV→Bool
 | []=>true
 | x :: r=>match plainC x with
  | true=>plainL r
  | false=>false
theorem plainL_bd {A:Nat→Prop}:∀ {xs:List AV},plainL xs=true→bdL A xs
 | [],_=>by unfold bdL;trivial
 | x :: r,h=>by
  unfold plainL at h
  split at h
  ·rename_i hx
   unfold bdL
   refine ⟨?_,plainL_bd h⟩
   cases x <;> simp [plainC] at hx <;> (unfold bd;trivial)
  ·cases h
def leC0 (σ:St) (ss:List Src) (here:Option Src) (y x:AV):Prop :=
 match y,x with
 | _,.undef=>True
 | .ref i,.ref i'=>ss[i']?=some (.obj i)
 | .ref i,.sl xs=>match σ.obj i with
  | some (.arr _ ys)=>ys=xs∧notSrc i ss=true
  | some (.tre _ ys)=>PubL ys xs∧notSrc i ss=true
  | some (.pub ys)=>ys=xs
  | _=>False
 | .nils,.sl xs=>xs=[]
 | .nils,.ref i'=>match here with
  | some h=>ss[i']?=some h
  | none=>False
 | .nils,.nils=>True
 | .ptr i j,.ptr i' j'=>ss[i']?=some (.obj i)∧j=j'
 | .ptr i j,.pel cs'=>match σ.obj i with
  | some (.box cs)=>pubCL (cs.drop j)=some cs'∧notSrc i ss=true
  | _=>False
 | .pel xs,.pel ys=>xs=ys
 | .sub i k q m,.sub i' k' q' m'=>ss[i']?=some (.obj i)∧(k=k'∧q=q'∧m=m')
 | .v a,.v b=>a=b
 | .sl xs,.sl ys=>xs=ys
 | .skip,.skip=>True
 | .ag xs,.ag ys=>xs=ys∧plainL xs=true
 | _,_=>False
def leL0 (σ:St) (ss:List Src):List AV→List AV→Prop
 | [],[]=>True
 | y :: ys,x :: xs=>leC0 σ ss none y x∧leL0 σ ss ys xs
 | _,_=>False
def leC (σ:St) (ss:List Src) (here:Option Src) (y x:AV):Prop :=
 match y,x with
 | .fn f fs cs,.fn f' fs' cs'=>f=f'∧leL0 σ ss fs fs'∧leL0 σ ss cs cs'
 | y,x=>leC0 σ ss here y x
def leL (σ:St) (ss:List Src):List AV→List AV→Prop
 | [],[]=>True
 | y :: ys,x :: xs=>leC σ ss none y x∧leL σ ss ys xs
 | _,_=>False
def leV1 (σ:St) (ss:List Src) (here:Option Src) (y x:AV):Prop :=
 match y,x with
 | .ag ys,.ag xs=>leL σ ss ys xs
 | y,x=>leC σ ss here y x
def leL1 (σ:St) (ss:List Src):List AV→List AV→Prop
 | [],[]=>True
 | y :: ys,x :: xs=>leV1 σ ss none y x∧leL1 σ ss ys xs
 | _,_=>False
def leV (σ:St) (ss:List Src) (here:Option Src) (y x:AV):Prop :=
 match y,x with
 | .tup ys,.tup xs=>leL1 σ ss ys xs
 | y,x=>leV1 σ ss here y x
def leT (σ:St) (ss:List Src):List (Nat × AV)→Prop
 | []=>True
 | (t,x) :: r=>(match σ.get t with | some y=>leV σ ss (some (.tmp t)) y x | none=>x=.undef)∧leT σ ss r
def leB (σ:St) (ss:List Src) (i:Nat):Nat→List AV→List AV→Prop
 | _,[],[]=>True
 | j,y :: ys,x :: xs=>leC σ ss (some (.cell i j)) y x∧leB σ ss i (j+1) ys xs
 | _,_,_=>False
def leW (ss:List Src) (y x:AV):Prop :=
 match y,x with
 | .own k ys,.own k' ys'=>k=k'∧ys=ys'
 | .ref i,.ref i'=>ss[i']?=some (.obj i)
 | .sl a,.sl b=>a=b
 | .v a,.v b=>a=b
 | _,_=>False
def leWL (ss:List Src):List AV→List AV→Prop
 | [],[]=>True
 | y :: ys,x :: xs=>leW ss y x∧leWL ss ys xs
 | _,_=>False
def leR (ss:List Src):List AV→List AV→Prop
 | [],[]=>True
 | y :: ys,x :: xs=>leWL ss (cellsA y) (cellsA x)∧leR ss ys xs
 | _,_=>False
theorem leWL_get {ss:List Src}:∀ {ys xs:List AV},leWL ss ys xs→ys.length=xs.length∧∀ (j:Nat) (y x:AV),ys[j]?=some y→xs[j]?=some x→leW ss y x
 | [],[],_=>⟨rfl,fun j y x h=>by simp at h⟩
 | y :: ys,x :: xs,h=>by
  obtain ⟨h1,h2⟩:=leWL_get h.2
  refine ⟨by simp [h1],fun j z u hz hu=>?_⟩
  cases j with
  | zero=>simp at hz hu;subst hz;subst hu;exact h.1
  | succ j=>exact h2 j z u (by simpa using hz) (by simpa using hu)
 | [],_ :: _,h=>h.elim
 | _ :: _,[],h=>h.elim
theorem leR_get {ss:List Src}:∀ {ys xs:List AV},leR ss ys xs→ys.length=xs.length∧∀ (j:Nat) (y x:AV),ys[j]?=some y→xs[j]?=some x→leWL ss (cellsA y) (cellsA x)
 | [],[],_=>⟨rfl,fun j y x h=>by simp at h⟩
 | y :: ys,x :: xs,h=>by
  obtain ⟨h1,h2⟩:=leR_get h.2
  refine ⟨by simp [h1],fun j z u hz hu=>?_⟩
  cases j with
  | zero=>simp at hz hu;subst hz;subst hu;exact h.1
  | succ j=>exact h2 j z u (by simpa using hz) (by simpa using hu)
 | [],_ :: _,h=>h.elim
 | _ :: _,[],h=>h.elim
def leO (σ:St) (ss:List Src) (s:Src) (o:AO):Prop :=
 match s with
 | .obj i=>match σ.obj i,o with
  | some (.arr k xs),.arr k' xs'=>k=k'∧xs=xs'
  | some (.arr _ xs),.pub xs'=>xs=xs'
  | some (.tre k xs),.tre k' xs'=>match k.beq 1 with
   | true=>AltR (k=k'∧leR ss xs xs') (k=k'∧xs=xs'∧bdO (fun _=>False) (.tre k xs))
   | false=>k=k'∧leR ss xs xs'
  | some (.tre _ xs),.pub xs'=>PubL xs xs'
  | _,.dead=>True
  | some (.pub xs),.pub xs'=>xs=xs'
  | some (.box cs),.box ds=>leB σ ss i 0 cs ds
  | some (.gh G),.gh G'=>G=G'
  | some (.mp d ks xs),.mp d' ks' xs'=>d=d'∧ks=ks'∧xs=xs'
  | _,_=>False
 | .tmp t=>match σ.get t,o with
  | some .nils,.arr _ xs=>xs=[]
  | some .nils,.tre _ xs=>xs=[]
  | _,_=>False
 | .cell i j=>match σ.obj i,o with
  | some (.box cs),.arr _ xs=>cs[j]?=some .nils∧xs=[]
  | some (.box cs),.tre _ xs=>cs[j]?=some .nils∧xs=[]
  | _,_=>False
def leOs (σ:St) (ss:List Src):List (Nat × AO)→Prop
 | []=>True
 | (i,o) :: r=>(match ss[i]? with | some s=>leO σ ss s o | none=>False)∧leOs σ ss r
def LeS (σ:St) (ss:List Src) (τ:St):Prop:=(distinct ss && fixB ss σ.par)=true∧(τ.size,τ.par)=(σ.size,σ.par)∧τ.next=ss.length∧leT σ ss τ.tmps∧leOs σ ss τ.objs
def Le (σ τ:St):Prop:=∃ ss,LeS σ ss τ
def valAt (V:VV) (a:Act) (w:World):Src→Value
 | .obj i=>V i
 | .tmp t=>a.tmps.getD t Go.undef
 | .cell i j=>match V i with
  | .pointer (some p)=>(w.cell? ⟨p.block,p.off+j,none⟩).getD Go.undef
  | _=>Go.undef
def newV (V:VV) (a:Act) (w:World) (ss:List Src):VV :=
 ⟨fun i=>match ss[i]? with
  | some s=>valAt V a w s
  | none=>.nilFunc,fun i=>match ss[i]? with
  | some (.obj k)=>V.f k
  | _=>fun _=>False⟩
theorem notSrc_spec {i:Nat}:∀ {ss:List Src},notSrc i ss=true→∀ j:Nat,ss[j]?≠some (.obj i)
 | [],_,j,h=>by simp at h
 | s :: r,hn,j,h=>by
  cases j with
  | zero =>
   simp at h;subst h
   simp [notSrc] at hn
  | succ j =>
   refine notSrc_spec (ss:=r) ?_ j (by simpa using h)
   cases s <;> simp_all [notSrc]
theorem distinct_spec:∀ {ss:List Src},distinct ss=true→∀ {i j k:Nat},ss[i]?=some (.obj k)→ss[j]?=some (.obj k)→i=j
 | [],_,i,j,k,h1,_=>by simp at h1
 | s :: r,hd,i,j,k,h1,h2=>by
  have hr:distinct r=true:=by cases s <;> simp_all [distinct]
  cases i with
  | zero=>cases j with
   | zero=>rfl
   | succ j =>
    simp at h1;subst h1
    simp only [distinct,Bool.and_eq_true] at hd
    exact absurd (by simpa using h2) (notSrc_spec hd.1 j)
  | succ i=>cases j with
   | zero =>
    simp at h2;subst h2
    simp only [distinct,Bool.and_eq_true] at hd
    exact absurd (by simpa using h1) (notSrc_spec hd.1 i)
   | succ j=>exact congrArg (·+1) (distinct_spec hr (i:=i) (j:=j) (k:=k) (by simpa using h1) (by simpa using h2))
section
variable {N0:Nat→Prop} {base:Nat} {w0:W0} {σ τ:St} {a:Act} {w:World} {ss:List Src} {V:VV}
theorem look_mem {α:Type}:∀ {l:List (Nat × α)} {t:Nat} {x:α},look l t=some x→(t,x)∈l
 | [],t,x,h=>by simp [look] at h
 | (t',y) :: r,t,x,h=>by
  unfold look at h
  split at h
  ·injection h with h;subst h;rename_i e;subst e;simp
  ·exact List.mem_cons_of_mem _ (look_mem h)
theorem leT_get:∀ {l:List (Nat × AV)},leT σ ss l→∀ t x,(t,x)∈l→(∃ y,σ.get t=some y∧leV σ ss (some (.tmp t)) y x)∨x=.undef
 | [],_,t,x,h=>by simp at h
 | (t',y) :: r,hl,t,x,h=>by
  unfold leT at hl
  rcases List.mem_cons.1 h with h | h
  ·injection h with h1 h2
   subst h1;subst h2
   obtain ⟨hl,_⟩:=hl
   split at hl
   ·exact .inl ⟨_,by assumption,hl⟩
   ·exact .inr hl
  ·exact leT_get hl.2 t x h
theorem leOs_get:∀ {l:List (Nat × AO)},leOs σ ss l→∀ i o,(i,o)∈l→∃ s,ss[i]?=some s∧leO σ ss s o
 | [],_,i,o,h=>by simp at h
 | (i',o') :: r,hl,i,o,h=>by
  unfold leOs at hl
  rcases List.mem_cons.1 h with h | h
  ·injection h with h1 h2
   subst h1;subst h2
   obtain ⟨hl,_⟩:=hl
   split at hl
   ·exact ⟨_,by assumption,hl⟩
   ·exact hl.elim
  ·exact leOs_get hl.2 i o h
theorem leL0_get:∀ {ys xs:List AV},leL0 σ ss ys xs→ys.length=xs.length∧∀ (j:Nat) (h1:j < ys.length) (h2:j < xs.length),leC0 σ ss none ys[j] xs[j]
 | [],[],h=>⟨rfl,fun j h1=>by simp at h1⟩
 | y :: ys,x :: xs,h=>by
  obtain ⟨h1,h2⟩:=leL0_get (ys:=ys) (xs:=xs) h.2
  refine ⟨by simp [h1],fun j h3 h4=>?_⟩
  cases j with
  | zero=>exact h.1
  | succ j=>exact h2 j (Nat.lt_of_succ_lt_succ h3) (Nat.lt_of_succ_lt_succ h4)
 | [],_ :: _,h=>by simp [leL0] at h
 | _ :: _,[],h=>by simp [leL0] at h
theorem pubCL_get:∀ {cs ds:List AV},pubCL cs=some ds→cs.length=ds.length∧∀ (j:Nat) (c d:AV),cs[j]?=some c→ds[j]?=some d→pubC c=some d
 | [],ds,h=>by simp [pubCL] at h;subst h;exact ⟨rfl,fun j c d h1=>by simp at h1⟩
 | x :: r,ds,h=>by
  simp only [pubCL] at h
  split at h
  ·rename_i y s h1 h2
   injection h with h;subst h
   obtain ⟨i1,i2⟩:=pubCL_get h2
   refine ⟨by simp [i1],fun j c d h3 h4=>?_⟩
   cases j with
   | zero=>simp at h3 h4;subst h3;subst h4;exact h1
   | succ j=>exact i2 j c d (by simpa using h3) (by simpa using h4)
  ·cases h
theorem pubE_get {e e':AV} (h:pubE e=some e'):(cellsA e).length=(cellsA e').length∧∀ (j:Nat) (c d:AV),(cellsA e)[j]?=some c→(cellsA e')[j]?=some d→pubC c=some d:=by
 unfold pubE at h
 split at h
 ·rename_i cs
  cases hl:pubCL cs with
  | none=>simp [hl] at h
  | some ds=>simp [hl] at h;subst h;exact pubCL_get hl
 ·rename_i hne
  have h1:cellsA e=[e]:=by cases e <;> first | rfl | exact absurd rfl (hne _)
  have h2:cellsA e'=[e']:=by
   unfold pubC at h
   split at h <;> (try split at h) <;> first | (cases h;done) | (cases h;rfl)
  rw [h1,h2]
  refine ⟨rfl,fun j c d q1 q2=>?_⟩
  cases j with
  | zero=>simp at q1 q2;subst q1;subst q2;exact h
  | succ j=>simp at q1
theorem pubC_rep {N N':Nat→Prop} {g:Nat→Prop} {c d:AV} {u:Value} (h:pubC c=some d) (hr:RepW N w V g c u) (hN:∀ b,N b→b < w.heap.size→N' b∧w.heap[b]?=w.heap[b]?) (hg:∀ b,g b→N' b):Rep N' w d u:=by
 unfold pubC at h
 split at h
 ·rename_i k ys
  injection h with h;subst h
  obtain ⟨h1,h2⟩:=hr
  rcases h1 with ⟨a,h1,rfl⟩ | ⟨b,o,cap,arr,T,h1,h3,h4,h5,h6,h7,h8⟩
  ·rw [h1];exact .nil _ _
  ·rw [h1]
   refine Laid.rep (k:=k) (arr:=arr) ⟨h7,fun i e j c q1 q2=>let ⟨u,hu,hr⟩:=h8 i e j c q1 q2;⟨u,hu,hr.mono hN⟩⟩ h3 (hg b ((h2 b).2 ?_)) h5
   rw [h1];simp [bl,blk];omega
 ·injection h with h;subst h
  cases hr.1 with
  | im h=>exact h.mono hN
 ·split at h
  ·injection h with h;subst h
   cases hr.1 with
   | im h=>exact h.mono hN
  ·cases h
 ·injection h with h;subst h
  cases hr.1 with
  | im h=>cases h
  | nils b=>exact .nil _ _
 ·cases h
theorem pub_tre {N N':Nat→Prop} {id k:Nat} {xs ys:List AV} (h:RepO N w V id (.tre k xs)) (hp:PubL xs ys) (hN:∀ b,N b→b < w.heap.size→N' b∧w.heap[b]?=w.heap[b]?) (hF:∀ b,V.f id b→N' b):Rep N' w (.sl ys) (V id):=by
 obtain ⟨hp1,hp2⟩:=hp
 rcases h with ⟨a,h1,rfl,_⟩ | ⟨b,o,cap,arr,T,G,h1,h2,h3,h4,h5,h6,h7,h8,h9,h10⟩
 ·have:ys=[]:=List.eq_nil_of_length_eq_zero (by simpa using hp1.symm)
  subst this;rw [h1];exact .nil _ _
 ·have hget:∀ (i:Nat) (e':AV) (j:Nat) (d:AV),ys[i]?=some e'→(cellsA e')[j]?=some d→∃ u,arr[o+(i * k+j)]?=some u∧Rep N' w d u:=by
   intro i e' j d q1 q2
   have hi:i < xs.length:=by rw [hp1];exact (List.getElem?_eq_some_iff.1 q1).1
   have q3:=List.getElem?_eq_getElem hi
   obtain ⟨r1,r2⟩:=pubE_get (hp2 i _ _ q3 q1)
   have hj:j < (cellsA xs[i]).length:=by rw [r1];exact (List.getElem?_eq_some_iff.1 q2).1
   have q4:=List.getElem?_eq_getElem hj
   obtain ⟨u,hu,_,hr⟩:=h7 i _ j _ q3 q4
   refine ⟨u,hu,pubC_rep (r2 j _ _ q4 q2) hr hN fun b' hb'=>hF b' ((h10 b').2 (.inr ⟨_,?_,hb'⟩))⟩
   have hjk:j < k:=by rw [← h6 xs[i] (List.getElem_mem _)];exact hj
   have:=Nat.mul_le_mul_right k (show i+1≤xs.length by omega)
   rw [Nat.add_mul,Nat.one_mul] at this
   omega
  rw [h1,hp1]
  refine Laid.rep (k:=k) (arr:=arr) ⟨fun e' he'=>?_,hget⟩ h2 (hF b ((h10 b).2 (.inl rfl))) (by omega)
  obtain ⟨i,hi,rfl⟩:=List.mem_iff_getElem.1 he'
  have hi':i < xs.length:=by omega
  rw [← (pubE_get (hp2 i _ _ (List.getElem?_eq_getElem hi') (List.getElem?_eq_getElem hi))).1]
  exact h6 _ (List.getElem_mem _)
mutual
theorem ren_free {f:Nat→Nat}:∀ (x:AV),bd (fun _=>False) x→ren f x=x
 | .ref id,hb=>by unfold bd at hb;exact hb.elim
 | .ptr id _,hb=>by unfold bd at hb;exact hb.elim
 | .pea id _ _ _,hb=>by unfold bd at hb;exact hb.elim
 | .sub id _ _ _,hb=>by unfold bd at hb;exact hb.elim
 | .ag cs,hb=>by unfold bd at hb;unfold ren;rw [renL_free cs hb]
 | .tup cs,hb=>by unfold bd at hb;unfold ren;rw [renL_free cs hb]
 | .fn _ fs cs,hb=>by unfold bd at hb;unfold ren;rw [renL_free fs hb.1,renL_free cs hb.2]
 | .v _,_ | .sl _,_ | .pel _,_ | .nils,_ | .skip,_ | .undef,_ | .own _ _,_=>by unfold ren;rfl
theorem renL_free {f:Nat→Nat}:∀ (xs:List AV),bdL (fun _=>False) xs→renL f xs=xs
 | [],_=>by unfold renL;rfl
 | x :: r,hb=>by unfold bdL at hb;unfold renL;rw [ren_free x hb.1,renL_free r hb.2]
end
theorem renO_free {f:Nat→Nat} {k:Nat} {xs:List AV} (h:bdO (fun _=>False) (.tre k xs)):renO f (.tre k xs)=.tre k xs:=by
 have:∀ (l:List AV),(∀ e,e∈l→bdL (fun _=>False) (cellsA e))→renL f l=l:=by
  intro l
  induction l with
  | nil=>intro _;unfold renL;rfl
  | cons e r ih =>
   intro h
   unfold renL
   rw [ih fun e he=>h e (by simp [he])]
   have he:=h e (by simp)
   rw [ren_free e ?_]
   cases e <;> simp_all [cellsA,bdL,bd]
 show AO.tre k (renL f xs)=AO.tre k xs
 rw [this xs h]
theorem leL_get:∀ {ys xs:List AV},leL σ ss ys xs→ys.length=xs.length∧∀ (j:Nat) (h1:j < ys.length) (h2:j < xs.length),leC σ ss none ys[j] xs[j]
 | [],[],_=>⟨rfl,fun j h=>by simp at h⟩
 | y :: ys,x :: xs,h=>by
  unfold leL at h
  obtain ⟨h1,h2⟩:=leL_get h.2
  refine ⟨by simp [h1],fun j h3 h4=>?_⟩
  cases j with
  | zero=>exact h.1
  | succ j=>exact h2 j (Nat.lt_of_succ_lt_succ h3) (Nat.lt_of_succ_lt_succ h4)
 | [],_ :: _,h=>by simp [leL] at h
 | _ :: _,[],h=>by simp [leL] at h
theorem leL1_get:∀ {ys xs:List AV},leL1 σ ss ys xs→ys.length=xs.length∧∀ (j:Nat) (h1:j < ys.length) (h2:j < xs.length),leV1 σ ss none ys[j] xs[j]
 | [],[],_=>⟨rfl,fun j h=>by simp at h⟩
 | y :: ys,x :: xs,h=>by
  unfold leL1 at h
  obtain ⟨h1,h2⟩:=leL1_get h.2
  refine ⟨by simp [h1],fun j h3 h4=>?_⟩
  cases j with
  | zero=>exact h.1
  | succ j=>exact h2 j (Nat.lt_of_succ_lt_succ h3) (Nat.lt_of_succ_lt_succ h4)
 | [],_ :: _,h=>by simp [leL1] at h
 | _ :: _,[],h=>by simp [leL1] at h
theorem leB_get {i:Nat}:∀ {j0:Nat} {ys xs:List AV},leB σ ss i j0 ys xs→ys.length=xs.length∧∀ (j:Nat) (h1:j < ys.length) (h2:j < xs.length),leC σ ss (some (.cell i (j0+j))) ys[j] xs[j]
 | _,[],[],_=>⟨rfl,fun j h=>by simp at h⟩
 | j0,y :: ys,x :: xs,h=>by
  unfold leB at h
  obtain ⟨h1,h2⟩:=leB_get h.2
  refine ⟨by simp [h1],fun j h3 h4=>?_⟩
  cases j with
  | zero=>exact h.1
  | succ j =>
   have:=h2 j (Nat.lt_of_succ_lt_succ h3) (Nat.lt_of_succ_lt_succ h4)
   rw [show j0+(j+1)=j0+1+j by omega]
   exact this
 | _,[],_ :: _,h=>by simp [leB] at h
 | _,_ :: _,[],h=>by simp [leB] at h
theorem LeS.sound (h:RS N0 base w0 σ a w) (hl:LeS σ ss τ):RS N0 base w0 τ a w:=by
 obtain ⟨hp,V,hV⟩:=h
 obtain ⟨hdi,hsp,hnext,hT,hO⟩:=hl
 simp only [Bool.and_eq_true] at hdi
 obtain ⟨hdist,hids⟩:=hdi
 simp only [Prod.mk.injEq] at hsp
 obtain ⟨hsize,hpar⟩:=hsp
 have hlive:∀ i b,live τ.obj i→(newV V a w ss).f i b→∃ k,ss[i]?=some (.obj k)∧live σ.obj k∧V.f k b:=by
  intro i b ⟨o,ho,hlv⟩ hb
  obtain ⟨s,hs,hle⟩:=leOs_get hO i o (look_mem ho)
  unfold newV at hb
  simp only [hs] at hb
  cases s with
  | obj k =>
   refine ⟨k,hs,?_,hb⟩
   unfold leO at hle
   simp only at hle
   split at hle
   ·exact ⟨_,by assumption,rfl⟩
   ·exact ⟨_,by assumption,rfl⟩
   ·exact ⟨_,by assumption,rfl⟩
   ·exact ⟨_,by assumption,rfl⟩
   ·cases hlv
   ·cases hlv
   ·exact ⟨_,by assumption,rfl⟩
   ·exact ⟨_,by assumption,rfl⟩
   ·exact ⟨_,by assumption,rfl⟩
   ·exact hle.elim
  | tmp t=>exact hb.elim
  | cell k j=>exact hb.elim
 have hNf:∀ b,Nf N0 base V σ.obj b→Nf N0 base (newV V a w ss) τ.obj b:=fun b hN=>⟨hN.1,fun i hl hb=>by
  obtain ⟨k,_,h1,h2⟩:=hlive i b hl hb
  exact hN.2 k h1 h2⟩
 have hNm:∀ b,Nf N0 base V σ.obj b→b < w.heap.size→Nf N0 base (newV V a w ss) τ.obj b∧w.heap[b]?=w.heap[b]?:=fun b hN _=>⟨hNf b hN,rfl⟩
 have hbdN:∀ i:Nat,∀ s,ss[i]?=some s→i < τ.next:=fun i s hs=>by rw [hnext];exact (List.getElem?_eq_some_iff.1 hs).1
 have nF:∀ {i k:Nat},ss[i]?=some (.obj k)→(newV V a w ss).f i=V.f k:=fun hs=>by unfold newV;simp only [hs]
 have notOld:∀ {i b:Nat},live σ.obj i→notSrc i ss=true→V.f i b→Nf N0 base (newV V a w ss) τ.obj b:=fun {i b} hli hns hbk=>by
  refine ⟨fun hb=>?_,fun i' hl hb=>?_⟩
  ·rcases (hV.low i b hli hbk).1 with q | ⟨_,q⟩
   ·omega
   ·exact q
  ·obtain ⟨k',hs,h8,h9⟩:=hlive i' b hl hb
   have:=hV.inj k' i b h8 hli h9 hbk
   subst this
   exact notSrc_spec hns i' hs
 have pubRep:∀ {k:Nat} {xs:List AV} {i:Nat},σ.obj i=some (.arr k xs)→notSrc i ss=true→Rep (Nf N0 base (newV V a w ss) τ.obj) w (.sl xs) (V i):=by
  intro k xs i hob hns
  obtain ⟨h0,h00⟩:=hV.obs i _ hob
  rcases h00 with ⟨a',h1,h2⟩ | ⟨b,o,cap,arr,Ty,h1,h2,h3,h4,h5,h6,h7⟩
  ·rw [h1,h2];exact .nil _ _
  ·have hbk:V.f i b:=(h0 b).2 (by rw [h1];simp [bl,blk];omega)
   rw [h1]
   exact Laid.rep (k:=k) (arr:=arr) ⟨h6,fun i e j c h8 h9=>let ⟨u,hu,hr⟩:=h7 i e j c h8 h9;⟨u,hu,hr.mono hNm⟩⟩ h2 (notOld ⟨_,hob,rfl⟩ hns hbk) h4
 have hC0:∀ {here:Option Src} {y x:AV} {v:Value},leC0 σ ss here y x→RepT (Nf N0 base V σ.obj) w V y v→(∀ s,here=some s→y=.nils→valAt V a w s=v) →
   RepT (Nf N0 base (newV V a w ss) τ.obj) w (newV V a w ss) x v∧bd (fun i=>i < τ.next) x:=by
  intro here y x v hle hr hh
  have nV:∀ {i:Nat} {s:Src},ss[i]?=some s→newV V a w ss i=valAt V a w s:=fun hs=>by unfold newV;simp only [hs]
  unfold leC0 at hle
  split at hle
  ·exact ⟨.undef v,by simp [bd]⟩
  ·rename_i i i'
   cases hr with
   | im h=>cases h
   | ref _ ho =>
    have:=RepT.ref (N:=Nf N0 base (newV V a w ss) τ.obj) (w:=w) (V:=newV V a w ss) i' (by rw [nV hle];exact ho)
    rw [nV hle] at this
    exact ⟨this,by unfold bd;exact hbdN _ _ hle⟩
  ·rename_i i xs
   cases hr with
   | im h=>cases h
   | ref _ ho =>
    split at hle
    ·rename_i k ys hob
     obtain ⟨rfl,hns⟩:=hle
     exact ⟨.im (pubRep hob hns),by simp [bd]⟩
    ·rename_i k ys hob
     obtain ⟨hp,hns⟩:=hle
     exact ⟨.im (pub_tre (hV.obs i _ hob) hp hNm fun b hb=>notOld ⟨_,hob,rfl⟩ hns hb),by simp [bd]⟩
    ·rename_i ys hob
     subst hle
     have:Rep (Nf N0 base V σ.obj) w (.sl ys) (V i):=hV.obs i _ hob
     exact ⟨.im (this.mono hNm),by simp [bd]⟩
    ·exact hle.elim
  ·subst hle
   cases hr with
   | im h=>cases h
   | nils b=>exact ⟨.im (.nil b 0),by simp [bd]⟩
  ·rename_i i'
   split at hle
   ·rename_i s
    have hv:=hh s rfl rfl
    have:=RepT.ref (N:=Nf N0 base (newV V a w ss) τ.obj) (w:=w) (V:=newV V a w ss) i' (by
     rw [nV hle,hv]
     cases hr with
     | im h=>cases h
     | nils b=>rfl)
    rw [nV hle,hv] at this
    exact ⟨this,by unfold bd;exact hbdN _ _ hle⟩
   ·exact hle.elim
  ·cases hr with
   | im h=>cases h
   | nils b=>exact ⟨.nils b,by simp [bd]⟩
  ·obtain ⟨hs,rfl⟩:=hle
   cases hr with
   | im h=>cases h
   | ptr _ _ b o h=>exact ⟨.ptr _ _ b o (by rw [nV hs];exact h),by unfold bd;exact hbdN _ _ hs⟩
  ·rename_i i j cs'
   split at hle
   ·rename_i cs hob
    obtain ⟨hp,hns⟩:=hle
    obtain ⟨hf,b,arr,Ty,q1,q2,q3,q4⟩:=hV.obs i _ hob
    cases hr with
    | im h=>cases h
    | ptr _ _ b' o' h =>
     rw [q1] at h
     simp only [Value.pointer.injEq,Option.some.injEq,Addr.mk.injEq] at h
     obtain ⟨rfl,rfl,_⟩:=h
     have hN':Nf N0 base (newV V a w ss) τ.obj b:=notOld ⟨_,hob,rfl⟩ hns ((hf b).2 (by rw [q1];simp [bl,blk]))
     have key:∀ (q:Nat) (c:AV),cs'[q]?=some c→∃ u,arr[j+q]?=some u∧Rep (Nf N0 base (newV V a w ss) τ.obj) w c u:=fun q c hc=>by
      obtain ⟨c0,h1,h2⟩:=pubCL_at hp q c hc
      rw [List.getElem?_drop] at h1
      obtain ⟨u,u1,u2,_⟩:=q4 _ _ h1
      exact ⟨u,u1,(pubC_repT h2 u2).mono hNm⟩
     refine ⟨.pel cs' b (0+j) (fun q=>(arr[j+q]?).getD Go.undef) hN' (by
      have:=(Array.getElem?_eq_some_iff.1 q2).1;omega) (fun q c hc=>?_) (fun q c hc=>?_),by simp [bd]⟩
     ·obtain ⟨u,u1,_⟩:=key q c hc
      rw [cell_of_row w b _ arr Ty (0,0) q2,show 0+j+q=j+q by omega,u1];rfl
     ·obtain ⟨u,u1,u2⟩:=key q c hc
      rw [u1];exact u2
   ·exact hle.elim
  ·subst hle
   cases hr with
   | im h=>cases h
   | pel _ b o f hN hb hc hr=>exact ⟨.pel _ b o f (hNm b hN hb).1 hb hc fun j c hj=>(hr j c hj).mono hNm,by simp [bd]⟩
  ·obtain ⟨hs,rfl,rfl,rfl⟩:=hle
   cases hr with
   | im h=>cases h
   | sub _ _ _ _ b o n c h hi=>exact ⟨.sub _ _ _ _ b o n c (by rw [nV hs];exact h) hi,by unfold bd;exact hbdN _ _ hs⟩
  ·subst hle
   cases hr with
   | im h=>exact ⟨.im (h.mono hNm),by simp [bd]⟩
  ·subst hle
   cases hr with
   | im h=>exact ⟨.im (h.mono hNm),by simp [bd]⟩
  ·cases hr with
   | im h=>cases h
   | skip=>exact ⟨.skip,by simp [bd]⟩
  ·obtain ⟨rfl,hpl⟩:=hle
   exact ⟨hr.mono (A:=fun _=>False) hNm (fun _ h=>h.elim) (by unfold bd;exact plainL_bd hpl),by unfold bd;exact plainL_bd hpl⟩
  ·exact hle.elim
 have hL0:∀ {ys xs:List AV},leL0 σ ss ys xs→ys.length=xs.length∧∀ (j:Nat) (h1:j < ys.length) (h2:j < xs.length),leC0 σ ss none ys[j] xs[j]:=fun h=>leL0_get h
 have hC:∀ {here:Option Src} {y x:AV} {v:Value},leC σ ss here y x→RepT (Nf N0 base V σ.obj) w V y v→(∀ s,here=some s→y=.nils→valAt V a w s=v) →
   RepT (Nf N0 base (newV V a w ss) τ.obj) w (newV V a w ss) x v∧bd (fun i=>i < τ.next) x:=by
  intro here y x v hle hr hh
  unfold leC at hle
  split at hle
  ·rename_i f fs cs f' fs' cs'
   obtain ⟨rfl,h1,h2⟩:=hle
   obtain ⟨l1,g1⟩:=hL0 h1
   obtain ⟨l2,g2⟩:=hL0 h2
   cases hr with
   | im h=>cases h
   | fn _ _ _ us vs hs hs' hr hr' =>
    refine ⟨.fn f fs' cs' us vs (by omega) (by omega) (fun j h3 h4=>(hC0 (g1 j (by omega) h3) (hr j (by omega) h4) (fun s hs=>by cases hs)).1) (fun j h3 h4=>(hC0 (g2 j (by omega) h3) (hr' j (by omega) h4) (fun s hs=>by cases hs)).1),?_⟩
    unfold bd
    refine ⟨bdL_iff.2 fun x hx=>?_,bdL_iff.2 fun x hx=>?_⟩
    ·obtain ⟨j,q1,q2⟩:=List.mem_iff_getElem.1 hx
     exact q2 ▸ (hC0 (g1 j (by omega) q1) (hr j (by omega) (by omega)) (fun s hs=>by cases hs)).2
    ·obtain ⟨j,q1,q2⟩:=List.mem_iff_getElem.1 hx
     exact q2 ▸ (hC0 (g2 j (by omega) q1) (hr' j (by omega) (by omega)) (fun s hs=>by cases hs)).2
  ·exact hC0 hle hr hh
 have hV1:∀ {here:Option Src} {y x:AV} {v:Value},leV1 σ ss here y x→RepT (Nf N0 base V σ.obj) w V y v→(∀ s,here=some s→y=.nils→valAt V a w s=v) →
   RepT (Nf N0 base (newV V a w ss) τ.obj) w (newV V a w ss) x v∧bd (fun i=>i < τ.next) x:=by
  intro here y x v hle hr hh
  unfold leV1 at hle
  split at hle
  ·rename_i ys xs
   obtain ⟨h1,h2⟩:=leL_get hle
   cases hr with
   | im h=>cases h
   | ag _ vs hs hr ho =>
    refine ⟨.ag xs vs (by omega) (fun j h3 h4=>(hC (h2 j (by omega) h3) (hr j (by omega) h4) (fun s hs=>by cases hs)).1) ho,?_⟩
    unfold bd
    refine bdL_iff.2 fun x hx=>?_
    obtain ⟨j,q1,q2⟩:=List.mem_iff_getElem.1 hx
    exact q2 ▸ (hC (h2 j (by omega) q1) (hr j (by omega) (by omega)) (fun s hs=>by cases hs)).2
  ·exact hC hle hr hh
 have hVV:∀ {here:Option Src} {y x:AV} {v:Value},leV σ ss here y x→RepT (Nf N0 base V σ.obj) w V y v→(∀ s,here=some s→y=.nils→valAt V a w s=v) →
   RepT (Nf N0 base (newV V a w ss) τ.obj) w (newV V a w ss) x v∧bd (fun i=>i < τ.next) x:=by
  intro here y x v hle hr hh
  unfold leV at hle
  split at hle
  ·rename_i ys xs
   obtain ⟨h1,h2⟩:=leL1_get hle
   cases hr with
   | im h=>cases h
   | tup _ vs hs hr =>
    refine ⟨.tup xs vs (by omega) (fun j h3 h4=>(hV1 (h2 j (by omega) h3) (hr j (by omega) h4) (fun s hs=>by cases hs)).1),?_⟩
    unfold bd
    refine bdL_iff.2 fun x hx=>?_
    obtain ⟨j,q1,q2⟩:=List.mem_iff_getElem.1 hx
    exact q2 ▸ (hV1 (h2 j (by omega) q1) (hr j (by omega) (by omega)) (fun s hs=>by cases hs)).2
  ·exact hV1 hle hr hh
 have hTm:∀ t x,τ.get t=some x→RepT (Nf N0 base (newV V a w ss) τ.obj) w (newV V a w ss) x (a.tmps.getD t Go.undef)∧bd (fun i=>i < τ.next) x:=fun t x hx=>by
  rcases leT_get hT t x (look_mem hx) with ⟨y,h1,h2⟩ | rfl
  ·exact hVV h2 (hV.tm t y h1) (fun s hs _=>by injection hs with hs;subst hs;rfl)
  ·exact ⟨.undef _,by simp [bd]⟩
 have nilRep:∀ {k i':Nat} {v:Value},newV V a w ss i'=v→(∀ b,¬ (newV V a w ss).f i' b)→RepT (Nf N0 base V σ.obj) w V .nils v →
   RepO (Nf N0 base (newV V a w ss) τ.obj) w (newV V a w ss) i' (.arr k [])∧RepO (Nf N0 base (newV V a w ss) τ.obj) w (newV V a w ss) i' (.tre k []):=by
  intro k i' v hv hf hr
  cases hr with
  | im h=>cases h
  | nils b =>
   refine ⟨⟨fun b'=>⟨fun h=>(hf b' h).elim,fun h=>?_⟩,.inl ⟨b,hv,rfl⟩⟩,.inl ⟨b,hv,rfl,hf⟩⟩
   rw [hv] at h
   simp [bl,blk_zero] at h
 have hOb:∀ i o,τ.obj i=some o→RepO (Nf N0 base (newV V a w ss) τ.obj) w (newV V a w ss) i o∧i < τ.next∧bdO (fun i=>i < τ.next) o:=fun i o ho=>by
  obtain ⟨s,hs,hle⟩:=leOs_get hO i o (look_mem ho)
  have nV:newV V a w ss i=valAt V a w s:=by unfold newV;simp only [hs]
  have key:RepO (Nf N0 base (newV V a w ss) τ.obj) w (newV V a w ss) i o∧bdO (fun i=>i < τ.next) o:=by
   unfold leO at hle
   split at hle
   ·rename_i k
    have nF':(newV V a w ss).f i=V.f k:=nF hs
    have pubOld:∀ {b:Nat},live σ.obj k→o.live=false→V.f k b→Nf N0 base (newV V a w ss) τ.obj b:=fun {b} hli hlv hbk=>by
     refine ⟨fun hb=>?_,fun i' hl hb=>?_⟩
     ·rcases (hV.low k b hli hbk).1 with q | ⟨_,q⟩
      ·omega
      ·exact q
     ·obtain ⟨k',hs',h8,h9⟩:=hlive i' b hl hb
      have:=hV.inj k' k b h8 hli h9 hbk
      subst this
      have:=distinct_spec hdist hs hs'
      subst this
      obtain ⟨o2,ho2,hlv'⟩:=hl
      rw [ho] at ho2
      injection ho2 with ho2
      subst ho2
      rw [hlv] at hlv';cases hlv'
    split at hle
    ·rename_i k1 xs k2 xs' hob
     obtain ⟨rfl,rfl⟩:=hle
     obtain ⟨h0,h00⟩:=hV.obs k _ hob
     refine ⟨⟨fun b=>by rw [nF',nV];exact h0 b,?_⟩,trivial⟩
     rw [nV]
     rcases h00 with ⟨a',h1,h2⟩ | ⟨b,o,cap,arr,Ty,h1,h2,h3,h4,h5,h6,h7⟩
     ·exact .inl ⟨a',h1,h2⟩
     ·exact .inr ⟨b,o,cap,arr,Ty,h1,h2,h3,h4,h5,h6,fun i e j c h8 h9=>let ⟨u,hu,hr⟩:=h7 i e j c h8 h9;⟨u,hu,hr.mono hNm⟩⟩
    ·rename_i k1 xs xs' hob
     subst hle
     refine ⟨?_,trivial⟩
     show Rep _ w (.sl xs) (newV V a w ss i)
     rw [nV]
     obtain ⟨h0,h00⟩:=hV.obs k _ hob
     show Rep _ w (.sl xs) (V k)
     rcases h00 with ⟨a',h1,h2⟩ | ⟨b,o,cap,arr,Ty,h1,h2,h3,h4,h5,h6,h7⟩
     ·rw [h1,h2];exact .nil _ _
     ·have hbk:V.f k b:=(h0 b).2 (by rw [h1];simp [bl,blk];omega)
      rw [h1]
      exact Laid.rep (k:=k1) (arr:=arr) ⟨h6,fun i e j c h8 h9=>let ⟨u,hu,hr⟩:=h7 i e j c h8 h9;⟨u,hu,hr.mono hNm⟩⟩ h2 (pubOld ⟨_,hob,rfl⟩ rfl hbk) h4
    ·rename_i k1 xs k2 xs' hob
     have tre:k1=k2∧leR ss xs xs'→RepO (Nf N0 base (newV V a w ss) τ.obj) w (newV V a w ss) i (.tre k2 xs')∧bdO (fun i=>i < τ.next) (.tre k2 xs'):=fun htr=>by
      obtain ⟨hkk,htr⟩:=htr
      obtain ⟨hl,hg⟩:=leR_get htr
      clear hle
      subst hkk
      have hW:∀ {c c':AV} {u:Value} {gg:Nat→Prop},leW ss c c'→RepW (Nf N0 base V σ.obj) w V gg c u→RepW (Nf N0 base (newV V a w ss) τ.obj) w (newV V a w ss) gg c' u∧bd (fun i=>i < τ.next) c':=fun {c c' u gg} hlw hr=>by
       unfold leW at hlw
       split at hlw
       ·obtain ⟨rfl,rfl⟩:=hlw
        exact ⟨⟨hr.1.mono hNm fun _ _=>rfl,hr.2⟩,by unfold bd;trivial⟩
       ·rename_i q q'
        obtain ⟨hr,hgg⟩:=hr
        have nVq:newV V a w ss q'=V q:=by unfold newV;simp only [hlw];rfl
        refine ⟨⟨?_,hgg⟩,by unfold bd;exact hbdN _ _ hlw⟩
        cases hr with
        | im h=>cases h
        | ref _ ho =>
         have:=RepT.ref (N:=Nf N0 base (newV V a w ss) τ.obj) (w:=w) (V:=newV V a w ss) q' (by rw [nVq];exact ho)
         rwa [nVq] at this
       ·subst hlw
        obtain ⟨hr,hgg⟩:=hr
        cases hr with
        | im h=>exact ⟨⟨.im (h.mono hNm),hgg⟩,by unfold bd;trivial⟩
       ·subst hlw
        obtain ⟨hr,hgg⟩:=hr
        cases hr with
        | im h=>exact ⟨⟨.im (h.mono hNm),hgg⟩,by unfold bd;trivial⟩
       ·exact hlw.elim
      rcases hV.obs k _ hob with ⟨a',h1,h2,h3⟩ | ⟨b,o,cap,arr,Ty,G,h1,h2,h3,h4,h5,h6,h7,h8,h9,h10⟩
      ·subst h2
       have:xs'=[]:=List.eq_nil_of_length_eq_zero (by simpa using hl.symm)
       subst this
       exact ⟨.inl ⟨a',by rw [nV];exact h1,rfl,fun b=>by rw [nF'];exact h3 b⟩,fun e he=>by simp at he⟩
      ·have ex:∀ {q:Nat} {e':AV},xs'[q]?=some e'→∃ e,xs[q]?=some e∧leWL ss (cellsA e) (cellsA e'):=fun {q e'} he=>by
        have hq:q < xs.length:=by have:=(List.getElem?_eq_some_iff.1 he).1;omega
        exact ⟨xs[q],List.getElem?_eq_getElem hq,hg q _ _ (List.getElem?_eq_getElem hq) he⟩
       have cellx:∀ {q j:Nat} {e' c':AV},xs'[q]?=some e'→(cellsA e')[j]?=some c'→∃ e c,xs[q]?=some e∧(cellsA e)[j]?=some c∧leW ss c c':=fun {q j e' c'} he hc=>by
        obtain ⟨e,r1,r2⟩:=ex he
        obtain ⟨r3,r4⟩:=leWL_get r2
        have hj:j < (cellsA e).length:=by have:=(List.getElem?_eq_some_iff.1 hc).1;omega
        exact ⟨e,_,r1,List.getElem?_eq_getElem hj,r4 j _ _ (List.getElem?_eq_getElem hj) hc⟩
       refine ⟨.inr ⟨b,o,cap,arr,Ty,G,by rw [nV,← hl];exact h1,h2,h3,by omega,h5,fun e' he'=>?_,fun q e' j c' he hc=>?_,h8,h9,fun b'=>by rw [nF',← hl];exact h10 b'⟩,fun e' he'=>bdL_iff.2 fun c' hc'=>?_⟩
       ·obtain ⟨q,hq⟩:=List.mem_iff_getElem?.1 he'
        obtain ⟨e,r1,r2⟩:=ex hq
        rw [← (leWL_get r2).1]
        exact h6 e (List.mem_of_getElem? r1)
       ·obtain ⟨e,c,r1,r2,r3⟩:=cellx he hc
        obtain ⟨u,q1,q2,q3⟩:=h7 q e j c r1 r2
        exact ⟨u,q1,q2,(hW r3 q3).1⟩
       ·obtain ⟨q,hq⟩:=List.mem_iff_getElem?.1 he'
        obtain ⟨j,hj⟩:=List.mem_iff_getElem?.1 hc'
        obtain ⟨e,c,r1,r2,r3⟩:=cellx hq hj
        obtain ⟨u,q1,q2,q3⟩:=h7 q e j c r1 r2
        exact (hW r3 q3).2
     split at hle
     rotate_left 1
     ·exact tre hle
     refine hle.el tre fun hle=>?_
     obtain ⟨rfl,rfl,hfree⟩:=hle
     refine ⟨?_,bdO_mono (fun _ h=>h.elim) _ hfree⟩
     have h1:=hV.obs k _ hob
     have h2:RepO (Nf N0 base (newV V a w ss) τ.obj) w (setF (updV V k (V k)) k (V.f k)) k (.tre k1 xs) :=
      h1.mono (A:=fun i=>i=k) hNm (Nat.le_refl _) (fun i hi=>by subst hi;rw [setF_v,updV_same]) (fun b=>by rw [setF_f]) rfl (fun _ _ _=>rfl) (bdO_mono (fun _ h=>h.elim) _ hfree)
     have h3:=renO_rep (V:=setF (updV V k (V k)) k (V.f k)) (V':=newV V a w ss) (f:=fun _=>i) (A:=fun i=>i=k) (fun j hj=>by subst hj;rw [nV,setF_v,updV_same];rfl) rfl (fun b=>by rw [nF',setF_f]) h2 (bdO_mono (fun _ h=>h.elim) _ hfree)
     rwa [renO_free hfree] at h3
    ·rename_i k1 xs xs' hob
     refine ⟨?_,trivial⟩
     show Rep _ w (.sl xs') (newV V a w ss i)
     rw [nV]
     exact pub_tre (hV.obs k _ hob) hle hNm fun b hb=>pubOld ⟨_,hob,rfl⟩ rfl hb
    ·exact ⟨trivial,trivial⟩
    ·rename_i xs xs' hob
     subst hle
     refine ⟨?_,trivial⟩
     show Rep _ w (.sl xs) (newV V a w ss i)
     rw [nV]
     have:Rep (Nf N0 base V σ.obj) w (.sl xs) (V k):=hV.obs k _ hob
     exact this.mono hNm
    ·rename_i cs ds hob
     obtain ⟨h1,h2⟩:=leB_get hle
     obtain ⟨h0,b,arr,Ty,q1,q2,q3,q4⟩:=hV.obs k _ hob
     have hcell:∀ (j:Nat) (h:j < ds.length),∃ u,arr[j]?=some u∧u.oneCell'=true∧RepT (Nf N0 base (newV V a w ss) τ.obj) w (newV V a w ss) ds[j] u∧bd (fun i=>i < τ.next) ds[j]:=fun j hj=>by
      obtain ⟨u,r1,r2,r3⟩:=q4 j _ (List.getElem?_eq_getElem (by omega))
      have:=hC (h2 j (by omega) hj) r2 (fun s hs hn=>by
       injection hs with hs
       subst hs
       simp only [valAt,q1]
       rw [cell_of_row w b _ arr Ty (0,0) q2,Nat.zero_add,Nat.zero_add,r1];rfl)
      exact ⟨u,r1,r3,this.1,this.2⟩
     refine ⟨⟨fun b=>by rw [nF',nV];exact h0 b,b,arr,Ty,by rw [nV];exact q1,q2,by omega,fun j c hc=>?_⟩,bdL_iff.2 fun x hx=>?_⟩
     ·obtain ⟨q5,q6⟩:=List.getElem?_eq_some_iff.1 hc
      obtain ⟨u,r1,r2,r3,_⟩:=hcell j q5
      exact ⟨u,r1,q6 ▸ r3,r2⟩
     ·obtain ⟨j,q5,q6⟩:=List.mem_iff_getElem.1 hx
      obtain ⟨u,r1,r2,r3,r4⟩:=hcell j q5
      exact q6 ▸ r4
    ·rename_i G G' hob
     subst hle
     have h1:G.R (Nf N0 base V σ.obj) w (V.f k):=hV.obs k _ hob
     refine ⟨?_,trivial⟩
     show G.R _ w ((newV V a w ss).f i)
     rw [nF']
     exact G.mono hNm (Nat.le_refl _) (fun _ _=>rfl) h1
    ·rename_i d ks xs d' ks' xs' hob
     obtain ⟨rfl,rfl,rfl⟩:=hle
     obtain ⟨b,es,clock,G,h1,h2,h3,h3k,h4,h5,h6,h7,h8,h9⟩:=hV.obs k _ hob
     exact ⟨⟨b,es,clock,G,by rw [nV];exact h1,h2,h3,h3k,h4,h5,fun q c hq=>let ⟨e,q1,q2⟩:=h6 q c hq;⟨e,q1,q2.mono hNm fun _ _=>rfl⟩,h7,h8,fun b'=>by rw [nF'];exact h9 b'⟩,trivial⟩
    ·exact hle.elim
   ·rename_i t
    have nF':∀ b,¬ (newV V a w ss).f i b:=fun b hb=>by unfold newV at hb;simp only [hs] at hb
    split at hle
    ·rename_i k xs hg
     subst hle
     exact ⟨(nilRep (by rw [nV];rfl) nF' (hV.tm t _ hg)).1,trivial⟩
    ·rename_i k xs hg
     subst hle
     exact ⟨(nilRep (by rw [nV];rfl) nF' (hV.tm t _ hg)).2,fun e he=>by simp at he⟩
    ·exact hle.elim
   ·rename_i k j
    have nF':∀ b,¬ (newV V a w ss).f i b:=fun b hb=>by unfold newV at hb;simp only [hs] at hb
    have hc:∀ {cs:List AV},σ.obj k=some (.box cs)→cs[j]?=some .nils→∃ u,newV V a w ss i=u∧RepT (Nf N0 base V σ.obj) w V .nils u:=fun {cs} hg h1=>by
     obtain ⟨_,b',arr,Ty,q1,q2,q3,q4⟩:=hV.obs k _ hg
     obtain ⟨u,r1,r2,_⟩:=q4 j _ h1
     refine ⟨u,?_,r2⟩
     rw [nV]
     simp only [valAt,q1]
     rw [cell_of_row w b' _ arr Ty (0,0) q2,Nat.zero_add,r1];rfl
    split at hle
    ·rename_i cs k' xs hg
     obtain ⟨h1,rfl⟩:=hle
     obtain ⟨u,r1,r2⟩:=hc hg h1
     exact ⟨(nilRep r1 nF' r2).1,trivial⟩
    ·rename_i cs k' xs hg
     obtain ⟨h1,rfl⟩:=hle
     obtain ⟨u,r1,r2⟩:=hc hg h1
     exact ⟨(nilRep r1 nF' r2).2,fun e he=>by simp at he⟩
    ·exact hle.elim
  exact ⟨key.1,hbdN _ _ hs,key.2⟩
 refine ⟨hp.trans hpar.symm,newV V a w ss,⟨fun t x hx=>(hTm t x hx).1,fun i o ho=>(hOb i o ho).1,fun i j b hi hj hbi hbj=>?_,fun i b hi hbi=>?_,fun t x hx=>(hTm t x hx).2,fun i o ho=>(hOb i o ho).2,hV.bel,hV.bas,hV.dfr,by rw [hsize];exact hV.siz,fun i hi=>?_⟩⟩
 ·obtain ⟨k1,s1,l1,b1⟩:=hlive i b hi hbi
  obtain ⟨k2,s2,l2,b2⟩:=hlive j b hj hbj
  have:=hV.inj k1 k2 b l1 l2 b1 b2
  subst this
  exact distinct_spec hdist s1 s2
 ·obtain ⟨k1,_,l1,b1⟩:=hlive i b hi hbi
  exact hV.low k1 b l1 b1
 ·have hs:=fixB_spec hids i (by rw [← hp];exact hi)
  refine ⟨hbdN i _ hs,?_⟩
  rw [← (hV.par i hi).2]
  unfold newV;simp only [hs];rfl
theorem Le.sound (h:RS N0 base w0 σ a w) (hl:Le σ τ):RS N0 base w0 τ a w:=by
 obtain ⟨ss,hs⟩:=hl
 exact hs.sound h
end
end Go.Sk
