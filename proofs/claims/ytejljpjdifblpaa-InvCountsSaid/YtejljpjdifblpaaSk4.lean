/- A checker of Go functions by conditions over small pure states: part 5. -/
import Derived.Test.YtejljpjdifblpaaSk3
set_option linter.unusedVariables false
set_option linter.unusedSimpArgs false
namespace Go.Sk
open Go.RowKit
section
variable {P:Program} {T:TypeId→Option TI} {o:Oper} {ρ:Operand→Option AV} {ob:Nat→Option AO} {n:Nat}
theorem bytes_OK (hT:TOK P T) {s d e:TypeId} {x:Operand} {xv:AV} {k:Nat} {ns:List Int} (ho:o.op=.convert s d x) (hs:P.underlying s=some (.slice e)) (hd:P.underlying d=some .string) (he:P.underlying e=some (.int .u8)) (hk:k=1) (hx:ρ x=some xv)
  (hys:elemsA ob xv=some (ns.map fun n=>.v (.int .u8 n))):OKs P o ρ ob n (.v (.string (strOfNums ns))) none:=by
 refine OKs.value fun {N V g A a w} hρ hop hobs=>?_
 obtain ⟨hrx,_⟩:=hop x xv (by rw [ho];simp [Op.operands]) hx
 obtain ⟨a2,c2,e2,hsrc⟩:=src_values (k:=1) hys hrx (fun i u hu=>(hobs i u hu).1) (by omega) (fun y hy=>by
  obtain ⟨m,_,rfl⟩:=List.mem_map.1 hy
  rfl)
 rw [List.length_map] at e2
 refine ⟨.string (strOfNums ns),?_,.im (.v _ rfl),by simp [bd]⟩
 simp only [execOp,ho,e2]
 have hrun:(convert s d (.slice a2 ns.length c2)).run P w=.ok (.string (strOfNums ns)) w:=by
  rw [run_convert_bytes_string w s d e _ _ c2 hs he hd]
  rcases hsrc with h | ⟨b,news,rfl,q1,q2,q3,q4⟩
  ·have:ns=[]:=by simpa using h
   subst this
   cases a2 with
   | none=>rfl
   | some b=>exact run_bytesToString w b 0 c2 [] (by simp [loadCells,loadCellsFrom])
  ·have hnews:news=ns.map (Value.int .u8):=by
    apply List.ext_getElem?
    intro i
    rw [List.length_map,Nat.mul_one] at q1
    rcases Nat.lt_or_ge i ns.length with hi | hi
    ·obtain ⟨u,hu,hr⟩:=q4 i _ 0 _ (by rw [List.getElem?_map,List.getElem?_eq_getElem hi];rfl) rfl
     cases hr with
     | v=>rw [List.getElem?_map,List.getElem?_eq_getElem hi];simpa using hu
    ·rw [List.getElem?_eq_none (by omega),List.getElem?_eq_none (by rw [List.length_map];omega)]
   have hl:=run_loadCells_list (P:=P) w b news q2
   rw [List.length_map,Nat.mul_one] at q1
   rw [q1,hnews] at hl
   rw [run_bytesToString w b ns.length c2 ns hl,foldl_push_bytes]
   simp [strOfNums,ByteArray.empty,ByteArray.emptyWithCapacity]
   rfl
 simp only [Sem.run_bind,hrun]
 rfl
theorem slice0_OK (hT:TOK P T) {t e:TypeId} {ie:TI} {x:Operand} {xv:AV} {xs:List AV} {k1 k2:IntKind} (ho:o.op=.slice t x none (some (.const (.int k1 (.ofNat 0)))) (some (.const (.int k2 (.ofNat 0))))) (hu:P.underlying t=some (.slice e)) (he:T e=some ie)
  (hx:ρ x=some xv) (hxs:elemsA ob xv=some xs):OKs P o ρ ob n .nils none:=by
 refine OKs.value fun {N V g A a w} hρ hop hobs=>?_
 obtain ⟨b,c,hv⟩:=elemsA_len hxs (hop x _ (by rw [ho];simp [Op.operands]) hx).1 (fun i u hu=>(hobs i u hu).1)
 refine ⟨.slice b 0 0,?_,.nils b,by simp [bd]⟩
 have hb:∀ {k:IntKind} {y:Nat} {c:BoundsCode},(Instr.sliceBound (.int k 0) y c).run P w=.ok 0 w:=by
  intro k y c
  simp [Instr.sliceBound,asIntOf]
 have e0:∀ k:IntKind,a.eval (.const (.int k (.ofNat 0)))=.int k 0:=fun k=>rfl
 simp only [execOp,ho,hv,Option.map_none,Option.map_some,e0,Instr.sliceAt,Sem.run_bind,run_underlying hu,Result.andThen_ok,Instr.slice,Instr.sliceBounds,hb,run_sizeOf hT he,Sem.run_pure]
 rfl
theorem makeSlice_OK (hT:TOK P T) {t e:TypeId} {ie:TI} {l c:Operand} {a:Int} {k k':IntKind} {z0 z:AV} (ho:o.op=.makeSlice t l c) (hu:P.underlying t=some (.slice e)) (he:T e=some ie)
  (hl:ρ l=some (.v (.int k a))) (hc:ρ c=some (.v (.int k' a))) (hz0:constA ie.zero=some z0) (hz:immA ob z0=some z) (hs:ie.size=(cellsA z).length) (hpos:0 < ie.size) (h0:0≤a) (h1:a≤4611686018427387904) (h2:ie.bytes * a≤140737488355328) :
  OKs P o ρ ob n (.ref n) (some (.arr ie.size (List.replicate a.toNat z))):=by
 refine OKs.newObj (fun A h=>by simpa [bd] using h) fun {N0 base V g ob' A a' w} hbas hn hρ hop hobs hlow hne=>?_
 have e1:=eval_v (hop l _ (by rw [ho];simp [Op.operands]) hl).1
 have e2:=eval_v (hop c _ (by rw [ho];simp [Op.operands]) hc).1
 obtain ⟨arr,h3,h4⟩:=makeSlice_run (P:=P) (w:=w) hT hu he (k:=k) (k':=k') h0 h1 h2 hpos
 have hlen:(List.replicate a.toNat z).length=a.toNat:=List.length_replicate
 have hL:Laid (Nf N0 base V ob') w ie.size (List.replicate a.toNat z) 0 arr∧a.toNat * ie.size≤arr.size:=by
  obtain ⟨r1,r2,r3,_⟩:=immA_rep hz (constA_rep (N:=Nf N0 base V ob') (w:=w) (V:=V) hz0).1 (fun i u hu=>(hobs i u hu).1)
  rcases h4 with rfl | rfl
  ·exact ⟨⟨fun e he=>by simp at he,fun i e j c h=>by simp at h⟩,by simp⟩
  ·exact ⟨zero_laid (by rw [r2,hs]) hs.symm r3,by simp⟩
 refine ⟨.slice (some ⟨w.heap.size,0,none⟩) a.toNat a.toNat,.slice (some ⟨w.heap.size,0,none⟩) (List.replicate a.toNat z).length a.toNat,w.alloc (.cells arr e),?_,below_alloc _ _,blk_new (by simp),trivial,fun hN=>⟨?_,?_⟩⟩
 ·simp only [execOp,ho,e1,e2,Sem.run_bind,h3,Result.andThen_ok,Sem.run_pure]
 ·exact arr_new (w1:=w) rfl rfl hL.1 (by rw [hlen];exact Nat.le_refl _) hL.2 hN
 ·have:=RepT.ref (N:=Nf N0 base (updV V n (.slice (some ⟨w.heap.size,0,none⟩) (List.replicate a.toNat z).length a.toNat)) (updO ob' n (.arr ie.size (List.replicate a.toNat z)))) (w:=w.alloc (.cells arr e)) (V:=updV V n (.slice (some ⟨w.heap.size,0,none⟩) (List.replicate a.toNat z).length a.toNat)) n (by rw [updV_same];rfl)
  rw [updV_same] at this
  rwa [hlen] at this ⊢
theorem makeCap_OK (hT:TOK P T) {t e:TypeId} {ie:TI} {l c:Operand} {a:Int} {k':IntKind} (ho:o.op=.makeSlice t l c) (hl:capOnly l c=true) (hu:P.underlying t=some (.slice e)) (he:T e=some ie)
  (hc:ρ c=some (.v (.int k' a))) (hpos:0 < ie.size) (h0:0≤a) (h1:a≤4611686018427387904) (h2:ie.bytes * a≤140737488355328) :
  OKs P o ρ ob n (.ref n) (some (.arr ie.size [])):=by
 refine OKs.newObj (fun A h=>by simpa [bd] using h) fun {N0 base V g ob' A a' w} hbas hn hρ hop hobs hlow hne=>?_
 have e1:∃ k,a'.eval l=.int k 0:=by
  unfold capOnly at hl
  split at hl
  ·rename_i k c';exact ⟨k,rfl⟩
  ·cases hl
 obtain ⟨k,e1⟩:=e1
 have e2:=eval_v (hop c _ (by rw [ho];simp [Op.operands]) hc).1
 obtain ⟨arr,h3,h4⟩:=makeCap_run (P:=P) (w:=w) hT hu he (k:=k) (k':=k') h0 h1 h2 hpos
 have hL:Laid (Nf N0 base V ob') w ie.size [] 0 arr:=⟨fun e he=>by simp at he,fun i e j c h=>by simp at h⟩
 refine ⟨.slice (some ⟨w.heap.size,0,none⟩) 0 a.toNat,.slice (some ⟨w.heap.size,0,none⟩) ([]:List AV).length a.toNat,w.alloc (.cells arr e),?_,below_alloc _ _,blk_new (by simp),trivial,fun hN=>⟨?_,?_⟩⟩
 ·simp only [execOp,ho,e1,e2,Sem.run_bind,h3,Result.andThen_ok,Sem.run_pure]
 ·exact arr_new (w1:=w) rfl rfl hL (by simp) h4 hN
 ·have:=RepT.ref (N:=Nf N0 base (updV V n (.slice (some ⟨w.heap.size,0,none⟩) ([]:List AV).length a.toNat)) (updO ob' n (.arr ie.size []))) (w:=w.alloc (.cells arr e)) (V:=updV V n (.slice (some ⟨w.heap.size,0,none⟩) ([]:List AV).length a.toNat)) n (by rw [updV_same];rfl)
  rw [updV_same] at this
  exact this
theorem makeTre_OK (hT:TOK P T) {t e:TypeId} {ie:TI} {l c:Operand} {a:Int} {k k':IntKind} {k2:Nat} (ho:o.op=.makeSlice t l c) (hu:P.underlying t=some (.slice e)) (he:T e=some ie)
  (hl:ρ l=some (.v (.int k a))) (hc:ρ c=some (.v (.int k' a))) (hz:ie.zero=.slice none 0 0) (h0:0≤a) (h1:a≤4611686018427387904) (h2:ie.bytes * a≤140737488355328) :
  OKs P o ρ ob n (.ref n) (some (.tre 1 (List.replicate a.toNat (.own k2 [])))):=by
 refine OKs.newObj (fun A h=>by simpa [bd] using h) fun {N0 base V g ob' A a' w} hbas hn hρ hop hobs hlow hne=>?_
 have e1:=eval_v (hop l _ (by rw [ho];simp [Op.operands]) hl).1
 have e2:=eval_v (hop c _ (by rw [ho];simp [Op.operands]) hc).1
 have hs:ie.size=1:=by
  obtain ⟨info,_,_,_,_,_,h⟩:=hT e ie he
  rw [hz] at h
  simpa [Value.cells] using h.symm
 obtain ⟨arr,h3,h4⟩:=makeSlice_run (P:=P) (w:=w) hT hu he (k:=k) (k':=k') h0 h1 h2 (by omega)
 have hget:∀ i,i < a.toNat→arr[i]?=some (.slice none 0 0):=fun i hi=>by
  rcases h4 with rfl | rfl
  ·simp at hi
  ·rw [hz,hs]
   simp [Value.cells,hi,Nat.mod_one]
 refine ⟨.slice (some ⟨w.heap.size,0,none⟩) a.toNat a.toNat,.slice (some ⟨w.heap.size,0,none⟩) a.toNat a.toNat,w.alloc (.cells arr e),?_,below_alloc _ _,blk_new (by simp),fun e' he'=>?_,fun hN=>⟨?_,?_⟩⟩
 ·simp only [execOp,ho,e1,e2,Sem.run_bind,h3,Result.andThen_ok,Sem.run_pure]
 ·rw [(List.mem_replicate.1 he').2];simp [cellsA,bdL,bd]
 ·by_cases ha:a.toNat=0
  ·left
   refine ⟨_,by rw [updV_same,ha],by rw [ha];rfl,fun b hb=>?_⟩
   rw [updV_f,ha] at hb
   simp [bl,blk] at hb
  ·right
   refine ⟨w.heap.size,0,a.toNat,arr,e,fun _ _=>False,by rw [updV_same];simp,heap_new w _,by omega,by simp,?_,fun e' he'=>by rw [(List.mem_replicate.1 he').2];rfl,fun i e' j c' q1 q2=>?_,fun _ _ _ h=>h.elim,fun _ _ h=>h.elim,fun b=>?_⟩
   ·have:(a.toNat - 1) < arr.size:=(Array.getElem?_eq_some_iff.1 (hget (a.toNat - 1) (by omega))).1
    omega
   ·obtain ⟨q3,q4⟩:=List.getElem?_eq_some_iff.1 q1
    simp at q3 q4
    subst q4
    cases j with
    | succ j=>simp [cellsA] at q2
    | zero =>
     simp [cellsA] at q2
     subst q2
     exact ⟨.slice none 0 0,by rw [← hget i (by omega)];congr 1;omega,rfl,.inl ⟨none,rfl,rfl⟩,fun b=>by simp [bl,blk]⟩
   ·rw [updV_f]
    simp only [bl,blk,if_neg ha,Option.some.injEq,and_false,exists_false,or_false,eq_comm]
 ·have:=RepT.ref (N:=Nf N0 base (updV V n (.slice (some ⟨w.heap.size,0,none⟩) a.toNat a.toNat)) (updO ob' n (.tre 1 (List.replicate a.toNat (.own k2 []))))) (w:=w.alloc (.cells arr e)) (V:=updV V n (.slice (some ⟨w.heap.size,0,none⟩) a.toNat a.toNat)) n (by rw [updV_same];rfl)
  rwa [updV_same] at this
theorem buildSlice_OK (hT:TOK P T) {t e:TypeId} {ie:TI} {len:Nat} {parts:Array (Nat × Operand)} {ys es:List AV} {own:Bool} {K:AV→Option AO→Prop} (ho:o.op=.buildSlice t len parts) (hu:P.underlying t=some (.slice e)) (he:T e=some ie)
  (hi:idxs 0 parts.toList=true) (hl:parts.size=len) (hsz:len * ie.size≤16777216)
  (hlen:ys.length=(parts.toList.map (·.2)).length) (hys:∀ (j:Nat) (h1:j < (parts.toList.map (·.2)).length) (h2:j < ys.length),ρ (parts.toList.map (·.2))[j]=some ys[j]) (himm:immAll ob ie.size ys=some es)
  (hK:match len,own with | 0,_=>K .nils none | _,true=>K (.ref n) (some (.arr ie.size es)) | _,false=>K (.sl es) none):∃ x no,K x no∧OKs P o ρ ob n x no:=by
 have hlen':ys.length=parts.size:=by simpa using hlen
 have hrun:∀ {N:Nat→Prop} {V:VV} {A:Nat→Prop} {a:Act} {w:World},(∀ y z,y∈o.op.operands→ρ y=some z→RepT N w V z (a.eval y)∧bd A z)→(∀ i u,ob i=some u→RepO N w V i u) →
   ∃ cells,(execOp a.eval o).run P w=.ok (.value (.slice (some ⟨w.heap.size,0,none⟩) len len)) (w.alloc (.cells cells e))∧cells.size=len * ie.size∧Laid N w ie.size es 0 cells∧es.length=len:=by
  intro N V A a w hop hobs
  obtain ⟨cells,h1,h2,h3,h4⟩:=buildSlice_run (P:=P) (w:=w) (N:=N) (V:=V) (ob:=ob) (ev:=a.eval) hT hu he hi hl hsz hlen' (fun j h1 h2=>by
   have:=hys j (by simpa using h1) h2
   simp only [List.getElem_map,Array.getElem_toList] at this
   refine (hop _ _ ?_ this).1
   rw [ho]
   simp only [Op.operands,List.mem_toArray,List.mem_map,Array.mem_toList_iff]
   exact ⟨parts[j],Array.getElem_mem h1,rfl⟩) himm hobs
  exact ⟨cells,by simp only [execOp,ho,Sem.run_bind,h1,Result.andThen_ok,Sem.run_pure],h2,h3,h4⟩
 split at hK
 ·refine ⟨_,_,hK,OKs.grown fun {N0 base V g ob' A a w} hbas hρ hop hobs hlow=>?_⟩
  obtain ⟨cells,h1,_⟩:=hrun hop (fun i u hu=>(hobs i u hu).1)
  exact ⟨_,_,h1,below_alloc _ _,by simp [bd],.nils _⟩
 ·refine ⟨_,_,hK,OKs.newObj (fun A h=>by simpa [bd] using h) fun {N0 base V g ob' A a w} hbas hn hρ hop hobs hlow hne=>?_⟩
  obtain ⟨cells,h1,h2,h3,h4⟩:=hrun hop (fun i u hu=>(hobs i u hu).1)
  refine ⟨_,.slice (some ⟨w.heap.size,0,none⟩) es.length len,_,h1,below_alloc _ _,blk_new (by simp),trivial,fun hN=>⟨arr_new (w1:=w) rfl rfl h3 (by omega) (by omega) hN,?_⟩⟩
  have:=RepT.ref (N:=Nf N0 base (updV V n (.slice (some ⟨w.heap.size,0,none⟩) es.length len)) (updO ob' n (.arr ie.size es))) (w:=w.alloc (.cells cells e)) (V:=updV V n (.slice (some ⟨w.heap.size,0,none⟩) es.length len)) n (by rw [updV_same];rfl)
  rw [updV_same] at this
  rwa [h4] at this ⊢
 ·refine ⟨_,_,hK,OKs.grown fun {N0 base V g ob' A a w} hbas hρ hop hobs hlow=>?_⟩
  obtain ⟨cells,h1,h2,h3,h4⟩:=hrun hop (fun i u hu=>(hobs i u hu).1)
  refine ⟨_,_,h1,below_alloc _ _,by simp [bd],.im ?_⟩
  have:=(h3.mono fun b hN hlt=>⟨hN,(below_alloc w (.cells cells e)).block b hlt⟩).rep (heap_new w _) (Nf_new hbas hlow) (cap:=len) (by omega)
  rwa [h4] at this
theorem pstep_sound (hT:TOK P T) {own:Bool} {K:AV→Option AO→Prop} (h:pstep P T own ρ ob n o K):∃ x no,K x no∧OKs P o ρ ob n x no:=by
 unfold pstep at h
 split at h
 ·rename_i x ho
  obtain ⟨y,h1,h2⟩:=kx_iff h
  exact ⟨_,_,h2,move_OK (.inl ho) h1⟩
 ·rename_i x ho
  obtain ⟨y,h1,h2⟩:=kx_iff h
  exact ⟨_,_,h2,move_OK (.inr ho) h1⟩
 ·rename_i c x y ho
  obtain ⟨cv,h1,h2⟩:=kx_iff h
  split at h2
  ·rename_i t
   replace h2:=ifB_elim h2
   cases t with
   | true =>
    obtain ⟨z,h3,h4⟩:=kx_iff (h2.1 rfl)
    exact ⟨_,_,h4,pick_OK (t:=true) ho h1 h3⟩
   | false =>
    obtain ⟨z,h3,h4⟩:=kx_iff (h2.2 rfl)
    exact ⟨_,_,h4,pick_OK (t:=false) ho h1 h3⟩
  ·exact h2.elim
 ·rename_i op t x y t' ho
  obtain ⟨xv,h1,h2⟩:=kx_iff h
  obtain ⟨yv,h3,h4⟩:=kx_iff h2
  split at h4
  ·obtain ⟨r,h5,h6,h7⟩:=abin_sound hT h4
   exact ⟨_,_,h5,binOp_OK ho h1 h3 h7 h6⟩
  ·exact h4.elim
 ·rename_i op t x ho
  obtain ⟨xv,h1,h2⟩:=kx_iff h
  split at h2
  ·rename_i b
   exact ⟨_,_,h2,plain1_OK (by rw [ho];simp [Op.operands]) h1 rfl fun e w he=>by simp [execOp,ho,he,Op.unary]⟩
  ·rename_i k i
   exact ⟨_,_,h2.elim,plain1_OK (by rw [ho];simp [Op.operands]) h1 rfl fun e w he=>by simp [execOp,ho,he,Op.unary,Op.intArith]⟩
  ·exact h2.elim
 ·rename_i src dst x ho
  obtain ⟨xv,h1,h2⟩:=kx_iff h
  split at h2
  ·rename_i hs hd
   exact ⟨_,_,h2.elim,plain1_OK (by rw [ho];simp [Op.operands]) h1 rfl fun e w he=>by simp [execOp,ho,he,convert,run_underlying (under_of hT hs),run_underlying (under_of hT hd),Conv.intToInt]⟩
  ·rename_i hs hd
   exact ⟨_,_,h2,plain1_OK (by rw [ho];simp [Op.operands]) h1 rfl fun e w he=>by simp [execOp,ho,he,convert,run_underlying (under_of hT hs),run_underlying (under_of hT hd)]⟩
  ·rename_i e hs hd
   split at h2
   ·rename_i ie ys hie hys
    split at h2
    ·rename_i hde
     obtain ⟨ns,hk,hns,hK⟩:=h2
     exact ⟨_,_,hK,bytes_OK hT ho (under_of hT hs) (under_of hT hd) (under_of hT (by rw [hie];exact congrArg some hde)) hk h1 (hns ▸ hys)⟩
    ·exact h2.elim
   ·exact h2.elim
  ·exact h2.elim
 ·rename_i x ho
  obtain ⟨xv,h1,h2⟩:=kx_iff h
  have key:∀ {y:AV},ρ x=some y→(∀ {N:Nat→Prop} {w:World} {V:VV} {v:Value},RepT N w V y v→∃ b o,v=.pointer (some ⟨b,o,none⟩))→OKs P o ρ ob n y none:=fun hy hp =>
   addr_OK (by rw [ho];simp [Op.operands]) hy fun hr hb _=>by
    obtain ⟨b,o',e⟩:=hp hr
    refine ⟨_,?_,hr,hb⟩
    simp only [execOp,ho,e]
    rfl
  split at h2
  ·exact ⟨_,_,h2,key h1 fun hr=>by cases hr with | im h=>cases h | ptr _ j b o h=>exact ⟨_,_,rfl⟩⟩
  ·exact ⟨_,_,h2,key h1 fun hr=>by cases hr with | im h=>cases h | pea _ k i j b o n c h=>exact ⟨_,_,rfl⟩⟩
  ·exact ⟨_,_,h2,key h1 fun hr=>by cases hr with | im h=>cases h | pel cs b o f hN hb hc hr=>exact ⟨_,_,rfl⟩⟩
  ·exact h2.elim
 ·rename_i s x f ho
  obtain ⟨xv,h1,h2⟩:=kx_iff h
  split at h2
  ·exact h2.elim
  ·rename_i fd hfd
   split at h2
   ·exact h2.elim
   ·rename_i ti hti
    split at h2
    ·exact h2.elim
    ·rename_i p hp
     by_cases hs:ti.size≠0
     ·rw [if_pos hs,ptrL_eq] at h2
      refine ⟨_,_,h2,addr_OK (by rw [ho];simp [Op.operands]) h1 fun hr hb _=>?_⟩
      obtain ⟨b,o',e,hr',hb'⟩:=addOff_rep hr hp
      refine ⟨_,?_,hr',hb' _ hb⟩
      simp only [execOp,ho,e,Sem.run_bind,run_fieldAt hT hfd hti hs,Result.andThen_ok,Sem.run_pure]
     ·rw [if_neg hs] at h2;exact h2.elim
 ·rename_i s x f ho
  obtain ⟨xv,h1,h2⟩:=kx_iff h
  split at h2
  ·rename_i fd cs hfd
   split at h2
   ·exact h2.elim
   ·rename_i ti hti
    split at h2
    ·rename_i y hy
     rw [ldL_eq] at h2
     refine ⟨_,_,h2,addr_OK (by rw [ho];simp [Op.operands]) h1 fun {N V A e w} hr hb _=>?_⟩
     obtain ⟨vs,hv⟩:∃ vs,e x=.agg vs:=by
      generalize e x=v at hr
      cases hr with
      | im h=>cases h
      | ag _ vs hs hr ho=>exact ⟨vs,rfl⟩
     rw [hv] at hr
     obtain ⟨u,h3,h4⟩:=part_rep hT hti hr hy
     obtain ⟨fs,h5,h6⟩:=fieldOf_run hT hfd
     refine ⟨u,?_,h4,bd_part (by simpa [bd] using hb) hy⟩
     simp only [execOp,ho,hv,Instr.field,Sem.run_bind,run_underlying h5,Result.andThen_ok,h6,asAgg,Sem.run_pure,h3]
    ·exact h2.elim
  ·exact h2.elim
 ·rename_i t x i ho
  obtain ⟨xv,h1,h2⟩:=kx_iff h
  obtain ⟨iv,h3,h4⟩:=kx_iff h2
  split at h4
  ·rename_i k j
   obtain ⟨p,h5,h6⟩:=idxAddr_sound (k:=k) hT h4
   refine ⟨_,_,h5,OKs.value fun {N V g A a w} hρ hop hobs=>?_⟩
   have hv:=eval_v (hop i _ (by rw [ho];simp [Op.operands]) h3).1
   obtain ⟨hr,hb⟩:=hop x _ (by rw [ho];simp [Op.operands]) h1
   obtain ⟨u,h7,h8,h9⟩:=h6 hr hb hobs
   exact ⟨u,by simp only [execOp,ho,hv,Sem.run_bind,h7,Result.andThen_ok,Sem.run_pure],h8,h9⟩
  ·exact h4.elim
 ·rename_i t x i ho
  obtain ⟨xv,h1,h2⟩:=kx_iff h
  obtain ⟨iv,h3,h4⟩:=kx_iff h2
  split at h4
  ·rename_i s k j hd
   obtain ⟨h5,b,h6,h7⟩:=h4
   refine ⟨_,_,h7,OKs.value fun {N V g A a w} hρ hop hobs=>?_⟩
   have hv:=eval_v (hop i _ (by rw [ho];simp [Op.operands]) h3).1
   have hx:=eval_v (hop x _ (by rw [ho];simp [Op.operands]) h1).1
   refine ⟨_,?_,.im (.v _ rfl),by simp [bd]⟩
   simp only [execOp,ho,hv,hx,Instr.index,asIntOf,Sem.run_bind,Sem.run_pure,Result.andThen_ok,run_underlying (under_of hT hd),h5,if_true,h6]
  ·rename_i len e cs k j hd
   split at h4
   ·exact h4.elim
   ·rename_i ie hie
    obtain ⟨h5,h6,h7⟩:=h4
    split at h7
    ·rename_i y hy
     refine ⟨_,_,h7,OKs.value fun {N V g A a w} hρ hop hobs=>?_⟩
     have hv:=eval_v (hop i _ (by rw [ho];simp [Op.operands]) h3).1
     obtain ⟨hr,hb⟩:=hop x _ (by rw [ho];simp [Op.operands]) h1
     obtain ⟨vs,hvx⟩:∃ vs,a.eval x=.agg vs:=by
      generalize a.eval x=v at hr
      cases hr with
      | im h=>cases h
      | ag _ vs hs hr ho=>exact ⟨vs,rfl⟩
     rw [hvx] at hr
     obtain ⟨u,h8,h9⟩:=part_rep hT hie hr hy
     refine ⟨u,?_,h9,bd_part (by simpa [bd] using hb) hy⟩
     have h10:0≤j∧j < (len:Int):=⟨h5,h6⟩
     simp only [execOp,ho,hv,hvx,Instr.index,asIntOf,Sem.run_bind,Sem.run_pure,Result.andThen_ok,run_underlying (under_of hT hd),h10,and_self,if_true,run_sizeOf hT hie,h8]
    ·exact h7.elim
  ·exact h4.elim
 ·rename_i t p ho
  obtain ⟨pv,h1,h2⟩:=kx_iff h
  split at h2
  ·exact h2.elim
  ·rename_i i hi
   obtain ⟨cs,h3,h4⟩:=atPtr_sound h2
   split at h3
   ·rename_i x hx
    rw [ldL_eq] at h3
    refine ⟨_,_,h3,addr_OK (by rw [ho];simp [Op.operands]) h1 fun {N V A e w} hr hb hobs=>?_⟩
    obtain ⟨h5,h6⟩:=h4 hr hobs
    obtain ⟨u,h7,h8⟩:=h5.load hT hi hx
    exact ⟨u,by simp only [execOp,ho,Sem.run_bind,h7,Result.andThen_ok,Sem.run_pure],h8,bd_part h6 hx⟩
   ·exact h3.elim
 ·rename_i x i ho
  obtain ⟨xv,h1,h2⟩:=kx_iff h
  split at h2
  ·rename_i cs
   split at h2
   ·rename_i c hc
    refine ⟨_,_,h2,addr_OK (by rw [ho];simp [Op.operands]) h1 fun {N V A e w} hr hb hobs=>?_⟩
    obtain ⟨vs,hv,hs,hr'⟩:∃ vs:Array Value,e x=.tuple vs∧vs.size=cs.length∧∀ (j:Nat) (h1:j < cs.length) (h2:j < vs.size),RepT N w V cs[j] vs[j]:=by
     generalize e x=v at hr
     cases hr with
     | im h=>cases h
     | tup _ vs hs hr=>exact ⟨vs,rfl,hs,hr⟩
    obtain ⟨h3,h4⟩:=List.getElem?_eq_some_iff.1 hc
    have h5:i < vs.size:=by omega
    refine ⟨vs[i],?_,h4 ▸ hr' i h3 h5,bdL_get (by simpa [bd] using hb) hc⟩
    simp [execOp,ho,hv,Instr.extract,h5]
   ·exact h2.elim
  ·exact h2.elim
 ·rename_i f fs cs ho
  obtain ⟨us,h1,h2,h3⟩:=kl_iff h
  obtain ⟨vs,h4,h5,h6⟩:=kl_iff h3
  refine ⟨_,_,h6,OKs.value fun {N V g A a w} hρ hop hobs=>?_⟩
  obtain ⟨e1,e2⟩:=ev_kl (xs:=fs) (fun y hy=>by rw [ho];simp [Op.operands,hy]) hop h1 h2
  obtain ⟨e3,e4⟩:=ev_kl (xs:=cs) (fun y hy=>by rw [ho];simp [Op.operands,hy]) hop h4 h5
  refine ⟨.func f (fs.map a.eval) (cs.map a.eval),by simp [execOp,ho,Instr.makeFunc],.fn f us vs _ _ e1 e3 (fun j h1 h2=>(e2 j h1 h2).1) (fun j h1 h2=>(e4 j h1 h2).1),?_⟩
  unfold bd
  refine ⟨bdL_iff.2 fun x hx=>?_,bdL_iff.2 fun x hx=>?_⟩
  ·obtain ⟨j,q1,q2⟩:=List.mem_iff_getElem.1 hx
   exact q2 ▸ (e2 j q1 (by omega)).2
  ·obtain ⟨j,q1,q2⟩:=List.mem_iff_getElem.1 hx
   exact q2 ▸ (e4 j q1 (by omega)).2
 ·rename_i t x ho
  obtain ⟨xv,h1,h2⟩:=kx_iff h
  by_cases hok:okA xv=true
  ·rw [if_pos hok] at h2
   exact ⟨_,_,h2,box_OK ho h1 hok⟩
  ·rw [if_neg hok] at h2;exact h2.elim
 ·rename_i t ho
  split at h
  ·exact h.elim
  ·rename_i i hi
   split at h
   ·exact h.elim
   ·rename_i cs hcs
    exact ⟨_,_,h,alloc_OK hT ho hi hcs⟩
 ·rename_i t parts ho
  split at h
  ·exact h.elim
  ·rename_i i hi
   split at h
   ·exact h.elim
   ·rename_i zs hzs
    by_cases hb:buildOK T t=true
    ·rw [if_pos hb] at h
     obtain ⟨ys,h1,h2,h3⟩:=kl_iff h
     split at h3
     ·rename_i cs hcs
      rw [litL_eq] at h3
      refine ⟨_,_,h3,OKs.value fun {N V g A a w} hρ hop hobs=>?_⟩
      have hm:∀ (j:Nat) (q:j < parts.size),parts[j].2∈o.op.operands:=fun j q=>by
       rw [ho]
       simp only [Op.operands,List.mem_toArray,List.mem_map,Array.mem_toList_iff]
       exact ⟨parts[j],Array.getElem_mem q,rfl⟩
      have hall:∀ (j:Nat) (q1:j < parts.size) (q2:j < ys.length),RepT N w V ys[j] (a.eval parts[j].2)∧bd A ys[j]:=fun j q1 q2=>by
       have:=h2 j (by simpa using q1) q2
       simp only [List.getElem_map,Array.getElem_toList] at this
       exact hop _ _ (hm j q1) this
      obtain ⟨arr,h4,h5⟩:=build_run (P:=P) (w:=w) (N:=N) (V:=V) (ev:=a.eval) hT hi hzs hb (by simpa using h1) (fun j q1 q2=>(hall j q1 q2).1) hcs
      refine ⟨_,by simp only [execOp,ho,Sem.run_bind,h4,Result.andThen_ok,Sem.run_pure],h5,?_⟩
      unfold bd
      have hz:=(constL_rep (N:=N) (w:=w) (V:=V) hzs).2.2 A
      have hlen:ys.length=parts.size:=by simpa using h1
      have:∀ (ps:List (Nat × AV)) (cs0 cs1:List AV),bdL A cs0→(∀ p,p∈ps→bd A p.2)→fillA (placeOf T t) cs0 ps=some cs1→bdL A cs1:=by
       intro ps
       induction ps with
       | nil=>intro cs0 cs1 q _ q3;simp [fillA] at q3;exact q3 ▸ q
       | cons p r ih =>
        intro cs0 cs1 q q2 q3
        unfold fillA at q3
        split at q3
        ·cases q3
        ·split at q3
         ·refine ih _ _ (bdL_iff.2 fun x hx=>?_) (fun p hp=>q2 p (by simp [hp])) q3
          unfold setC at hx
          rcases List.mem_append.1 hx with hx | hx
          ·rcases List.mem_append.1 hx with hx | hx
           ·exact bdL_iff.1 q x (List.mem_of_mem_take hx)
           ·exact bdL_iff.1 (bd_cells (q2 p (by simp))) x hx
          ·exact bdL_iff.1 q x (List.mem_of_mem_drop hx)
         ·cases q3
      refine this _ _ _ hz (fun p hp=>?_) hcs
      obtain ⟨j,q1,q2⟩:=List.mem_iff_getElem.1 (List.of_mem_zip hp).2
      rw [← q2]
      exact (hall j (by omega) q1).2
     ·exact h3.elim
    ·rw [if_neg hb] at h;exact h.elim
 ·rename_i t len parts ho
  split at h
  ·rename_i e hd
   split at h
   ·exact h.elim
   ·rename_i ie hie
    split at h
    ·rename_i hh
     obtain ⟨q1,q2,q3,_⟩:=hh
     obtain ⟨ys,h1,h2,h3⟩:=kl_iff h
     split at h3
     ·exact h3.elim
     ·rename_i es hes
      cases own with
      | true=>exact buildSlice_OK hT (own:=true) ho (under_of hT hd) hie q1 q2 q3 h1 h2 hes (by cases len <;> exact h3)
      | false =>
       cases len with
       | zero=>exact buildSlice_OK hT (own:=false) ho (under_of hT hd) hie q1 q2 q3 h1 h2 hes h3
       | succ m=>exact h3.el (fun h3=>buildSlice_OK hT (own:=true) ho (under_of hT hd) hie q1 q2 q3 h1 h2 hes h3) (fun h3=>buildSlice_OK hT (own:=false) ho (under_of hT hd) hie q1 q2 q3 h1 h2 hes h3)
    ·exact h.elim
  ·exact h.elim
 ·rename_i t l c ho
  split at h
  ·rename_i hcap
   obtain ⟨cv,h3,h4⟩:=kx_iff h
   split at h4
   ·rename_i e k' b hd
    split at h4
    ·exact h4.elim
    ·rename_i ie hie
     split at h4
     ·rename_i hh
      obtain ⟨q1,q2,q3,q4⟩:=h4
      exact ⟨_,_,q4,makeCap_OK hT ho hcap (under_of hT hd) hie h3 hh q1 q2 q3⟩
     ·exact h4.elim
   ·exact h4.elim
  ·rename_i hcap
   obtain ⟨lv,h1,h2⟩:=kx_iff h
   obtain ⟨cv,h3,h4⟩:=kx_iff h2
   split at h4
   ·rename_i e k a k' b hd
    split at h4
    ·exact h4.elim
    ·rename_i ie hie
     split at h4
     ·exact h4.elim
     ·rename_i z0 hz0
      split at h4
      ·exact h4.elim
      ·rename_i z hz
       split at h4
       ·rename_i hh
        obtain ⟨rfl,q1,q2,q3,q4⟩:=h4
        have hflat:OKs P o ρ ob n (.ref n) (some (.arr ie.size (List.replicate a.toNat z))):=makeSlice_OK hT ho (under_of hT hd) hie h1 h3 hz0 hz hh.1 hh.2 q1 q2 q3
        unfold makeK at q4
        split at q4
        ·rename_i hz1
         split at q4
         ·rcases q4 with q4 | q4
          ·exact ⟨_,_,q4,hflat⟩
          ·exact ⟨_,_,q4,makeTre_OK hT ho (under_of hT hd) hie h1 h3 hz1 q1 q2 q3⟩
         ·exact ⟨_,_,q4,hflat⟩
        ·exact ⟨_,_,q4,hflat⟩
       ·exact h4.elim
   ·exact h4.elim
 ·rename_i t x lo hi mx ho
  split at h
  ·split at h
   ·obtain ⟨xv,h1,h2⟩:=kx_iff h
    split at h2
    ·rename_i e xs hd hxs
     split at h2
     ·rename_i ie hie
      exact ⟨_,_,h2,slice0_OK hT ho (under_of hT hd) hie h1 hxs⟩
     ·exact h2.elim
    ·exact h2.elim
   ·exact h.elim
  ·obtain ⟨xv,h1,h2⟩:=kx_iff h
   split at h2
   ·rename_i s hd
    obtain ⟨l,h3,hlo⟩:=optK_get h2
    obtain ⟨r,h4,hhi⟩:=optK_get h3
    obtain ⟨q0,q1,q2,hK⟩:=h4
    refine ⟨_,_,hK,OKs.value fun {N V g A a w} hρ hop hobs=>?_⟩
    have hx:=eval_v (hop x _ (by rw [ho];simp [Op.operands]) h1).1
    have hlo':(lo.map a.eval=none∧l=0)∨∃ k,lo.map a.eval=some (.int k l):=by
     rcases hlo with ⟨hq1,hq2⟩ | ⟨y,k,hq1,hy⟩
     ·exact .inl ⟨by rw [hq1];rfl,hq2⟩
     ·exact .inr ⟨k,by rw [hq1,Option.map_some,eval_v (hop y _ (by rw [ho,hq1];simp [Op.operands]) hy).1]⟩
    have hhi':(hi.map a.eval=none∧r=s.size)∨∃ k,hi.map a.eval=some (.int k r):=by
     rcases hhi with ⟨hq1,hq2⟩ | ⟨y,k,hq1,hy⟩
     ·exact .inl ⟨by rw [hq1];rfl,hq2⟩
     ·exact .inr ⟨k,by rw [hq1,Option.map_some,eval_v (hop y _ (by rw [ho,hq1];simp [Op.operands]) hy).1]⟩
    have hb:=sliceBounds_run (P:=P) (w:=w) (isS:=false) (len:=s.size) (cap:=s.size) hlo' hhi' q0 q1 q2 (Nat.le_refl _)
    refine ⟨_,?_,.im (.v _ rfl),by simp [bd]⟩
    simp only [execOp,ho,hx,Option.map_none,Instr.sliceAt,Sem.run_bind,run_underlying (under_of hT hd),Result.andThen_ok,Instr.slice,Option.isSome_none,Bool.false_eq_true,if_false,hb,Sem.run_pure]
   ·rename_i e hd
    split at h2
    ·rename_i ie hie
     obtain ⟨l,h3,hlo⟩:=optK_get h2
     obtain ⟨r,h4,hhi⟩:=optK_get h3
     obtain ⟨q0,q1,q2,hK⟩:=h4
     refine ⟨_,_,hK,OKs.value fun {N V g A a w} hρ hop hobs=>?_⟩
     obtain ⟨b,hv⟩:∃ b,a.eval x=.slice b 0 0:=by
      have hr:=(hop x _ (by rw [ho];simp [Op.operands]) h1).1
      generalize a.eval x=v at hr
      cases hr with
      | im h=>cases h
      | nils b=>exact ⟨b,rfl⟩
     have hlo':(lo.map a.eval=none∧l=0)∨∃ k,lo.map a.eval=some (.int k l):=by
      rcases hlo with ⟨hq1,hq2⟩ | ⟨y,k,hq1,hy⟩
      ·exact .inl ⟨by rw [hq1];rfl,hq2⟩
      ·exact .inr ⟨k,by rw [hq1,Option.map_some,eval_v (hop y _ (by rw [ho,hq1];simp [Op.operands]) hy).1]⟩
     have hhi':(hi.map a.eval=none∧r=((0:Nat):Int))∨∃ k,hi.map a.eval=some (.int k r):=by
      rcases hhi with ⟨hq1,hq2⟩ | ⟨y,k,hq1,hy⟩
      ·exact .inl ⟨by rw [hq1];rfl,hq2⟩
      ·exact .inr ⟨k,by rw [hq1,Option.map_some,eval_v (hop y _ (by rw [ho,hq1];simp [Op.operands]) hy).1]⟩
     have hb:=sliceBounds_run (P:=P) (w:=w) (isS:=true) (len:=0) (cap:=0) hlo' hhi' q0 q1 (by omega) (Nat.le_refl _)
     obtain rfl:l=0:=by omega
     obtain rfl:r=0:=by omega
     refine ⟨.slice b 0 0,?_,.nils b,by simp [bd]⟩
     simp only [execOp,ho,hv,Option.map_none,Instr.sliceAt,Sem.run_bind,run_underlying (under_of hT hd),Result.andThen_ok,Instr.slice,hb,run_sizeOf hT hie,Sem.run_pure]
     rfl
    ·exact h2.elim
   ·rename_i e hd _
    split at h2
    ·rename_i ie xs hie hxs hnl
     obtain ⟨hks,h2⟩:=h2
     obtain ⟨l,h3,hlo⟩:=optK_get h2
     obtain ⟨r,h4,hhi⟩:=optK_get h3
     obtain ⟨q0,q1,q2,hK⟩:=h4
     exact ⟨_,_,hK.elim,slice_OK hT ho (under_of hT hd) hie h1 hxs hnl hks hlo hhi q0 q1 q2⟩
    ·exact h2.elim
   ·exact h2.elim
 ·rename_i c ho
  split at h
  ·rename_i b hc
   obtain ⟨ys,h1,h2,h3⟩:=kl_iff h
   exact pbuiltin_sound hT ho hc h1 h2 h3
  ·rename_i f hc
   obtain ⟨fv,h1,h2⟩:=kx_iff h
   obtain ⟨ys,h3,h4,h5⟩:=kl_iff h2
   split at h5
   ·rename_i fid fs cs hcal
    refine pcall_OK h5 fun N V A a w hop=>?_
    obtain ⟨e1,e2⟩:=ev_kl (xs:=c.args) (fun y hy=>by rw [ho];simp [Op.operands,Call.operands,hc,hy]) hop h3 h4
    have hfv:=hop f fv (by rw [ho];simp [Op.operands,Call.operands,hc]) h1
    obtain ⟨us,vs,hev,r1,r2,r3,r4⟩:∃ us vs:Array Value,a.eval f=.func (.func fid) us vs∧us.size=fs.length∧vs.size=cs.length∧(∀ (j:Nat) (h1:j < fs.length) (h2:j < us.size),RepT N w V fs[j] us[j])∧(∀ (j:Nat) (h1:j < cs.length) (h2:j < vs.size),RepT N w V cs[j] vs[j]):=by
     have hfr:=hfv.1
     unfold calleeOf at hcal
     split at hcal
     ·split at hcal
      ·rename_i hz
       injection hcal with hcal
       simp only [Prod.mk.injEq] at hcal
       obtain ⟨rfl,rfl,rfl⟩:=hcal
       exact ⟨_,_,eval_v hfr,by simpa using hz.1,by simpa using hz.2,fun j h1=>by simp at h1,fun j h1=>by simp at h1⟩
      ·cases hcal
     ·injection hcal with hcal
      simp only [Prod.mk.injEq] at hcal
      obtain ⟨rfl,rfl,rfl⟩:=hcal
      generalize a.eval f=v at hfr
      cases hfr with
      | im h=>cases h
      | fn _ _ _ us vs q1 q2 q3 q4=>exact ⟨us,vs,rfl,q1,q2,q3,q4⟩
     ·cases hcal
    refine ⟨us++c.args.map a.eval++vs,by simp only [Array.size_append,List.length_append,r1,r2,e1],?_,fun j h6 h7=>?_⟩
    ·simp only [execOp,ho,resolve,hc,hev,Deferred.ofValue,Sem.run_bind,Sem.run_pure,Result.andThen_ok,invoke]
    ·simp only [Array.getElem_append,List.getElem_append,Array.size_append,List.length_append,r1,e1]
     split
     ·split
      ·exact r3 _ _ _
      ·exact (e2 _ _ _).1
     ·exact r4 _ _ _
   ·exact h5.elim
  ·exact h.elim
 ·exact h.elim
end
end Go.Sk
namespace Go.Sk
open Go.RowKit
variable {N0:Nat→Prop} {base:Nat} {w0:W0} {m:Nat} {V:VV} {g:Nat→Option AV} {ob:Nat→Option AO} {A:Nat→Prop} {a:Act} {w:World}
def updP (ob:Nat→Option AO) (i:Nat) (o:AO) (n:Nat) (o':AO):Nat→Option AO:=updO (updO ob i o) n o'
def updK (ob:Nat→Option AO) (ks:List Nat) (n:Nat) (o':AO) (i:Nat):Option AO:=if i=n then some o' else if i∈ks then some .dead else ob i
theorem updK_one (ob:Nat→Option AO) (id n:Nat) (o':AO):updK ob [id] n o'=updP ob id .dead n o':=by
 funext i
 simp [updK,updP,updO]
theorem Rel.replaceL (h:Rel N0 base w0 m V g ob A a w) {w':World} {ks:List Nat} {n:Nat} {o':AO} {v:Value} {f:Nat→Prop} (hks:∀ id,id∈ks→live ob id) (hn:¬ A n)
  (hsz:w.heap.size≤w'.heap.size) (hbl:∀ b,b < w.heap.size→(∀ id,id∈ks→¬ V.f id b)→w'.heap[b]?=w.heap[b]?) (hos:w'.os=w.os) (hta:w'.tape=w.tape) (hou:Outp w w')
  (hv:∀ b,f b→(∃ id,id∈ks∧V.f id b)∨(w.heap.size≤b∧b < w'.heap.size))
  (ho:(∀ b,Nf N0 base V ob b→b < w.heap.size→Nf N0 base (setF (updV V n v) n f) (updK ob ks n o') b∧w'.heap[b]?=w.heap[b]?)→RepO (Nf N0 base (setF (updV V n v) n f) (updK ob ks n o')) w' (setF (updV V n v) n f) n o') (hbd:bdO (addA A n) o') :
  Rel N0 base w0 m (setF (updV V n v) n f) g (updK ob ks n o') (addA A n) a w':=by
 have hkA:∀ id,id∈ks→A id:=fun id hid=>by obtain ⟨o,h1,_⟩:=hks id hid;exact (h.bdo id o h1).1
 have hVn:(setF (updV V n v) n f).f n=f:=setF_f _ _ _
 have hVo:∀ i,i≠n→(setF (updV V n v) n f).f i=V.f i:=fun i hi=>by rw [setF_fne _ _ _ hi,updV_fne V n v hi]
 have hsub:∀ i,live (updK ob ks n o') i→i=n∨(i≠n∧i ∉ ks∧live ob i):=fun i ⟨o1,h1,h2⟩=>by
  unfold updK at h1
  split at h1
  ·exact .inl (by assumption)
  ·split at h1
   ·injection h1 with h1;subst h1;cases h2
   ·exact .inr ⟨by assumption,by assumption,o1,h1,h2⟩
 have hV:∀ i,A i→setF (updV V n v) n f i=V i:=fun i hi=>by rw [setF_v];exact updV_ne V n v (fun e=>hn (e ▸ hi))
 have hvb:∀ b,f b→b < w.heap.size→∃ id,id∈ks∧V.f id b:=fun b hb hlt=>by
  rcases hv b hb with h | h
  ·exact h
  ·omega
 have hNf:∀ b,Nf N0 base V ob b→b < w.heap.size→Nf N0 base (setF (updV V n v) n f) (updK ob ks n o') b∧w'.heap[b]?=w.heap[b]?:=fun b hN hlt=>by
  refine ⟨⟨hN.1,fun i hl=>?_⟩,hbl b hlt fun id hid=>hN.2 id (hks id hid)⟩
  rcases hsub i hl with rfl | ⟨hi,_,hl⟩
  ·rw [hVn]
   intro hc
   obtain ⟨id,h1,h2⟩:=hvb b hc hlt
   exact hN.2 id (hks id h1) h2
  ·rw [hVo i hi];exact hN.2 i hl
 have hobn:∀ {i:Nat} {o1:AO},updK ob ks n o' i=some o1→(i=n∧o1=o')∨(i≠n∧i∈ks∧o1=.dead)∨(i≠n∧i ∉ ks∧ob i=some o1):=fun {i o1} hi=>by
  unfold updK at hi
  split at hi
  ·injection hi with hi;exact .inl ⟨by assumption,hi.symm⟩
  ·split at hi
   ·injection hi with hi;exact .inr (.inl ⟨by assumption,by assumption,hi.symm⟩)
   ·exact .inr (.inr ⟨by assumption,by assumption,hi⟩)
 refine ⟨fun t x hx=>RepT.mono (V:=V) hNf hV (h.tm t x hx) (h.bdt t x hx),fun i o1 hi=>?_,fun i j b hi hj hbi hbj=>?_,fun i b hi hbi=>?_,fun t x hx=>bd_mono (fun _=>.inl) x (h.bdt t x hx),fun i o1 hi=>?_,?_,Nat.le_trans h.bas hsz,h.dfr,h.siz,fun i hi=>⟨.inl (h.par i hi).1,(hV i (h.par i hi).1).trans (h.par i hi).2⟩⟩
 ·rcases hobn hi with ⟨rfl,rfl⟩ | ⟨_,_,rfl⟩ | ⟨h1,h2,h3⟩
  ·exact ho hNf
  ·trivial
  ·exact RepO.mono (V:=V) hNf hsz hV (fun b=>by rw [hVo i h1]) (h.bdo i o1 h3).1 (fun hl b hb'=>hbl b (h.low i b ⟨o1,h3,hl⟩ hb').2 (fun id hid e=>h2 ((h.inj i id b ⟨o1,h3,hl⟩ (hks id hid) hb' e) ▸ hid))) (h.obs i o1 h3) (h.bdo i o1 h3).2
 ·have key:∀ {i j:Nat},i=n→j≠n→j ∉ ks→live ob j→(setF (updV V n v) n f).f i b→(setF (updV V n v) n f).f j b→False:=fun {i j} h1 h2 h3 h4 h5 h6=>by
   subst h1
   rw [hVn] at h5
   rw [hVo j h2] at h6
   have hlt:=(h.low j b h4 h6).2
   obtain ⟨id,q1,q2⟩:=hvb b h5 hlt
   exact h3 ((h.inj j id b h4 (hks id q1) h6 q2) ▸ q1)
  rcases hsub i hi with h1 | ⟨h1,h2,h3⟩ <;> rcases hsub j hj with h4 | ⟨h4,h5,h6⟩
  ·rw [h1,h4]
  ·exact (key h1 h4 h5 h6 hbi hbj).elim
  ·exact (key h4 h1 h2 h3 hbj hbi).elim
  ·rw [hVo i h1] at hbi;rw [hVo j h4] at hbj
   exact h.inj i j b h3 h6 hbi hbj
 ·rcases hsub i hi with rfl | ⟨h1,h2,h3⟩
  ·rw [hVn] at hbi
   rcases hv b hbi with ⟨id,q1,q2⟩ | hc
   ·have:=h.low id b (hks id q1) q2;exact ⟨this.1,Nat.lt_of_lt_of_le this.2 hsz⟩
   ·exact ⟨.inl (Nat.le_trans h.bas hc.1),hc.2⟩
  ·rw [hVo i h1] at hbi
   exact ⟨(h.low i b h3 hbi).1,Nat.lt_of_lt_of_le (h.low i b h3 hbi).2 hsz⟩
 ·rcases hobn hi with ⟨rfl,rfl⟩ | ⟨_,h2,rfl⟩ | ⟨h1,h2,h3⟩
  ·exact ⟨.inr rfl,hbd⟩
  ·exact ⟨.inl (hkA i h2),trivial⟩
  ·exact ⟨.inl (h.bdo i o1 h3).1,bdO_mono (fun _=>.inl) o1 (h.bdo i o1 h3).2⟩
 ·refine h.bel.turn hos hta hou hsz fun b hb hf'=>hbl b (Nat.lt_of_lt_of_le hb h.bas) fun id hid e=>?_
  rcases (h.low id b (hks id hid) e).1 with q | ⟨q,_⟩
  ·omega
  ·exact hf' q
theorem Rel.turnL (h:Rel N0 base w0 m V g ob A a w) {w':World} {ks:List Nat} {n:Nat} {o o':AO} {f:Nat→Prop} (hon:ob n=some o) (hol:o.live=true) (hnk:n ∉ ks) (hks:∀ id,id∈ks→live ob id)
  (hf:∀ b,f b→V.f n b∨∃ id,id∈ks∧V.f id b)
  (hsz:w.heap.size≤w'.heap.size) (hbl:∀ b,b < w.heap.size→¬ V.f n b→w'.heap[b]?=w.heap[b]?) (hos:w'.os=w.os) (hta:w'.tape=w.tape) (hou:Outp w w')
  (ho:(∀ b,Nf N0 base V ob b→b < w.heap.size→Nf N0 base (setF V n f) (updK ob ks n o') b∧w'.heap[b]?=w.heap[b]?)→RepO (Nf N0 base (setF V n f) (updK ob ks n o')) w' (setF V n f) n o') (hbd:bdO A o') :
  Rel N0 base w0 m (setF V n f) g (updK ob ks n o') A a w':=by
 have hln:live ob n:=⟨o,hon,hol⟩
 have hown:∀ b,f b→∃ i,(i=n∨i∈ks)∧live ob i∧V.f i b:=fun b hb=>by
  rcases hf b hb with h | ⟨id,h1,h2⟩
  ·exact ⟨n,.inl rfl,hln,h⟩
  ·exact ⟨id,.inr h1,hks id h1,h2⟩
 have hsub:∀ i,live (updK ob ks n o') i→i=n∨(i≠n∧i ∉ ks∧live ob i):=fun i ⟨o1,h1,h2⟩=>by
  unfold updK at h1
  split at h1
  ·exact .inl (by assumption)
  ·split at h1
   ·injection h1 with h1;subst h1;cases h2
   ·exact .inr ⟨by assumption,by assumption,o1,h1,h2⟩
 have hVn:(setF V n f).f n=f:=setF_f _ _ _
 have hVo:∀ i,i≠n→(setF V n f).f i=V.f i:=fun i hi=>setF_fne _ _ _ hi
 have hNf:∀ b,Nf N0 base V ob b→b < w.heap.size→Nf N0 base (setF V n f) (updK ob ks n o') b∧w'.heap[b]?=w.heap[b]?:=fun b hN hlt=>by
  refine ⟨⟨hN.1,fun i hl hb=>?_⟩,hbl b hlt (hN.2 n hln)⟩
  rcases hsub i hl with rfl | ⟨hi,_,hl⟩
  ·rw [hVn] at hb
   obtain ⟨i',_,q1,q2⟩:=hown b hb
   exact hN.2 i' q1 q2
  ·rw [hVo i hi] at hb;exact hN.2 i hl hb
 have hobn:∀ {i:Nat} {o1:AO},updK ob ks n o' i=some o1→(i=n∧o1=o')∨(i≠n∧i∈ks∧o1=.dead)∨(i≠n∧i ∉ ks∧ob i=some o1):=fun {i o1} hi=>by
  unfold updK at hi
  split at hi
  ·injection hi with hi;exact .inl ⟨by assumption,hi.symm⟩
  ·split at hi
   ·injection hi with hi;exact .inr (.inl ⟨by assumption,by assumption,hi.symm⟩)
   ·exact .inr (.inr ⟨by assumption,by assumption,hi⟩)
 have key:∀ {i b:Nat},i≠n→i ∉ ks→live ob i→V.f i b→f b→False:=fun {i b} h1 h2 h3 h4 h5=>by
  obtain ⟨i',q0,q1,q2⟩:=hown b h5
  have:=h.inj i i' b h3 q1 h4 q2
  subst this
  rcases q0 with q | q
  ·exact h1 q
  ·exact h2 q
 refine ⟨fun t x hx=>RepT.mono (V:=V) hNf (fun _ _=>rfl) (h.tm t x hx) (h.bdt t x hx),fun i o1 hi=>?_,fun i j b hi hj hbi hbj=>?_,fun i b hi hbi=>?_,h.bdt,fun i o1 hi=>?_,?_,Nat.le_trans h.bas hsz,h.dfr,h.siz,h.par⟩
 ·rcases hobn hi with ⟨rfl,rfl⟩ | ⟨_,_,rfl⟩ | ⟨h1,h2,h3⟩
  ·exact ho hNf
  ·trivial
  ·exact RepO.mono (V:=V) hNf hsz (fun _ _=>rfl) (fun b=>by rw [hVo i h1]) (h.bdo i o1 h3).1 (fun hl b hb'=>hbl b (h.low i b ⟨o1,h3,hl⟩ hb').2 (fun e=>h1 (h.inj i n b ⟨o1,h3,hl⟩ hln hb' e))) (h.obs i o1 h3) (h.bdo i o1 h3).2
 ·rcases hsub i hi with rfl | ⟨h1,h2,h3⟩ <;> rcases hsub j hj with rfl | ⟨h4,h5,h6⟩
  ·rfl
  ·rw [hVn] at hbi;rw [hVo j h4] at hbj;exact (key h4 h5 h6 hbj hbi).elim
  ·rw [hVn] at hbj;rw [hVo i h1] at hbi;exact (key h1 h2 h3 hbi hbj).elim
  ·rw [hVo i h1] at hbi;rw [hVo j h4] at hbj;exact h.inj i j b h3 h6 hbi hbj
 ·rcases hsub i hi with rfl | ⟨h1,h2,h3⟩
  ·rw [hVn] at hbi
   obtain ⟨i',_,q1,q2⟩:=hown b hbi
   have:=h.low i' b q1 q2
   exact ⟨this.1,Nat.lt_of_lt_of_le this.2 hsz⟩
  ·rw [hVo i h1] at hbi
   exact ⟨(h.low i b h3 hbi).1,Nat.lt_of_lt_of_le (h.low i b h3 hbi).2 hsz⟩
 ·rcases hobn hi with ⟨rfl,rfl⟩ | ⟨_,h2,rfl⟩ | ⟨h1,h2,h3⟩
  ·exact ⟨(h.bdo _ _ hon).1,hbd⟩
  ·obtain ⟨o2,q1,_⟩:=hks i h2
   exact ⟨(h.bdo i o2 q1).1,trivial⟩
  ·exact h.bdo i o1 h3
 ·refine h.bel.turn hos hta hou hsz fun b hb hf'=>hbl b (Nat.lt_of_lt_of_le hb h.bas) fun e=>?_
  rcases (h.low n b hln e).1 with q | ⟨q,_⟩
  ·omega
  ·exact hf' q
theorem Rel.replace (h:Rel N0 base w0 m V g ob A a w) {w':World} {id n:Nat} {o o':AO} {v:Value} (hon:ob id=some o) (hol:o.live=true) (hn:¬ A n)
  (hsz:w.heap.size≤w'.heap.size) (hbl:∀ b,b < w.heap.size→¬ V.f id b→w'.heap[b]?=w.heap[b]?) (hos:w'.os=w.os) (hta:w'.tape=w.tape) (hou:Outp w w')
  (hv:∀ b,blk v=some b→V.f id b∨(w.heap.size≤b∧b < w'.heap.size))
  (ho:(∀ b,Nf N0 base V ob b→b < w.heap.size→Nf N0 base (updV V n v) (updP ob id .dead n o') b∧w'.heap[b]?=w.heap[b]?)→RepO (Nf N0 base (updV V n v) (updP ob id .dead n o')) w' (updV V n v) n o') (hbd:bdO (addA A n) o') :
  Rel N0 base w0 m (updV V n v) g (updP ob id .dead n o') (addA A n) a w':=by
 have e:setF (updV V n v) n (bl v)=updV V n v:=by
  have:=setF_self (updV V n v) n
  rwa [updV_f] at this
 have:=h.replaceL (w':=w') (ks:=[id]) (n:=n) (o':=o') (v:=v) (f:=bl v) (fun i hi=>by simp at hi;subst hi;exact ⟨o,hon,hol⟩) hn hsz (fun b hb hno=>hbl b hb (hno id (by simp))) hos hta hou
  (fun b hb=>by exact (hv b hb).elim (fun h=>.inl ⟨id,by simp,h⟩) .inr) (by rw [e,updK_one];exact ho) hbd
 rwa [e,updK_one] at this
theorem Rel.publish (h:Rel N0 base w0 m V g ob A a w) {id k:Nat} {xs:List AV} (hon:ob id=some (.arr k xs)):Rel N0 base w0 m V g (updO ob id (.pub xs)) A a w:=by
 have hln:live ob id:=⟨_,hon,rfl⟩
 refine h.turn (o':=.pub xs) hon rfl (Nat.le_refl _) (fun _ _ _=>rfl) rfl rfl (.refl _) ?_ trivial
 have hup:∀ b,Nf N0 base V ob b→b < w.heap.size→Nf N0 base V (updO ob id (.pub xs)) b∧w.heap[b]?=w.heap[b]?:=fun b hN _=>⟨⟨hN.1,fun i hl=>by
  rcases live_updO hl with ⟨rfl,hd⟩ | ⟨_,hl⟩
  ·cases hd
  ·exact hN.2 i hl⟩,rfl⟩
 obtain ⟨h0,h00⟩:=h.obs id _ hon
 rcases h00 with ⟨a',h1,h2⟩ | ⟨b,o,cap,arr,Ty,h1,h2,h3,h4,h5,h6,h7⟩
 ·show Rep _ w (.sl xs) (V id)
  rw [h1,h2];exact .nil _ _
 ·show Rep _ w (.sl xs) (V id)
  have hbk:V.f id b:=(h0 b).2 (by rw [h1];simp [bl,blk];omega)
  rw [h1]
  refine Laid.rep (k:=k) (arr:=arr) ⟨h6,fun i e j c h8 h9=>let ⟨u,hu,hr⟩:=h7 i e j c h8 h9;⟨u,hu,hr.mono hup⟩⟩ h2 ⟨fun hb=>?_,fun i hl=>?_⟩ h4
  ·rcases (h.low id b hln hbk).1 with q | ⟨_,q⟩
   ·omega
   ·exact q
  ·rcases live_updO hl with ⟨rfl,hd⟩ | ⟨hi,hl⟩
   ·cases hd
   ·intro e
    exact hi (h.inj i id b hl hln e hbk)
def RS (N0:Nat→Prop) (base:Nat) (w0:W0) (σ:St) (a:Act) (w:World):Prop :=
 w0.m=σ.par∧∃ V,Rel N0 base w0 σ.size V σ.get σ.obj (fun i=>i < σ.next) a w
def St.eval (σ:St):Operand→Option AV:=evalA σ.get
def St.after (σ:St) (dst:Option Nat) (x:AV) (no:Option AO):St :=
 { tmps:=(match dst with | some d=>(d,x) :: σ.tmps | none=>σ.tmps),objs:=(match no with | some o=>(σ.next,o) :: σ.objs | none=>σ.objs),next:=(match no with | some _=>σ.next+1 | none=>σ.next),size:=σ.size,par:=σ.par }
theorem St.get_after (σ:St) (dst:Option Nat) (x:AV) (no:Option AO):(σ.after dst x no).get=upd σ.get dst x:=by
 funext t
 cases dst with
 | none=>rfl
 | some d=>simp [St.get,St.after,look,upd]
theorem St.obj_after (σ:St) (dst:Option Nat) (x:AV) (no:Option AO):(σ.after dst x no).obj=updN σ.obj σ.next no:=by
 funext i
 cases no with
 | none=>rfl
 | some o=>simp only [St.obj,St.after,look,updN,updO,eq_comm]
theorem St.next_after (σ:St) (dst:Option Nat) (x:AV) (no:Option AO):(fun i=>i < (σ.after dst x no).next)=addN (fun i=>i < σ.next) σ.next no:=by
 funext i
 cases no with
 | none=>rfl
 | some o=>simp only [St.after,addN,addA];exact propext (by omega)
def dstOk (σ:St) (o:Oper):Bool:=match o.dst with | some d=>d.blt σ.size | none=>true
theorem dstOk_spec {σ:St} {o:Oper} (h:dstOk σ o=true):∀ d,o.dst=some d→d < σ.size:=fun d hd=>by
 unfold dstOk at h
 rw [hd] at h
 simpa [Nat.blt_eq] using h
theorem pure_step {P:Program} {T:TypeId→Option TI} (hT:TOK P T) {o:Oper} {own:Bool} {σ:St} {K:St→Prop} (hd:dstOk σ o=true)
  (h:pstep P T own σ.eval σ.obj σ.next o fun x no=>K (σ.after o.dst x no)) {a:Act} {w:World} (hr:RS N0 base w0 σ a w) {next:Act→World→Prop} {Q:Exit→Act→World→Prop}
  (hK:∀ σ' a' w',K σ'→RS N0 base w0 σ' a' w'→next a' w'):o.wp P a w next Q:=by
 obtain ⟨x,no,h1,h2⟩:=pstep_sound hT h
 obtain ⟨hp,V,hV⟩:=hr
 refine h2 hV (fun y _=>rfl) (fun i u hu=>hu) (by simp) (dstOk_spec hd) next Q fun a' w' V' hV'=>hK _ _ _ h1 ⟨hp,V',?_⟩
 rw [St.get_after,St.obj_after,St.next_after]
 exact hV'
def St.setObj (σ:St) (i:Nat) (o:AO):St:={ σ with objs:=(i,o) :: σ.objs }
theorem St.obj_setObj (σ:St) (i:Nat) (o:AO):(σ.setObj i o).obj=updO σ.obj i o:=by
 funext j
 simp only [St.obj,St.setObj,look,updO,eq_comm]
def St.pub (σ:St):List Nat→St
 | []=>σ
 | i :: r=>match σ.obj i with
  | some (.arr _ xs)=>(σ.setObj i (.pub xs)).pub r
  | _=>σ.pub r
theorem RS.pub:∀ {is:List Nat} {σ:St} {a:Act} {w:World},RS N0 base w0 σ a w→RS N0 base w0 (σ.pub is) a w
 | [],_,_,_,h=>h
 | i :: r,σ,a,w,h=>by
  unfold St.pub
  split
  ·rename_i k xs hob
   refine RS.pub ?_
   obtain ⟨hp,V,hV⟩:=h
   refine ⟨hp,V,?_⟩
   rw [St.obj_setObj]
   exact hV.publish hob
  ·exact h.pub
end Go.Sk
