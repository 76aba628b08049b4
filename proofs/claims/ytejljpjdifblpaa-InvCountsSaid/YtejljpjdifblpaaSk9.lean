/- A checker of Go functions by conditions over small pure states: part 10. -/
import Derived.Test.YtejljpjdifblpaaSk8
import Derived.Test.YtejljpjdifblpaaSk6
set_option linter.unusedVariables false
set_option linter.unusedSimpArgs false
namespace Go.Sk
open Go.RowKit
def memB (x:Nat):List Nat→Bool
 | []=>false
 | y :: r=>match x.beq y with
  | true=>true
  | false=>memB x r
theorem memB_iff {x:Nat}:∀ {l:List Nat},memB x l=true↔x∈l
 | []=>by simp [memB]
 | y :: r=>by
  unfold memB
  split
  ·rename_i h;have:=Nat.eq_of_beq_eq_true h;simp [this]
  ·rename_i h
   rw [memB_iff (l:=r),List.mem_cons]
   have:x≠y:=fun e=>by subst e;rw [Nat.beq_refl] at h;cases h
   simp [this]
def stayC (ids:List Nat):AV→Bool
 | .ref i | .ptr i _ | .sub i _ _ _=>memB i ids
 | .v _ | .sl _ | .pel _ | .nils | .skip | .undef=>true
 | .ag cs=>plainL cs
 | _=>false
def stayL (ids:List Nat):List AV→Bool
 | []=>true
 | x :: r=>stayC ids x && stayL ids r
def stayF (ids:List Nat):AV→Bool
 | .fn _ fs cs=>stayL ids fs && stayL ids cs
 | x=>stayC ids x
def stayFL (ids:List Nat):List AV→Bool
 | []=>true
 | x :: r=>stayF ids x && stayFL ids r
def stay (ids:List Nat):AV→Bool
 | .ag cs=>stayFL ids cs
 | x=>stayF ids x
def keepK (ids:List Nat):List (Nat × AV)→List Nat→List (Nat × AV)→(List (Nat × AV)→Prop)→Prop
 | [],_,acc,K=>K acc
 | (t,x) :: r,ds,acc,K=>match memB t ds with
  | true=>keepK ids r ds acc K
  | false=>match stay ids x with
   | true=>keepK ids r (t :: ds) ((t,x) :: acc) K
   | false=>keepK ids r (t :: ds) acc K
def stayKs (ids:List Nat):List (Nat × AV)→Bool
 | []=>true
 | p :: r=>stay ids p.2 && stayKs ids r
theorem keepK_elim {ids:List Nat}:∀ {l:List (Nat × AV)} {ds:List Nat} {acc:List (Nat × AV)} {K:List (Nat × AV)→Prop},keepK ids l ds acc K→stayKs ids acc=true→∃ kept,K kept∧stayKs ids kept=true
 | [],ds,acc,K,h,ha=>⟨acc,h,ha⟩
 | (t,x) :: r,ds,acc,K,h,ha=>by
  unfold keepK at h
  split at h
  ·exact keepK_elim h ha
  ·split at h
   ·rename_i hs
    exact keepK_elim h (by simp [stayKs,hs,ha])
   ·exact keepK_elim h ha
theorem memB_spec {x:Nat}:∀ {l:List Nat},memB x l=true→x∈l
 | [],h=>by simp [memB] at h
 | y :: r,h=>by
  unfold memB at h
  split at h
  ·rename_i hb;rw [Nat.eq_of_beq_eq_true hb];simp
  ·exact List.mem_cons_of_mem _ (memB_spec h)
section
variable {N0:Nat→Prop} {base:Nat} {w0:W0} {σ:St} {a:Act} {w:World} {ss:List Src} {ids:List Nat}
theorem stayC_le (hf:fixB ss ids=true) {here:Option Src} {x:AV} (h:stayC ids x=true):leC0 σ ss here x x:=by
 cases x <;> simp [stayC] at h <;> unfold leC0 <;> simp
 ·exact h
 ·exact fixB_spec hf _ (memB_spec h)
 ·exact fixB_spec hf _ (memB_spec h)
 ·exact fixB_spec hf _ (memB_spec h)
theorem stayL_le (hf:fixB ss ids=true):∀ {xs:List AV},stayL ids xs=true→leL0 σ ss xs xs
 | [],_=>trivial
 | x :: r,h=>by
  simp only [stayL,Bool.and_eq_true] at h
  exact ⟨stayC_le hf h.1,stayL_le hf h.2⟩
theorem stayF_le (hf:fixB ss ids=true) {here:Option Src} {x:AV} (h:stayF ids x=true):leC σ ss here x x:=by
 cases x with
 | fn f fs cs =>
  simp only [stayF,Bool.and_eq_true] at h
  exact ⟨rfl,stayL_le hf h.1,stayL_le hf h.2⟩
 | v x=>exact stayC_le (σ:=σ) (here:=here) (x:=.v x) hf h
 | sl x=>exact stayC_le (σ:=σ) (here:=here) (x:=.sl x) hf h
 | pel x=>exact stayC_le (σ:=σ) (here:=here) (x:=.pel x) hf h
 | ref x=>exact stayC_le (σ:=σ) (here:=here) (x:=.ref x) hf h
 | ptr x j=>exact stayC_le (σ:=σ) (here:=here) (x:=.ptr x j) hf h
 | sub x k q m=>exact stayC_le (σ:=σ) (here:=here) (x:=.sub x k q m) hf h
 | nils=>exact stayC_le (σ:=σ) (here:=here) (x:=.nils) hf h
 | skip=>exact stayC_le (σ:=σ) (here:=here) (x:=.skip) hf h
 | undef=>exact stayC_le (σ:=σ) (here:=here) (x:=.undef) hf h
 | ag cs=>exact stayC_le (σ:=σ) (here:=here) (x:=.ag cs) hf h
 | _=>simp [stayF,stayC] at h
theorem stayFL_le (hf:fixB ss ids=true):∀ {xs:List AV},stayFL ids xs=true→leL σ ss xs xs
 | [],_=>trivial
 | x :: r,h=>by
  simp only [stayFL,Bool.and_eq_true] at h
  exact ⟨stayF_le hf h.1,stayFL_le hf h.2⟩
theorem stay_le (hf:fixB ss ids=true) {here:Option Src} {x:AV} (h:stay ids x=true):leV σ ss here x x:=by
 cases x with
 | ag cs=>exact stayFL_le hf h
 | fn f fs cs=>exact stayF_le (σ:=σ) (here:=here) (x:=.fn f fs cs) hf h
 | v x=>exact stayF_le (σ:=σ) (here:=here) (x:=.v x) hf h
 | sl x=>exact stayF_le (σ:=σ) (here:=here) (x:=.sl x) hf h
 | pel x=>exact stayF_le (σ:=σ) (here:=here) (x:=.pel x) hf h
 | ref x=>exact stayF_le (σ:=σ) (here:=here) (x:=.ref x) hf h
 | ptr x j=>exact stayF_le (σ:=σ) (here:=here) (x:=.ptr x j) hf h
 | sub x k q m=>exact stayF_le (σ:=σ) (here:=here) (x:=.sub x k q m) hf h
 | nils=>exact stayF_le (σ:=σ) (here:=here) (x:=.nils) hf h
 | skip=>exact stayF_le (σ:=σ) (here:=here) (x:=.skip) hf h
 | undef=>exact stayF_le (σ:=σ) (here:=here) (x:=.undef) hf h
 | _=>simp [stay,stayF,stayC] at h
def headSt (σ:St) (new kept:List (Nat × AV)) (objs:List (Nat × AO)) (next:Nat):St:={ tmps:=new++kept,objs:=objs,next:=next,size:=σ.size,par:=σ.par }
def LeH (ids:List Nat) (σ:St) (new kept:List (Nat × AV)) (objs:List (Nat × AO)) (next:Nat):Prop :=
 ∃ ss,(distinct ss && fixB ss σ.par && fixB ss ids)=true∧(kept.map fun p=>σ.get p.1)=(kept.map fun p=>some p.2)∧next=ss.length∧leT σ ss new∧leOs σ ss objs
def backK:List (Nat × Nat × Nat)→St→(St→Prop)→Prop
 | [],σ,K=>K σ
 | (id,i,p) :: r,σ,K=>match σ.obj id,σ.obj p with
  | some (.tre 1 xs),some (.arr k2 ys)=>xs[i]?=some (.ref p)∧backK r ((σ.setObj p .dead).setObj id (.tre 1 (xs.set i (.own k2 ys)))) K
  | some (.tre k xs),some (.arr k2 ys)=>∃ e,xs[i / k]?=some e∧(cellsA e)[i % k]?=some (.ref p)∧backK r ((σ.setObj p .dead).setObj id (.tre k (xs.set (i / k) (newElem e (i % k) [.own k2 ys] (.own k2 ys))))) K
  | _,_=>False
theorem backK_elim:∀ {bs:List (Nat × Nat × Nat)} {σ:St} {K:St→Prop},backK bs σ K→RS N0 base w0 σ a w→∃ σ',K σ'∧RS N0 base w0 σ' a w∧σ'.size=σ.size∧σ'.par=σ.par
 | [],σ,K,h,hr=>⟨σ,h,hr,rfl,rfl⟩
 | (id,i,p) :: r,σ,K,h,hr=>by
  unfold backK at h
  split at h
  ·rename_i xs k2 ys h1 h2
   obtain ⟨hi,hK⟩:=h
   obtain ⟨hp,V,hV⟩:=hr
   obtain ⟨V',hV'⟩:=hV.treBack h1 h2 hi
   have hr':RS N0 base w0 ((σ.setObj p .dead).setObj id (.tre 1 (xs.set i (.own k2 ys)))) a w:=⟨hp,V',by rw [setObj_updK1];exact hV'⟩
   obtain ⟨σ',q1,q2,q3,q4⟩:=backK_elim hK hr'
   exact ⟨σ',q1,q2,q3,q4⟩
  ·rename_i k xs k2 ys _ h1 h2
   obtain ⟨e,he,hi,hK⟩:=h
   obtain ⟨hp,V,hV⟩:=hr
   obtain ⟨V',hV'⟩:=hV.treBackK h1 h2 he hi
   have hr':RS N0 base w0 ((σ.setObj p .dead).setObj id (.tre k (xs.set (i / k) (newElem e (i % k) [.own k2 ys] (.own k2 ys))))) a w:=⟨hp,V',by rw [setObj_updK1];exact hV'⟩
   obtain ⟨σ',q1,q2,q3,q4⟩:=backK_elim hK hr'
   exact ⟨σ',q1,q2,q3,q4⟩
  ·exact h.elim
theorem leT_append:∀ {l r:List (Nat × AV)},leT σ ss l→leT σ ss r→leT σ ss (l++r)
 | [],_,_,h=>h
 | _ :: _,_,h,h'=>⟨h.1,leT_append h.2 h'⟩
theorem leT_kept (hf:fixB ss ids=true):∀ {kept:List (Nat × AV)},stayKs ids kept=true→(kept.map fun p=>σ.get p.1)=(kept.map fun p=>some p.2)→leT σ ss kept
 | [],_,_=>trivial
 | (t,x) :: r,h,he=>by
  simp only [stayKs,Bool.and_eq_true] at h
  simp only [List.map_cons,List.cons.injEq] at he
  refine ⟨?_,leT_kept hf h.2 he.2⟩
  rw [he.1]
  exact stay_le hf h.1
theorem LeH.sound {new kept:List (Nat × AV)} {objs:List (Nat × AO)} {next:Nat} (hk:stayKs ids kept=true) (h:LeH ids σ new kept objs next) (hr:RS N0 base w0 σ a w):RS N0 base w0 (headSt σ new kept objs next) a w:=by
 obtain ⟨ss,h1,h2,h3,h4,h5⟩:=h
 simp only [Bool.and_eq_true] at h1
 refine LeS.sound (ss:=ss) hr ⟨by simp [h1.1.1,h1.1.2],rfl,h3,leT_append h4 (leT_kept h1.2 hk h2),h5⟩
end
end Go.Sk
namespace Go.Sk
open Go.RowKit
def addS (acc:List (Nat × Src)) (i:Nat) (s:Src):List (Nat × Src):=match look acc i with
 | some _=>acc
 | none=>(i,s) :: acc
def vC (here:Option Src) (y x:AV) (acc:List (Nat × Src)):List (Nat × Src) :=
 match y,x with
 | .ref i,.ref i'=>addS acc i' (.obj i)
 | .ptr i _,.ptr i' _=>addS acc i' (.obj i)
 | .sub i _ _ _,.sub i' _ _ _=>addS acc i' (.obj i)
 | .nils,.ref i'=>match here with
  | some h=>addS acc i' h
  | none=>acc
 | _,_=>acc
def vL:List AV→List AV→List (Nat × Src)→List (Nat × Src)
 | y :: ys,x :: xs,acc=>vL ys xs (vC none y x acc)
 | _,_,acc=>acc
def vF (here:Option Src) (y x:AV) (acc:List (Nat × Src)):List (Nat × Src) :=
 match y,x with
 | .fn _ fs cs,.fn _ fs' cs'=>vL cs cs' (vL fs fs' acc)
 | y,x=>vC here y x acc
def vFL:List AV→List AV→List (Nat × Src)→List (Nat × Src)
 | y :: ys,x :: xs,acc=>vFL ys xs (vF none y x acc)
 | _,_,acc=>acc
def vA (here:Option Src) (y x:AV) (acc:List (Nat × Src)):List (Nat × Src) :=
 match y,x with
 | .ag ys,.ag xs=>vFL ys xs acc
 | y,x=>vF here y x acc
def vAL:List AV→List AV→List (Nat × Src)→List (Nat × Src)
 | y :: ys,x :: xs,acc=>vAL ys xs (vA none y x acc)
 | _,_,acc=>acc
def vT (here:Option Src) (y x:AV) (acc:List (Nat × Src)):List (Nat × Src) :=
 match y,x with
 | .tup ys,.tup xs=>vAL ys xs acc
 | y,x=>vA here y x acc
def srcT (σ:St):List (Nat × AV)→List (Nat × Src)→List (Nat × Src)
 | [],acc=>acc
 | (t,x) :: r,acc=>match σ.get t with
  | some y=>srcT σ r (vT (some (.tmp t)) y x acc)
  | none=>srcT σ r acc
def srcB (i:Nat):Nat→List AV→List AV→List (Nat × Src)→List (Nat × Src)
 | j,y :: ys,x :: xs,acc=>srcB i (j+1) ys xs (vF (some (.cell i j)) y x acc)
 | _,_,_,acc=>acc
def srcO (σ:St):List (Nat × AO)→List (Nat × Src)→List (Nat × Src)
 | [],acc=>acc
 | (i',.box ds) :: r,acc=>match look acc i' with
  | some (.obj i)=>match σ.obj i with
   | some (.box cs)=>srcO σ r (srcB i 0 cs ds acc)
   | _=>srcO σ r acc
  | _=>srcO σ r acc
 | _ :: r,acc=>srcO σ r acc
def srcN (σ:St) (objs:List (Nat × AO)):Nat→List (Nat × Src)→List (Nat × Src)
 | 0,acc=>acc
 | n+1,acc=>srcN σ objs n (srcO σ objs acc)
def boxes:List (Nat × AO)→Nat
 | []=>0
 | (_,.box _) :: r=>boxes r+1
 | _ :: r=>boxes r
def selfS:List Nat→List (Nat × Src)
 | []=>[]
 | i :: r=>(i,.obj i) :: selfS r
def upTo:Nat→List Nat→List Nat
 | 0,acc=>acc
 | n+1,acc=>upTo n (n :: acc)
def outS (acc:List (Nat × Src)):List Nat→List Src
 | []=>[]
 | i :: r=>(match look acc i with | some s=>s | none=>.tmp 0) :: outS acc r
def findS (σ:St) (ids:List Nat) (new:List (Nat × AV)) (objs:List (Nat × AO)) (next:Nat):List Src :=
 outS (srcN σ objs (boxes objs) (srcT σ new (selfS (σ.par++ids)))) (upTo next [])
theorem upTo_len:∀ (n:Nat) (acc:List Nat),(upTo n acc).length=n+acc.length
 | 0,acc=>by simp [upTo]
 | n+1,acc=>by rw [upTo,upTo_len n];simp;omega
theorem upTo_mem:∀ {n:Nat} {acc:List Nat} {i:Nat},i < n∨i∈acc→i∈upTo n acc
 | 0,acc,i,h=>h.resolve_left (by omega)
 | n+1,acc,i,h=>upTo_mem (n:=n) (acc:=n :: acc) (by
  rcases h with h | h
  ·rcases Nat.lt_or_ge i n with h' | h'
   ·exact .inl h'
   ·exact .inr (by rw [show i=n by omega];exact List.mem_cons_self)
  ·exact .inr (List.mem_cons_of_mem _ h))
theorem mem_upTo {n i:Nat} (h:i < n):i∈upTo n []:=upTo_mem (.inl h)
theorem upTo_lt:∀ {n:Nat} {acc:List Nat} {i:Nat},i∈upTo n acc→i < n∨i∈acc
 | 0,acc,i,h=>.inr h
 | n+1,acc,i,h=>by
  rcases upTo_lt (n:=n) h with h | h
  ·exact .inl (by omega)
  ·rcases List.mem_cons.1 h with rfl | h
   ·exact .inl (by omega)
   ·exact .inr h
theorem outS_len (acc:List (Nat × Src)):∀ l,(outS acc l).length=l.length
 | []=>rfl
 | _ :: r=>by simp [outS,outS_len acc r]
theorem findS_len (σ:St) (ids:List Nat) (new:List (Nat × AV)) (objs:List (Nat × AO)) (next:Nat):next=(findS σ ids new objs next).length:=by
 unfold findS;rw [outS_len,upTo_len];simp
def stayW (ids:List Nat):AV→Bool
 | .own _ _ | .sl _ | .v _=>true
 | .ref i=>memB i ids
 | _=>false
def stayWL (ids:List Nat):List AV→Bool
 | []=>true
 | x :: r=>stayW ids x && stayWL ids r
def stayR (ids:List Nat):List AV→Bool
 | []=>true
 | e :: r=>stayWL ids (cellsA e) && stayR ids r
theorem stayWL_le {ss:List Src} {ids:List Nat} (hf:fixB ss ids=true):∀ {xs:List AV},stayWL ids xs=true→leWL ss xs xs
 | [],_=>trivial
 | x :: r,h=>by
  simp only [stayWL,Bool.and_eq_true] at h
  refine ⟨?_,stayWL_le hf h.2⟩
  cases x <;> simp [stayW] at h <;> simp [leW]
  exact fixB_spec hf _ (memB_spec h.1)
theorem stayR_le {ss:List Src} {ids:List Nat} (hf:fixB ss ids=true):∀ {xs:List AV},stayR ids xs=true→leR ss xs xs
 | [],_=>trivial
 | e :: r,h=>by
  simp only [stayR,Bool.and_eq_true] at h
  exact ⟨stayWL_le hf h.1,stayR_le hf h.2⟩
def stayO (ids:List Nat):AO→Bool
 | .box cs=>stayFL ids cs
 | .arr _ _ | .pub _ | .gh _ | .mp _ _ _=>true
 | .tre k xs=>match k.beq 1 with
  | true=>false
  | false=>stayR ids xs
 | _=>false
def keepO (ids:List Nat):List (Nat × AO)→List Nat→List (Nat × AO)→(List (Nat × AO)→Prop)→Prop
 | [],_,acc,K=>K acc
 | (i,o) :: r,ov,acc,K=>match memB i ov with
  | true=>keepO ids r ov acc K
  | false=>match memB i ids && stayO ids o with
   | true=>keepO ids r (i :: ov) ((i,o) :: acc) K
   | false=>keepO ids r (i :: ov) acc K
def stayOs (ids:List Nat):List (Nat × AO)→Bool
 | []=>true
 | p :: r=>memB p.1 ids && stayO ids p.2 && stayOs ids r
theorem keepO_elim {ids:List Nat}:∀ {l:List (Nat × AO)} {ov:List Nat} {acc:List (Nat × AO)} {K:List (Nat × AO)→Prop},keepO ids l ov acc K→stayOs ids acc=true→∃ kept,K kept∧stayOs ids kept=true
 | [],ov,acc,K,h,ha=>⟨acc,h,ha⟩
 | (i,o) :: r,ov,acc,K,h,ha=>by
  unfold keepO at h
  split at h
  ·exact keepO_elim h ha
  ·split at h
   ·rename_i hs
    simp only [Bool.and_eq_true] at hs
    exact keepO_elim h (by simp [stayOs,hs.1,hs.2,ha])
   ·exact keepO_elim h ha
def refL:List AV→List Nat
 | []=>[]
 | .ref i :: r=>i :: refL r
 | _ :: r=>refL r
def refV:AV→List Nat
 | .ref i=>[i]
 | .ag cs=>refL cs
 | .tup cs=>refL cs
 | _=>[]
def refT:List (Nat × AV)→List Nat
 | []=>[]
 | (_,x) :: r=>refV x++refT r
def refO:List (Nat × AO)→List Nat
 | []=>[]
 | (_,.box cs) :: r=>refL cs++refO r
 | _ :: r=>refO r
def movedL (rs:List Nat):List (Nat × AO)→List Nat
 | []=>[]
 | (i,.arr _ _) :: r=>match memB i rs with
  | true=>i :: movedL rs r
  | false=>movedL rs r
 | (i,.tre _ _) :: r=>match memB i rs with
  | true=>i :: movedL rs r
  | false=>movedL rs r
 | _ :: r=>movedL rs r
def geL (n:Nat):List (Nat × AO)→List Nat→List Nat
 | [],l=>l
 | (i,_) :: r,l=>match n.ble i with
  | true=>geL n r (i :: l)
  | false=>geL n r l
def idsK:List (Nat × AO)→List Nat→List Nat→(List Nat→Prop)→Prop
 | [],_,acc,K=>K acc
 | (i,_) :: r,skip,acc,K=>match memB i skip with
  | true=>idsK r skip acc K
  | false=>idsK r (i :: skip) (i :: acc) K
theorem idsK_elim:∀ {l:List (Nat × AO)} {skip acc:List Nat} {K:List Nat→Prop},idsK l skip acc K→∃ ids,K ids
 | [],_,acc,K,h=>⟨acc,h⟩
 | (i,_) :: r,skip,acc,K,h=>by
  unfold idsK at h
  split at h
  ·exact idsK_elim h
  ·exact idsK_elim h
def numsO:List (Nat × AO)→List Nat
 | []=>[]
 | p :: r=>p.1 :: numsO r
def Shows (ids:List Nat) (kept:List (Nat × AV)) (keptO:List (Nat × AO)) (next:Nat) (σ:St) (new:List (Nat × AV)) (objs:List (Nat × AO)):Prop :=
 (distinct (findS σ ids new objs next) && fixB (findS σ ids new objs next) σ.par && fixB (findS σ ids new objs next) ids)=true∧(kept.map fun p=>σ.get p.1)=(kept.map fun p=>some p.2) ∧
  (keptO.map fun p=>σ.obj p.1)=(keptO.map fun p=>some p.2)∧leT σ (findS σ ids new objs next) new∧leOs σ (findS σ ids new objs next) objs
theorem stayFL_leB {σ:St} {ss:List Src} {ids:List Nat} (hf:fixB ss ids=true) (i:Nat):∀ {j:Nat} {cs:List AV},stayFL ids cs=true→leB σ ss i j cs cs
 | _,[],_=>trivial
 | j,c :: r,h=>by
  simp only [stayFL,Bool.and_eq_true] at h
  exact ⟨stayF_le hf h.1,stayFL_leB hf i h.2⟩
theorem leOs_append {σ:St} {ss:List Src}:∀ {l r:List (Nat × AO)},leOs σ ss l→leOs σ ss r→leOs σ ss (l++r)
 | [],_,_,h=>h
 | _ :: _,_,h,h'=>⟨h.1,leOs_append h.2 h'⟩
theorem leOs_kept {σ:St} {ss:List Src} {ids:List Nat} (hf:fixB ss ids=true):∀ {kept:List (Nat × AO)},stayOs ids kept=true→(kept.map fun p=>σ.obj p.1)=(kept.map fun p=>some p.2)→leOs σ ss kept
 | [],_,_=>trivial
 | (i,o) :: r,h,he=>by
  simp only [stayOs,Bool.and_eq_true] at h
  simp only [List.map_cons,List.cons.injEq] at he
  refine ⟨?_,leOs_kept hf h.2 he.2⟩
  rw [fixB_spec hf i (memB_spec h.1.1)]
  have h1:=he.1
  have h2:=h.1.2
  cases o with
  | box cs=>simp only [leO,h1];exact stayFL_leB hf i h2
  | arr k xs=>simp [leO,h1]
  | pub xs=>simp only [leO,h1]
  | tre k xs =>
   simp only [stayO] at h2
   simp only [leO,h1]
   split at h2
   ·cases h2
   ·rename_i hb
    rw [hb]
    exact ⟨trivial,stayR_le hf h2⟩
  | dead=>simp [stayO] at h2
  | gh G=>simp only [leO,h1]
  | mp d ks xs=>simp [leO,h1]
theorem Shows.leH {ids:List Nat} {kept:List (Nat × AV)} {keptO:List (Nat × AO)} {next:Nat} {σ:St} {new:List (Nat × AV)} {objs:List (Nat × AO)} (hk:stayOs ids keptO=true) (h:Shows ids kept keptO next σ new objs) :
  LeH ids σ new kept (objs++keptO) next:=by
 obtain ⟨h1,h2,h3,h4,h5⟩:=h
 refine ⟨findS σ ids new objs next,h1,h2,findS_len _ _ _ _ _,h4,leOs_append h5 (leOs_kept ?_ hk h3)⟩
 simp only [Bool.and_eq_true] at h1
 exact h1.2
end Go.Sk
namespace Go.Sk
open Go.RowKit
variable {N0:Nat→Prop} {base:Nat} {w0:W0} {m:Nat} {V:VV} {g:Nat→Option AV} {ob:Nat→Option AO} {A:Nat→Prop} {a:Act} {w:World}
structure MpR (N:Nat→Prop) (w:World) (V:VV) (id:Nat) (d:TypeDesc) (ks:List Value) (xs:List AV) (b:Nat) (es:Array MapEntry) (clock:Nat) (G:Nat→Nat→Prop):Prop where
 v:V id=.map (some b)
 h:w.heap[b]?=some (.map es clock)
 st:MapKept.Stamped es clock
 kd:∀ x∈es.toList,MapKept.IsKey d x.key
 ke:es.toList.map (·.key)=ks
 len:xs.length=ks.length
 en:∀ (i:Nat) (c:AV),xs[i]?=some c→∃ e:MapEntry,es[i]?=some e∧RepM N w (G i) c e.val
 dj:∀ q q' b',G q b'→G q' b'→q=q'
 lo:∀ q b',G q b'→b'≠b∧b' < w.heap.size
 f:∀ b',V.f id b'↔b'=b∨∃ q,q < xs.length∧G q b'
theorem MpR.of {N:Nat→Prop} {id:Nat} {d:TypeDesc} {ks:List Value} {xs:List AV} (h:RepO N w V id (.mp d ks xs)):∃ b es clock G,MpR N w V id d ks xs b es clock G:=by
 obtain ⟨b,es,clock,G,h1,h2,h3,h3k,h4,h5,h6,h7,h8,h9⟩:=h
 exact ⟨b,es,clock,G,h1,h2,h3,h3k,h4,h5,h6,h7,h8,h9⟩
theorem Rel.mpPut (h:Rel N0 base w0 m V g ob A a w) {id b clock clock' i:Nat} {d:TypeDesc} {ks ks':List Value} {xs xs':List AV} {es es':Array MapEntry} {G:Nat→Nat→Prop} {c:AV} {u:Value} {ps:List Nat} {gg:Nat→Prop}
  (hob:ob id=some (.mp d ks xs)) (hR:MpR (Nf N0 base V ob) w V id d ks xs b es clock G) (hst:MapKept.Stamped es' clock') (hkd:∀ x∈es'.toList,MapKept.IsKey d x.key) (hks:es'.toList.map (·.key)=ks') (hl:xs'.length=ks'.length)
  (hnew:∀ (j:Nat) (c':AV),xs'[j]?=some c'→(j=i∧c'=c∧∃ e:MapEntry,es'[j]?=some e∧e.val=u)∨(j≠i∧xs[j]?=some c'∧∃ e e':MapEntry,es[j]?=some e∧es'[j]?=some e'∧e'.val=e.val))
  (hi:i < xs'.length) (hlen:∀ q,q < xs'.length→q=i∨q < xs.length) (hps:∀ p,p∈ps→live ob p) (hidp:id ∉ ps) (hgg:∀ b',gg b'→∃ p,p∈ps∧V.f p b')
  (hu:∀ {N':Nat→Prop},(∀ b',Nf N0 base V ob b'→b' < w.heap.size→N' b'∧(w.heap.setIfInBounds b (.map es' clock'))[b']?=w.heap[b']?)→(∀ b',gg b'→(w.heap.setIfInBounds b (.map es' clock'))[b']?=w.heap[b']?)→RepM N' { w with heap:=w.heap.setIfInBounds b (.map es' clock') } gg c u) :
  ∃ V',Rel N0 base w0 m V' g (updK ob ps id (.mp d ks' xs')) A a { w with heap:=w.heap.setIfInBounds b (.map es' clock') }:=by
 have hlid:live ob id:=⟨_,hob,rfl⟩
 have hset:=MapKept.heap_set (o':=.map es' clock') hR.h
 let G':Nat→Nat→Prop:=fun q b'=>(q=i∧gg b')∨(q≠i∧q < xs.length∧G q b')
 let f':Nat→Prop:=fun b'=>b'=b∨∃ q,q < xs'.length∧G' q b'
 have hbid:V.f id b:=(hR.f b).2 (.inl rfl)
 have hggd:∀ b',gg b'→¬ V.f id b':=fun b' hg hf=>by
  obtain ⟨p,hp,hpb⟩:=hgg b' hg
  exact hidp (h.inj p id b' (hps p hp) hlid hpb hf ▸ hp)
 have hGid:∀ q b',q < xs.length→G q b'→V.f id b':=fun q b' hq hg=>(hR.f b').2 (.inr ⟨q,hq,hg⟩)
 have hf':∀ b',f' b'→V.f id b'∨∃ p,p∈ps∧V.f p b':=fun b' hb'=>by
  rcases hb' with rfl | ⟨q,_,⟨_,hg⟩ | ⟨_,hq,hg⟩⟩
  ·exact .inl hbid
  ·exact .inr (hgg b' hg)
  ·exact .inl (hGid q b' hq hg)
 have hggb:∀ b',gg b'→b'≠b:=fun b' hg e=>hggd b' hg (e ▸ hbid)
 refine ⟨setF V id f',h.turnL (w':={ w with heap:=w.heap.setIfInBounds b (.map es' clock') }) (ks:=ps) (n:=id) (o':=.mp d ks' xs') (f:=f') hob rfl hidp hps hf' (by simp) (fun b' hb' hno=>?_) rfl rfl (.same rfl rfl) (fun hN=>?_) trivial⟩
 ·exact hset.2 b' fun e=>hno (e ▸ hbid)
 ·refine ⟨b,es',clock',G',by rw [setF_v];exact hR.v,hset.1,hst,hkd,hks,hl,fun j c' hj=>?_,fun q q' b' h1 h2=>?_,fun q b' hq=>?_,fun b'=>by rw [setF_f]⟩
  ·rcases hnew j c' hj with ⟨rfl,rfl,e,he,rfl⟩ | ⟨hne,hxj,e,e',he,he',hval⟩
   ·refine ⟨e,he,?_⟩
    have:G' j=gg:=by
     funext b'
     exact propext ⟨fun hh=>hh.elim (·.2) fun hh=>absurd rfl hh.1,fun hh=>.inl ⟨rfl,hh⟩⟩
    rw [this]
    exact hu hN fun b' hg=>hset.2 b' (hggb b' hg)
   ·obtain ⟨e2,q1,q2⟩:=hR.en j c' hxj
    rw [he] at q1;injection q1 with q1;subst q1
    refine ⟨e',he',?_⟩
    have hjl:=(List.getElem?_eq_some_iff.1 hxj).1
    have:G' j=G j:=by
     funext b'
     exact propext ⟨fun hh=>hh.elim (fun hh=>absurd hh.1 hne) (·.2.2),fun hh=>.inr ⟨hne,hjl,hh⟩⟩
    rw [this,hval]
    exact q2.mono hN fun b' hg=>hset.2 b' (hR.lo j b' hg).1
  ·rcases h1 with ⟨rfl,h1⟩ | ⟨h1,h1l,h1g⟩ <;> rcases h2 with ⟨rfl,h2⟩ | ⟨h2,h2l,h2g⟩
   ·rfl
   ·exact (hggd b' h1 (hGid _ _ h2l h2g)).elim
   ·exact (hggd b' h2 (hGid _ _ h1l h1g)).elim
   ·exact hR.dj _ _ _ h1g h2g
  ·rcases hq with ⟨_,hg⟩ | ⟨_,_,hg⟩
   ·obtain ⟨p,hp,hpb⟩:=hgg b' hg
    exact ⟨hggb b' hg,by simpa using (h.low p b' (hps p hp) hpb).2⟩
   ·exact ⟨(hR.lo q b' hg).1,by simpa using (hR.lo q b' hg).2⟩
theorem Rel.mpOut (h:Rel N0 base w0 m V g ob A a w) {id n i k2:Nat} {d:TypeDesc} {ks:List Value} {xs ys:List AV} {dst:Option Nat} (hd:∀ d,dst=some d→d < m) (hob:ob id=some (.mp d ks xs)) (he:xs[i]?=some (.own k2 ys)) (hn:¬ A n)
  {b clock:Nat} {es:Array MapEntry} {G:Nat→Nat→Prop} (hR:MpR (Nf N0 base V ob) w V id d ks xs b es clock G) :
  ∃ e:MapEntry,es[i]?=some e∧∃ V',Rel N0 base w0 m V' (upd g dst (.ref n)) (updO (updO ob id (.mp d ks (xs.set i .undef))) n (.arr k2 ys)) (addA A n) (a.put dst e.val) w:=by
 have hlid:live ob id:=⟨_,hob,rfl⟩
 have hidA:A id:=(h.bdo id _ hob).1
 have hne:id≠n:=fun e=>hn (e ▸ hidA)
 have hil:i < xs.length:=(List.getElem?_eq_some_iff.1 he).1
 obtain ⟨e,he1,q3,q4⟩:=hR.en i _ he
 refine ⟨e,he1,?_⟩
 obtain ⟨u,hu⟩:∃ u,u=e.val:=⟨_,rfl⟩
 rw [← hu] at q3 q4 ⊢
 have q2:u.oneCell'=true:=by
  rcases q3 with ⟨a',h1,_⟩ | ⟨b',o',cap,arr,T,h1,_⟩ <;> rw [h1] <;> rfl
 let G':Nat→Nat→Prop:=fun q b'=>q≠i∧q < xs.length∧G q b'
 let f':Nat→Prop:=fun b'=>b'=b∨∃ q,q < xs.length∧G' q b'
 have hGi:∀ b',bl u b'→V.f id b':=fun b' hb'=>(hR.f b').2 (.inr ⟨i,by omega,(q4 b').2 hb'⟩)
 have hf':∀ b',f' b'→V.f id b':=fun b' hb'=>by
  rcases hb' with rfl | ⟨q,_,r1,r2,r3⟩
  ·exact (hR.f _).2 (.inl rfl)
  ·exact (hR.f _).2 (.inr ⟨q,by omega,r3⟩)
 have hdis:∀ b',f' b'→bl u b'→False:=fun b' hb' hu=>by
  have hg:=(q4 b').2 hu
  rcases hb' with rfl | ⟨q,_,r1,r2,r3⟩
  ·exact (hR.lo _ _ hg).1 rfl
  ·exact r1 (hR.dj _ _ _ r3 hg)
 have hVv:∀ c,A c→setF (updV V n u) id f' c=V c:=fun c hc=>by rw [setF_v];exact updV_ne V n u (fun e=>hn (e ▸ hc))
 have hFid:(setF (updV V n u) id f').f id=f':=setF_f _ _ _
 have hFn:(setF (updV V n u) id f').f n=bl u:=by rw [setF_fne _ _ _ (Ne.symm hne),updV_f]
 have hFo:∀ c,c≠id→c≠n→(setF (updV V n u) id f').f c=V.f c:=fun c c1 c2=>by rw [setF_fne _ _ _ c1,updV_fne V n u c2]
 have hcase:∀ c o',updO (updO ob id (.mp d ks (xs.set i .undef))) n (.arr k2 ys) c=some o'→(c=n∧o'=.arr k2 ys)∨(c=id∧o'=.mp d ks (xs.set i .undef))∨(c≠n∧c≠id∧ob c=some o'):=fun c o' hc=>by
  unfold updO at hc
  split at hc
  ·injection hc with hc;exact .inl ⟨by assumption,hc.symm⟩
  ·split at hc
   ·injection hc with hc;exact .inr (.inl ⟨by assumption,hc.symm⟩)
   ·exact .inr (.inr ⟨by assumption,by assumption,hc⟩)
 have hlive:∀ c,live (updO (updO ob id (.mp d ks (xs.set i .undef))) n (.arr k2 ys)) c→c=n∨c=id∨(c≠n∧c≠id∧live ob c):=fun c ⟨o',r1,r2⟩=>by
  rcases hcase c o' r1 with ⟨r,_⟩ | ⟨r,_⟩ | ⟨r3,r4,r5⟩
  ·exact .inl r
  ·exact .inr (.inl r)
  ·exact .inr (.inr ⟨r3,r4,o',r5,r2⟩)
 have hsub:∀ c b',live (updO (updO ob id (.mp d ks (xs.set i .undef))) n (.arr k2 ys)) c→(setF (updV V n u) id f').f c b'→∃ c',live ob c'∧V.f c' b'∧(c'=c∨((c=n∨c=id)∧c'=id)):=fun c b' hl hb=>by
  rcases hlive c hl with rfl | rfl | ⟨c1,c2,hl⟩
  ·rw [hFn] at hb;exact ⟨id,hlid,hGi b' hb,.inr ⟨.inl rfl,rfl⟩⟩
  ·rw [hFid] at hb;exact ⟨_,hlid,hf' b' hb,.inl rfl⟩
  ·rw [hFo c c2 c1] at hb;exact ⟨c,hl,hb,.inl rfl⟩
 have hNf:∀ b',Nf N0 base V ob b'→b' < w.heap.size→Nf N0 base (setF (updV V n u) id f') (updO (updO ob id (.mp d ks (xs.set i .undef))) n (.arr k2 ys)) b'∧w.heap[b']?=w.heap[b']?:=fun b' hN _=>⟨⟨hN.1,fun c hl hb=>by
  obtain ⟨c',r1,r2,_⟩:=hsub c b' hl hb
  exact hN.2 c' r1 r2⟩,rfl⟩
 refine ⟨setF (updV V n u) id f',Rel.put (m:=m) ⟨fun t x hx=>RepT.mono (V:=V) hNf hVv (h.tm t x hx) (h.bdt t x hx),fun c o' hc=>?_,fun c c' b' hl hl' hb hb'=>?_,fun c b' hl hb=>?_,fun t x hx=>bd_mono (fun _=>.inl) x (h.bdt t x hx),fun c o' hc=>?_,h.bel,h.bas,h.dfr,h.siz,fun c hc=>⟨.inl (h.par c hc).1,(hVv c (h.par c hc).1).trans (h.par c hc).2⟩⟩ hd ?_ (by unfold bd;exact .inr rfl)⟩
 ·rcases hcase c o' hc with ⟨rfl,rfl⟩ | ⟨rfl,rfl⟩ | ⟨r1,r2,r3⟩
  ·refine ⟨fun b'=>by rw [hFn,setF_v,updV_same],?_⟩
   rw [setF_v,updV_same]
   exact q3.mono hNf fun _ _=>rfl
  ·refine ⟨b,es,clock,G',by rw [setF_v,updV_ne V n u hne];exact hR.v,hR.h,hR.st,hR.kd,hR.ke,by rw [List.length_set];exact hR.len,fun i' z hz=>?_,fun q q' b' r1 r2=>hR.dj q q' b' r1.2.2 r2.2.2,fun q b' r1=>hR.lo q b' r1.2.2,fun b'=>by rw [hFid];simp [f']⟩
   by_cases hii:i'=i
   ·subst hii
    rw [List.getElem?_set_self hil] at hz
    injection hz with hz
    subst hz
    exact ⟨e,he1,fun b' hb'=>hb'.1 rfl⟩
   ·rw [List.getElem?_set_ne (Ne.symm hii)] at hz
    have hi':i' < xs.length:=(List.getElem?_eq_some_iff.1 hz).1
    obtain ⟨e',r1,r3⟩:=hR.en _ _ hz
    refine ⟨e',r1,?_⟩
    have:G' i'=G i':=by
     funext b'
     exact propext ⟨fun hh=>hh.2.2,fun hh=>⟨hii,hi',hh⟩⟩
    rw [this]
    exact r3.mono hNf fun _ _=>rfl
  ·exact RepO.mono (V:=V) hNf (Nat.le_refl _) hVv (fun b'=>by rw [hFo c r2 r1]) (h.bdo c o' r3).1 (fun _ _ _=>rfl) (h.obs c o' r3) (h.bdo c o' r3).2
 ·obtain ⟨c1,r1,r2,r3⟩:=hsub c b' hl hb
  obtain ⟨c2,r4,r5,r6⟩:=hsub c' b' hl' hb'
  have hcc:=h.inj c1 c2 b' r1 r4 r2 r5
  have hmix:∀ {x y:Nat},x=n→y=id→(setF (updV V n u) id f').f x b'→(setF (updV V n u) id f').f y b'→False:=fun {x y} e1 e2 f1 f2=>by
   subst e1;subst e2
   rw [hFn] at f1;rw [hFid] at f2
   exact hdis b' f2 f1
  rcases r3 with rfl | ⟨r3 | r3,r7⟩ <;> rcases r6 with rfl | ⟨r6 | r6,r8⟩
  ·exact hcc
  ·exact (hmix r6 (hcc.trans r8) hb' hb).elim
  ·rw [r6,hcc,r8]
  ·exact (hmix r3 (hcc.symm.trans r7) hb hb').elim
  ·rw [r3,r6]
  ·exact (hmix r3 r6 hb hb').elim
  ·rw [r3,← hcc,r7]
  ·exact (hmix r6 r3 hb' hb).elim
  ·rw [r3,r6]
 ·obtain ⟨c1,r1,r2,_⟩:=hsub c b' hl hb
  exact h.low c1 b' r1 r2
 ·rcases hcase c o' hc with ⟨rfl,rfl⟩ | ⟨rfl,rfl⟩ | ⟨r1,r2,r3⟩
  ·exact ⟨.inr rfl,trivial⟩
  ·exact ⟨.inl hidA,trivial⟩
  ·exact ⟨.inl (h.bdo c o' r3).1,bdO_mono (fun _=>.inl) o' (h.bdo c o' r3).2⟩
 ·have:=RepT.ref (N:=Nf N0 base (setF (updV V n u) id f') (updO (updO ob id (.mp d ks (xs.set i .undef))) n (.arr k2 ys))) (w:=w) (V:=setF (updV V n u) id f') n (by rw [setF_v,updV_same];exact q2)
  rwa [setF_v,updV_same] at this
end Go.Sk
namespace Go.Sk
open Go.RowKit
section
variable {N:Nat→Prop} {w:World} {V:VV} {P:Program} {T:TypeId→Option TI} {N0:Nat→Prop} {base:Nat} {w0:W0} {a:Act} {σ:St} {o:Oper}
theorem immA_repM {ob:Nat→Option AO} {x y:AV} (h:immA ob x=some y) {v:Value} (hr:RepT N w V x v) (ho:∀ i u,ob i=some u→RepO N w V i u):RepM N w (fun _=>False) y v:=by
 obtain ⟨r1,r2,r3,r4⟩:=immA_rep h hr ho
 have one:∀ {z:AV},cellsA y=[z]→y=z→v.oneCell'=true→Rep N w y v:=fun hc hz ho=>by
  obtain ⟨u,h1,h2⟩:=r3 0 _ (by rw [hc];rfl)
  rw [cells_one ho] at h1
  simp at h1
  rw [h1,hz];exact h2
 cases r1 with
 | im h=>rcases h.imm with ⟨z,rfl⟩ | ⟨z,rfl⟩ <;> exact ⟨h,fun b hb=>hb⟩
 | ag cs vs hs hr' ho' =>
  refine ⟨⟨vs,rfl,hs,fun j c hc=>?_⟩,fun b hb=>hb⟩
  obtain ⟨u,h1,h2⟩:=r3 j c hc
  exact ⟨u,by simpa [Value.cells] using h1,h2⟩
 | _ =>
  unfold immA at h
  split at h
  ·cases hq:immL ob _ with
   | none=>rw [hq] at h;cases h
   | some q=>rw [hq] at h;cases h
  ·have:=(immC_rep h hr ho).1
   cases this
def immM:AV→Bool
 | .v _ | .sl _ | .ag _=>true
 | _=>false
theorem RepM.repT {g:Nat→Prop} {c:AV} {u:Value} (hc:immM c=true) (h:RepM N w g c u):RepT N w V c u∧∀ A,bd A c:=by
 cases c with
 | v x=>exact ⟨.im h.1,fun A=>by simp [bd]⟩
 | sl xs=>exact ⟨.im h.1,fun A=>by simp [bd]⟩
 | ag cs =>
  obtain ⟨⟨vs,rfl,hs,hr⟩,_⟩:=h
  have key:∀ (j:Nat) (h1:j < cs.length) (h2:j < vs.size),Rep N w cs[j] vs[j]:=fun j h1 h2=>by
   obtain ⟨x,q1,q2⟩:=hr j _ (List.getElem?_eq_getElem h1)
   rw [Array.getElem?_eq_getElem h2] at q1
   injection q1 with q1
   rw [q1];exact q2
  refine ⟨.ag cs vs hs (fun j h1 h2=>.im (key j h1 h2)) (fun j h2=>(key j (by omega) h2).oneCell),fun A=>?_⟩
  unfold bd
  refine bdL_iff.2 fun z hz=>?_
  obtain ⟨j,h1,h2⟩:=List.mem_iff_getElem.1 hz
  have:=key j h1 (by omega)
  rw [h2] at this
  rcases this.imm with ⟨q,rfl⟩ | ⟨q,rfl⟩ <;> simp [bd]
 | _=>cases hc
def mapOf (T:TypeId→Option TI) (t:TypeId):Option (TypeDesc × TI):=match (T t).map TI.desc with
 | some (TypeDesc.map kt et)=>match (T kt).map TI.desc,T et with
  | some d,some ie=>some (d,ie)
  | _,_=>none
 | _=>none
theorem mapOf_run (hT:TOK P T) {t:TypeId} {d:TypeDesc} {ie:TI} (h:mapOf T t=some (d,ie)):∃ kt et,P.underlying t=some (.map kt et)∧P.underlying kt=some d∧T et=some ie:=by
 unfold mapOf at h
 split at h
 ·rename_i kt et hd
  split at h
  ·rename_i d' ie' h1 h2
   injection h with h
   injection h with h3 h4
   subst h3 h4
   exact ⟨kt,et,under_of hT hd,under_of hT h1,h2⟩
  ·cases h
 ·cases h
inductive LookR (key:Value) (ks:List Value) (xs:List AV) (own:Nat→Nat→List AV→Prop) (got:AV→Prop) (no:Prop):Prop
 | own (i k:Nat) (ys:List AV) (h1:ks[i]?=some key) (h2:xs[i]?=some (.own k ys)) (K:own i k ys)
 | get (i:Nat) (c:AV) (h1:ks[i]?=some key) (h2:xs[i]?=some c) (h3:immM c=true) (K:got c)
 | no (h:key ∉ ks) (K:no)
def lookV (ok:Bool) (b:Bool) (c:AV):AV:=match ok with
 | false=>c
 | true=>.tup [c,.v (.bool b)]
variable (T) in
def slook (σ:St) (o:Oper) (t:TypeId) (id:Nat) (key:Value) (ok:Bool) (K:St→Prop):Prop :=
 match mapOf T t,σ.obj id with
 | some (d,ie),some (.mp d' ks xs)=>d=d'∧MapKept.IsKey d key∧LookR key ks xs (fun i k ys=>ok=false∧CalcL (xs.set i .undef) fun zs=>K ((σ.setObj id (.mp d' ks zs)).after o.dst (.ref σ.next) (some (.arr k ys))))
   (fun c=>K (σ.after o.dst (lookV ok true c) none)) (match constA ie.zero with
    | some z=>K (σ.after o.dst (lookV ok false z) none)
    | none=>False)
 | _,_=>False
inductive UpdR (key:Value) (ks:List Value) (xs:List AV) (c:AV) (K:List Value→List AV→Prop):Prop
 | set (i:Nat) (h:ks[i]?=some key) (zs:List AV) (hz:zs=xs.set i c) (k:K ks zs)
 | new (h:key ∉ ks) (ls:List Value) (zs:List AV) (hl:ls=ks++[key]) (hz:zs=xs++[c]) (k:K ls zs)
variable (T) in
def supd (σ:St) (t:TypeId) (id:Nat) (key:Value) (xv:AV) (K:St→Prop):Prop :=
 match mapOf T t,σ.obj id with
 | some (d,_),some (.mp d' ks xs)=>d=d'∧MapKept.IsKey d key∧match xv with
  | .ref p=>match σ.obj p with
   | some (.arr k2 ys)=>p≠id∧UpdR key ks xs (.own k2 ys) fun ls zs=>K ((σ.setObj p .dead).setObj id (.mp d' ls zs))
   | _=>match immA σ.obj (.ref p) with
    | some c=>UpdR key ks xs c fun ls zs=>K (σ.setObj id (.mp d' ls zs))
    | none=>False
  | x=>match immA σ.obj x with
   | some c=>UpdR key ks xs c fun ls zs=>K (σ.setObj id (.mp d' ls zs))
   | none=>False
 | _,_=>False
theorem key_at {es:Array MapEntry} {ks:List Value} {key:Value} {i:Nat} (hk:es.toList.map (·.key)=ks) (h:ks[i]?=some key):∃ e:MapEntry,es[i]?=some e∧e.key=key:=by
 subst hk
 rw [List.getElem?_map,Array.getElem?_toList] at h
 cases he:es[i]? with
 | none=>rw [he] at h;cases h
 | some e=>rw [he] at h;injection h with h;exact ⟨e,rfl,h⟩
theorem find_at {es:Array MapEntry} {clock:Nat} {d:TypeDesc} {key:Value} {i:Nat} {e:MapEntry} (hst:MapKept.Stamped es clock) (hkd:∀ x∈es.toList,MapKept.IsKey d x.key) (hkey:MapKept.IsKey d key) (he:es[i]?=some e) (hk:e.key=key) :
  Instr.findNow d key es.toList 0=some (some (i,e.val)):=by
 rcases MapKept.findNow_spec hkey es.toList 0 hkd with ⟨_,h2⟩ | ⟨j,e',h1,h2,h3⟩
 ·exact absurd hk (h2 e (by simpa using Array.mem_of_getElem? he))
 ·rw [Nat.zero_add] at h1
  have hp:=((MapKept.stamped_iff es clock).1 hst).2.2
  have he':es.toList[i]?=some e:=by simpa using he
  have hij:i=j:=by
   obtain ⟨q1,q2⟩:=List.getElem?_eq_some_iff.1 he'
   obtain ⟨q3,q4⟩:=List.getElem?_eq_some_iff.1 h2
   rcases Nat.lt_trichotomy i j with hlt | hlt | hlt
   ·have:=List.pairwise_iff_getElem.1 hp i j q1 q3 hlt
    rw [q2,q4,hk,h3] at this
    exact absurd rfl this
   ·exact hlt
   ·have:=List.pairwise_iff_getElem.1 hp j i q3 q1 hlt
    rw [q2,q4,hk,h3] at this
    exact absurd rfl this
  subst hij
  rw [he'] at h2
  injection h2 with h2
  rw [h1,h2]
theorem find_no {es:Array MapEntry} {ks:List Value} {d:TypeDesc} {key:Value} (hkd:∀ x∈es.toList,MapKept.IsKey d x.key) (hkey:MapKept.IsKey d key) (hk:es.toList.map (·.key)=ks) (h:key ∉ ks) :
  Instr.findNow d key es.toList 0=some none∧∀ x∈es.toList,x.key≠key:=by
 rcases MapKept.findNow_spec hkey es.toList 0 hkd with h1 | ⟨j,e',_,h2,h3⟩
 ·exact h1
 ·exact absurd (by rw [← hk,← h3];exact List.mem_map_of_mem (List.mem_of_getElem? h2)) h
theorem look_step (hT:TOK P T) {t:TypeId} {x ix:Operand} {ok:Bool} {id:Nat} {key:Value} {K:St→Prop} (hd:dstOk σ o=true) (ho:o.op=.lookup t x ix ok) (hx:σ.eval x=some (.ref id)) (hi:σ.eval ix=some (.v key)) (h:slook T σ o t id key ok K) (hr:RS N0 base w0 σ a w)
  {next:Act→World→Prop} {Q:Exit→Act→World→Prop} (hK:∀ σ' a' w',K σ'→RS N0 base w0 σ' a' w'→next a' w'):o.wp P a w next Q:=by
 obtain ⟨hpar,V,hV⟩:=hr
 obtain ⟨hrx,hbx⟩:=eval_rep hV hx
 have hiv:=eval_v (eval_rep hV hi).1
 unfold slook at h
 split at h
 ·rename_i d ie d' ks xs hm hob
  obtain ⟨rfl,hkey,h⟩:=h
  obtain ⟨kt,et,hu,huk,het⟩:=mapOf_run hT hm
  obtain ⟨b,es,clock,G,hR⟩:=MpR.of (hV.obs id _ hob)
  have hxv:a.eval x=.map (some b):=by
   generalize a.eval x=v at hrx
   cases hrx with
   | im h=>cases h
   | ref _ _=>exact hR.v
  have run:∀ {r:Option (Nat × Value)} {v:Value},Instr.findNow d key es.toList 0=some r→(∀ q,r=some q→v=q.2)→(r=none→v=ie.zero) →
    (execOp a.eval o).run P w=.ok (.value (if ok=true then .tuple #[v,.bool r.isSome] else v)) w:=fun {r v} hf h1 h2=>by
   cases r with
   | some q =>
    have:=h1 q rfl
    subst this
    simp only [execOp,ho,hxv,hiv,Instr.lookup,Sem.run_bind,run_underlying hu,Result.andThen_ok,MapKept.run_getObj_map hR.h,Sem.run_pure,MapKept.run_checkKey huk hkey,MapKept.run_findKey huk hf,Option.isSome_some]
   | none =>
    have:=h2 rfl
    subst this
    simp only [execOp,ho,hxv,hiv,Instr.lookup,Sem.run_bind,run_underlying hu,Result.andThen_ok,MapKept.run_getObj_map hR.h,Sem.run_pure,MapKept.run_checkKey huk hkey,MapKept.run_findKey huk hf,run_zeroValue hT het,Option.isSome_none]
  have fin:∀ {v:Value} {σ':St},(execOp a.eval o).run P w=.ok (.value v) w→K σ'→RS N0 base w0 σ' (a.put o.dst v) w→o.wp P a w next Q:=fun {v σ'} h1 h2 h3=>by
   unfold Oper.wp
   rw [h1]
   exact hK _ _ _ h2 h3
  have val:∀ {c:AV} {v:Value} {bb:Bool},RepT (Nf N0 base V σ.obj) w V c v→bd (fun i=>i < σ.next) c→RS N0 base w0 (σ.after o.dst (lookV ok bb c) none) (a.put o.dst (if ok=true then .tuple #[v,.bool bb] else v)) w:=fun {c v bb} h1 h2=>by
   refine ⟨hpar,V,?_⟩
   rw [St.get_after,St.obj_after,St.next_after]
   refine hV.put (dstOk_spec hd) ?_ ?_
   ·cases ok with
    | false=>exact h1
    | true =>
     refine .tup _ _ rfl fun j q1 q2=>?_
     match j,q1,q2 with
     | 0,_,_=>exact h1
     | 1,_,_=>exact .im (.v _ rfl)
   ·cases ok with
    | false=>exact h2
    | true=>unfold lookV bd bdL bdL bdL;exact ⟨h2,by unfold bd;trivial,trivial⟩
  cases h with
  | own i k ys h1 h2 hKK =>
   obtain ⟨rfl,hKK⟩:=hKK
   replace hKK:=hKK.elim
   obtain ⟨e,he,hek⟩:=key_at hR.ke h1
   obtain ⟨e',he',V',hV'⟩:=hV.mpOut (dst:=o.dst) (n:=σ.next) (dstOk_spec hd) hob h2 (Nat.lt_irrefl _) hR
   rw [he] at he';injection he' with he';subst he'
   refine fin (run (find_at hR.st hR.kd hkey he hek) (v:=e.val) (fun q hq=>by injection hq with hq;rw [← hq]) (fun q=>by cases q)) hKK ⟨hpar,V',?_⟩
   rw [St.get_after,St.obj_after,St.next_after,St.obj_setObj]
   exact hV'
  | get i c h1 h2 h3 hKK =>
   obtain ⟨e,he,hek⟩:=key_at hR.ke h1
   obtain ⟨e',he',hrm⟩:=hR.en i c h2
   rw [he] at he';injection he' with he';subst he'
   obtain ⟨q1,q2⟩:=RepM.repT (V:=V) h3 hrm
   exact fin (run (find_at hR.st hR.kd hkey he hek) (v:=e.val) (fun q hq=>by injection hq with hq;rw [← hq]) (fun q=>by cases q)) hKK (val q1 (q2 _))
  | no h1 hKK =>
   split at hKK
   ·rename_i z hz
    obtain ⟨q1,q2⟩:=constA_rep (N:=Nf N0 base V σ.obj) (w:=w) (V:=V) hz
    exact fin (run (find_no hR.kd hkey hR.ke h1).1 (v:=ie.zero) (fun q hq=>by cases hq) (fun _=>rfl)) hKK (val q1 (q2 _))
   ·exact hKK.elim
 ·exact h.elim
theorem upd_step (hT:TOK P T) {t:TypeId} {x kx' vx:Operand} {id:Nat} {key:Value} {xv:AV} {K:St→Prop} (ho:o.op=.mapUpdate t x kx' vx∨o.op=.insert t x kx' vx) (hdst:o.dst=none) (hx:σ.eval x=some (.ref id)) (hi:σ.eval kx'=some (.v key)) (hxv:σ.eval vx=some xv) (h:supd T σ t id key xv K) (hr:RS N0 base w0 σ a w)
  {next:Act→World→Prop} {Q:Exit→Act→World→Prop} (hK:∀ σ' a' w',K σ'→RS N0 base w0 σ' a' w'→next a' w'):o.wp P a w next Q:=by
 obtain ⟨hpar,V,hV⟩:=hr
 obtain ⟨hrx,hbx⟩:=eval_rep hV hx
 have hiv:=eval_v (eval_rep hV hi).1
 obtain ⟨hrv,hbv⟩:=eval_rep hV hxv
 unfold supd at h
 split at h
 ·rename_i d ie d' ks xs hm hob
  obtain ⟨rfl,hkey,h⟩:=h
  obtain ⟨kt,et,hu,huk,het⟩:=mapOf_run hT hm
  obtain ⟨b,es,clock,G,hR⟩:=MpR.of (hV.obs id _ hob)
  have hxm:a.eval x=.map (some b):=by
   generalize a.eval x=v at hrx
   cases hrx with
   | im h=>cases h
   | ref _ _=>exact hR.v
  have hesl:es.size=xs.length:=by
   rw [hR.len,← hR.ke];simp
  have fin:∀ {w':World} {σ':St},(Instr.mapUpdate t (.map (some b)) key (a.eval vx)).run P w=.ok () w'→K σ'→RS N0 base w0 σ' a w'→o.wp P a w next Q:=fun {w' σ'} h1 h2 h3=>by
   unfold Oper.wp
   rcases ho with ho | ho <;> (simp only [execOp,ho,hxm,hiv,Sem.run_bind,h1,Result.andThen_ok,Sem.run_pure,Oper.upon,hdst,Act.put];exact hK _ _ _ h2 h3)
  have both:∀ {c:AV} {ps:List Nat} {gg:Nat→Prop} {KK:List Value→List AV→Prop},(∀ p,p∈ps→live σ.obj p)→id ∉ ps→(∀ b',gg b'→∃ p,p∈ps∧V.f p b') →
    (∀ {N':Nat→Prop} {w':World},(∀ b',Nf N0 base V σ.obj b'→b' < w.heap.size→N' b'∧w'.heap[b']?=w.heap[b']?)→(∀ b',gg b'→w'.heap[b']?=w.heap[b']?)→RepM N' w' gg c (a.eval vx)) →
    (∀ ls zs,KK ls zs→∃ σ',K σ'∧σ'.obj=updK σ.obj ps id (.mp d ls zs)∧σ'.get=σ.get∧σ'.next=σ.next∧σ'.size=σ.size∧σ'.par=σ.par)→UpdR key ks xs c KK→o.wp P a w next Q:=by
   intro c ps gg KK hps hidp hgg hu2 hKK hupd
   cases hupd with
   | set i h1 zs hz k =>
    subst hz
    obtain ⟨e,he,hek⟩:=key_at hR.ke h1
    have hf:=find_at hR.st hR.kd hkey he hek
    have hil:i < xs.length:=by rw [← hesl];exact (Array.getElem?_eq_some_iff.1 he).1
    have hkm:∀ e',es[i]?=some e'→({ e' with key:=key,val:=a.eval vx }:MapEntry).key=e'.key:=fun e' he'=>by rw [he] at he';cases he';exact hek.symm
    have hst':=MapKept.stamped_modify hR.st i (fun e=>{ e with key:=key,val:=a.eval vx }) (fun _ _=>rfl) (fun e' _ he'=>hkm e' he')
    have hkd':=MapKept.isKey_modify hR.kd i (fun e=>{ e with key:=key,val:=a.eval vx }) hkm
    have hget:∀ j,(es.modify i fun e=>{ e with key:=key,val:=a.eval vx })[j]?=if i=j then (es[j]?).map (fun e=>{ e with key:=key,val:=a.eval vx }) else es[j]?:=fun j=>by
     rw [Array.getElem?_modify]
    have hke':(es.modify i fun e=>{ e with key:=key,val:=a.eval vx }).toList.map (·.key)=ks:=by
     rw [← hR.ke]
     refine List.ext_getElem? fun j=>?_
     rw [List.getElem?_map,List.getElem?_map,Array.getElem?_toList,Array.getElem?_toList,hget]
     split
     ·rename_i hij
      subst hij
      rw [he]
      simp [hek]
     ·rfl
    obtain ⟨V',hV'⟩:=hV.mpPut (c:=c) (u:=a.eval vx) (i:=i) (ps:=ps) (gg:=gg) (ks':=ks) (xs':=xs.set i c) (es':=es.modify i fun e=>{ e with key:=key,val:=a.eval vx }) (clock':=clock) hob hR hst' hkd' hke' (by rw [List.length_set];exact hR.len) (fun j c' hj=>by
     by_cases hji:j=i
     ·subst hji
      rw [List.getElem?_set_self hil] at hj
      injection hj with hj
      exact .inl ⟨rfl,hj.symm,_,by rw [hget,if_pos rfl,he];rfl,rfl⟩
     ·rw [List.getElem?_set_ne (Ne.symm hji)] at hj
      have hjl:=(List.getElem?_eq_some_iff.1 hj).1
      refine .inr ⟨hji,hj,es[j]'(by omega),es[j]'(by omega),by simp,by rw [hget,if_neg (Ne.symm hji)];simp,rfl⟩) (by rw [List.length_set];exact hil) (fun q hq=>.inr (by simpa using hq)) hps hidp hgg (fun {N'} q1 q2=>hu2 q1 q2)
    obtain ⟨σ',k1,k2,k3,k4,k5,k6⟩:=hKK ks _ k
    refine fin (w':={ w with heap:=w.heap.setIfInBounds b (.map (es.modify i fun e=>{ e with key:=key,val:=a.eval vx }) clock) }) ?_ k1 ⟨hpar.trans k6.symm,V',?_⟩
    ·simp [Instr.mapUpdate,run_underlying hu,MapKept.run_getObj_map hR.h,MapKept.run_checkKey huk hkey,MapKept.run_findKey huk hf,he,hek,MapKept.run_keyThatStays hkey,MapKept.run_setObj_map _ hR.h,Result.andThen]
    ·rw [k2,k3,k4,k5];exact hV'
   | new h1 ls zs hl hz k =>
    subst hl hz
    obtain ⟨hf,hno⟩:=find_no hR.kd hkey hR.ke h1
    have hst':=MapKept.stamped_push hR.st (val:=a.eval vx) hno
    obtain ⟨V',hV'⟩:=hV.mpPut (c:=c) (u:=a.eval vx) (i:=xs.length) (ps:=ps) (gg:=gg) (ks':=ks++[key]) (xs':=xs++[c]) (es':=es.push { key,val:=a.eval vx,born:=clock }) (clock':=clock+1) hob hR hst' (fun x hx=>by
     rw [Array.toList_push,List.mem_append,List.mem_singleton] at hx
     rcases hx with hx | rfl
     ·exact hR.kd x hx
     ·exact hkey) (by rw [Array.toList_push,List.map_append,hR.ke];rfl) (by simp [hR.len]) (fun j c' hj=>by
     by_cases hji:j=xs.length
     ·subst hji
      simp at hj
      refine .inl ⟨rfl,hj.symm,_,by rw [← hesl,Array.getElem?_push_size],rfl⟩
     ·have hjl:j < xs.length:=by
       have:=(List.getElem?_eq_some_iff.1 hj).1
       simp at this;omega
      rw [List.getElem?_append_left hjl] at hj
      refine .inr ⟨hji,hj,es[j]'(by omega),es[j]'(by omega),by simp,?_,rfl⟩
      rw [Array.getElem?_push,if_neg (by omega)];simp) (by simp) (fun q hq=>by simp at hq;omega) hps hidp hgg (fun {N'} q1 q2=>hu2 q1 q2)
    obtain ⟨σ',k1,k2,k3,k4,k5,k6⟩:=hKK _ _ k
    refine fin (w':={ w with heap:=w.heap.setIfInBounds b (.map (es.push { key,val:=a.eval vx,born:=clock }) (clock+1)) }) ?_ k1 ⟨hpar.trans k6.symm,V',?_⟩
    ·simp [Instr.mapUpdate,run_underlying hu,MapKept.run_getObj_map hR.h,MapKept.run_checkKey huk hkey,MapKept.run_findKey huk hf,MapKept.run_setObj_map _ hR.h,Result.andThen]
    ·rw [k2,k3,k4,k5];exact hV'
  have imm:∀ {c:AV},immA σ.obj xv=some c→UpdR key ks xs c (fun ls zs=>K (σ.setObj id (.mp d ls zs)))→o.wp P a w next Q:=fun {c} hc hupd =>
   both (ps:=[]) (gg:=fun _=>False) (by simp) (by simp) (fun _ h=>h.elim) (fun {N' w'} q1 q2=>(immA_repM hc hrv (fun i u hu=>hV.obs i u hu)).mono q1 q2) (KK:=fun ls zs=>K (σ.setObj id (.mp d ls zs))) (c:=c) (fun ls zs hk=>⟨σ.setObj id (.mp d ls zs),hk,setObj_updK0 _ _ _,rfl,rfl,rfl,rfl⟩) hupd
  split at h
  ·rename_i p
   split at h
   ·rename_i k2 ys hobp
    obtain ⟨hpid,hupd⟩:=h
    have hlp:live σ.obj p:=⟨_,hobp,rfl⟩
    obtain ⟨hf,harr⟩:=hV.obs p _ hobp
    have hpv:a.eval vx=V p:=by
     generalize a.eval vx=v at hrv
     cases hrv with
     | im h=>cases h
     | ref _ _=>rfl
    exact both (ps:=[p]) (gg:=V.f p) (fun q hq=>by simp at hq;subst hq;exact hlp) (by simp;exact fun e=>hpid e.symm) (fun b' hb'=>⟨p,by simp,hb'⟩) (fun {N' w'} q1 q2=>by
     rw [hpv]
     exact ⟨harr.mono q1 fun b' hb'=>q2 b' ((hf b').2 hb'),hf⟩) (KK:=fun ls zs=>K ((σ.setObj p .dead).setObj id (.mp d ls zs))) (c:=.own k2 ys) (fun ls zs hk=>⟨(σ.setObj p .dead).setObj id (.mp d ls zs),hk,setObj_updK1 _ _ _ _,rfl,rfl,rfl,rfl⟩) hupd
   ·split at h
    ·rename_i c hc
     exact imm hc h
    ·exact h.elim
  ·split at h
   ·rename_i c hc
    exact imm hc h
   ·exact h.elim
 ·exact h.elim
variable (T) in
def smake (σ:St) (o:Oper) (t:TypeId) (K:St→Prop):Prop:=match mapOf T t with
 | some (d,_)=>K (σ.after o.dst (.ref σ.next) (some (.mp d [] [])))
 | none=>False
theorem make_step {t:TypeId} {K:St→Prop} (hd:dstOk σ o=true) (ho:o.op=.makeMap t none) (h:smake T σ o t K) (hr:RS N0 base w0 σ a w)
  {next:Act→World→Prop} {Q:Exit→Act→World→Prop} (hK:∀ σ' a' w',K σ'→RS N0 base w0 σ' a' w'→next a' w'):o.wp P a w next Q:=by
 obtain ⟨hpar,V,hV⟩:=hr
 unfold smake at h
 split at h
 ·rename_i d ie hm
  have hrun:(execOp a.eval o).run P w=.ok (.value (.map (some w.heap.size))) (w.alloc (.map #[] 0)):=by
   simp [execOp,ho,Instr.makeMap]
  have hnew:=hV.new (w':=w.alloc (.map #[] 0)) (n:=σ.next) (v:=.map (some w.heap.size)) (o:=.mp d [] []) (below_alloc w _) (Nat.lt_irrefl _) (fun b hb=>by
    simp only [blk,Option.some.injEq] at hb
    subst hb
    exact ⟨Nat.le_refl _,by simp⟩) ⟨w.heap.size,#[],0,fun _ _=>False,updV_same _ _ _,heap_new w _,MapKept.stamped_empty 0,by simp,rfl,rfl,fun i c hc=>by simp at hc,fun _ _ _ h=>h.elim,fun _ _ h=>h.elim,fun b'=>by
     rw [updV_f]
     simp only [bl,blk,Option.some.injEq,List.length_nil]
     exact ⟨fun e=>.inl e.symm,fun e=>e.elim (·.symm) fun ⟨_,h,_⟩=>by omega⟩⟩ trivial
  unfold Oper.wp
  rw [hrun]
  refine hK _ _ _ h ⟨hpar,updV V σ.next (.map (some w.heap.size)),?_⟩
  rw [St.get_after,St.obj_after,St.next_after]
  refine hnew.put (dstOk_spec hd) ?_ (by unfold bd;exact .inr rfl)
  have:=RepT.ref (N:=Nf N0 base (updV V σ.next (.map (some w.heap.size))) (updO σ.obj σ.next (.mp d [] []))) (w:=w.alloc (.map #[] 0)) (V:=updV V σ.next (.map (some w.heap.size))) σ.next (by rw [updV_same];rfl)
  rwa [updV_same] at this
 ·exact h.elim
variable (T) in
def slen (σ:St) (o:Oper) (t:TypeId) (id:Nat) (K:St→Prop):Prop:=match mapOf T t,σ.obj id with
 | some _,some (.mp _ _ xs)=>K (σ.after o.dst (.v (.int .i64 xs.length)) none)
 | _,_=>False
theorem mlen_step (hT:TOK P T) {t:TypeId} {x:Operand} {id:Nat} {K:St→Prop} (hd:dstOk σ o=true) (ho:o.op=.call { callee:=.builtin .len,args:=#[x],argTypes:=#[t] }) (hx:σ.eval x=some (.ref id)) (h:slen T σ o t id K) (hr:RS N0 base w0 σ a w)
  {next:Act→World→Prop} {Q:Exit→Act→World→Prop} (hK:∀ σ' a' w',K σ'→RS N0 base w0 σ' a' w'→next a' w'):o.wp P a w next Q:=by
 obtain ⟨hpar,V,hV⟩:=hr
 obtain ⟨hrx,hbx⟩:=eval_rep hV hx
 unfold slen at h
 split at h
 ·rename_i p d ks xs hm hob
  obtain ⟨d1,ie⟩:=p
  obtain ⟨kt,et,hu,huk,het⟩:=mapOf_run hT hm
  obtain ⟨b,es,clock,G,hR⟩:=MpR.of (hV.obs id _ hob)
  have hxm:a.eval x=.map (some b):=by
   generalize a.eval x=v at hrx
   cases hrx with
   | im h=>cases h
   | ref _ _=>exact hR.v
  have hesl:es.size=xs.length:=by
   rw [hR.len,← hR.ke];simp
  unfold Oper.wp
  have hrun:(execOp a.eval o).run P w=.ok (.value (.int .i64 xs.length)) w:=by
   simp [execOp,ho,resolve,invoke,builtin,hxm,Builtin.len_,run_underlying hu,goInt,MapKept.run_getObj_map hR.h,hesl]
  rw [hrun]
  refine hK _ _ _ h ⟨hpar,V,?_⟩
  rw [St.get_after,St.obj_after,St.next_after]
  exact hV.put (dstOk_spec hd) (.im (.v _ rfl)) (by unfold bd;trivial)
 ·exact h.elim
end
end Go.Sk
