/- A checker of Go functions by conditions over small pure states: part 7. -/
import Derived.Test.YtceeabnmleemiaaSk5
set_option linter.unusedVariables false
set_option linter.unusedSimpArgs false

-- SkRb
/- Stores to and loads from own slices of slices; calls that are given own objects. -/
namespace Go.Sk
open Go.RowKit

section
variable {P : Program} {T : TypeId → Option TI} {N0 : Nat → Prop} {base : Nat} {w0 : W0} {σ : St} {a : Act} {w : World}

def tput (σ : St) (ti : TI) (id k k' i j : Nat) (xs : List AV) (x : AV) (K : St → Prop) : Prop :=
  if okA x = true ∧ (cellsA x).length = ti.size ∧ k' = k ∧ 0 < ti.size ∧ j + ti.size ≤ k then ∃ e, xs[i]? = some e ∧ CalcL (xs.set i (newElem e j (cellsA x) x)) fun zs => K (σ.setObj id (.tre k zs)) else False

def tstore (T : TypeId → Option TI) (σ : St) (t : TypeId) (id k i j k' : Nat) (xs : List AV) (x : AV) (K : St → Prop) : Prop :=
  match T t with
  | none => False
  | some ti => match x with
    | .ref p => match σ.obj p with
      | some (.arr k2 ys) => if p ≠ id ∧ k' = k ∧ ti.size = 1 ∧ j + 1 ≤ k then ∃ e, xs[i]? = some e ∧ CalcL (xs.set i (newElem e j [.own k2 ys] (.own k2 ys))) fun zs => K ((σ.setObj p .dead).setObj id (.tre k zs)) else False
      | _ => tput σ ti id k k' i j xs x K
    | x => tput σ ti id k k' i j xs x K

theorem repW_of {N : Nat → Prop} {V : VV} {c : AV} {u : Value} (h : RepT N w V c u) : RepW N w V (fun _ => False) c u := by
  cases c with
  | own k ys => cases h with
    | im h => cases h
  | _ => exact ⟨h, fun _ h => h⟩

theorem setObj_updK1 (σ : St) (p id : Nat) (o : AO) : ((σ.setObj p .dead).setObj id o).obj = updK σ.obj [p] id o := by
  rw [St.obj_setObj, St.obj_setObj]
  funext i
  simp [updK, updO]
theorem setObj_updK0 (σ : St) (id : Nat) (o : AO) : (σ.setObj id o).obj = updK σ.obj [] id o := by
  rw [St.obj_setObj]
  funext i
  simp [updK, updO]

theorem tstore_step (hT : TOK P T) {o : Oper} {t : TypeId} {p x : Operand} {id k i j k' : Nat} {xs : List AV} {xv : AV} {K : St → Prop} (ho : o.op = .store t p x) (hdst : o.dst = none) (hp : σ.eval p = some (.pea id k i j)) (hx : σ.eval x = some xv) (hob : σ.obj id = some (.tre k' xs))
    (h : tstore T σ t id k i j k' xs xv K) (hr : RS N0 base w0 σ a w)
    {next : Act → World → Prop} {Q : Exit → Act → World → Prop} (hK : ∀ σ' a' w', K σ' → RS N0 base w0 σ' a' w' → next a' w') : o.wp P a w next Q := by
  obtain ⟨hpar, V, hV⟩ := hr
  obtain ⟨hrp, hbp⟩ := eval_rep hV hp
  obtain ⟨hrx, hbx⟩ := eval_rep hV hx
  unfold tstore at h
  split at h
  · exact h.elim
  · rename_i ti hti
    have fin : ∀ {w' : World} {σ' : St}, (Instr.storeAt t (a.eval p) (a.eval x)).run P w = .ok () w' → K σ' → RS N0 base w0 σ' a w' → o.wp P a w next Q := fun {w' σ'} h1 h2 h3 => by
      unfold Oper.wp
      simp only [execOp, ho, Sem.run_bind, h1, Result.andThen_ok, Sem.run_pure, Oper.upon, hdst, Act.put]
      exact hK _ _ _ h2 h3
    -- the row
    have row : ∀ {e : AV}, xs[i]? = some e → k' = k → ∀ {ds : List AV} {y : AV} {ks : List Nat} {gg : Nat → Nat → Prop} {σ' : St}, cellsA y = ds → 0 < ds.length → ds.length = ti.size → j + ds.length ≤ k → (a.eval x).cells.size = ds.length → (∀ i, i ∈ ks → live σ.obj i) → id ∉ ks →
        (∀ p b', gg p b' → ∃ i, i ∈ ks ∧ V.f i b') → (∀ p p' b', gg p b' → gg p' b' → p = p') → (∀ (p : Nat) (c : AV), ds[p]? = some c → ∃ u, (a.eval x).cells[p]? = some u ∧ u.oneCell' = true ∧ RepW (Nf N0 base V σ.obj) w V (gg p) c u) → bdL (fun i => i < σ.next) ds →
        σ'.obj = updK σ.obj ks id (.tre k (xs.set i (newElem e j ds y))) → σ'.get = σ.get → σ'.next = σ.next → σ'.size = σ.size → σ'.par = σ.par → K σ' → o.wp P a w next Q := by
      intro e he hkk ds y ks gg σ' hy hL hsz hfit hvs hks hidk hgg hgd hds hbd e1 e2 e3 e4 e5 hKσ
      subst hkk
      rcases hV.obs id _ hob with ⟨a', _, rfl, _⟩ | ⟨b, o', cap, arr, Ty, G, h1, h2, h3, h4, h5, h6, h7, h8, h9, h10⟩
      · simp at he
      generalize hv : a.eval p = pvv at hrp
      cases hrp with
      | im h => cases h
      | pea _ _ _ _ b' o'' n c h' =>
        rw [h1] at h'
        simp only [Value.slice.injEq, Option.some.injEq, Addr.mk.injEq] at h'
        obtain ⟨⟨rfl, rfl, _⟩, _, _⟩ := h'
        have hil : i < xs.length := (List.getElem?_eq_some_iff.1 he).1
        have hbnd : (i + 1) * k' ≤ cap * k' := Nat.mul_le_mul_right _ (by omega)
        rw [Nat.add_mul, Nat.one_mul] at hbnd
        obtain ⟨V', hV'⟩ := hV.trePut hob h1 h2 h3 h4 h5 h6 h7 h8 h9 h10 he hy hL hfit hvs hks hidk hgg hgd hds hbd
        have hone : ∀ u, u ∈ (a.eval x).cells.toList → u.oneCell' = true := fun u hu => by
          obtain ⟨q, q1, q2⟩ := List.mem_iff_getElem.1 hu
          have q3 : q < ds.length := by rw [← hvs]; simpa using q1
          obtain ⟨u', r1, r2, _⟩ := hds q _ (List.getElem?_eq_getElem q3)
          rw [Array.getElem_toList] at q2
          rw [Array.getElem?_eq_getElem (by simpa using q1), q2] at r1
          injection r1 with r1; exact r1 ▸ r2
        refine fin (by rw [hv]; exact run_storeAt hT hti h2 (by rw [hvs, hsz]) (by omega) hone) hKσ ⟨by rw [e5]; exact hpar, V', ?_⟩
        rw [e1, e2, e3, e4]; exact hV'
    have plain : tput σ ti id k k' i j xs xv K → o.wp P a w next Q := fun h => by
      unfold tput at h
      by_cases hc : okA xv = true ∧ (cellsA xv).length = ti.size ∧ k' = k ∧ 0 < ti.size ∧ j + ti.size ≤ k
      · rw [if_pos hc] at h
        obtain ⟨hok, hl, hkk, hpos, hfit⟩ := hc
        obtain ⟨e, he, hKe⟩ := h
        replace hKe := hKe.elim
        obtain ⟨c1, c2⟩ := cells_rep hok hrx
        exact row he hkk (ks := []) (gg := fun _ _ => False) rfl (by omega) hl (by omega) c1 (by simp) (by simp) (fun _ _ h => h.elim) (fun _ _ _ h => h.elim)
          (fun p c hc => let ⟨u, q1, q2, q3⟩ := c2 p c hc; ⟨u, q1, q3, repW_of q2⟩) (bd_cells hbx) (setObj_updK0 _ _ _) rfl rfl rfl rfl hKe
      · rw [if_neg hc] at h; exact h.elim
    split at h
    · rename_i p'
      split at h
      · rename_i k2 ys hob2
        by_cases hc : p' ≠ id ∧ k' = k ∧ ti.size = 1 ∧ j + 1 ≤ k
        · rw [if_pos hc] at h
          obtain ⟨hne, hkk, hs1, hfit⟩ := hc
          obtain ⟨e, he, hKe⟩ := h
          replace hKe := hKe.elim
          obtain ⟨hF, hA⟩ := hV.obs p' _ hob2
          obtain ⟨hxv, hxo⟩ : a.eval x = V p' ∧ (V p').oneCell' = true := by
            generalize a.eval x = v at hrx
            cases hrx with
            | im h => cases h
            | ref _ h => exact ⟨rfl, h⟩
          have hcs : (a.eval x).cells = #[V p'] := by rw [hxv]; exact cells_one hxo
          refine row he hkk (ds := [.own k2 ys]) (y := .own k2 ys) (ks := [p']) (gg := fun p b' => p = 0 ∧ V.f p' b') rfl (by simp) (by simp [hs1]) (by simpa using hfit) (by rw [hcs]; rfl) (fun c hc => by simp at hc; subst hc; exact ⟨_, hob2, rfl⟩) (by simpa using Ne.symm hne)
            (fun p b' h => ⟨p', by simp, h.2⟩) (fun q q' b' h h' => by rw [h.1, h'.1]) (fun p c hc => ?_) (by simp [bdL, bd]) (setObj_updK1 _ _ _ _) rfl rfl rfl rfl hKe
          cases p with
          | zero =>
            simp at hc; subst hc
            exact ⟨V p', by rw [hcs]; rfl, hxo, hA, fun b' => by simp [hF]⟩
          | succ p => simp at hc
        · rw [if_neg hc] at h; exact h.elim
      · exact plain h
    · exact plain h

/-- A load of an element's row. -/
def tload (P : Program) (T : TypeId → Option TI) (σ : St) (o : Oper) (t : TypeId) (id i : Nat) (xs : List AV) (K : St → Prop) : Prop :=
  match T t with
  | none => False
  | some ti => match ti.agg with
    | true => False
    | false => ∃ e, xs[i]? = some e ∧ (match e with
      | .own k2 ys => K ((σ.setObj id (.tre 1 (xs.set i (.ref σ.next)))).after o.dst (.ref σ.next) (some (.arr k2 ys)))
      | _ => pstep P T true σ.eval σ.obj σ.next o fun x no => K (σ.after o.dst x no))

theorem tload_step (hT : TOK P T) {o : Oper} {t : TypeId} {p : Operand} {id i : Nat} {xs : List AV} {K : St → Prop} (hd : dstOk σ o = true) (ho : o.op = .load t p) (hp : σ.eval p = some (.pea id 1 i 0)) (hob : σ.obj id = some (.tre 1 xs))
    (h : tload P T σ o t id i xs K) (hr : RS N0 base w0 σ a w)
    {next : Act → World → Prop} {Q : Exit → Act → World → Prop} (hK : ∀ σ' a' w', K σ' → RS N0 base w0 σ' a' w' → next a' w') : o.wp P a w next Q := by
  unfold tload at h
  split at h
  · exact h.elim
  · rename_i ti hti
    split at h
    · exact h.elim
    · rename_i hag
      obtain ⟨e, he, h⟩ := h
      split at h
      · rename_i k2 ys
        obtain ⟨hpar, V, hV⟩ := hr
        obtain ⟨hrp, hbp⟩ := eval_rep hV hp
        obtain ⟨b, o', cap, u, h1, h2, h3, V', hV'⟩ := hV.treOut (dst := o.dst) (n := σ.next) (dstOk_spec hd) hob he (by simp)
        have hpr : PtrR (fun _ => True) w V [.v u] (a.eval p) := by
          generalize a.eval p = pvv at hrp
          cases hrp with
          | im h => cases h
          | pea _ _ _ _ b' o'' n c h' =>
            rw [h1] at h'
            simp only [Value.slice.injEq, Option.some.injEq, Addr.mk.injEq] at h'
            obtain ⟨⟨rfl, rfl, _⟩, _, _⟩ := h'
            refine ⟨b, _, rfl, fun j c hc => ?_⟩
            cases j with
            | zero => simp at hc; subst hc; exact ⟨u, by simpa using h2, .im (.v u h3), h3⟩
            | succ j => simp at hc
        obtain ⟨u', h4, h5⟩ := hpr.load hT hti (x := .v u) (by unfold partA; rw [hag]; rfl)
        have hu := eval_v h5
        subst hu
        unfold Oper.wp
        simp only [execOp, ho, Sem.run_bind, h4, Result.andThen_ok, Sem.run_pure]
        refine hK _ _ _ h ⟨hpar, V', ?_⟩
        rw [St.get_after, St.obj_after, St.next_after, St.obj_setObj]
        exact hV'
      · exact pure_step hT hd h hr hK

/-! ### calls -/

mutual
theorem ren_bd_inv {f : Nat → Nat} {A A' : Nat → Prop} (h : ∀ i, A' (f i) → A i) : ∀ (x : AV), bd A' (ren f x) → bd A x
  | .ref id, hb => by unfold ren bd at hb; unfold bd; exact h _ hb
  | .ptr id _, hb => by unfold ren bd at hb; unfold bd; exact h _ hb
  | .pea id _ _ _, hb => by unfold ren bd at hb; unfold bd; exact h _ hb
  | .ag cs, hb => by unfold ren bd at hb; unfold bd; exact renL_bd_inv h cs hb
  | .tup cs, hb => by unfold ren bd at hb; unfold bd; exact renL_bd_inv h cs hb
  | .fn _ fs cs, hb => by unfold ren bd at hb; unfold bd; exact ⟨renL_bd_inv h fs hb.1, renL_bd_inv h cs hb.2⟩
  | .v _, _ | .sl _, _ | .pel _, _ | .nils, _ | .skip, _ | .undef, _ | .own _ _, _ => by unfold bd; trivial
theorem renL_bd_inv {f : Nat → Nat} {A A' : Nat → Prop} (h : ∀ i, A' (f i) → A i) : ∀ (xs : List AV), bdL A' (renL f xs) → bdL A xs
  | [], _ => by unfold bdL; trivial
  | x :: r, hb => by unfold renL bdL at hb; unfold bdL; exact ⟨ren_bd_inv h x hb.1, renL_bd_inv h r hb.2⟩
end

theorem renO_bd_inv {f : Nat → Nat} {A A' : Nat → Prop} (h : ∀ i, A' (f i) → A i) : ∀ (o : AO), bdO A' (renO f o) → bdO A o
  | .box cs, hb => renL_bd_inv h cs hb
  | .tre k xs, hb => fun e he => by
    have := hb (ren f e) (by rw [renL_eq]; exact List.mem_map_of_mem he)
    rw [cellsA_ren] at this
    exact renL_bd_inv h _ this
  | .arr _ _, _ | .pub _, _ | .dead, _ | .gh _, _ | .mp _ _ _, _ => trivial

def pubA1 (ob : Nat → Option AO) : AV → AV
  | .ref i => match ob i with
    | some (.pub xs) => .sl xs
    | _ => .ref i
  | .nils => .sl []
  | x => x
def pubA (ob : Nat → Option AO) : AV → AV
  | .ag cs => .ag (cs.map (pubA1 ob))
  | x => pubA1 ob x

theorem pubA1_rep {N : Nat → Prop} {V : VV} {ob : Nat → Option AO} {x : AV} {v : Value} (ho : ∀ i u, ob i = some u → RepO N w V i u) (h : RepT N w V x v) : RepT N w V (pubA1 ob x) v := by
  unfold pubA1
  split
  · rename_i i
    split
    · rename_i xs hob
      cases h with
      | im h => cases h
      | ref _ _ => exact .im (ho i _ hob)
    · exact h
  · cases h with
    | im h => cases h
    | nils b => exact .im (.nil b 0)
  · exact h

theorem pubA1_bd {A : Nat → Prop} {ob : Nat → Option AO} {x : AV} (h : bd A x) : bd A (pubA1 ob x) := by
  unfold pubA1
  split
  · split
    · simp [bd]
    · exact h
  · simp [bd]
  · exact h

theorem pubA_rep {N : Nat → Prop} {V : VV} {ob : Nat → Option AO} {x : AV} {v : Value} (ho : ∀ i u, ob i = some u → RepO N w V i u) (h : RepT N w V x v) : RepT N w V (pubA ob x) v := by
  unfold pubA
  split
  · cases h with
    | im h => cases h
    | ag cs vs hs hr hoc => exact .ag _ vs (by simpa using hs) (fun j h1 h2 => by simpa using pubA1_rep ho (hr j (by simpa using h1) h2)) hoc
  · exact pubA1_rep ho h

theorem pubA_bd {A : Nat → Prop} {ob : Nat → Option AO} {x : AV} (h : bd A x) : bd A (pubA ob x) := by
  unfold pubA
  split
  · unfold bd at h ⊢
    refine bdL_iff.2 fun y hy => ?_
    obtain ⟨z, hz, rfl⟩ := List.mem_map.1 hy
    exact pubA1_bd (bdL_iff.1 h z hz)
  · exact pubA1_bd h

/-- No number twice, all below n. -/
def numsOK (n : Nat) : List Nat → Bool
  | [] => true
  | i :: r => i.blt n && !(r.contains i) && numsOK n r

theorem numsOK_spec {n : Nat} : ∀ {is : List Nat}, numsOK n is = true → is.Nodup ∧ ∀ i, i ∈ is → i < n
  | [], _ => ⟨List.nodup_nil, fun i h => by cases h⟩
  | i :: r, h => by
    simp only [numsOK, Bool.and_eq_true, Bool.not_eq_true'] at h
    obtain ⟨⟨h1, h2⟩, h3⟩ := h
    obtain ⟨h4, h5⟩ := numsOK_spec h3
    refine ⟨List.nodup_cons.2 ⟨fun hm => ?_, h4⟩, fun j hj => ?_⟩
    · have := List.contains_iff_mem.2 hm
      rw [h2] at this; cases this
    · rcases List.mem_cons.1 hj with rfl | hj
      · exact by simpa [Nat.blt_eq] using h1
      · exact h5 j hj

/-- A call that is given own objects is: their numbers in order; the objects and the values as the callee numbers them; what it answers; what the objects are then. -/
def gcall (P : Program) (σ : St) (o : Oper) (fid : FuncId) (ys : List AV) (K : St → Prop) : Prop :=
  ∃ (is : List Nat) (os : List AO) (as : List AV) (x : AV) (os' : List AO), (is.map σ.obj = os.map (fun o => some (renO (rn is σ.next) o)) ∧ as.map (ren (rn is σ.next)) = ys.map (pubA σ.obj) ∧ numsOK σ.next is = true) ∧
    Fun P fid os as x os' ∧
    K { tmps := match o.dst with | some d => (d, ren (rn is σ.next) x) :: σ.tmps | none => σ.tmps
        objs := prs (rn is σ.next) 0 os' ++ σ.objs
        next := σ.next + (os'.length - os.length), size := σ.size, par := σ.par }

theorem look_append {α : Type} : ∀ (l r : List (Nat × α)) (t : Nat), look (l ++ r) t = match look l t with | some x => some x | none => look r t
  | [], r, t => rfl
  | (u, x) :: l, r, t => by
    simp only [List.cons_append, look]
    split
    · rfl
    · exact look_append l r t

/-- The state behind a call. -/
def afterCall (σ : St) (o : Oper) (is : List Nat) (os os' : List AO) (x : AV) : St :=
  { tmps := match o.dst with | some d => (d, ren (rn is σ.next) x) :: σ.tmps | none => σ.tmps
    objs := prs (rn is σ.next) 0 os' ++ σ.objs
    next := σ.next + (os'.length - os.length), size := σ.size, par := σ.par }

section
variable {is : List Nat} {os : List AO} {V : VV}
theorem rn_in (n : Nat) {j : Nat} (hj : j < is.length) : rn is n j = is[j] := by unfold rn; rw [List.getElem?_eq_getElem hj]
theorem rn_out (n : Nat) {j : Nat} (hj : is.length ≤ j) : rn is n j = n + (j - is.length) := by unfold rn; rw [List.getElem?_eq_none hj]
theorem rn_inj {n : Nat} (e3 : numsOK n is = true) (p q : Nat) (e : rn is n p = rn is n q) : p = q := by
  obtain ⟨hnd, hlt⟩ := numsOK_spec e3
  rcases Nat.lt_or_ge p is.length with h | h <;> rcases Nat.lt_or_ge q is.length with h' | h'
  · rw [rn_in n h, rn_in n h'] at e
    exact (List.getElem_inj hnd).1 e
  · rw [rn_in n h, rn_out n h'] at e
    have := hlt _ (List.getElem_mem h); omega
  · rw [rn_in n h', rn_out n h] at e
    have := hlt _ (List.getElem_mem h'); omega
  · rw [rn_out n h, rn_out n h'] at e; omega
theorem rn_obj {ob : Nat → Option AO} {n : Nat} (e1 : is.map ob = os.map fun o => some (renO (rn is n) o)) (j : Nat) (o : AO) (hj : os[j]? = some o) : ob (rn is n j) = some (renO (rn is n) o) := by
  have hlen : is.length = os.length := by have := congrArg List.length e1; simpa using this
  have hj' := (List.getElem?_eq_some_iff.1 hj).1
  have := congrArg (·[j]?) e1
  simp only [List.getElem?_map, hj, Option.map_some, List.getElem?_eq_getElem (show j < is.length by omega)] at this
  rw [rn_in n (by omega)]
  injection this

/-- What a callee is given. -/
theorem call_give (hV : Rel N0 base w0 σ.size V σ.get σ.obj (fun i => i < σ.next) a w) {as ys : List AV} {vs : Array Value} (e1 : is.map σ.obj = os.map fun o => some (renO (rn is σ.next) o)) (e2 : as.map (ren (rn is σ.next)) = ys.map (pubA σ.obj))
    (e3 : numsOK σ.next is = true) (h1 : vs.size = ys.length) (h3 : ∀ (j : Nat) (h1 : j < ys.length) (h2 : j < vs.size), RepT (Nf N0 base V σ.obj) w V ys[j] vs[j] ∧ bd (fun i => i < σ.next) ys[j]) :
    vs.size = as.length ∧ Own (Nf N0 base V σ.obj) (V.at (rn is σ.next)) (obL os) (ltA os.length) w ∧ (∀ (j : Nat) (h1 : j < as.length) (h2 : j < vs.size), RepT (Nf N0 base V σ.obj) w (V.at (rn is σ.next)) as[j] vs[j]) ∧ bdL (ltA os.length) as := by
  have hlen : is.length = os.length := by have := congrArg List.length e1; simpa using this
  have hal : as.length = ys.length := by have := congrArg List.length e2; simpa using this
  have hinv : ∀ i, rn is σ.next i < σ.next → ltA os.length i := fun i hi => by
    unfold ltA
    rcases Nat.lt_or_ge i is.length with h | h
    · omega
    · rw [rn_out _ h] at hi; omega
  have hbdo : ∀ (j : Nat) (o : AO), os[j]? = some o → bdO (ltA os.length) o := fun j o hj => renO_bd_inv hinv o (hV.bdo _ _ (rn_obj e1 j o hj)).2
  have hget : ∀ (j : Nat) (h1 : j < as.length) (h2 : j < ys.length), ren (rn is σ.next) as[j] = pubA σ.obj ys[j] := fun j q1 q2 => by
    have := congrArg (·[j]?) e2
    simp only [List.getElem?_map, List.getElem?_eq_getElem q1, List.getElem?_eq_getElem q2, Option.map_some] at this
    injection this
  refine ⟨by omega, hV.give (fun a b _ _ => rn_inj e3 a b) (rn_obj e1) hbdo, fun j q1 q2 => ren_inv (V := V.at (rn is σ.next)) (V' := V) (f := rn is σ.next) (fun _ => rfl) (pubA_rep (fun i u hu => hV.obs i u hu) (h3 j (by omega) q2).1) (hget j q1 (by omega)).symm,
    bdL_iff.2 fun z hz => ?_⟩
  obtain ⟨j, hj, rfl⟩ := List.mem_iff_getElem.1 hz
  refine ren_bd_inv (f := rn is σ.next) (A' := fun i => i < σ.next) hinv _ ?_
  rw [hget j hj (by omega)]
  exact pubA_bd (h3 j (by omega) (by omega)).2

/-- What the caller has then. -/
theorem call_take {o : Oper} (hd : dstOk σ o = true) (hpar : w0.m = σ.par) (hV : Rel N0 base w0 σ.size V σ.get σ.obj (fun i => i < σ.next) a w) (e1 : is.map σ.obj = os.map fun o => some (renO (rn is σ.next) o)) (e3 : numsOK σ.next is = true)
    {w' : World} {v : Value} {x : AV} {os' : List AO} (hle : os.length ≤ os'.length) (hfr : Frm w.heap.size { w := w, f := foot (V.at (rn is σ.next)) (obL os) } w')
    (hout : Outc (Nf N0 base V σ.obj) w (V.at (rn is σ.next)) os w' x os' v) : RS N0 base w0 (afterCall σ o is os os' x) (a.put o.dst v) w' := by
  have hlen : is.length = os.length := by have := congrArg List.length e1; simpa using this
  obtain ⟨V', hV'⟩ := hV.called (f := rn is σ.next) (dst := o.dst) (A2 := fun i => i < σ.next + (os'.length - os.length)) (dstOk_spec hd) (fun i hi => by omega) hle (fun a b _ _ => rn_inj e3 a b) (rn_obj e1)
    (fun j q1 q2 => by rw [rn_out _ (by omega)]; exact ⟨by omega, by omega⟩) hfr hout
  refine ⟨hpar, V', ?_⟩
  have e4 : (afterCall σ o is os os' x).get = upd σ.get o.dst (ren (rn is σ.next) x) := by
    funext t
    unfold afterCall
    cases o.dst with
    | none => rfl
    | some d => simp [St.get, look, upd]
  have e5 : (afterCall σ o is os os' x).obj = addL σ.obj (prs (rn is σ.next) 0 os') := by
    funext c
    simp only [St.obj, afterCall, look_append, addL]
    cases look (prs (rn is σ.next) 0 os') c <;> rfl
  rw [e4, e5]
  exact hV'
end

/-- A contract that leaves open which of several outcomes there is. -/
structure FunX (P : Program) (f : FuncId) (os : List AO) (args : List AV) (Ψ : AV → List AO → Prop) : Prop where
  en : Enters P f
  run : ∀ (N : Nat → Prop) (w : World) (V : VV) (vs : Array Value), vs.size = args.length → Own N V (obL os) (ltA os.length) w →
    (∀ (j : Nat) (h1 : j < args.length) (h2 : j < vs.size), RepT N w V args[j] vs[j]) → bdL (ltA os.length) args →
    Calls P f vs w fun e w' => ∃ v x os', Ψ x os' ∧ os.length ≤ os'.length ∧ e = .returned v ∧ Frm w.heap.size { w := w, f := foot V (obL os) } w' ∧ Outc N w V os w' x os' v
def gcallX (P : Program) (σ : St) (o : Oper) (fid : FuncId) (ys : List AV) (K : St → Prop) : Prop :=
  ∃ (is : List Nat) (os : List AO) (as : List AV) (Ψ : AV → List AO → Prop), (is.map σ.obj = os.map (fun o => some (renO (rn is σ.next) o)) ∧ as.map (ren (rn is σ.next)) = ys.map (pubA σ.obj) ∧ numsOK σ.next is = true) ∧
    FunX P fid os as Ψ ∧ ∀ x os', Ψ x os' →
    K { tmps := match o.dst with | some d => (d, ren (rn is σ.next) x) :: σ.tmps | none => σ.tmps
        objs := prs (rn is σ.next) 0 os' ++ σ.objs
        next := σ.next + (os'.length - os.length), size := σ.size, par := σ.par }
theorem Fun.x {P : Program} {f : FuncId} {os os' : List AO} {args : List AV} {x : AV} (h : Fun P f os args x os') : FunX P f os args fun y ys => y = x ∧ ys = os' :=
  ⟨h.en, fun N w V vs h1 h2 h3 h4 => (h.run N w V vs h1 h2 h3 h4).mono fun e w' ⟨v, q1, q2, q3⟩ => ⟨v, x, os', ⟨rfl, rfl⟩, h.le, q1, q2, q3⟩⟩

theorem gcallX_step {o : Oper} {fid : FuncId} {ys : List AV} {K : St → Prop} (hd : dstOk σ o = true) (h : gcallX P σ o fid ys K) (hr : RS N0 base w0 σ a w)
    (hex : ∀ V, Rel N0 base w0 σ.size V σ.get σ.obj (fun i => i < σ.next) a w → ∃ vs : Array Value, vs.size = ys.length ∧ (execOp a.eval o).run P w = (callFunc fid vs).run P w ∧ ∀ (j : Nat) (h1 : j < ys.length) (h2 : j < vs.size), RepT (Nf N0 base V σ.obj) w V ys[j] vs[j] ∧ bd (fun i => i < σ.next) ys[j])
    {next : Act → World → Prop} {Q : Exit → Act → World → Prop} (hK : ∀ σ' a' w', K σ' → RS N0 base w0 σ' a' w' → next a' w') : o.wp P a w next Q := by
  obtain ⟨is, os, as, Ψ, ⟨e1, e2, e3⟩, ⟨hen, hf⟩, hKK⟩ := h
  obtain ⟨hpar, V, hV⟩ := hr
  obtain ⟨vs, h1, h2, h3⟩ := hex V hV
  obtain ⟨g1, g2, g3, g4⟩ := call_give hV e1 e2 e3 h1 h3
  unfold Oper.wp
  rw [h2, run_callFunc hen]
  simp only [Oper.upon]
  refine (hf _ w _ vs g1 g2 g3 g4).mono ?_
  rintro e w' ⟨v, x, os', hΨ, hle, rfl, hfr, hout⟩
  exact hK _ _ _ (hKK x os' hΨ) (call_take hd hpar hV e1 e3 hle hfr hout)
theorem gcall_step {o : Oper} {fid : FuncId} {ys : List AV} {K : St → Prop} (hd : dstOk σ o = true) (h : gcall P σ o fid ys K) (hr : RS N0 base w0 σ a w)
    (hex : ∀ V, Rel N0 base w0 σ.size V σ.get σ.obj (fun i => i < σ.next) a w → ∃ vs : Array Value, vs.size = ys.length ∧ (execOp a.eval o).run P w = (callFunc fid vs).run P w ∧ ∀ (j : Nat) (h1 : j < ys.length) (h2 : j < vs.size), RepT (Nf N0 base V σ.obj) w V ys[j] vs[j] ∧ bd (fun i => i < σ.next) ys[j])
    {next : Act → World → Prop} {Q : Exit → Act → World → Prop} (hK : ∀ σ' a' w', K σ' → RS N0 base w0 σ' a' w' → next a' w') : o.wp P a w next Q := by
  obtain ⟨is, os, as, x, os', e, hf, hKK⟩ := h
  exact gcallX_step hd ⟨is, os, as, _, e, hf.x, fun y ys h => by rw [h.1, h.2]; exact hKK⟩ hr hex hK

end
end Go.Sk

-- SkS
/- One state forgets what another one knows. -/
namespace Go.Sk
open Go.RowKit

inductive Src where
  | obj (i : Nat)
  | tmp (t : Nat)
  | cell (i j : Nat)
  deriving DecidableEq

def notSrc (i : Nat) : List Src → Bool
  | [] => true
  | .obj k :: r => (k != i) && notSrc i r
  | _ :: r => notSrc i r
def distinct : List Src → Bool
  | [] => true
  | .obj k :: r => notSrc k r && distinct r
  | _ :: r => distinct r

/-- These objects lie where they lay. -/
def fixB (ss : List Src) : List Nat → Bool
  | [] => true
  | i :: r => (match ss[i]? with | some (.obj k) => k.beq i | _ => false) && fixB ss r
theorem fixB_spec {ss : List Src} : ∀ {ids : List Nat}, fixB ss ids = true → ∀ i, i ∈ ids → ss[i]? = some (.obj i)
  | [], _, i, h => by cases h
  | k :: r, h, i, hi => by
    simp only [fixB, Bool.and_eq_true] at h
    rcases List.mem_cons.1 hi with rfl | hi
    · have h1 := h.1
      split at h1
      · rename_i k' hk
        rw [hk, Nat.eq_of_beq_eq_true h1]
      · cases h1
    · exact fixB_spec h.2 i hi

/-- A cell of an own slice of slices as an immutable value. -/
def pubC : AV → Option AV
  | .own _ ys => some (.sl ys)
  | .sl xs => some (.sl xs)
  | .v x => if x.oneCell' then some (.v x) else none
  | .nils => some (.sl [])
  | _ => none
def pubCL : List AV → Option (List AV)
  | [] => some []
  | x :: r => match pubC x, pubCL r with | some y, some s => some (y :: s) | _, _ => none
def pubE : AV → Option AV
  | .ag cs => (pubCL cs).map .ag
  | x => pubC x
def PubL (xs ys : List AV) : Prop := xs.length = ys.length ∧ ∀ (i : Nat) (e e' : AV), xs[i]? = some e → ys[i]? = some e' → pubE e = some e'

/-- y may be forgotten to x. -/
def leC0 (σ : St) (ss : List Src) (here : Option Src) (y x : AV) : Prop :=
  match y, x with
  | _, .undef => True
  | .ref i, .ref i' => ss[i']? = some (.obj i)
  | .ref i, .sl xs => match σ.obj i with
    | some (.arr _ ys) => ys = xs ∧ notSrc i ss = true
    | some (.tre _ ys) => PubL ys xs ∧ notSrc i ss = true
    | some (.pub ys) => ys = xs
    | _ => False
  | .nils, .sl xs => xs = []
  | .nils, .ref i' => match here with
    | some h => ss[i']? = some h
    | none => False
  | .nils, .nils => True
  | .ptr i j, .ptr i' j' => ss[i']? = some (.obj i) ∧ j = j'
  | .v a, .v b => a = b
  | .sl xs, .sl ys => xs = ys
  | .skip, .skip => True
  | _, _ => False
def leL0 (σ : St) (ss : List Src) : List AV → List AV → Prop
  | [], [] => True
  | y :: ys, x :: xs => leC0 σ ss none y x ∧ leL0 σ ss ys xs
  | _, _ => False
def leC (σ : St) (ss : List Src) (here : Option Src) (y x : AV) : Prop :=
  match y, x with
  | .fn f fs cs, .fn f' fs' cs' => f = f' ∧ leL0 σ ss fs fs' ∧ leL0 σ ss cs cs'
  | y, x => leC0 σ ss here y x
def leL (σ : St) (ss : List Src) : List AV → List AV → Prop
  | [], [] => True
  | y :: ys, x :: xs => leC σ ss none y x ∧ leL σ ss ys xs
  | _, _ => False
def leV1 (σ : St) (ss : List Src) (here : Option Src) (y x : AV) : Prop :=
  match y, x with
  | .ag ys, .ag xs => leL σ ss ys xs
  | y, x => leC σ ss here y x
def leL1 (σ : St) (ss : List Src) : List AV → List AV → Prop
  | [], [] => True
  | y :: ys, x :: xs => leV1 σ ss none y x ∧ leL1 σ ss ys xs
  | _, _ => False
def leV (σ : St) (ss : List Src) (here : Option Src) (y x : AV) : Prop :=
  match y, x with
  | .tup ys, .tup xs => leL1 σ ss ys xs
  | y, x => leV1 σ ss here y x

def leT (σ : St) (ss : List Src) : List (Nat × AV) → Prop
  | [] => True
  | (t, x) :: r => (match σ.get t with | some y => leV σ ss (some (.tmp t)) y x | none => x = .undef) ∧ leT σ ss r

def leB (σ : St) (ss : List Src) (i : Nat) : Nat → List AV → List AV → Prop
  | _, [], [] => True
  | j, y :: ys, x :: xs => leC σ ss (some (.cell i j)) y x ∧ leB σ ss i (j + 1) ys xs
  | _, _, _ => False
def leO (σ : St) (ss : List Src) (s : Src) (o : AO) : Prop :=
  match s with
  | .obj i => match σ.obj i, o with
    | some (.arr k xs), .arr k' xs' => k = k' ∧ xs = xs'
    | some (.arr _ xs), .pub xs' => xs = xs'
    | some (.tre k xs), .tre k' xs' => k = k' ∧ xs = xs' ∧ bdO (fun _ => False) (.tre k xs)
    | some (.tre _ xs), .pub xs' => PubL xs xs'
    | _, .dead => True
    | some (.pub xs), .pub xs' => xs = xs'
    | some (.box cs), .box ds => leB σ ss i 0 cs ds
    | some (.gh G), .gh G' => G = G'
    | some (.mp d ks xs), .mp d' ks' xs' => d = d' ∧ ks = ks' ∧ xs = xs'
    | _, _ => False
  | .tmp t => match σ.get t, o with
    | some .nils, .arr _ xs => xs = []
    | some .nils, .tre _ xs => xs = []
    | _, _ => False
  | .cell i j => match σ.obj i, o with
    | some (.box cs), .arr _ xs => cs[j]? = some .nils ∧ xs = []
    | some (.box cs), .tre _ xs => cs[j]? = some .nils ∧ xs = []
    | _, _ => False
def leOs (σ : St) (ss : List Src) : List (Nat × AO) → Prop
  | [] => True
  | (i, o) :: r => (match ss[i]? with | some s => leO σ ss s o | none => False) ∧ leOs σ ss r

/-- The state τ knows no more than σ; its own objects come from where ss says. -/
def LeS (σ : St) (ss : List Src) (τ : St) : Prop := (distinct ss && fixB ss σ.par) = true ∧ (τ.size, τ.par) = (σ.size, σ.par) ∧ τ.next = ss.length ∧ leT σ ss τ.tmps ∧ leOs σ ss τ.objs
def Le (σ τ : St) : Prop := ∃ ss, LeS σ ss τ

def valAt (V : VV) (a : Act) (w : World) : Src → Value
  | .obj i => V i
  | .tmp t => a.tmps.getD t Go.undef
  | .cell i j => match V i with
    | .pointer (some p) => (w.cell? ⟨p.block, p.off + j, none⟩).getD Go.undef
    | _ => Go.undef

def newV (V : VV) (a : Act) (w : World) (ss : List Src) : VV :=
  ⟨fun i => match ss[i]? with
    | some s => valAt V a w s
    | none => .nilFunc, fun i => match ss[i]? with
    | some (.obj k) => V.f k
    | _ => fun _ => False⟩

theorem notSrc_spec {i : Nat} : ∀ {ss : List Src}, notSrc i ss = true → ∀ j : Nat, ss[j]? ≠ some (.obj i)
  | [], _, j, h => by simp at h
  | s :: r, hn, j, h => by
    cases j with
    | zero =>
      simp at h; subst h
      simp [notSrc] at hn
    | succ j =>
      refine notSrc_spec (ss := r) ?_ j (by simpa using h)
      cases s <;> simp_all [notSrc]

theorem distinct_spec : ∀ {ss : List Src}, distinct ss = true → ∀ {i j k : Nat}, ss[i]? = some (.obj k) → ss[j]? = some (.obj k) → i = j
  | [], _, i, j, k, h1, _ => by simp at h1
  | s :: r, hd, i, j, k, h1, h2 => by
    have hr : distinct r = true := by cases s <;> simp_all [distinct]
    cases i with
    | zero => cases j with
      | zero => rfl
      | succ j =>
        simp at h1; subst h1
        simp only [distinct, Bool.and_eq_true] at hd
        exact absurd (by simpa using h2) (notSrc_spec hd.1 j)
    | succ i => cases j with
      | zero =>
        simp at h2; subst h2
        simp only [distinct, Bool.and_eq_true] at hd
        exact absurd (by simpa using h1) (notSrc_spec hd.1 i)
      | succ j => exact congrArg (· + 1) (distinct_spec hr (i := i) (j := j) (k := k) (by simpa using h1) (by simpa using h2))

section
variable {N0 : Nat → Prop} {base : Nat} {w0 : W0} {σ τ : St} {a : Act} {w : World} {ss : List Src} {V : VV}

theorem look_mem {α : Type} : ∀ {l : List (Nat × α)} {t : Nat} {x : α}, look l t = some x → (t, x) ∈ l
  | [], t, x, h => by simp [look] at h
  | (t', y) :: r, t, x, h => by
    unfold look at h
    split at h
    · injection h with h; subst h; rename_i e; subst e; simp
    · exact List.mem_cons_of_mem _ (look_mem h)

theorem leT_get : ∀ {l : List (Nat × AV)}, leT σ ss l → ∀ t x, (t, x) ∈ l → (∃ y, σ.get t = some y ∧ leV σ ss (some (.tmp t)) y x) ∨ x = .undef
  | [], _, t, x, h => by simp at h
  | (t', y) :: r, hl, t, x, h => by
    unfold leT at hl
    rcases List.mem_cons.1 h with h | h
    · injection h with h1 h2
      subst h1; subst h2
      obtain ⟨hl, _⟩ := hl
      split at hl
      · exact .inl ⟨_, by assumption, hl⟩
      · exact .inr hl
    · exact leT_get hl.2 t x h

theorem leOs_get : ∀ {l : List (Nat × AO)}, leOs σ ss l → ∀ i o, (i, o) ∈ l → ∃ s, ss[i]? = some s ∧ leO σ ss s o
  | [], _, i, o, h => by simp at h
  | (i', o') :: r, hl, i, o, h => by
    unfold leOs at hl
    rcases List.mem_cons.1 h with h | h
    · injection h with h1 h2
      subst h1; subst h2
      obtain ⟨hl, _⟩ := hl
      split at hl
      · exact ⟨_, by assumption, hl⟩
      · exact hl.elim
    · exact leOs_get hl.2 i o h

theorem leL0_get : ∀ {ys xs : List AV}, leL0 σ ss ys xs → ys.length = xs.length ∧ ∀ (j : Nat) (h1 : j < ys.length) (h2 : j < xs.length), leC0 σ ss none ys[j] xs[j]
  | [], [], h => ⟨rfl, fun j h1 => by simp at h1⟩
  | y :: ys, x :: xs, h => by
    obtain ⟨h1, h2⟩ := leL0_get (ys := ys) (xs := xs) h.2
    refine ⟨by simp [h1], fun j h3 h4 => ?_⟩
    cases j with
    | zero => exact h.1
    | succ j => exact h2 j (Nat.lt_of_succ_lt_succ h3) (Nat.lt_of_succ_lt_succ h4)
  | [], _ :: _, h => by simp [leL0] at h
  | _ :: _, [], h => by simp [leL0] at h

theorem pubCL_get : ∀ {cs ds : List AV}, pubCL cs = some ds → cs.length = ds.length ∧ ∀ (j : Nat) (c d : AV), cs[j]? = some c → ds[j]? = some d → pubC c = some d
  | [], ds, h => by simp [pubCL] at h; subst h; exact ⟨rfl, fun j c d h1 => by simp at h1⟩
  | x :: r, ds, h => by
    simp only [pubCL] at h
    split at h
    · rename_i y s h1 h2
      injection h with h; subst h
      obtain ⟨i1, i2⟩ := pubCL_get h2
      refine ⟨by simp [i1], fun j c d h3 h4 => ?_⟩
      cases j with
      | zero => simp at h3 h4; subst h3; subst h4; exact h1
      | succ j => exact i2 j c d (by simpa using h3) (by simpa using h4)
    · cases h

theorem pubE_get {e e' : AV} (h : pubE e = some e') : (cellsA e).length = (cellsA e').length ∧ ∀ (j : Nat) (c d : AV), (cellsA e)[j]? = some c → (cellsA e')[j]? = some d → pubC c = some d := by
  unfold pubE at h
  split at h
  · rename_i cs
    cases hl : pubCL cs with
    | none => simp [hl] at h
    | some ds => simp [hl] at h; subst h; exact pubCL_get hl
  · rename_i hne
    have h1 : cellsA e = [e] := by cases e <;> first | rfl | exact absurd rfl (hne _)
    have h2 : cellsA e' = [e'] := by
      unfold pubC at h
      split at h <;> (try split at h) <;> first | (cases h; done) | (cases h; rfl)
    rw [h1, h2]
    refine ⟨rfl, fun j c d q1 q2 => ?_⟩
    cases j with
    | zero => simp at q1 q2; subst q1; subst q2; exact h
    | succ j => simp at q1

theorem pubC_rep {N N' : Nat → Prop} {g : Nat → Prop} {c d : AV} {u : Value} (h : pubC c = some d) (hr : RepW N w V g c u) (hN : ∀ b, N b → b < w.heap.size → N' b ∧ w.heap[b]? = w.heap[b]?) (hg : ∀ b, g b → N' b) : Rep N' w d u := by
  unfold pubC at h
  split at h
  · rename_i k ys
    injection h with h; subst h
    obtain ⟨h1, h2⟩ := hr
    rcases h1 with ⟨a, h1, rfl⟩ | ⟨b, o, cap, arr, T, h1, h3, h4, h5, h6, h7, h8⟩
    · rw [h1]; exact .nil _ _
    · rw [h1]
      refine Laid.rep (k := k) (arr := arr) ⟨h7, fun i e j c q1 q2 => let ⟨u, hu, hr⟩ := h8 i e j c q1 q2; ⟨u, hu, hr.mono hN⟩⟩ h3 (hg b ((h2 b).2 ?_)) h5
      rw [h1]; simp [bl, blk]; omega
  · injection h with h; subst h
    cases hr.1 with
    | im h => exact h.mono hN
  · split at h
    · injection h with h; subst h
      cases hr.1 with
      | im h => exact h.mono hN
    · cases h
  · injection h with h; subst h
    cases hr.1 with
    | im h => cases h
    | nils b => exact .nil _ _
  · cases h

theorem pub_tre {N N' : Nat → Prop} {id k : Nat} {xs ys : List AV} (h : RepO N w V id (.tre k xs)) (hp : PubL xs ys) (hN : ∀ b, N b → b < w.heap.size → N' b ∧ w.heap[b]? = w.heap[b]?) (hF : ∀ b, V.f id b → N' b) : Rep N' w (.sl ys) (V id) := by
  obtain ⟨hp1, hp2⟩ := hp
  rcases h with ⟨a, h1, rfl, _⟩ | ⟨b, o, cap, arr, T, G, h1, h2, h3, h4, h5, h6, h7, h8, h9, h10⟩
  · have : ys = [] := List.eq_nil_of_length_eq_zero (by simpa using hp1.symm)
    subst this; rw [h1]; exact .nil _ _
  · have hget : ∀ (i : Nat) (e' : AV) (j : Nat) (d : AV), ys[i]? = some e' → (cellsA e')[j]? = some d → ∃ u, arr[o + (i * k + j)]? = some u ∧ Rep N' w d u := by
      intro i e' j d q1 q2
      have hi : i < xs.length := by rw [hp1]; exact (List.getElem?_eq_some_iff.1 q1).1
      have q3 := List.getElem?_eq_getElem hi
      obtain ⟨r1, r2⟩ := pubE_get (hp2 i _ _ q3 q1)
      have hj : j < (cellsA xs[i]).length := by rw [r1]; exact (List.getElem?_eq_some_iff.1 q2).1
      have q4 := List.getElem?_eq_getElem hj
      obtain ⟨u, hu, _, hr⟩ := h7 i _ j _ q3 q4
      refine ⟨u, hu, pubC_rep (r2 j _ _ q4 q2) hr hN fun b' hb' => hF b' ((h10 b').2 (.inr ⟨_, ?_, hb'⟩))⟩
      have hjk : j < k := by rw [← h6 xs[i] (List.getElem_mem _)]; exact hj
      have := Nat.mul_le_mul_right k (show i + 1 ≤ xs.length by omega)
      rw [Nat.add_mul, Nat.one_mul] at this
      omega
    rw [h1, hp1]
    refine Laid.rep (k := k) (arr := arr) ⟨fun e' he' => ?_, hget⟩ h2 (hF b ((h10 b).2 (.inl rfl))) (by omega)
    obtain ⟨i, hi, rfl⟩ := List.mem_iff_getElem.1 he'
    have hi' : i < xs.length := by omega
    rw [← (pubE_get (hp2 i _ _ (List.getElem?_eq_getElem hi') (List.getElem?_eq_getElem hi))).1]
    exact h6 _ (List.getElem_mem _)

mutual
theorem ren_free {f : Nat → Nat} : ∀ (x : AV), bd (fun _ => False) x → ren f x = x
  | .ref id, hb => by unfold bd at hb; exact hb.elim
  | .ptr id _, hb => by unfold bd at hb; exact hb.elim
  | .pea id _ _ _, hb => by unfold bd at hb; exact hb.elim
  | .ag cs, hb => by unfold bd at hb; unfold ren; rw [renL_free cs hb]
  | .tup cs, hb => by unfold bd at hb; unfold ren; rw [renL_free cs hb]
  | .fn _ fs cs, hb => by unfold bd at hb; unfold ren; rw [renL_free fs hb.1, renL_free cs hb.2]
  | .v _, _ | .sl _, _ | .pel _, _ | .nils, _ | .skip, _ | .undef, _ | .own _ _, _ => by unfold ren; rfl
theorem renL_free {f : Nat → Nat} : ∀ (xs : List AV), bdL (fun _ => False) xs → renL f xs = xs
  | [], _ => by unfold renL; rfl
  | x :: r, hb => by unfold bdL at hb; unfold renL; rw [ren_free x hb.1, renL_free r hb.2]
end

theorem renO_free {f : Nat → Nat} {k : Nat} {xs : List AV} (h : bdO (fun _ => False) (.tre k xs)) : renO f (.tre k xs) = .tre k xs := by
  have : ∀ (l : List AV), (∀ e, e ∈ l → bdL (fun _ => False) (cellsA e)) → renL f l = l := by
    intro l
    induction l with
    | nil => intro _; unfold renL; rfl
    | cons e r ih =>
      intro h
      unfold renL
      rw [ih fun e he => h e (by simp [he])]
      have he := h e (by simp)
      rw [ren_free e ?_]
      cases e <;> simp_all [cellsA, bdL, bd]
  show AO.tre k (renL f xs) = AO.tre k xs
  rw [this xs h]

theorem leL_get : ∀ {ys xs : List AV}, leL σ ss ys xs → ys.length = xs.length ∧ ∀ (j : Nat) (h1 : j < ys.length) (h2 : j < xs.length), leC σ ss none ys[j] xs[j]
  | [], [], _ => ⟨rfl, fun j h => by simp at h⟩
  | y :: ys, x :: xs, h => by
    unfold leL at h
    obtain ⟨h1, h2⟩ := leL_get h.2
    refine ⟨by simp [h1], fun j h3 h4 => ?_⟩
    cases j with
    | zero => exact h.1
    | succ j => exact h2 j (Nat.lt_of_succ_lt_succ h3) (Nat.lt_of_succ_lt_succ h4)
  | [], _ :: _, h => by simp [leL] at h
  | _ :: _, [], h => by simp [leL] at h

theorem leL1_get : ∀ {ys xs : List AV}, leL1 σ ss ys xs → ys.length = xs.length ∧ ∀ (j : Nat) (h1 : j < ys.length) (h2 : j < xs.length), leV1 σ ss none ys[j] xs[j]
  | [], [], _ => ⟨rfl, fun j h => by simp at h⟩
  | y :: ys, x :: xs, h => by
    unfold leL1 at h
    obtain ⟨h1, h2⟩ := leL1_get h.2
    refine ⟨by simp [h1], fun j h3 h4 => ?_⟩
    cases j with
    | zero => exact h.1
    | succ j => exact h2 j (Nat.lt_of_succ_lt_succ h3) (Nat.lt_of_succ_lt_succ h4)
  | [], _ :: _, h => by simp [leL1] at h
  | _ :: _, [], h => by simp [leL1] at h

theorem leB_get {i : Nat} : ∀ {j0 : Nat} {ys xs : List AV}, leB σ ss i j0 ys xs → ys.length = xs.length ∧ ∀ (j : Nat) (h1 : j < ys.length) (h2 : j < xs.length), leC σ ss (some (.cell i (j0 + j))) ys[j] xs[j]
  | _, [], [], _ => ⟨rfl, fun j h => by simp at h⟩
  | j0, y :: ys, x :: xs, h => by
    unfold leB at h
    obtain ⟨h1, h2⟩ := leB_get h.2
    refine ⟨by simp [h1], fun j h3 h4 => ?_⟩
    cases j with
    | zero => exact h.1
    | succ j =>
      have := h2 j (Nat.lt_of_succ_lt_succ h3) (Nat.lt_of_succ_lt_succ h4)
      rw [show j0 + (j + 1) = j0 + 1 + j by omega]
      exact this
  | _, [], _ :: _, h => by simp [leB] at h
  | _, _ :: _, [], h => by simp [leB] at h

theorem LeS.sound (h : RS N0 base w0 σ a w) (hl : LeS σ ss τ) : RS N0 base w0 τ a w := by
  obtain ⟨hp, V, hV⟩ := h
  obtain ⟨hdi, hsp, hnext, hT, hO⟩ := hl
  simp only [Bool.and_eq_true] at hdi
  obtain ⟨hdist, hids⟩ := hdi
  simp only [Prod.mk.injEq] at hsp
  obtain ⟨hsize, hpar⟩ := hsp
  -- live objects of τ come from live objects of σ, or have no block
  have hlive : ∀ i b, live τ.obj i → (newV V a w ss).f i b → ∃ k, ss[i]? = some (.obj k) ∧ live σ.obj k ∧ V.f k b := by
    intro i b ⟨o, ho, hlv⟩ hb
    obtain ⟨s, hs, hle⟩ := leOs_get hO i o (look_mem ho)
    unfold newV at hb
    simp only [hs] at hb
    cases s with
    | obj k =>
      refine ⟨k, hs, ?_, hb⟩
      unfold leO at hle
      simp only at hle
      split at hle
      · exact ⟨_, by assumption, rfl⟩
      · exact ⟨_, by assumption, rfl⟩
      · exact ⟨_, by assumption, rfl⟩
      · exact ⟨_, by assumption, rfl⟩
      · cases hlv
      · cases hlv
      · exact ⟨_, by assumption, rfl⟩
      · exact ⟨_, by assumption, rfl⟩
      · exact ⟨_, by assumption, rfl⟩
      · exact hle.elim
    | tmp t => exact hb.elim
    | cell k j => exact hb.elim
  have hNf : ∀ b, Nf N0 base V σ.obj b → Nf N0 base (newV V a w ss) τ.obj b := fun b hN => ⟨hN.1, fun i hl hb => by
    obtain ⟨k, _, h1, h2⟩ := hlive i b hl hb
    exact hN.2 k h1 h2⟩
  have hNm : ∀ b, Nf N0 base V σ.obj b → b < w.heap.size → Nf N0 base (newV V a w ss) τ.obj b ∧ w.heap[b]? = w.heap[b]? := fun b hN _ => ⟨hNf b hN, rfl⟩
  have hbdN : ∀ i : Nat, ∀ s, ss[i]? = some s → i < τ.next := fun i s hs => by rw [hnext]; exact (List.getElem?_eq_some_iff.1 hs).1
  have nF : ∀ {i k : Nat}, ss[i]? = some (.obj k) → (newV V a w ss).f i = V.f k := fun hs => by unfold newV; simp only [hs]
  have notOld : ∀ {i b : Nat}, live σ.obj i → notSrc i ss = true → V.f i b → Nf N0 base (newV V a w ss) τ.obj b := fun {i b} hli hns hbk => by
    refine ⟨fun hb => ?_, fun i' hl hb => ?_⟩
    · rcases (hV.low i b hli hbk).1 with q | ⟨_, q⟩
      · omega
      · exact q
    · obtain ⟨k', hs, h8, h9⟩ := hlive i' b hl hb
      have := hV.inj k' i b h8 hli h9 hbk
      subst this
      exact notSrc_spec hns i' hs
  have pubRep : ∀ {k : Nat} {xs : List AV} {i : Nat}, σ.obj i = some (.arr k xs) → notSrc i ss = true → Rep (Nf N0 base (newV V a w ss) τ.obj) w (.sl xs) (V i) := by
    intro k xs i hob hns
    obtain ⟨h0, h00⟩ := hV.obs i _ hob
    rcases h00 with ⟨a', h1, h2⟩ | ⟨b, o, cap, arr, Ty, h1, h2, h3, h4, h5, h6, h7⟩
    · rw [h1, h2]; exact .nil _ _
    · have hbk : V.f i b := (h0 b).2 (by rw [h1]; simp [bl, blk]; omega)
      rw [h1]
      exact Laid.rep (k := k) (arr := arr) ⟨h6, fun i e j c h8 h9 => let ⟨u, hu, hr⟩ := h7 i e j c h8 h9; ⟨u, hu, hr.mono hNm⟩⟩ h2 (notOld ⟨_, hob, rfl⟩ hns hbk) h4
  have hC0 : ∀ {here : Option Src} {y x : AV} {v : Value}, leC0 σ ss here y x → RepT (Nf N0 base V σ.obj) w V y v → (∀ s, here = some s → y = .nils → valAt V a w s = v) →
      RepT (Nf N0 base (newV V a w ss) τ.obj) w (newV V a w ss) x v ∧ bd (fun i => i < τ.next) x := by
    intro here y x v hle hr hh
    have nV : ∀ {i : Nat} {s : Src}, ss[i]? = some s → newV V a w ss i = valAt V a w s := fun hs => by unfold newV; simp only [hs]
    unfold leC0 at hle
    split at hle
    · exact ⟨.undef v, by simp [bd]⟩
    · rename_i i i'
      cases hr with
      | im h => cases h
      | ref _ ho =>
        have := RepT.ref (N := Nf N0 base (newV V a w ss) τ.obj) (w := w) (V := newV V a w ss) i' (by rw [nV hle]; exact ho)
        rw [nV hle] at this
        exact ⟨this, by unfold bd; exact hbdN _ _ hle⟩
    · rename_i i xs
      cases hr with
      | im h => cases h
      | ref _ ho =>
        split at hle
        · rename_i k ys hob
          obtain ⟨rfl, hns⟩ := hle
          exact ⟨.im (pubRep hob hns), by simp [bd]⟩
        · rename_i k ys hob
          obtain ⟨hp, hns⟩ := hle
          exact ⟨.im (pub_tre (hV.obs i _ hob) hp hNm fun b hb => notOld ⟨_, hob, rfl⟩ hns hb), by simp [bd]⟩
        · rename_i ys hob
          subst hle
          have : Rep (Nf N0 base V σ.obj) w (.sl ys) (V i) := hV.obs i _ hob
          exact ⟨.im (this.mono hNm), by simp [bd]⟩
        · exact hle.elim
    · subst hle
      cases hr with
      | im h => cases h
      | nils b => exact ⟨.im (.nil b 0), by simp [bd]⟩
    · rename_i i'
      split at hle
      · rename_i s
        have hv := hh s rfl rfl
        have := RepT.ref (N := Nf N0 base (newV V a w ss) τ.obj) (w := w) (V := newV V a w ss) i' (by
          rw [nV hle, hv]
          cases hr with
          | im h => cases h
          | nils b => rfl)
        rw [nV hle, hv] at this
        exact ⟨this, by unfold bd; exact hbdN _ _ hle⟩
      · exact hle.elim
    · cases hr with
      | im h => cases h
      | nils b => exact ⟨.nils b, by simp [bd]⟩
    · obtain ⟨hs, rfl⟩ := hle
      cases hr with
      | im h => cases h
      | ptr _ _ b o h => exact ⟨.ptr _ _ b o (by rw [nV hs]; exact h), by unfold bd; exact hbdN _ _ hs⟩
    · subst hle
      cases hr with
      | im h => exact ⟨.im (h.mono hNm), by simp [bd]⟩
    · subst hle
      cases hr with
      | im h => exact ⟨.im (h.mono hNm), by simp [bd]⟩
    · cases hr with
      | im h => cases h
      | skip => exact ⟨.skip, by simp [bd]⟩
    · exact hle.elim
  have hL0 : ∀ {ys xs : List AV}, leL0 σ ss ys xs → ys.length = xs.length ∧ ∀ (j : Nat) (h1 : j < ys.length) (h2 : j < xs.length), leC0 σ ss none ys[j] xs[j] := fun h => leL0_get h
  have hC : ∀ {here : Option Src} {y x : AV} {v : Value}, leC σ ss here y x → RepT (Nf N0 base V σ.obj) w V y v → (∀ s, here = some s → y = .nils → valAt V a w s = v) →
      RepT (Nf N0 base (newV V a w ss) τ.obj) w (newV V a w ss) x v ∧ bd (fun i => i < τ.next) x := by
    intro here y x v hle hr hh
    unfold leC at hle
    split at hle
    · rename_i f fs cs f' fs' cs'
      obtain ⟨rfl, h1, h2⟩ := hle
      obtain ⟨l1, g1⟩ := hL0 h1
      obtain ⟨l2, g2⟩ := hL0 h2
      cases hr with
      | im h => cases h
      | fn _ _ _ us vs hs hs' hr hr' =>
        refine ⟨.fn f fs' cs' us vs (by omega) (by omega) (fun j h3 h4 => (hC0 (g1 j (by omega) h3) (hr j (by omega) h4) (fun s hs => by cases hs)).1) (fun j h3 h4 => (hC0 (g2 j (by omega) h3) (hr' j (by omega) h4) (fun s hs => by cases hs)).1), ?_⟩
        unfold bd
        refine ⟨bdL_iff.2 fun x hx => ?_, bdL_iff.2 fun x hx => ?_⟩
        · obtain ⟨j, q1, q2⟩ := List.mem_iff_getElem.1 hx
          exact q2 ▸ (hC0 (g1 j (by omega) q1) (hr j (by omega) (by omega)) (fun s hs => by cases hs)).2
        · obtain ⟨j, q1, q2⟩ := List.mem_iff_getElem.1 hx
          exact q2 ▸ (hC0 (g2 j (by omega) q1) (hr' j (by omega) (by omega)) (fun s hs => by cases hs)).2
    · exact hC0 hle hr hh
  have hV1 : ∀ {here : Option Src} {y x : AV} {v : Value}, leV1 σ ss here y x → RepT (Nf N0 base V σ.obj) w V y v → (∀ s, here = some s → y = .nils → valAt V a w s = v) →
      RepT (Nf N0 base (newV V a w ss) τ.obj) w (newV V a w ss) x v ∧ bd (fun i => i < τ.next) x := by
    intro here y x v hle hr hh
    unfold leV1 at hle
    split at hle
    · rename_i ys xs
      obtain ⟨h1, h2⟩ := leL_get hle
      cases hr with
      | im h => cases h
      | ag _ vs hs hr ho =>
        refine ⟨.ag xs vs (by omega) (fun j h3 h4 => (hC (h2 j (by omega) h3) (hr j (by omega) h4) (fun s hs => by cases hs)).1) ho, ?_⟩
        unfold bd
        refine bdL_iff.2 fun x hx => ?_
        obtain ⟨j, q1, q2⟩ := List.mem_iff_getElem.1 hx
        exact q2 ▸ (hC (h2 j (by omega) q1) (hr j (by omega) (by omega)) (fun s hs => by cases hs)).2
    · exact hC hle hr hh
  have hVV : ∀ {here : Option Src} {y x : AV} {v : Value}, leV σ ss here y x → RepT (Nf N0 base V σ.obj) w V y v → (∀ s, here = some s → y = .nils → valAt V a w s = v) →
      RepT (Nf N0 base (newV V a w ss) τ.obj) w (newV V a w ss) x v ∧ bd (fun i => i < τ.next) x := by
    intro here y x v hle hr hh
    unfold leV at hle
    split at hle
    · rename_i ys xs
      obtain ⟨h1, h2⟩ := leL1_get hle
      cases hr with
      | im h => cases h
      | tup _ vs hs hr =>
        refine ⟨.tup xs vs (by omega) (fun j h3 h4 => (hV1 (h2 j (by omega) h3) (hr j (by omega) h4) (fun s hs => by cases hs)).1), ?_⟩
        unfold bd
        refine bdL_iff.2 fun x hx => ?_
        obtain ⟨j, q1, q2⟩ := List.mem_iff_getElem.1 hx
        exact q2 ▸ (hV1 (h2 j (by omega) q1) (hr j (by omega) (by omega)) (fun s hs => by cases hs)).2
    · exact hV1 hle hr hh
  have hTm : ∀ t x, τ.get t = some x → RepT (Nf N0 base (newV V a w ss) τ.obj) w (newV V a w ss) x (a.tmps.getD t Go.undef) ∧ bd (fun i => i < τ.next) x := fun t x hx => by
    rcases leT_get hT t x (look_mem hx) with ⟨y, h1, h2⟩ | rfl
    · exact hVV h2 (hV.tm t y h1) (fun s hs _ => by injection hs with hs; subst hs; rfl)
    · exact ⟨.undef _, by simp [bd]⟩
  have nilRep : ∀ {k i' : Nat} {v : Value}, newV V a w ss i' = v → (∀ b, ¬ (newV V a w ss).f i' b) → RepT (Nf N0 base V σ.obj) w V .nils v →
      RepO (Nf N0 base (newV V a w ss) τ.obj) w (newV V a w ss) i' (.arr k []) ∧ RepO (Nf N0 base (newV V a w ss) τ.obj) w (newV V a w ss) i' (.tre k []) := by
    intro k i' v hv hf hr
    cases hr with
    | im h => cases h
    | nils b =>
      refine ⟨⟨fun b' => ⟨fun h => (hf b' h).elim, fun h => ?_⟩, .inl ⟨b, hv, rfl⟩⟩, .inl ⟨b, hv, rfl, hf⟩⟩
      rw [hv] at h
      simp [bl, blk_zero] at h
  have hOb : ∀ i o, τ.obj i = some o → RepO (Nf N0 base (newV V a w ss) τ.obj) w (newV V a w ss) i o ∧ i < τ.next ∧ bdO (fun i => i < τ.next) o := fun i o ho => by
    obtain ⟨s, hs, hle⟩ := leOs_get hO i o (look_mem ho)
    have nV : newV V a w ss i = valAt V a w s := by unfold newV; simp only [hs]
    have key : RepO (Nf N0 base (newV V a w ss) τ.obj) w (newV V a w ss) i o ∧ bdO (fun i => i < τ.next) o := by
      unfold leO at hle
      split at hle
      · rename_i k
        have nF' : (newV V a w ss).f i = V.f k := nF hs
        -- published: no live object of τ has its blocks
        have pubOld : ∀ {b : Nat}, live σ.obj k → o.live = false → V.f k b → Nf N0 base (newV V a w ss) τ.obj b := fun {b} hli hlv hbk => by
          refine ⟨fun hb => ?_, fun i' hl hb => ?_⟩
          · rcases (hV.low k b hli hbk).1 with q | ⟨_, q⟩
            · omega
            · exact q
          · obtain ⟨k', hs', h8, h9⟩ := hlive i' b hl hb
            have := hV.inj k' k b h8 hli h9 hbk
            subst this
            have := distinct_spec hdist hs hs'
            subst this
            obtain ⟨o2, ho2, hlv'⟩ := hl
            rw [ho] at ho2
            injection ho2 with ho2
            subst ho2
            rw [hlv] at hlv'; cases hlv'
        split at hle
        · rename_i k1 xs k2 xs' hob
          obtain ⟨rfl, rfl⟩ := hle
          obtain ⟨h0, h00⟩ := hV.obs k _ hob
          refine ⟨⟨fun b => by rw [nF', nV]; exact h0 b, ?_⟩, trivial⟩
          rw [nV]
          rcases h00 with ⟨a', h1, h2⟩ | ⟨b, o, cap, arr, Ty, h1, h2, h3, h4, h5, h6, h7⟩
          · exact .inl ⟨a', h1, h2⟩
          · exact .inr ⟨b, o, cap, arr, Ty, h1, h2, h3, h4, h5, h6, fun i e j c h8 h9 => let ⟨u, hu, hr⟩ := h7 i e j c h8 h9; ⟨u, hu, hr.mono hNm⟩⟩
        · rename_i k1 xs xs' hob
          subst hle
          refine ⟨?_, trivial⟩
          show Rep _ w (.sl xs) (newV V a w ss i)
          rw [nV]
          obtain ⟨h0, h00⟩ := hV.obs k _ hob
          show Rep _ w (.sl xs) (V k)
          rcases h00 with ⟨a', h1, h2⟩ | ⟨b, o, cap, arr, Ty, h1, h2, h3, h4, h5, h6, h7⟩
          · rw [h1, h2]; exact .nil _ _
          · have hbk : V.f k b := (h0 b).2 (by rw [h1]; simp [bl, blk]; omega)
            rw [h1]
            exact Laid.rep (k := k1) (arr := arr) ⟨h6, fun i e j c h8 h9 => let ⟨u, hu, hr⟩ := h7 i e j c h8 h9; ⟨u, hu, hr.mono hNm⟩⟩ h2 (pubOld ⟨_, hob, rfl⟩ rfl hbk) h4
        · rename_i k1 xs k2 xs' hob
          obtain ⟨rfl, rfl, hfree⟩ := hle
          refine ⟨?_, bdO_mono (fun _ h => h.elim) _ hfree⟩
          have h1 := hV.obs k _ hob
          -- its cells have no numbers: what it is does not hang on the other objects' values
          have h2 : RepO (Nf N0 base (newV V a w ss) τ.obj) w (setF (updV V k (V k)) k (V.f k)) k (.tre k1 xs) :=
            h1.mono (A := fun i => i = k) hNm (Nat.le_refl _) (fun i hi => by subst hi; rw [setF_v, updV_same]) (fun b => by rw [setF_f]) rfl (fun _ _ _ => rfl) (bdO_mono (fun _ h => h.elim) _ hfree)
          have h3 := renO_rep (V := setF (updV V k (V k)) k (V.f k)) (V' := newV V a w ss) (f := fun _ => i) (A := fun i => i = k) (fun j hj => by subst hj; rw [nV, setF_v, updV_same]; rfl) rfl (fun b => by rw [nF', setF_f]) h2 (bdO_mono (fun _ h => h.elim) _ hfree)
          rwa [renO_free hfree] at h3
        · rename_i k1 xs xs' hob
          refine ⟨?_, trivial⟩
          show Rep _ w (.sl xs') (newV V a w ss i)
          rw [nV]
          exact pub_tre (hV.obs k _ hob) hle hNm fun b hb => pubOld ⟨_, hob, rfl⟩ rfl hb
        · exact ⟨trivial, trivial⟩
        · rename_i xs xs' hob
          subst hle
          refine ⟨?_, trivial⟩
          show Rep _ w (.sl xs) (newV V a w ss i)
          rw [nV]
          have : Rep (Nf N0 base V σ.obj) w (.sl xs) (V k) := hV.obs k _ hob
          exact this.mono hNm
        · rename_i cs ds hob
          obtain ⟨h1, h2⟩ := leB_get hle
          obtain ⟨h0, b, arr, Ty, q1, q2, q3, q4⟩ := hV.obs k _ hob
          have hcell : ∀ (j : Nat) (h : j < ds.length), ∃ u, arr[j]? = some u ∧ u.oneCell' = true ∧ RepT (Nf N0 base (newV V a w ss) τ.obj) w (newV V a w ss) ds[j] u ∧ bd (fun i => i < τ.next) ds[j] := fun j hj => by
            obtain ⟨u, r1, r2, r3⟩ := q4 j _ (List.getElem?_eq_getElem (by omega))
            have := hC (h2 j (by omega) hj) r2 (fun s hs hn => by
              injection hs with hs
              subst hs
              simp only [valAt, q1]
              rw [cell_of_row w b _ arr Ty (0, 0) q2, Nat.zero_add, Nat.zero_add, r1]; rfl)
            exact ⟨u, r1, r3, this.1, this.2⟩
          refine ⟨⟨fun b => by rw [nF', nV]; exact h0 b, b, arr, Ty, by rw [nV]; exact q1, q2, by omega, fun j c hc => ?_⟩, bdL_iff.2 fun x hx => ?_⟩
          · obtain ⟨q5, q6⟩ := List.getElem?_eq_some_iff.1 hc
            obtain ⟨u, r1, r2, r3, _⟩ := hcell j q5
            exact ⟨u, r1, q6 ▸ r3, r2⟩
          · obtain ⟨j, q5, q6⟩ := List.mem_iff_getElem.1 hx
            obtain ⟨u, r1, r2, r3, r4⟩ := hcell j q5
            exact q6 ▸ r4
        · rename_i G G' hob
          subst hle
          have h1 : G.R (Nf N0 base V σ.obj) w (V.f k) := hV.obs k _ hob
          refine ⟨?_, trivial⟩
          show G.R _ w ((newV V a w ss).f i)
          rw [nF']
          exact G.mono hNm (Nat.le_refl _) (fun _ _ => rfl) h1
        · rename_i d ks xs d' ks' xs' hob
          obtain ⟨rfl, rfl, rfl⟩ := hle
          obtain ⟨b, es, clock, G, h1, h2, h3, h3k, h4, h5, h6, h7, h8, h9⟩ := hV.obs k _ hob
          exact ⟨⟨b, es, clock, G, by rw [nV]; exact h1, h2, h3, h3k, h4, h5, fun q c hq => let ⟨e, q1, q2⟩ := h6 q c hq; ⟨e, q1, q2.mono hNm fun _ _ => rfl⟩, h7, h8, fun b' => by rw [nF']; exact h9 b'⟩, trivial⟩
        · exact hle.elim
      · rename_i t
        have nF' : ∀ b, ¬ (newV V a w ss).f i b := fun b hb => by unfold newV at hb; simp only [hs] at hb
        split at hle
        · rename_i k xs hg
          subst hle
          exact ⟨(nilRep (by rw [nV]; rfl) nF' (hV.tm t _ hg)).1, trivial⟩
        · rename_i k xs hg
          subst hle
          exact ⟨(nilRep (by rw [nV]; rfl) nF' (hV.tm t _ hg)).2, fun e he => by simp at he⟩
        · exact hle.elim
      · rename_i k j
        have nF' : ∀ b, ¬ (newV V a w ss).f i b := fun b hb => by unfold newV at hb; simp only [hs] at hb
        have hc : ∀ {cs : List AV}, σ.obj k = some (.box cs) → cs[j]? = some .nils → ∃ u, newV V a w ss i = u ∧ RepT (Nf N0 base V σ.obj) w V .nils u := fun {cs} hg h1 => by
          obtain ⟨_, b', arr, Ty, q1, q2, q3, q4⟩ := hV.obs k _ hg
          obtain ⟨u, r1, r2, _⟩ := q4 j _ h1
          refine ⟨u, ?_, r2⟩
          rw [nV]
          simp only [valAt, q1]
          rw [cell_of_row w b' _ arr Ty (0, 0) q2, Nat.zero_add, r1]; rfl
        split at hle
        · rename_i cs k' xs hg
          obtain ⟨h1, rfl⟩ := hle
          obtain ⟨u, r1, r2⟩ := hc hg h1
          exact ⟨(nilRep r1 nF' r2).1, trivial⟩
        · rename_i cs k' xs hg
          obtain ⟨h1, rfl⟩ := hle
          obtain ⟨u, r1, r2⟩ := hc hg h1
          exact ⟨(nilRep r1 nF' r2).2, fun e he => by simp at he⟩
        · exact hle.elim
    exact ⟨key.1, hbdN _ _ hs, key.2⟩
  refine ⟨hp.trans hpar.symm, newV V a w ss, ⟨fun t x hx => (hTm t x hx).1, fun i o ho => (hOb i o ho).1, fun i j b hi hj hbi hbj => ?_, fun i b hi hbi => ?_, fun t x hx => (hTm t x hx).2, fun i o ho => (hOb i o ho).2, hV.bel, hV.bas, hV.dfr, by rw [hsize]; exact hV.siz, fun i hi => ?_⟩⟩
  · obtain ⟨k1, s1, l1, b1⟩ := hlive i b hi hbi
    obtain ⟨k2, s2, l2, b2⟩ := hlive j b hj hbj
    have := hV.inj k1 k2 b l1 l2 b1 b2
    subst this
    exact distinct_spec hdist s1 s2
  · obtain ⟨k1, _, l1, b1⟩ := hlive i b hi hbi
    exact hV.low k1 b l1 b1
  · have hs := fixB_spec hids i (by rw [← hp]; exact hi)
    refine ⟨hbdN i _ hs, ?_⟩
    rw [← (hV.par i hi).2]
    unfold newV; simp only [hs]; rfl

theorem Le.sound (h : RS N0 base w0 σ a w) (hl : Le σ τ) : RS N0 base w0 τ a w := by
  obtain ⟨ss, hs⟩ := hl
  exact hs.sound h

end
end Go.Sk
