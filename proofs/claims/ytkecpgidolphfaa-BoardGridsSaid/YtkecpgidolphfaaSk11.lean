/- A checker of Go functions by conditions over small pure states: part 12. -/
import Derived.Test.YtkecpgidolphfaaSk10
import Derived.IntWalk
import Derived.ProofKit
import Derived.OpenShut
import Derived.Carry
import Derived.ChangeArms
import Derived.WalkKit

-- SkXa
/- A region that draws its order, its operations written in another order. -/
namespace Go.Sk
set_option linter.unusedVariables false
set_option linter.unusedSimpArgs false
open Go.RowKit

def rnOper (f : Nat → Nat) (o : Oper) : Oper := { o with after := o.after.map fun e => { e with on := f e.on }, guard := match o.guard with | some (g, b) => some (f g, b) | none => none }
def permOps (perm : List Nat) (ops : Array Oper) : Array Oper := (perm.map fun i => rnOper (fun j => perm.idxOf j) (ops.getD i default)).toArray
def isPerm (perm : List Nat) (n : Nat) : Bool := perm.length == n && perm.all (fun i => decide (i < n)) && (List.range n).all (fun i => perm.contains i) && decide perm.Nodup

section
variable {P : Program} {md : Region.Mode} {ops : Array Oper} {Q : Exit → Act → World → Prop} {perm : List Nat}

theorem isPerm_spec {n : Nat} (h : isPerm perm n = true) : perm.length = n ∧ (∀ i, i < n → perm.idxOf i < n ∧ perm[perm.idxOf i]? = some i) ∧ (∀ i, n ≤ i → perm.idxOf i = n) := by
  unfold isPerm at h
  simp only [Bool.and_eq_true, beq_iff_eq, List.all_eq_true, List.mem_range, List.contains_iff_mem, decide_eq_true_eq] at h
  obtain ⟨⟨⟨h1, h2⟩, h3⟩, _⟩ := h
  refine ⟨h1, fun i hi => ?_, fun i hi => ?_⟩
  · have hm := h3 i hi
    have hlt : perm.idxOf i < perm.length := List.idxOf_lt_length_iff.2 hm
    refine ⟨by omega, ?_⟩
    rw [List.getElem?_eq_getElem hlt, List.getElem_idxOf]
  · rw [← h1]
    exact List.idxOf_eq_length fun hm => by have := h2 i hm; omega

theorem permOps_get (h : isPerm perm ops.size = true) (i : Nat) : (permOps perm ops)[perm.idxOf i]? = (ops[i]?).map (rnOper fun j => perm.idxOf j) := by
  obtain ⟨h1, h2, h3⟩ := isPerm_spec h
  rcases Nat.lt_or_ge i ops.size with hi | hi
  · obtain ⟨g1, g2⟩ := h2 i hi
    unfold permOps
    rw [List.getElem?_toArray, List.getElem?_map, g2, Array.getElem?_eq_getElem hi]
    simp [hi]
  · rw [h3 i hi, Array.getElem?_eq_none hi, Array.getElem?_eq_none]
    · rfl
    · unfold permOps; simp [h1]

theorem yielded_perm (h : isPerm perm ops.size = true) (t : Array Value) (j : Nat) : yielded (permOps perm ops) t (perm.idxOf j) = yielded ops t j := by
  unfold yielded
  rw [permOps_get h]
  cases ops[j]? <;> rfl

theorem wp_rn {f : Nat → Nat} {o : Oper} {a : Act} {w : World} {K : Act → World → Prop} : (rnOper f o).wp P a w K Q = o.wp P a w K Q := by
  cases o; rfl
theorem asks_rn {f : Nat → Nat} {o : Oper} {a : Act} {w : World} : (rnOper f o).asks P a w = o.asks P a w := by
  cases o; rfl

theorem wpOp_perm (h : isPerm perm ops.size = true) {i : Nat} {a : Act} {w : World} {K : Act → World → Prop} (hh : wpOp P (permOps perm ops) Q (perm.idxOf i) K a w) : wpOp P ops Q i K a w := by
  unfold wpOp at *
  rw [permOps_get h] at hh
  cases ho : ops[i]? with
  | none => rw [ho] at hh; exact hh
  | some o =>
    rw [ho] at hh
    simp only [Option.map_some] at hh
    have e : Region.wanted (rnOper (fun j => perm.idxOf j) o) (yielded (permOps perm ops) a.tmps) = Region.wanted o (yielded ops a.tmps) := by
      unfold Region.wanted rnOper
      cases hg : o.guard with
      | none => simp
      | some p =>
        obtain ⟨g, b⟩ := p
        simp only
        rw [yielded_perm h]
    rw [e] at hh
    simp only
    split
    · rename_i hw
      rw [if_pos hw, wp_rn, asks_rn] at hh
      exact hh
    · rename_i hw
      rw [if_neg hw] at hh
      exact hh

theorem ready_perm (h : isPerm perm ops.size = true) {l l' : Array Bool} (hs : l.size = ops.size) (hs' : l'.size = ops.size) (hl : ∀ i, i < ops.size → l'.getD (perm.idxOf i) false = l.getD i false) {i : Nat} (hi : i ∈ Region.ready md ops l) :
    perm.idxOf i ∈ Region.ready md (permOps perm ops) l' := by
  obtain ⟨h1, h2, h3⟩ := isPerm_spec h
  have hgd : ∀ {l : Array Bool} {q : Nat}, l.size = ops.size → q < ops.size → l.getD q true = l.getD q false := fun h1 h2 => by simp [h1, h2]
  obtain ⟨g1, o, g2, g3⟩ := mem_ready.1 hi
  have hlt : i < ops.size := (Array.getElem?_eq_some_iff.1 g2).1
  refine mem_ready.2 ⟨?_, rnOper (fun j => perm.idxOf j) o, by rw [permOps_get h, g2]; rfl, fun e he hb => ?_⟩
  · rw [hgd hs' (h2 i hlt).1, hl i hlt, ← hgd hs hlt]; exact g1
  · obtain ⟨e0, q1, rfl⟩ := Array.mem_map.1 he
    have hb0 : Region.binds md e0 = true := hb
    have := g3 e0 q1 hb0
    rcases Nat.lt_or_ge e0.on ops.size with q | q
    · show l'.getD (perm.idxOf e0.on) false = true
      rw [hl _ q]; exact this
    · rw [Array.getD_eq_getD_getElem?, Array.getElem?_eq_none (by omega)] at this; cases this

theorem wpAny_perm (h : isPerm perm ops.size = true) : ∀ (fuel : Nat) (l l' : Array Bool) (a : Act) (w : World), l.size = ops.size → l'.size = ops.size → (∀ i, i < ops.size → l'.getD (perm.idxOf i) false = l.getD i false) →
    wpAny P md (permOps perm ops) Q fuel l' a w → wpAny P md ops Q fuel l a w := by
  obtain ⟨h1, h2, h3⟩ := isPerm_spec h
  have hpn : (permOps perm ops).size = ops.size := by unfold permOps; simp [h1]
  have back : ∀ (j : Nat), j < ops.size → ∃ i, i < ops.size ∧ perm.idxOf i = j := by
    intro j hj
    -- the places of all numbers are as many as there are
    have hlt : j < perm.length := by omega
    refine ⟨perm[j], ?_, ?_⟩
    · have := h
      unfold isPerm at this
      simp only [Bool.and_eq_true, List.all_eq_true, decide_eq_true_eq] at this
      exact this.1.1.2 _ (List.getElem_mem hlt)
    · have hnd : perm.Nodup := by
        have := h
        unfold isPerm at this
        simp only [Bool.and_eq_true, decide_eq_true_eq] at this
        exact this.2
      exact hnd.idxOf_getElem j hlt
  intro fuel
  induction fuel with
  | zero =>
    intro l l' a w hs hs' hl hw
    refine ⟨List.eq_nil_iff_forall_not_mem.2 fun i hi => ?_, hw.2⟩
    have := ready_perm h hs hs' hl hi
    rw [hw.1] at this
    cases this
  | succ fuel ih =>
    intro l l' a w hs hs' hl hw
    refine ⟨fun he => hw.1 ?_, fun i hi => ?_⟩
    · refine List.eq_nil_iff_forall_not_mem.2 fun j hj => ?_
      have hjs : j < ops.size := by
        obtain ⟨_, o, g, _⟩ := mem_ready.1 hj
        rw [← hpn]; exact (Array.getElem?_eq_some_iff.1 g).1
      obtain ⟨i, q1, rfl⟩ := back j hjs
      have hgd : ∀ {l : Array Bool} {q : Nat}, l.size = ops.size → q < ops.size → l.getD q true = l.getD q false := fun h1 h2 => by simp [h1, h2]
      obtain ⟨g1, o, g2, g3⟩ := mem_ready.1 hj
      have hi : i ∈ Region.ready md ops l := by
        rw [permOps_get h, Array.getElem?_eq_getElem q1] at g2
        injection g2 with g2
        refine mem_ready.2 ⟨?_, _, Array.getElem?_eq_getElem q1, fun e he hb => ?_⟩
        · rw [hgd hs q1, ← hl i q1, ← hgd hs' (h2 i q1).1]; exact g1
        · have := g3 { e with on := perm.idxOf e.on } (by rw [← g2]; exact Array.mem_map.2 ⟨e, he, rfl⟩) hb
          rcases Nat.lt_or_ge e.on ops.size with q | q
          · rw [← hl _ q]; exact this
          · have e' : perm.idxOf e.on = ops.size := h3 _ q
            simp only at this
            rw [e', Array.getD_eq_getD_getElem?, Array.getElem?_eq_none (by omega)] at this; cases this
      rw [he] at hi
      cases hi
    · have hr := ready_perm h hs hs' hl hi
      have hlt : i < ops.size := by
        obtain ⟨_, o, g, _⟩ := mem_ready.1 hi
        exact (Array.getElem?_eq_some_iff.1 g).1
      refine wpOp_perm h (wpOp_mono (fun a' w' hk => ih (l.setIfInBounds i true) (l'.setIfInBounds (perm.idxOf i) true) a' w' (by simp [hs]) (by simp [hs']) (fun q hq => ?_) hk) (hw.2 _ hr))
      by_cases hqi : i = q
      · subst hqi
        have := (h2 i hlt).1
        simp [hs, hs', hlt, this]
      · have hne : perm.idxOf i ≠ perm.idxOf q := fun e => hqi (by
          have q1 := (h2 i hlt).2
          have q2 := (h2 q hq).2
          rw [e, q2] at q1
          injection q1 with q1
          exact q1.symm)
        rw [getD_set_ne false hne, getD_set_ne false hqi]
        exact hl q hq

end

def vcDrawP (P : Program) (T : TypeId → Option TI) (ops : Array Oper) (σ : St) (K : St → Prop) : Prop :=
  vcDraw P T ops σ K ∨ ∃ perm : List Nat, isPerm perm ops.size = true ∧ vcDraw P T (permOps perm ops) σ K

theorem permOps_size {perm : List Nat} {ops : Array Oper} (h : isPerm perm ops.size = true) : (permOps perm ops).size = ops.size := by unfold permOps; simp [(isPerm_spec h).1]
end Go.Sk

-- SkXb
/- A region that draws its order: operations that only compute may be taken first. -/
namespace Go.Sk
open Go.RowKit

def addE (es : List Nat) (ops : Array Oper) : Array Oper :=
  (ops.toList.zipIdx.map fun p => if es.contains p.2 then p.1 else { p.1 with after := p.1.after ++ ((es.filter fun e => decide (e < p.2)).map fun e => ({ on := e, ground := .data } : Edge)).toArray }).toArray
def earlyGo (ops : Array Oper) (es : List Nat) : List Nat → Array Bool → Bool
  | [], _ => true
  | e :: r, l => Region.free .any ops l e && (Region.ready .any ops l).contains e && (Region.ready .any (addE es ops) l).contains e && decide (e < ops.size) && earlyGo ops es r (l.setIfInBounds e true)
def earlyOK (ops : Array Oper) (es : List Nat) : Bool := Region.noSelect ops && earlyGo ops es es (Array.replicate ops.size false)

def earlyK (T : TypeId → Option TI) (ops : Array Oper) : List Nat → St → Prop
  | [], _ => True
  | e :: r, σ => match ops[e]? with
    | none => False
    | some o => match o.guard, dstOk σ o with
      | none, true => match o.op with
        | .move x | .assign x => kx σ.eval x fun y => earlyK T ops r (σ.after o.dst y none)
        | .binOp op t x y _ => kx σ.eval x fun xv => kx σ.eval y fun yv => match xv, yv with
          | .v a, .v b => abin T op t a b fun v => earlyK T ops r (σ.after o.dst (.v v) none)
          | _, _ => False
        | _ => False
      | _, _ => False

section
variable {P : Program} {T : TypeId → Option TI} {ops : Array Oper} {es : List Nat} {N0 : Nat → Prop} {base : Nat} {w0 : W0}

theorem addE_size : (addE es ops).size = ops.size := by unfold addE; simp
theorem addE_get (i : Nat) : (addE es ops)[i]? = (ops[i]?).map fun o => if es.contains i then o else { o with after := o.after ++ ((es.filter fun e => decide (e < i)).map fun e => ({ on := e, ground := .data } : Edge)).toArray } := by
  unfold addE
  rw [List.getElem?_toArray, List.getElem?_map, List.getElem?_zipIdx, Array.getElem?_toList]
  cases ops[i]? <;> simp


theorem yielded_addE (t : Array Value) (j : Nat) : yielded (addE es ops) t j = yielded ops t j := by
  unfold yielded
  rw [addE_get]
  cases ops[j]? with
  | none => rfl
  | some o =>
    cases hc : es.contains j with
    | true => simp only [Option.map_some, if_true]
    | false => simp only [Option.map_some]; rfl

theorem wpOp_addE {Q : Exit → Act → World → Prop} {i : Nat} {a : Act} {w : World} {K : Act → World → Prop} (hh : wpOp P (addE es ops) Q i K a w) : wpOp P ops Q i K a w := by
  unfold wpOp at *
  rw [addE_get] at hh
  cases ho : ops[i]? with
  | none => rw [ho] at hh; exact hh
  | some o =>
    rw [ho] at hh
    simp only [Option.map_some] at hh
    have e : ∀ o' : Oper, o'.guard = o.guard → Region.wanted o' (yielded (addE es ops) a.tmps) = Region.wanted o (yielded ops a.tmps) := by
      intro o' hg
      unfold Region.wanted
      rw [hg]
      cases o.guard with
      | none => rfl
      | some p => simp only [yielded_addE]
    cases hc : es.contains i with
    | true =>
      simp only [hc, if_true] at hh
      rw [e o rfl] at hh
      exact hh
    | false =>
      simp only [hc, Bool.false_eq_true, if_false] at hh
      have e' := e { o with after := o.after ++ ((es.filter fun e => decide (e < i)).map fun e => ({ on := e, ground := .data } : Edge)).toArray } rfl
      rw [e'] at hh
      exact hh

theorem ready_addE {l : Array Bool} (hall : ∀ e, e ∈ es → l.getD e false = true) (j : Nat) : j ∈ Region.ready .any (addE es ops) l ↔ j ∈ Region.ready .any ops l := by
  rw [mem_ready, mem_ready, addE_get]
  constructor
  · rintro ⟨h1, o, h2, h3⟩
    cases ho : ops[j]? with
    | none => rw [ho] at h2; cases h2
    | some o1 =>
      rw [ho] at h2
      simp only [Option.map_some, Option.some.injEq] at h2
      subst h2
      refine ⟨h1, o1, rfl, fun e he hb => h3 e ?_ hb⟩
      split
      · exact he
      · simp [he]
  · rintro ⟨h1, o, h2, h3⟩
    refine ⟨h1, _, by rw [h2]; rfl, fun e he hb => ?_⟩
    split at he
    · exact h3 e he hb
    · rcases Array.mem_append.1 he with he | he
      · exact h3 e he hb
      · simp at he
        obtain ⟨x, ⟨hx, _⟩, rfl⟩ := he
        exact hall x hx

theorem wpAny_all_addE {Q : Exit → Act → World → Prop} : ∀ (fuel : Nat) (l : Array Bool) (a : Act) (w : World), (∀ e, e ∈ es → l.getD e false = true) → wpAny P .any (addE es ops) Q fuel l a w → wpAny P .any ops Q fuel l a w
  | 0, l, a, w, hall, h => ⟨List.eq_nil_iff_forall_not_mem.2 (fun j hj => (by
      have := (ready_addE hall j).2 hj
      rw [h.1] at this
      cases this)), h.2⟩
  | fuel + 1, l, a, w, hall, h => by
    refine ⟨fun he => h.1 (List.eq_nil_iff_forall_not_mem.2 (fun j hj => (by
      have := (ready_addE hall j).1 hj
      rw [he] at this
      cases this))), fun i hi => ?_⟩
    refine wpOp_addE (wpOp_mono (fun a' w' hk => wpAny_all_addE fuel _ a' w' (fun e he => ?_) hk) (h.2 i ((ready_addE hall i).2 hi)))
    have := hall e he
    by_cases hie : i = e
    · subst hie
      have hlt : i < l.size := by
        rcases Nat.lt_or_ge i l.size with q | q
        · exact q
        · rw [Array.getD_eq_getD_getElem?, Array.getElem?_eq_none (by omega)] at this; cases this
      simp [hlt]
    · rw [getD_set_ne false hie]; exact this

/-- One operation that only computes. -/
theorem early_step (hT : TOK P T) {e : Nat} {r : List Nat} {σ : St} {a : Act} {w : World} (h : earlyK T ops (e :: r) σ) (hr : RS N0 base w0 σ a w) :
    ∃ o v x, ops[e]? = some o ∧ o.guard = none ∧ (∀ w, (execOp a.eval o).run P w = .ok (.value v) w) ∧ RS N0 base w0 (σ.after o.dst x none) (a.put o.dst v) w ∧ earlyK T ops r (σ.after o.dst x none) := by
  unfold earlyK at h
  split at h
  · exact h.elim
  · rename_i o ho
    obtain ⟨hp, V, hV⟩ := hr
    have put : ∀ {x : AV} {v : Value}, dstOk σ o = true → RepT (Nf N0 base V σ.obj) w V x v → bd (fun i => i < σ.next) x → RS N0 base w0 (σ.after o.dst x none) (a.put o.dst v) w := fun hd h1 h2 => by
      refine ⟨hp, V, ?_⟩
      rw [St.get_after, St.obj_after, St.next_after]
      exact hV.put (dstOk_spec hd) h1 h2
    split at h
    · rename_i hg hd
      split at h
      · rename_i x hop
        obtain ⟨y, h1, h2⟩ := kx_iff h
        obtain ⟨q1, q2⟩ := eval_rep hV h1
        exact ⟨o, a.eval x, y, ho, hg, fun w => by simp [execOp, hop], put hd q1 q2, h2⟩
      · rename_i x hop
        obtain ⟨y, h1, h2⟩ := kx_iff h
        obtain ⟨q1, q2⟩ := eval_rep hV h1
        exact ⟨o, a.eval x, y, ho, hg, fun w => by simp [execOp, hop], put hd q1 q2, h2⟩
      · rename_i op t x y t' hop
        obtain ⟨xv, h1, h2⟩ := kx_iff h
        obtain ⟨yv, h3, h4⟩ := kx_iff h2
        split at h4
        · obtain ⟨v, h5, h6, h7⟩ := abin_sound hT h4
          have e1 := eval_v (eval_rep hV h1).1
          have e2 := eval_v (eval_rep hV h3).1
          refine ⟨o, v, .v v, ho, hg, fun w => ?_, put hd (.im (.v v h6)) (by simp [bd]), h5⟩
          have := h7 x y w
          simp only [execOp, hop, e1, e2]
          rw [Sem.run_bind, this]
          rfl
        · exact h4.elim
      · exact h.elim
    · exact h.elim

theorem early_sound (hT : TOK P T) {Q : Exit → Act → World → Prop} (hns : Region.noSelect ops = true) : ∀ (r : List Nat) (fuel : Nat) (l : Array Bool) (σ : St) (a : Act) (w : World), l.size = ops.size →
    (∀ e, e ∈ es → l.getD e false = true ∨ e ∈ r) → earlyGo ops es r l = true → earlyK T ops r σ → RS N0 base w0 σ a w → wpAny P .any (addE es ops) (onlyN Q) fuel l a w → wpAny P .any ops (onlyN Q) fuel l a w
  | [], fuel, l, σ, a, w, _, hall, _, _, _, h => wpAny_all_addE fuel l a w (fun e he => (hall e he).resolve_right (by simp)) h
  | e :: r, 0, l, σ, a, w, _, _, hgo, _, _, h => by
    simp only [earlyGo, Bool.and_eq_true, List.contains_iff_mem] at hgo
    have := hgo.1.1.2
    rw [h.1] at this
    cases this
  | e :: r, fuel + 1, l, σ, a, w, hs, hall, hgo, hK, hr, h => by
    simp only [earlyGo, Bool.and_eq_true, decide_eq_true_eq] at hgo
    obtain ⟨⟨⟨⟨g1, g2⟩, g3⟩, g4⟩, g5⟩ := hgo
    obtain ⟨o, v, x, ho, hg, hex, hr', hK'⟩ := early_step hT hK hr
    have hw := h.2 e (by simpa using g3)
    have hy : Yields P ops o v a := .inl ⟨by unfold Region.wanted; rw [hg], hex⟩
    refine wpAny_take ho hns g1 g2 (fun c a' w' hq => by cases hq.1) hy ?_
    refine early_sound hT hns r fuel _ _ _ w (by simp [hs]) (fun e' he' => ?_) g5 hK' hr' ?_
    · rcases hall e' he' with q | q
      · left
        by_cases hee : e = e'
        · subst hee; simp [hs, g4]
        · rw [getD_set_ne false hee]; exact q
      · rcases List.mem_cons.1 q with rfl | q
        · left; simp [hs, g4]
        · exact .inr q
    · have hw' := wpOp_addE hw
      unfold wpOp at hw'
      rw [ho] at hw'
      simp only [Region.wanted, hg, if_true] at hw'
      rcases hw' with hw' | ⟨_, q1, q2, q3⟩
      · unfold Oper.wp at hw'
        rw [hex w] at hw'
        exact hw'
      · cases q3.1

def vcDrawE (P : Program) (T : TypeId → Option TI) (ops : Array Oper) (σ : St) (K : St → Prop) : Prop :=
  vcDraw P T ops σ K ∨ ∃ es : List Nat, earlyOK ops es = true ∧ earlyK T ops es σ ∧ vcDraw P T (addE es ops) σ K

theorem addE_noDefer {ops : Array Oper} {es : List Nat} (h : ∀ (i : Nat) (o : Oper), (addE es ops)[i]? = some o → noDefer o = true) (i : Nat) (o : Oper) (ho : ops[i]? = some o) : noDefer o = true := by
  have := addE_get (es := es) (ops := ops) i
  rw [ho] at this
  have h2 := h i _ this
  split at h2
  · exact h2
  · exact h2
theorem vcDrawE_ok (hT : TOK P T) (hm : P.follows .mixedOrders = true) : DOK P (vcDrawE P T) := by
  intro N0 base w0 r0 n id ops σ K a w Q h hr hK
  rcases h with h | ⟨es, hp, hk, h⟩
  · exact vcDraw_ok hT hm h hr hK
  · have := vcDraw_any (Q := onlyN Q) hT h hr (fun σ' a' w' h1 h2 => ⟨rfl, hK σ' a' w' h1 h2⟩)
    rw [addE_size] at this
    unfold earlyOK at hp
    simp only [Bool.and_eq_true] at hp
    exact wpIn_mono (wpIn_region_any hm (wpAnyIn_of (Q := Q) (addE_noDefer (vcDraw_noDefer h)) _ _ _ _ (early_sound hT hp.1 es _ _ σ a _ (by simp) (fun e he => .inr he) hp.2 hk (drawn_rel hr) this))) fun e a w ⟨h1, h2⟩ => by subst h1; exact h2

end
end Go.Sk

-- SkY
/- Contracts that are proved elsewhere, in the model's own words. -/
namespace Go.Sk
open Go.RowKit

/-- A call that leaves all as it was and gives a new own slice. -/
theorem fun_own {P : Program} {f : FuncId} {args : List AV} {k : Nat} {xs : List AV} (hen : Enters P f)
    (h : ∀ (N : Nat → Prop) (w : World) (V : VV) (vs : Array Value), vs.size = args.length → (∀ (j : Nat) (h1 : j < args.length) (h2 : j < vs.size), RepT N w V args[j] vs[j]) →
      Calls P f vs w fun e w' => ∃ v, e = .returned v ∧ Below w.heap.size w w' ∧ v.oneCell' = true ∧ (∀ N', ArrAt N' w' v k xs) ∧ ∀ b, bl v b → w.heap.size ≤ b ∧ b < w'.heap.size) :
    Pure P f args (.ref 0) (some (.arr k xs)) := by
  refine ⟨hen, by simp, fun N w V vs hs hown hrep hbd => (h N w V vs hs hrep).mono ?_⟩
  rintro e w' ⟨v, rfl, hb, hone, harr, hbl⟩
  refine ⟨v, rfl, ⟨hb.os, hb.tape, hb.output, hb.size, fun q hq _ => hb.block q hq⟩, ⟨fun _ => v, fun _ => bl v⟩, fun i hi => by simp at hi, ?_, by unfold bd; simp [ltA], fun i o ho => ?_, fun i j b ⟨o, ho, _⟩ ⟨o', ho', _⟩ _ _ => ?_, fun i b _ hb => ⟨.inl (hbl b hb).1, (hbl b hb).2⟩⟩
  · exact RepT.ref (V := ⟨fun _ => v, fun _ => bl v⟩) 0 hone
  · cases i with
    | zero =>
      simp [obL] at ho
      subst ho
      exact ⟨⟨fun b => Iff.rfl, harr _⟩, trivial⟩
    | succ i => simp [obL] at ho
  · have h1 := (List.getElem?_eq_some_iff.1 ho).1
    have h2 := (List.getElem?_eq_some_iff.1 ho').1
    simp at h1 h2
    omega

/-- A call that leaves all as it was and gives a plain value. -/
theorem fun_plain {P : Program} {f : FuncId} {args : List AV} {x : Value} (hen : Enters P f) (hx : x.oneCell' = true)
    (h : ∀ (N : Nat → Prop) (w : World) (V : VV) (vs : Array Value), vs.size = args.length → (∀ (j : Nat) (h1 : j < args.length) (h2 : j < vs.size), RepT N w V args[j] vs[j]) →
      Calls P f vs w fun e w' => e = .returned x ∧ Below w.heap.size w w') : Pure P f args (.v x) none := by
  refine ⟨hen, by simp, fun N w V vs hs hown hrep hbd => (h N w V vs hs hrep).mono ?_⟩
  rintro e w' ⟨rfl, hb⟩
  exact ⟨x, rfl, ⟨hb.os, hb.tape, hb.output, hb.size, fun q hq _ => hb.block q hq⟩, V, fun _ _ => rfl, .im (.v x hx), by unfold bd; trivial, fun i o ho => by simp [obL] at ho, fun i j b ⟨o, ho, _⟩ => by simp [obL] at ho, fun i b ⟨o, ho, _⟩ => by simp [obL] at ho⟩

/-- A call that turns the row that it is handed and hands a part of it back: the row is taken. -/
theorem fun_turn {P : Program} {f : FuncId} {k : Nat} {xs ys : List AV} (hen : Enters P f)
    (h : ∀ (N : Nat → Prop) (w : World) (v : Value), ArrAt N w v k xs →
      Calls P f #[v] w fun e w' => ∃ v', e = .returned v' ∧ w'.os = w.os ∧ w'.tape = w.tape ∧ w'.output = w.output ∧ w.heap.size ≤ w'.heap.size ∧ (∀ b, ¬ bl v b → b < w.heap.size → w'.heap[b]? = w.heap[b]?) ∧
        v'.oneCell' = true ∧ (∀ N', ArrAt N' w' v' k ys) ∧ ∀ b, bl v' b → bl v b) :
    Fun P f [.arr k xs] [.ref 0] (.ref 1) [.dead, .arr k ys] := by
  refine ⟨hen, by simp, fun N w V vs hs hown hrep hbd => ?_⟩
  have h0 := hrep 0 (by simp) (by rw [hs]; simp)
  have hvs : vs = #[V 0] := by
    have hs1 : vs.size = 1 := hs
    apply Array.ext (by simp [hs1])
    intro i h1 h2
    have : i = 0 := by omega
    subst this
    simp only [List.getElem_cons_zero] at h0
    generalize vs[0] = v at h0
    cases h0 with
    | im h => cases h
    | ref id h => rfl
  obtain ⟨hf, harr⟩ := hown.obs 0 _ rfl
  rw [hvs]
  have hlive : live (obL [AO.arr k xs]) 0 := ⟨_, rfl, rfl⟩
  refine (h N w (V 0) harr).mono ?_
  rintro e w' ⟨v', rfl, h1, h2, h3, h4, h5, h6, h7, h8⟩
  refine ⟨v', rfl, ⟨h1, h2, h3, h4, fun b hb hnf => h5 b (fun hbl => hnf ⟨0, hlive, (hf b).2 hbl⟩) hb⟩, updV V 1 v', fun i hi => ?_, ?_, by unfold bd; simp [ltA], fun i o ho => ?_, fun i j b hi hj _ _ => ?_, fun i b hi hb => ?_⟩
  · have : i = 0 := by simp at hi; omega
    subst this
    exact updV_ne V 1 v' (by omega)
  · have := RepT.ref (N := Nf (fun b => N b ∨ foot V (obL [.arr k xs]) b) w.heap.size (updV V 1 v') (obL [.dead, .arr k ys])) (w := w') (V := updV V 1 v') 1 (by rw [updV_same]; exact h6)
    rwa [updV_same] at this
  · match i, ho with
    | 0, ho => simp [obL] at ho; subst ho; exact ⟨trivial, trivial⟩
    | 1, ho =>
      simp [obL] at ho; subst ho
      refine ⟨⟨fun b => ?_, ?_⟩, trivial⟩
      · rw [updV_f, updV_same]
      · rw [updV_same]; exact h7 _
    | n + 2, ho => simp [obL] at ho
  · have key : ∀ i, live (obL [AO.dead, AO.arr k ys]) i → i = 1 := fun i hi => by
      obtain ⟨o, ho, hl⟩ := hi
      match i, ho with
      | 0, ho => simp [obL] at ho; subst ho; cases hl
      | 1, _ => rfl
      | n + 2, ho => simp [obL] at ho
    rw [key i hi, key j hj]
  · have : i = 1 := by
      obtain ⟨o, ho, hl⟩ := hi
      match i, ho with
      | 0, ho => simp [obL] at ho; subst ho; cases hl
      | 1, _ => rfl
      | n + 2, ho => simp [obL] at ho
    subst this
    rw [updV_f] at hb
    have hb' := (hf b).2 (h8 b hb)
    exact ⟨.inr ⟨0, hlive, hb'⟩, Nat.lt_of_lt_of_le (hown.low 0 b hlive hb').1 h4⟩

end Go.Sk

-- SkZ
/- Rules for use: ends; tests; numbers. -/
namespace Go.Sk
open Go.RowKit

/-- The end of a body. -/
theorem exitA {σ τ : St} (h1 : (distinct (findS σ [] τ.tmps τ.objs τ.next) && fixB (findS σ [] τ.tmps τ.objs τ.next) σ.par) = true) (h2 : (τ.size, τ.par) = (σ.size, σ.par))
    (h3 : leT σ (findS σ [] τ.tmps τ.objs τ.next) τ.tmps) (h4 : leOs σ (findS σ [] τ.tmps τ.objs τ.next) τ.objs) : ∃ bs, backK bs σ fun σ' => ∃ ss, LeS σ' ss τ :=
  ⟨[], _, h1, h2, findS_len _ _ _ _ _, h3, h4⟩


theorem srcI {a b : Option Src} (h : a = b) : a = b := h
theorem nsI {i : Nat} {ss : List Src} (h : notSrc i ss = true) : notSrc i ss = true := h
theorem ifD {p : Prop} [Decidable p] {P Q : Prop} (ht : p → P) (hf : ¬p → Q) : ifB (decide p) P Q := ifB_intro (fun h => ht (of_decide_eq_true h)) (fun h => hf (of_decide_eq_false h))
theorem ifE {a b : Int} {P Q : Prop} (ht : a = b → P) (hf : a ≠ b → Q) : ifB (a == b) P Q := ifB_intro (fun h => ht (eq_of_beq h)) (fun h => hf (ne_of_beq_false h))
theorem ifN {a b : Int} {P Q : Prop} (ht : a ≠ b → P) (hf : a = b → Q) : ifB (a != b) P Q := ifB_intro (fun h => ht (by simpa using h)) (fun h => hf (by simpa using h))
theorem ifNot {b : Bool} {P Q : Prop} (h : ifB b Q P) : @Bool.rec (fun _ => Prop) Q P (!b) := by cases b <;> exact h
theorem ifAnd {b c : Bool} {P Q : Prop} (ht : b = true → c = true → P) (hf : ¬(b = true ∧ c = true) → Q) : @Bool.rec (fun _ => Prop) Q P (b && c) := by cases b <;> cases c <;> simp_all
theorem ifAndD {p q : Prop} {_ : Decidable p} {_ : Decidable q} {P Q : Prop} (ht : p → q → P) (hf : ¬(p ∧ q) → Q) : @Bool.rec (fun _ => Prop) Q P (decide p && decide q) := ifAnd (fun h1 h2 => ht (by simpa using h1) (by simpa using h2)) (fun h => hf (by simpa using h))
theorem ifOr {b c : Bool} {P Q : Prop} (ht : b = true ∨ c = true → P) (hf : b = false → c = false → Q) : @Bool.rec (fun _ => Prop) Q P (b || c) := by cases b <;> cases c <;> simp_all
theorem ifT {b : Bool} {P Q : Prop} (hb : b = true) (h : P) : ifB b P Q := by subst hb; exact h
theorem ifF {b : Bool} {P Q : Prop} (hb : b = false) (h : Q) : ifB b P Q := by subst hb; exact h

/-- The same where it is said where the objects come from. -/
theorem exitS (ss : List Src) {σ τ : St} (h0 : τ.next = ss.length) (h1 : (distinct ss && fixB ss σ.par) = true) (h2 : (τ.size, τ.par) = (σ.size, σ.par)) (h3 : leT σ ss τ.tmps) (h4 : leOs σ ss τ.objs) : ∃ bs, backK bs σ fun σ' => ∃ ss, LeS σ' ss τ :=
  ⟨[], ss, h1, h2, h0, h3, h4⟩

/-- Tests whose outcome is known. -/
theorem ifNF {a b : Int} {P Q : Prop} (h : a = b) (k : Q) : ifB (a != b) P Q := by rw [h, bne_self_eq_false]; exact k
theorem ifNT {a b : Int} {P Q : Prop} (h : a ≠ b) (k : P) : ifB (a != b) P Q := by rw [bne_iff_ne.2 h]; exact k
theorem ifDT {p : Prop} [Decidable p] {P Q : Prop} (h : p) (k : P) : ifB (decide p) P Q := by rw [decide_eq_true h]; exact k
theorem ifDF {p : Prop} [Decidable p] {P Q : Prop} (h : ¬ p) (k : Q) : ifB (decide p) P Q := by rw [decide_eq_false h]; exact k
theorem ifET {a b : Int} {P Q : Prop} (h : a = b) (k : P) : ifB (a == b) P Q := by rw [beq_iff_eq.2 h]; exact k
theorem ifEF {a b : Int} {P Q : Prop} (h : a ≠ b) (k : Q) : ifB (a == b) P Q := by rw [beq_eq_false_iff_ne.2 h]; exact k

/-- The operations before the first one that writes. -/
def firstW : List Oper → Nat
  | [] => 0
  | o :: r => match o.op with
    | .store _ _ _ => 0
    | _ => firstW r + 1
theorem drawA {ops : Array Oper} {K' : Nat → Prop} {R : Prop} (h : (preOK ops.toList (firstW ops.toList) && sufOK ops.toList (firstW ops.toList) && decide (firstW ops.toList ≤ ops.size)) = true) (k : K' (firstW ops.toList)) :
    (∃ k, (preOK ops.toList k && sufOK ops.toList k && decide (k ≤ ops.size)) = true ∧ K' k) ∨ R := .inl ⟨_, h, k⟩
/-- The operations before the first one that writes, assigns or appends. -/
def firstA : List Oper → Nat
  | [] => 0
  | o :: r => match o.op with
    | .store _ _ _ => 0
    | .assign _ => 0
    | .call c => match c.callee with
      | .builtin .append => 0
      | _ => firstA r + 1
    | _ => firstA r + 1
theorem drawA2 {ops : Array Oper} {K' : Nat → Prop} {R : Prop} (h : (preOK ops.toList (firstA ops.toList) && sufOK ops.toList (firstA ops.toList) && decide (firstA ops.toList ≤ ops.size)) = true) (k : K' (firstA ops.toList)) :
    (∃ k, (preOK ops.toList k && sufOK ops.toList k && decide (k ≤ ops.size)) = true ∧ K' k) ∨ R := .inl ⟨_, h, k⟩
/-- First some operations that only compute. -/
theorem drawE {ops : Array Oper} {L : Prop} {E : List Nat → Prop} {K' : List Nat → Prop} (es : List Nat) (h : earlyOK ops es = true) (e : E es) (k : K' es) :
    L ∨ ∃ es, earlyOK ops es = true ∧ E es ∧ K' es := .inr ⟨es, h, e, k⟩
theorem drawK {ops : Array Oper} {K' : Nat → Prop} (h : (preOK ops.toList (firstW ops.toList) && sufOK ops.toList (firstW ops.toList) && decide (firstW ops.toList ≤ ops.size)) = true) (k : K' (firstW ops.toList)) :
    ∃ k, (preOK ops.toList k && sufOK ops.toList k && decide (k ≤ ops.size)) = true ∧ K' k := ⟨_, h, k⟩

theorem w64 {x : Int} (h : -9223372036854775808 ≤ x ∧ x ≤ 9223372036854775807) : IntKind.i64.wrap x = x := IntWalk.i64_in _ (by omega)
/-- A sum as it is. -/
theorem calI {x : Int} {K : Int → Prop} (h : -9223372036854775808 ≤ x ∧ x ≤ 9223372036854775807) (k : K x) : Calc (IntKind.i64.wrap x) K := .mk x (w64 h) k

/-- A byte as a number. -/
theorem cu8 {x : Int} {K : Int → Prop} (h : 0 ≤ x ∧ x ≤ 255) (k : K x) : Calc (IntKind.u8.wrap x) K := .mk x (by unfold IntKind.wrap; simp [IntKind.signed, IntKind.bits]; omega) k

theorem cu64 {x : Int} {K : Int → Prop} (h : 0 ≤ x ∧ x ≤ 18446744073709551615) (k : K x) : Calc (IntKind.u64.wrap x) K := .mk x (by unfold IntKind.wrap; simp [IntKind.signed, IntKind.bits]; omega) k
/-- Numbers without a sign, modulo. -/
theorem cu8m {x : Int} {K : Int → Prop} (k : K (x % 256)) : Calc (IntKind.u8.wrap x) K := .mk _ (by unfold IntKind.wrap; simp [IntKind.signed, IntKind.bits]) k
theorem cu16m {x : Int} {K : Int → Prop} (k : K (x % 65536)) : Calc (IntKind.u16.wrap x) K := .mk _ (by unfold IntKind.wrap; simp [IntKind.signed, IntKind.bits]) k
theorem cu32m {x : Int} {K : Int → Prop} (k : K (x % 4294967296)) : Calc (IntKind.u32.wrap x) K := .mk _ (by unfold IntKind.wrap; simp [IntKind.signed, IntKind.bits]) k
/-- Remainders and quotients of numbers that are not negative. -/
theorem crem {x y : Int} {K : Int → Prop} (h : 0 ≤ x) (k : K (x % y)) : Calc (x.tmod y) K := .mk _ (Int.tmod_eq_emod_of_nonneg h) k
theorem cquo {x y : Int} {K : Int → Prop} (h : 0 ≤ x ∧ x ≤ 9223372036854775807 ∧ 0 < y) (k : K (x / y)) : Calc (IntKind.i64.wrap (x.tdiv y)) K :=
  .mk _ (by
    rw [Int.tdiv_eq_ediv_of_nonneg h.1]
    have h1 := Int.ediv_nonneg h.1 (Int.le_of_lt h.2.2)
    have h2 : x / y ≤ x := Int.ediv_le_self _ h.1
    exact w64 (by omega)) k

def nth {α : Type} [Inhabited α] (l : List α) (i : Int) : α := l.getD i.toNat default

theorem nth_some {α : Type} [Inhabited α] {l : List α} {i : Int} (h0 : 0 ≤ i) (h : i < l.length) : l[i.toNat]? = some (nth l i) := by
  unfold nth
  rw [List.getD_eq_getElem?_getD, List.getElem?_eq_getElem (by omega)]; rfl
/-- An element of a slice that is a list of known things. -/
theorem ixM {α : Type} [Inhabited α] {l : List α} {f : α → AV} {i : Int} {n : Nat} {K : AV → Prop} (h0 : 0 ≤ i) (h1 : i < l.length) (hn : (cellsA (f (nth l i))).length = n) (k : K (f (nth l i))) :
    0 ≤ i ∧ ∃ y, (l.map f)[i.toNat]? = some y ∧ (cellsA y).length = n ∧ K y := ⟨h0, _, by rw [List.getElem?_map, nth_some h0 h1]; rfl, hn, k⟩
/-- The same behind a pointer into a row. -/
theorem ixA {α : Type} [Inhabited α] {l : List α} {f : α → AV} {i : Int} {K : AV → Prop} (h0 : 0 ≤ i) (h1 : i < l.length) (k : K (f (nth l i))) : ∃ y, (l.map f)[i.toNat]? = some y ∧ K y := ⟨_, by rw [List.getElem?_map, nth_some h0 h1]; rfl, k⟩
theorem ltM {α : Type} {l : List α} {f : α → AV} {i : Int} {P : Prop} (h0 : 0 ≤ i) (h1 : i < l.length) (k : P) : 0 ≤ i ∧ i.toNat < (l.map f).length ∧ P := ⟨h0, by rw [List.length_map]; omega, k⟩

/-- A part that is known is loaded. -/
theorem ldA {cs : List AV} {ti : TI} {off : Nat} {x : AV} {K : AV → Prop} (h : partA cs ti off = some x) (k : K x) : match partA cs ti off with
    | some x => K x
    | none => False := by rw [h]; exact k

/-- A number is stored into a row of numbers. -/
theorem setI {α : Type} {l : List α} {f : α → AV} {n : Nat} {a : α} {v : Value} {z : α} {K : List AV → Prop} (hz : newElem (f a) 0 (cellsA (.v v)) (.v v) = f z) (k : K ((l.set n z).map f)) : CalcL ((l.map f).set n (newElem (f a) 0 (cellsA (.v v)) (.v v))) K :=
  .mk _ (by rw [List.map_set, hz]) k

end Go.Sk

-- SkRow
/- From a law's contract to its row. -/
namespace Go.Sk
open Go.RowKit Go.ChangeShapes Go.WideShapes

/-- A contract of values that may be looked at wherever they lie. -/
theorem Pure.calls {P : Program} {f : FuncId} {args : List AV} {x : Value} (h : Pure P f args (.v x) none) {W : World} {vs : Array Value} (hs : vs.size = args.length)
    (hr : ∀ (j : Nat) (h1 : j < args.length) (h2 : j < vs.size), RepT NT W V0 args[j] vs[j]) (hb : bdL (ltA 0) args) : Calls P f vs W fun e w' => e = .returned x ∧ Below W.heap.size W w' := by
  refine (h.run NT W V0 vs hs ⟨fun i o hi => by simp [obL] at hi, fun i j b hi => by obtain ⟨o, h1, _⟩ := hi; simp [obL] at h1, fun i b hi => by obtain ⟨o, h1, _⟩ := hi; simp [obL] at h1, fun i o hi => by simp [obL] at hi⟩ hr hb).mono ?_
  rintro e w' ⟨v, rfl, hf, V', _, hx, _⟩
  exact ⟨by rw [eval_v hx], below_of hf⟩

/-- A struct or an array of integers of one kind. -/
theorem okWide_ints {P : Program} {w : World} {r : Reach} {b0 : Nat} {t : TypeId} {k : IntKind} {fs : Array Field} {ts : List TypeId} {v : Value} (hu : P.underlying t = some (.struct fs)) (hc : P.cellTypes P.depth t = some ts) (hn : P.cellsOf t = ts.length)
    (hk : ∀ u, u ∈ ts → P.underlying u = some (.int k)) (h : Value.okWide P w r b0 t v) : ∃ ns : List Int, v = .agg (ns.map (Value.int k)).toArray ∧ ns.length = ts.length ∧ ∀ (i : Nat) (m : Int), ns[i]? = some m → k.has m := by
  simp only [Value.okWide, hu] at h
  obtain ⟨cs, rfl, h2, ts', h3, _, h5⟩ := h
  rw [hc] at h3
  injection h3 with h3
  subst h3
  have hx : ∀ (i : Nat) (x : Value), cs[i]? = some x → ∃ m, x = .int k m ∧ k.has m := fun i x hi => by
    obtain ⟨u, h6, h7⟩ := h5 i x hi
    have := hk u (List.mem_of_getElem? h6)
    simp only [Cell.okWide, this] at h7
    cases x <;> simp_all [Cell.ok]
  let f : Value → Int := fun x => match x with | .int _ m => m | _ => 0
  refine ⟨cs.toList.map f, ?_, by simp [h2, hn], fun i m hi => ?_⟩
  · congr 1
    apply Array.ext'
    apply List.ext_getElem?
    intro i
    simp only [List.getElem?_map, List.map_map]
    cases hi : cs.toList[i]? with
    | none => rfl
    | some x =>
      obtain ⟨m, rfl, _⟩ := hx i x (by simpa using hi)
      rfl
  · simp only [List.getElem?_map] at hi
    cases hi' : cs.toList[i]? with
    | none => rw [hi'] at hi; cases hi
    | some x =>
      obtain ⟨m', rfl, hm⟩ := hx i x (by simpa using hi')
      rw [hi'] at hi
      injection hi with hi
      rw [← hi]; exact hm
theorem rep_ints {N : Nat → Prop} {w : World} {V : VV} (k : IntKind) (ns : List Int) : RepT N w V (.ag (ns.map fun m => AV.v (.int k m))) (.agg (ns.map (Value.int k)).toArray) := by
  refine .ag _ _ (by simp) (fun j h1 h2 => ?_) (fun j h2 => ?_)
  · simp only [List.getElem_map, List.getElem_toArray]
    exact .im (.v _ rfl)
  · simp only [List.getElem_map, List.getElem_toArray]
    rfl

section
variable {H : Type} {enc : TypeId × Value → H} {P : Program}
theorem trodAll_below (hl : laidOutB P = true) {W W' : World} (hb : Below W.heap.size W W') : ∀ {ts : List TypeId} {vs : List Value} {ds : List (DataW H)} {ps : List MemPlace}, (∀ t, t ∈ ts → P.readableRec t = true ∧ t < P.types.size) →
    DataW.TrodAll enc P W 0 (fun _ => true) true ts vs ds ps → DataW.TrodAll enc P W' 0 (fun b => decide (b < W.heap.size)) true ts vs ds ps
  | [], vs, ds, ps, _, h => by
    obtain ⟨rfl, rfl, rfl⟩ := trodAll_nil h
    rfl
  | t :: ts, vs, ds, ps, ht, h => by
    have hlt := DataW.TrodAll.lt h
    obtain ⟨v, vs1, d, ds1, p, q, rfl, rfl, rfl, h1, h2⟩ := trodAll_cons h
    have ht1 := ht t (by simp)
    exact ⟨p, q, Below.trod hl ht1.1 ht1.2 h1 hb (fun x hx => hlt x (by simp [hx])), trodAll_below hl hb (fun u hu => ht u (by simp [hu])) h2, rfl⟩

/-- BEHIND A LAW's CALL: true, and each argument reads as it did. -/
theorem law_post {fn : Func} {s : ChangeSpec} {W W' : World} {args : Array Value} {ds gs : List (DataW H)} {before : List MemPlace} {t : TypeId} (hW : DataW.Whole enc P fn.params.toList s.vars false W args.toList ds gs before) (hv : s.vars = [])
    (hs : s.fn H (ds ++ gs) = { results := [.lit (.bool true)], args := ds }) (hb : Below W.heap.size W W') (hl : laidOutB P = true) (hr : ∀ t, t ∈ fn.params.toList → P.readableRec t = true ∧ t < P.types.size)
    (hres : fn.resultTypes = #[t]) (ht : P.underlying t = some .bool) : s.post enc P fn false true false false W args (.bool true) W' := by
  obtain ⟨p, q, h1, h2, h3, h4, h5⟩ := id hW
  rw [hv] at h2
  obtain ⟨rfl, rfl⟩ := trodVars_none h2
  refine ⟨ds, [], before, [], p, [], hW, ?_, ?_, ?_, hb.frame _, fun h => by cases h⟩
  · rw [hs, hres]
    exact trodAll_cons_mk (shut_bool ht _) trodAll_mk0
  · rw [hs]
    exact trodAll_below hl hb hr h1
  · rw [hs, hv]
    rfl
end
end Go.Sk
