/- A checker of Go functions by conditions over small pure states: part 5. -/
import Derived.Test.YtkecpgidolphfaaSk3

-- SkP
/- States, and the operations that write to a function's own objects. -/
namespace Go.Sk
set_option linter.unusedVariables false
set_option linter.unusedSimpArgs false
open Go.RowKit

variable {N0 : Nat → Prop} {base : Nat} {w0 : W0} {m : Nat} {V : VV} {g : Nat → Option AV} {ob : Nat → Option AO} {A : Nat → Prop} {a : Act} {w : World}

def updP (ob : Nat → Option AO) (i : Nat) (o : AO) (n : Nat) (o' : AO) : Nat → Option AO := updO (updO ob i o) n o'

/-- Objects ks are given up, n is new. -/
def updK (ob : Nat → Option AO) (ks : List Nat) (n : Nat) (o' : AO) (i : Nat) : Option AO := if i = n then some o' else if i ∈ ks then some .dead else ob i

theorem updK_one (ob : Nat → Option AO) (id n : Nat) (o' : AO) : updK ob [id] n o' = updP ob id .dead n o' := by
  funext i
  simp [updK, updP, updO]

/-- Objects are given up, and another one made of their blocks, or of new ones, or of none. -/
theorem Rel.replaceL (h : Rel N0 base w0 m V g ob A a w) {w' : World} {ks : List Nat} {n : Nat} {o' : AO} {v : Value} {f : Nat → Prop} (hks : ∀ id, id ∈ ks → live ob id) (hn : ¬ A n)
    (hsz : w.heap.size ≤ w'.heap.size) (hbl : ∀ b, b < w.heap.size → (∀ id, id ∈ ks → ¬ V.f id b) → w'.heap[b]? = w.heap[b]?) (hos : w'.os = w.os) (hta : w'.tape = w.tape) (hou : w'.output = w.output)
    (hv : ∀ b, f b → (∃ id, id ∈ ks ∧ V.f id b) ∨ (w.heap.size ≤ b ∧ b < w'.heap.size))
    (ho : (∀ b, Nf N0 base V ob b → b < w.heap.size → Nf N0 base (setF (updV V n v) n f) (updK ob ks n o') b ∧ w'.heap[b]? = w.heap[b]?) → RepO (Nf N0 base (setF (updV V n v) n f) (updK ob ks n o')) w' (setF (updV V n v) n f) n o') (hbd : bdO (addA A n) o') :
    Rel N0 base w0 m (setF (updV V n v) n f) g (updK ob ks n o') (addA A n) a w' := by
  have hkA : ∀ id, id ∈ ks → A id := fun id hid => by obtain ⟨o, h1, _⟩ := hks id hid; exact (h.bdo id o h1).1
  have hVn : (setF (updV V n v) n f).f n = f := setF_f _ _ _
  have hVo : ∀ i, i ≠ n → (setF (updV V n v) n f).f i = V.f i := fun i hi => by rw [setF_fne _ _ _ hi, updV_fne V n v hi]
  have hsub : ∀ i, live (updK ob ks n o') i → i = n ∨ (i ≠ n ∧ i ∉ ks ∧ live ob i) := fun i ⟨o1, h1, h2⟩ => by
    unfold updK at h1
    split at h1
    · exact .inl (by assumption)
    · split at h1
      · injection h1 with h1; subst h1; cases h2
      · exact .inr ⟨by assumption, by assumption, o1, h1, h2⟩
  have hV : ∀ i, A i → setF (updV V n v) n f i = V i := fun i hi => by rw [setF_v]; exact updV_ne V n v (fun e => hn (e ▸ hi))
  have hvb : ∀ b, f b → b < w.heap.size → ∃ id, id ∈ ks ∧ V.f id b := fun b hb hlt => by
    rcases hv b hb with h | h
    · exact h
    · omega
  have hNf : ∀ b, Nf N0 base V ob b → b < w.heap.size → Nf N0 base (setF (updV V n v) n f) (updK ob ks n o') b ∧ w'.heap[b]? = w.heap[b]? := fun b hN hlt => by
    refine ⟨⟨hN.1, fun i hl => ?_⟩, hbl b hlt fun id hid => hN.2 id (hks id hid)⟩
    rcases hsub i hl with rfl | ⟨hi, _, hl⟩
    · rw [hVn]
      intro hc
      obtain ⟨id, h1, h2⟩ := hvb b hc hlt
      exact hN.2 id (hks id h1) h2
    · rw [hVo i hi]; exact hN.2 i hl
  have hobn : ∀ {i : Nat} {o1 : AO}, updK ob ks n o' i = some o1 → (i = n ∧ o1 = o') ∨ (i ≠ n ∧ i ∈ ks ∧ o1 = .dead) ∨ (i ≠ n ∧ i ∉ ks ∧ ob i = some o1) := fun {i o1} hi => by
    unfold updK at hi
    split at hi
    · injection hi with hi; exact .inl ⟨by assumption, hi.symm⟩
    · split at hi
      · injection hi with hi; exact .inr (.inl ⟨by assumption, by assumption, hi.symm⟩)
      · exact .inr (.inr ⟨by assumption, by assumption, hi⟩)
  refine ⟨fun t x hx => RepT.mono (V := V) hNf hV (h.tm t x hx) (h.bdt t x hx), fun i o1 hi => ?_, fun i j b hi hj hbi hbj => ?_, fun i b hi hbi => ?_, fun t x hx => bd_mono (fun _ => .inl) x (h.bdt t x hx), fun i o1 hi => ?_, ?_, Nat.le_trans h.bas hsz, h.dfr, h.siz, fun i hi => ⟨.inl (h.par i hi).1, (hV i (h.par i hi).1).trans (h.par i hi).2⟩⟩
  · rcases hobn hi with ⟨rfl, rfl⟩ | ⟨_, _, rfl⟩ | ⟨h1, h2, h3⟩
    · exact ho hNf
    · trivial
    · exact RepO.mono (V := V) hNf hsz hV (fun b => by rw [hVo i h1]) (h.bdo i o1 h3).1 (fun hl b hb' => hbl b (h.low i b ⟨o1, h3, hl⟩ hb').2 (fun id hid e => h2 ((h.inj i id b ⟨o1, h3, hl⟩ (hks id hid) hb' e) ▸ hid))) (h.obs i o1 h3) (h.bdo i o1 h3).2
  · have key : ∀ {i j : Nat}, i = n → j ≠ n → j ∉ ks → live ob j → (setF (updV V n v) n f).f i b → (setF (updV V n v) n f).f j b → False := fun {i j} h1 h2 h3 h4 h5 h6 => by
      subst h1
      rw [hVn] at h5
      rw [hVo j h2] at h6
      have hlt := (h.low j b h4 h6).2
      obtain ⟨id, q1, q2⟩ := hvb b h5 hlt
      exact h3 ((h.inj j id b h4 (hks id q1) h6 q2) ▸ q1)
    rcases hsub i hi with h1 | ⟨h1, h2, h3⟩ <;> rcases hsub j hj with h4 | ⟨h4, h5, h6⟩
    · rw [h1, h4]
    · exact (key h1 h4 h5 h6 hbi hbj).elim
    · exact (key h4 h1 h2 h3 hbj hbi).elim
    · rw [hVo i h1] at hbi; rw [hVo j h4] at hbj
      exact h.inj i j b h3 h6 hbi hbj
  · rcases hsub i hi with rfl | ⟨h1, h2, h3⟩
    · rw [hVn] at hbi
      rcases hv b hbi with ⟨id, q1, q2⟩ | hc
      · have := h.low id b (hks id q1) q2; exact ⟨this.1, Nat.lt_of_lt_of_le this.2 hsz⟩
      · exact ⟨.inl (Nat.le_trans h.bas hc.1), hc.2⟩
    · rw [hVo i h1] at hbi
      exact ⟨(h.low i b h3 hbi).1, Nat.lt_of_lt_of_le (h.low i b h3 hbi).2 hsz⟩
  · rcases hobn hi with ⟨rfl, rfl⟩ | ⟨_, h2, rfl⟩ | ⟨h1, h2, h3⟩
    · exact ⟨.inr rfl, hbd⟩
    · exact ⟨.inl (hkA i h2), trivial⟩
    · exact ⟨.inl (h.bdo i o1 h3).1, bdO_mono (fun _ => .inl) o1 (h.bdo i o1 h3).2⟩
  · refine h.bel.turn hos hta hou hsz fun b hb hf' => hbl b (Nat.lt_of_lt_of_le hb h.bas) fun id hid e => ?_
    rcases (h.low id b (hks id hid) e).1 with q | ⟨q, _⟩
    · omega
    · exact hf' q

/-- An object's state turns; it may take over what other ones own. -/
theorem Rel.turnL (h : Rel N0 base w0 m V g ob A a w) {w' : World} {ks : List Nat} {n : Nat} {o o' : AO} {f : Nat → Prop} (hon : ob n = some o) (hol : o.live = true) (hnk : n ∉ ks) (hks : ∀ id, id ∈ ks → live ob id)
    (hf : ∀ b, f b → V.f n b ∨ ∃ id, id ∈ ks ∧ V.f id b)
    (hsz : w.heap.size ≤ w'.heap.size) (hbl : ∀ b, b < w.heap.size → ¬ V.f n b → w'.heap[b]? = w.heap[b]?) (hos : w'.os = w.os) (hta : w'.tape = w.tape) (hou : w'.output = w.output)
    (ho : (∀ b, Nf N0 base V ob b → b < w.heap.size → Nf N0 base (setF V n f) (updK ob ks n o') b ∧ w'.heap[b]? = w.heap[b]?) → RepO (Nf N0 base (setF V n f) (updK ob ks n o')) w' (setF V n f) n o') (hbd : bdO A o') :
    Rel N0 base w0 m (setF V n f) g (updK ob ks n o') A a w' := by
  have hln : live ob n := ⟨o, hon, hol⟩
  have hown : ∀ b, f b → ∃ i, (i = n ∨ i ∈ ks) ∧ live ob i ∧ V.f i b := fun b hb => by
    rcases hf b hb with h | ⟨id, h1, h2⟩
    · exact ⟨n, .inl rfl, hln, h⟩
    · exact ⟨id, .inr h1, hks id h1, h2⟩
  have hsub : ∀ i, live (updK ob ks n o') i → i = n ∨ (i ≠ n ∧ i ∉ ks ∧ live ob i) := fun i ⟨o1, h1, h2⟩ => by
    unfold updK at h1
    split at h1
    · exact .inl (by assumption)
    · split at h1
      · injection h1 with h1; subst h1; cases h2
      · exact .inr ⟨by assumption, by assumption, o1, h1, h2⟩
  have hVn : (setF V n f).f n = f := setF_f _ _ _
  have hVo : ∀ i, i ≠ n → (setF V n f).f i = V.f i := fun i hi => setF_fne _ _ _ hi
  have hNf : ∀ b, Nf N0 base V ob b → b < w.heap.size → Nf N0 base (setF V n f) (updK ob ks n o') b ∧ w'.heap[b]? = w.heap[b]? := fun b hN hlt => by
    refine ⟨⟨hN.1, fun i hl hb => ?_⟩, hbl b hlt (hN.2 n hln)⟩
    rcases hsub i hl with rfl | ⟨hi, _, hl⟩
    · rw [hVn] at hb
      obtain ⟨i', _, q1, q2⟩ := hown b hb
      exact hN.2 i' q1 q2
    · rw [hVo i hi] at hb; exact hN.2 i hl hb
  have hobn : ∀ {i : Nat} {o1 : AO}, updK ob ks n o' i = some o1 → (i = n ∧ o1 = o') ∨ (i ≠ n ∧ i ∈ ks ∧ o1 = .dead) ∨ (i ≠ n ∧ i ∉ ks ∧ ob i = some o1) := fun {i o1} hi => by
    unfold updK at hi
    split at hi
    · injection hi with hi; exact .inl ⟨by assumption, hi.symm⟩
    · split at hi
      · injection hi with hi; exact .inr (.inl ⟨by assumption, by assumption, hi.symm⟩)
      · exact .inr (.inr ⟨by assumption, by assumption, hi⟩)
  have key : ∀ {i b : Nat}, i ≠ n → i ∉ ks → live ob i → V.f i b → f b → False := fun {i b} h1 h2 h3 h4 h5 => by
    obtain ⟨i', q0, q1, q2⟩ := hown b h5
    have := h.inj i i' b h3 q1 h4 q2
    subst this
    rcases q0 with q | q
    · exact h1 q
    · exact h2 q
  refine ⟨fun t x hx => RepT.mono (V := V) hNf (fun _ _ => rfl) (h.tm t x hx) (h.bdt t x hx), fun i o1 hi => ?_, fun i j b hi hj hbi hbj => ?_, fun i b hi hbi => ?_, h.bdt, fun i o1 hi => ?_, ?_, Nat.le_trans h.bas hsz, h.dfr, h.siz, h.par⟩
  · rcases hobn hi with ⟨rfl, rfl⟩ | ⟨_, _, rfl⟩ | ⟨h1, h2, h3⟩
    · exact ho hNf
    · trivial
    · exact RepO.mono (V := V) hNf hsz (fun _ _ => rfl) (fun b => by rw [hVo i h1]) (h.bdo i o1 h3).1 (fun hl b hb' => hbl b (h.low i b ⟨o1, h3, hl⟩ hb').2 (fun e => h1 (h.inj i n b ⟨o1, h3, hl⟩ hln hb' e))) (h.obs i o1 h3) (h.bdo i o1 h3).2
  · rcases hsub i hi with rfl | ⟨h1, h2, h3⟩ <;> rcases hsub j hj with rfl | ⟨h4, h5, h6⟩
    · rfl
    · rw [hVn] at hbi; rw [hVo j h4] at hbj; exact (key h4 h5 h6 hbj hbi).elim
    · rw [hVn] at hbj; rw [hVo i h1] at hbi; exact (key h1 h2 h3 hbi hbj).elim
    · rw [hVo i h1] at hbi; rw [hVo j h4] at hbj; exact h.inj i j b h3 h6 hbi hbj
  · rcases hsub i hi with rfl | ⟨h1, h2, h3⟩
    · rw [hVn] at hbi
      obtain ⟨i', _, q1, q2⟩ := hown b hbi
      have := h.low i' b q1 q2
      exact ⟨this.1, Nat.lt_of_lt_of_le this.2 hsz⟩
    · rw [hVo i h1] at hbi
      exact ⟨(h.low i b h3 hbi).1, Nat.lt_of_lt_of_le (h.low i b h3 hbi).2 hsz⟩
  · rcases hobn hi with ⟨rfl, rfl⟩ | ⟨_, h2, rfl⟩ | ⟨h1, h2, h3⟩
    · exact ⟨(h.bdo _ _ hon).1, hbd⟩
    · obtain ⟨o2, q1, _⟩ := hks i h2
      exact ⟨(h.bdo i o2 q1).1, trivial⟩
    · exact h.bdo i o1 h3
  · refine h.bel.turn hos hta hou hsz fun b hb hf' => hbl b (Nat.lt_of_lt_of_le hb h.bas) fun e => ?_
    rcases (h.low n b hln e).1 with q | ⟨q, _⟩
    · omega
    · exact hf' q

theorem Rel.replace (h : Rel N0 base w0 m V g ob A a w) {w' : World} {id n : Nat} {o o' : AO} {v : Value} (hon : ob id = some o) (hol : o.live = true) (hn : ¬ A n)
    (hsz : w.heap.size ≤ w'.heap.size) (hbl : ∀ b, b < w.heap.size → ¬ V.f id b → w'.heap[b]? = w.heap[b]?) (hos : w'.os = w.os) (hta : w'.tape = w.tape) (hou : w'.output = w.output)
    (hv : ∀ b, blk v = some b → V.f id b ∨ (w.heap.size ≤ b ∧ b < w'.heap.size))
    (ho : (∀ b, Nf N0 base V ob b → b < w.heap.size → Nf N0 base (updV V n v) (updP ob id .dead n o') b ∧ w'.heap[b]? = w.heap[b]?) → RepO (Nf N0 base (updV V n v) (updP ob id .dead n o')) w' (updV V n v) n o') (hbd : bdO (addA A n) o') :
    Rel N0 base w0 m (updV V n v) g (updP ob id .dead n o') (addA A n) a w' := by
  have e : setF (updV V n v) n (bl v) = updV V n v := by
    have := setF_self (updV V n v) n
    rwa [updV_f] at this
  have := h.replaceL (w' := w') (ks := [id]) (n := n) (o' := o') (v := v) (f := bl v) (fun i hi => by simp at hi; subst hi; exact ⟨o, hon, hol⟩) hn hsz (fun b hb hno => hbl b hb (hno id (by simp))) hos hta hou
    (fun b hb => by rcases hv b hb with h | h; · exact .inl ⟨id, by simp, h⟩
                    · exact .inr h) (by rw [e, updK_one]; exact ho) hbd
  rwa [e, updK_one] at this

/-- An own slice becomes immutable. -/
theorem Rel.publish (h : Rel N0 base w0 m V g ob A a w) {id k : Nat} {xs : List AV} (hon : ob id = some (.arr k xs)) : Rel N0 base w0 m V g (updO ob id (.pub xs)) A a w := by
  have hln : live ob id := ⟨_, hon, rfl⟩
  refine h.turn (o' := .pub xs) hon rfl (Nat.le_refl _) (fun _ _ _ => rfl) rfl rfl rfl ?_ trivial
  have hup : ∀ b, Nf N0 base V ob b → b < w.heap.size → Nf N0 base V (updO ob id (.pub xs)) b ∧ w.heap[b]? = w.heap[b]? := fun b hN _ => ⟨⟨hN.1, fun i hl => by
    rcases live_updO hl with ⟨rfl, hd⟩ | ⟨_, hl⟩
    · cases hd
    · exact hN.2 i hl⟩, rfl⟩
  obtain ⟨h0, h00⟩ := h.obs id _ hon
  rcases h00 with ⟨a', h1, h2⟩ | ⟨b, o, cap, arr, Ty, h1, h2, h3, h4, h5, h6, h7⟩
  · show Rep _ w (.sl xs) (V id)
    rw [h1, h2]; exact .nil _ _
  · show Rep _ w (.sl xs) (V id)
    have hbk : V.f id b := (h0 b).2 (by rw [h1]; simp [bl, blk]; omega)
    rw [h1]
    refine Laid.rep (k := k) (arr := arr) ⟨h6, fun i e j c h8 h9 => let ⟨u, hu, hr⟩ := h7 i e j c h8 h9; ⟨u, hu, hr.mono hup⟩⟩ h2 ⟨fun hb => ?_, fun i hl => ?_⟩ h4
    · rcases (h.low id b hln hbk).1 with q | ⟨_, q⟩
      · omega
      · exact q
    · rcases live_updO hl with ⟨rfl, hd⟩ | ⟨hi, hl⟩
      · cases hd
      · intro e
        exact hi (h.inj i id b hl hln e hbk)

/-! ### states -/

def RS (N0 : Nat → Prop) (base : Nat) (w0 : W0) (σ : St) (a : Act) (w : World) : Prop :=
  w0.m = σ.par ∧ ∃ V, Rel N0 base w0 σ.size V σ.get σ.obj (fun i => i < σ.next) a w

def St.eval (σ : St) : Operand → Option AV := evalA σ.get

def St.after (σ : St) (dst : Option Nat) (x : AV) (no : Option AO) : St :=
  { tmps := match dst with | some d => (d, x) :: σ.tmps | none => σ.tmps
    objs := match no with | some o => (σ.next, o) :: σ.objs | none => σ.objs
    next := match no with | some _ => σ.next + 1 | none => σ.next
    size := σ.size, par := σ.par }

theorem St.get_after (σ : St) (dst : Option Nat) (x : AV) (no : Option AO) : (σ.after dst x no).get = upd σ.get dst x := by
  funext t
  cases dst with
  | none => rfl
  | some d => simp [St.get, St.after, look, upd]

theorem St.obj_after (σ : St) (dst : Option Nat) (x : AV) (no : Option AO) : (σ.after dst x no).obj = updN σ.obj σ.next no := by
  funext i
  cases no with
  | none => rfl
  | some o => simp only [St.obj, St.after, look, updN, updO, eq_comm]

theorem St.next_after (σ : St) (dst : Option Nat) (x : AV) (no : Option AO) : (fun i => i < (σ.after dst x no).next) = addN (fun i => i < σ.next) σ.next no := by
  funext i
  cases no with
  | none => rfl
  | some o => simp only [St.after, addN, addA]; exact propext (by omega)

def dstOk (σ : St) (o : Oper) : Bool := match o.dst with | some d => d.blt σ.size | none => true

theorem dstOk_spec {σ : St} {o : Oper} (h : dstOk σ o = true) : ∀ d, o.dst = some d → d < σ.size := fun d hd => by
  unfold dstOk at h
  rw [hd] at h
  simpa [Nat.blt_eq] using h

/-- A step without writing. -/
theorem pure_step {P : Program} {T : TypeId → Option TI} (hT : TOK P T) {o : Oper} {own : Bool} {σ : St} {K : St → Prop} (hd : dstOk σ o = true)
    (h : pstep P T own σ.eval σ.obj σ.next o fun x no => K (σ.after o.dst x no)) {a : Act} {w : World} (hr : RS N0 base w0 σ a w) {next : Act → World → Prop} {Q : Exit → Act → World → Prop}
    (hK : ∀ σ' a' w', K σ' → RS N0 base w0 σ' a' w' → next a' w') : o.wp P a w next Q := by
  obtain ⟨x, no, h1, h2⟩ := pstep_sound hT h
  obtain ⟨hp, V, hV⟩ := hr
  refine h2 hV (fun y _ => rfl) (fun i u hu => hu) (by simp) (dstOk_spec hd) next Q fun a' w' V' hV' => hK _ _ _ h1 ⟨hp, V', ?_⟩
  rw [St.get_after, St.obj_after, St.next_after]
  exact hV'

def St.setObj (σ : St) (i : Nat) (o : AO) : St := { σ with objs := (i, o) :: σ.objs }
theorem St.obj_setObj (σ : St) (i : Nat) (o : AO) : (σ.setObj i o).obj = updO σ.obj i o := by
  funext j
  simp only [St.obj, St.setObj, look, updO, eq_comm]

/-- All own slices among these become immutable. -/
def St.pub (σ : St) : List Nat → St
  | [] => σ
  | i :: r => match σ.obj i with
    | some (.arr _ xs) => (σ.setObj i (.pub xs)).pub r
    | _ => σ.pub r

theorem RS.pub : ∀ {is : List Nat} {σ : St} {a : Act} {w : World}, RS N0 base w0 σ a w → RS N0 base w0 (σ.pub is) a w
  | [], _, _, _, h => h
  | i :: r, σ, a, w, h => by
    unfold St.pub
    split
    · rename_i k xs hob
      refine RS.pub ?_
      obtain ⟨hp, V, hV⟩ := h
      refine ⟨hp, V, ?_⟩
      rw [St.obj_setObj]
      exact hV.publish hob
    · exact h.pub

end Go.Sk

-- SkQ
/- Stores, appends and cuts of own objects. -/
namespace Go.Sk
open Go.RowKit

theorem splice_get {α : Type} {l vs : List α} {off : Nat} (h : off + vs.length ≤ l.length) (j : Nat) :
    (l.take off ++ vs ++ l.drop (off + vs.length))[j]? = if off ≤ j ∧ j < off + vs.length then vs[j - off]? else l[j]? := by
  rw [List.getElem?_append, List.getElem?_append]
  simp only [List.length_append, List.length_take, List.getElem?_take, List.getElem?_drop]
  have hm : min off l.length = off := by omega
  rw [hm]
  by_cases h1 : j < off
  · rw [if_pos (by omega), if_pos h1, if_pos h1, if_neg (by omega)]
  · by_cases h2 : j < off + vs.length
    · rw [if_pos h2, if_neg h1, if_pos ⟨by omega, h2⟩]
    · rw [if_neg h2, if_neg (by omega), show off + vs.length + (j - (off + vs.length)) = j by omega]

section
variable {P : Program} {T : TypeId → Option TI} {N0 : Nat → Prop} {base : Nat} {w0 : W0} {σ : St} {a : Act} {w : World}

theorem run_storeAt (hT : TOK P T) {t : TypeId} {i : TI} (hi : T t = some i) {g o : Nat} {v : Value} {cur : Array Value} {Ty : TypeId} (hg : w.heap[g]? = some (.cells cur Ty (0, 0))) (hs : v.cells.size = i.size) (hfit : o + i.size ≤ cur.size)
    (h1 : ∀ u, u ∈ v.cells.toList → u.oneCell' = true) :
    (Instr.storeAt t (.pointer (some ⟨g, o, none⟩)) v).run P w = .ok () (w.setRow g (cur.toList.take o ++ v.cells.toList ++ cur.toList.drop (o + v.cells.toList.length)).toArray) := by
  have hst := run_storeCells_at P g o Ty v.cells.toList 0 cur w hg (by simp; omega) h1
  simp only [Nat.add_zero] at hst
  simp only [Instr.storeAt, Instr.sureAddr, Sem.run_bind, Sem.run_pure, Result.andThen_ok, storeVar, run_sizeOf hT hi, hs, ne_eq, not_true, if_false, hst]

def newElem (e : AV) (j : Nat) (ds : List AV) (y : AV) : AV :=
  match e with
  | .ag cs => .ag (setC cs j ds)
  | _ => y

/-- Elements that are computed: whoever goes on says how they are written. -/
inductive CalcL (v : List AV) (K : List AV → Prop) : Prop
  | mk (z : List AV) (hz : v = z) (h : K z)
theorem CalcL.elim {v : List AV} {K : List AV → Prop} (h : CalcL v K) : K v := by
  obtain ⟨z, rfl, h⟩ := h
  exact h

def sstore (T : TypeId → Option TI) (σ : St) (t : TypeId) (p x : AV) (K : St → Prop) : Prop :=
  match T t with
  | none => False
  | some ti => match p with
    | .ptr id j => match σ.obj id with
      | some (.box cs) => if okA x = true ∧ (cellsA x).length = ti.size ∧ j + ti.size ≤ cs.length then K (σ.setObj id (.box (setC cs j (cellsA x)))) else False
      | _ => False
    | .pea id k i j => match σ.obj id, immA σ.obj x with
      | some (.arr k' xs), some y => if k' = k ∧ 0 < ti.size ∧ (cellsA y).length = ti.size ∧ j + ti.size ≤ k then ∃ e, xs[i]? = some e ∧ CalcL (xs.set i (newElem e j (cellsA y) y)) fun zs => K (σ.setObj id (.arr k zs)) else False
      | _, _ => False
    | _ => False

theorem cells_oneCell {N : Nat → Prop} {V : VV} {x : AV} {v : Value} (hok : okA x = true) (hr : RepT N w V x v) : ∀ u, u ∈ v.cells.toList → u.oneCell' = true := fun u hu => by
  obtain ⟨h1, h2⟩ := cells_rep hok hr
  obtain ⟨j, q1, q2⟩ := List.mem_iff_getElem.1 hu
  obtain ⟨u', q3, _, q4⟩ := h2 j _ (List.getElem?_eq_getElem (by rw [← h1]; simpa using q1))
  rw [Array.getElem_toList] at q2
  rw [Array.getElem?_eq_getElem (by simpa using q1), q2] at q3
  injection q3 with q3
  exact q3 ▸ q4

theorem imm_ok {ob : Nat → Option AO} {x y : AV} (h : immA ob x = some y) : okA x = true := by
  cases x <;> simp_all [immA, immC, okA]

theorem eval_rep {V : VV} {g : Nat → Option AV} {ob : Nat → Option AO} {A : Nat → Prop} {m : Nat} (hr : Rel N0 base w0 m V g ob A a w) {x : Operand} {y : AV} (h : evalA g x = some y) : RepT (Nf N0 base V ob) w V y (a.eval x) ∧ bd A y := by
  cases x with
  | tmp t => exact ⟨hr.tm t y h, hr.bdt t y h⟩
  | const v => have := constA_rep (N := Nf N0 base V ob) (w := w) (V := V) h; exact ⟨this.1, this.2 A⟩
  | func f => simp only [evalA, Option.some.injEq] at h; subst h; exact ⟨.im (.v _ rfl), by simp [bd]⟩
  | global i => simp [evalA] at h

theorem setRow_size (w : World) (g : Nat) (cs : Array Value) : (w.setRow g cs).heap.size = w.heap.size := size_setRow w g cs

theorem store_step (hT : TOK P T) {o : Oper} {t : TypeId} {p x : Operand} {pv xv : AV} {K : St → Prop} (ho : o.op = .store t p x) (hdst : o.dst = none) (hp : σ.eval p = some pv) (hx : σ.eval x = some xv) (h : sstore T σ t pv xv K) (hr : RS N0 base w0 σ a w)
    {next : Act → World → Prop} {Q : Exit → Act → World → Prop} (hK : ∀ σ' a' w', K σ' → RS N0 base w0 σ' a' w' → next a' w') : o.wp P a w next Q := by
  obtain ⟨hpar, V, hV⟩ := hr
  obtain ⟨hrp, hbp⟩ := eval_rep hV hp
  obtain ⟨hrx, hbx⟩ := eval_rep hV hx
  unfold sstore at h
  split at h
  · exact h.elim
  · rename_i ti hti
    have fin : ∀ {w' : World} {σ' : St}, (Instr.storeAt t (a.eval p) (a.eval x)).run P w = .ok () w' → K σ' → RS N0 base w0 σ' a w' → o.wp P a w next Q := fun {w' σ'} h1 h2 h3 => by
      unfold Oper.wp
      simp only [execOp, ho, Sem.run_bind, h1, Result.andThen_ok, Sem.run_pure, Oper.upon, hdst, Act.put]
      exact hK _ _ _ h2 h3
    split at h
    · rename_i id j
      split at h
      · rename_i cs hob
        by_cases hc : okA xv = true ∧ (cellsA xv).length = ti.size ∧ j + ti.size ≤ cs.length
        · rw [if_pos hc] at h
          obtain ⟨hok, hl, hfit⟩ := hc
          obtain ⟨h0, b, arr, Ty, h1, h2, h3, h4⟩ := hV.obs id _ hob
          generalize hv : a.eval p = pvv at hrp
          cases hrp with
          | im h => cases h
          | ptr _ _ b' o' h' =>
            rw [h1] at h'
            simp only [Value.pointer.injEq, Option.some.injEq, Addr.mk.injEq] at h'
            obtain ⟨rfl, rfl, _⟩ := h'
            rw [Nat.zero_add] at hv
            obtain ⟨c1, c2⟩ := cells_rep hok hrx
            refine fin (by rw [hv]; exact run_storeAt hT hti h2 (by rw [c1, hl]) (by omega) (cells_oneCell hok hrx)) h ⟨hpar, V, ?_⟩
            rw [St.obj_setObj]
            have hlive : live σ.obj id := ⟨_, hob, rfl⟩
            have hsubl : ∀ i, live (updO σ.obj id (.box (setC cs j (cellsA xv)))) i → live σ.obj i := fun i hl => by
              rcases live_updO hl with ⟨rfl, _⟩ | ⟨_, hl⟩
              · exact hlive
              · exact hl
            have hNf : ∀ b', Nf N0 base V σ.obj b' → b' < w.heap.size → Nf N0 base V (updO σ.obj id (.box (setC cs j (cellsA xv)))) b' ∧
                (w.setRow b (arr.toList.take j ++ (a.eval x).cells.toList ++ arr.toList.drop (j + (a.eval x).cells.toList.length)).toArray).heap[b']? = w.heap[b']? := fun b' hN _ =>
              ⟨⟨hN.1, fun i hl => hN.2 i (hsubl i hl)⟩, setRow_other w b b' _ (fun e => hN.2 id hlive ((h0 _).2 (by rw [h1, e]; rfl)))⟩
            refine hV.turn (o' := .box (setC cs j (cellsA xv))) hob rfl (by rw [setRow_size]; exact Nat.le_refl _) (fun b' _ hne => setRow_other w b b' _ (fun e => hne ((h0 _).2 (by rw [h1, e]; rfl)))) rfl rfl rfl ?_ ?_
            · have hcl : (a.eval x).cells.toList.length = (cellsA xv).length := by simp [c1]
              have hfit' : j + (cellsA xv).length ≤ cs.length := by omega
              refine ⟨h0, b, _, Ty, h1, setRow_heap w b arr _ Ty _ h2, ?_, fun q c hq => ?_⟩
              · rw [setC_len hfit']; simp; omega
              · rw [setC_get hfit'] at hq
                simp only [List.getElem?_toArray]
                rw [splice_get (by rw [hcl]; simp; omega)]
                split at hq
                · rename_i hh
                  rw [if_pos (by omega)]
                  obtain ⟨u, q1, q2, q3⟩ := c2 _ _ hq
                  exact ⟨u, by simpa using q1, q2.mono (A := fun i => i < σ.next) hNf (fun _ _ => rfl) (bdL_get (bd_cells hbx) hq), q3⟩
                · rename_i hh
                  rw [if_neg (by omega)]
                  obtain ⟨u, q1, q2, q3⟩ := h4 _ _ hq
                  exact ⟨u, by simpa using q1, q2.mono (A := fun i => i < σ.next) hNf (fun _ _ => rfl) (bdL_get (hV.bdo id _ hob).2 hq), q3⟩
            · refine bdL_iff.2 fun c hc => ?_
              unfold setC at hc
              rcases List.mem_append.1 hc with hc | hc
              · rcases List.mem_append.1 hc with hc | hc
                · exact bdL_iff.1 (hV.bdo id _ hob).2 c (List.mem_of_mem_take hc)
                · exact bdL_iff.1 (bd_cells hbx) c hc
              · exact bdL_iff.1 (hV.bdo id _ hob).2 c (List.mem_of_mem_drop hc)
        · rw [if_neg hc] at h; exact h.elim
      · exact h.elim
    · rename_i id k i j
      split at h
      · rename_i k' xs y hob himm
        by_cases hc : k' = k ∧ 0 < ti.size ∧ (cellsA y).length = ti.size ∧ j + ti.size ≤ k
        · rw [if_pos hc] at h
          obtain ⟨rfl, hpos, hl, hfit⟩ := hc
          obtain ⟨e, he, hKe⟩ := h
          replace hKe := hKe.elim
          obtain ⟨r1, r2, r3, _⟩ := immA_rep himm hrx (fun i u hu => hV.obs i u hu)
          have hok := imm_ok himm
          obtain ⟨h0, h00⟩ := hV.obs id _ hob
          rcases h00 with ⟨a', _, h2⟩ | ⟨b, o', cap, arr, Ty, h1, h2, h3, h4, h5, h6, h7⟩
          · subst h2; simp at he
          · generalize hv : a.eval p = pvv at hrp
            cases hrp with
            | im h => cases h
            | pea _ _ _ _ b' o'' n c h' =>
              rw [h1] at h'
              simp only [Value.slice.injEq, Option.some.injEq, Addr.mk.injEq] at h'
              obtain ⟨⟨rfl, rfl, _⟩, _, _⟩ := h'
              have hilt : i < xs.length := (List.getElem?_eq_some_iff.1 he).1
              have hbnd : (i + 1) * k' ≤ cap * k' := Nat.mul_le_mul_right _ (by omega)
              rw [Nat.add_mul, Nat.one_mul] at hbnd
              have hcl : (a.eval x).cells.toList.length = (cellsA y).length := by simp [r2]
              refine fin (by rw [hv]; exact run_storeAt hT hti h2 (by rw [r2, hl]) (by omega) (cells_oneCell hok hrx)) hKe ⟨hpar, V, ?_⟩
              rw [St.obj_setObj]
              have hlive : live σ.obj id := ⟨_, hob, rfl⟩
              have hbk : V.f id b := (h0 b).2 (by rw [h1]; simp [bl, blk]; omega)
              generalize hxs' : xs.set i (newElem e j (cellsA y) y) = xs'
              have hNf : ∀ b', Nf N0 base V σ.obj b' → b' < w.heap.size → Nf N0 base V (updO σ.obj id (.arr k' xs')) b' ∧
                  (w.setRow b (arr.toList.take (o' + (i * k' + j)) ++ (a.eval x).cells.toList ++ arr.toList.drop (o' + (i * k' + j) + (a.eval x).cells.toList.length)).toArray).heap[b']? = w.heap[b']? := fun b' hN _ =>
                ⟨⟨hN.1, fun i' hl => by
                  rcases live_updO hl with ⟨rfl, _⟩ | ⟨_, hl⟩
                  · exact hN.2 _ hlive
                  · exact hN.2 i' hl⟩, setRow_other w b b' _ (fun e => hN.2 id hlive (e ▸ hbk))⟩
              refine hV.turn (o' := .arr k' xs') hob rfl (by rw [setRow_size]; exact Nat.le_refl _) (fun b' _ hne => setRow_other w b b' _ (fun e => hne (e ▸ hbk))) rfl rfl rfl ?_ trivial
              have hek : (cellsA e).length = k' := h6 e (List.mem_of_getElem? he)
              have hnk : (cellsA (newElem e j (cellsA y) y)).length = k' := by
                unfold newElem
                split
                · rename_i cs
                  have hek' : cs.length = k' := hek
                  show (setC cs j (cellsA y)).length = k'
                  rw [setC_len (by omega)]; exact hek'
                · rename_i hne
                  have h1e : (cellsA e).length = 1 := by
                    cases e <;> first | rfl | exact absurd rfl (hne _)
                  omega
              have hlenx : xs'.length = xs.length := by rw [← hxs']; simp
              refine ⟨h0, .inr ⟨b, o', cap, _, Ty, by rw [hlenx]; exact h1, setRow_heap w b arr _ Ty _ h2, h3, by rw [hlenx]; exact h4, by simp; omega, fun z hz => ?_, fun i' z q c hz hq => ?_⟩⟩
              · rw [← hxs'] at hz
                rcases List.mem_or_eq_of_mem_set hz with hz | rfl
                · exact h6 z hz
                · exact hnk
              · simp only [List.getElem?_toArray]
                rw [splice_get (by rw [hcl]; simp; omega)]
                have hql : q < k' := by
                  rw [← hxs'] at hz
                  rcases List.mem_or_eq_of_mem_set (List.mem_of_getElem? hz) with hm | rfl
                  · rw [← h6 z hm]; exact (List.getElem?_eq_some_iff.1 hq).1
                  · rw [← hnk]; exact (List.getElem?_eq_some_iff.1 hq).1
                by_cases hii : i' = i
                · subst hii
                  have hze : z = newElem e j (cellsA y) y := by
                    rw [← hxs', List.getElem?_set_self hilt] at hz
                    injection hz with hz; exact hz.symm
                  subst hze
                  by_cases hin : j ≤ q ∧ q < j + (cellsA y).length
                  · rw [if_pos ⟨by omega, by omega⟩, show o' + (i' * k' + q) - (o' + (i' * k' + j)) = q - j by omega]
                    have hcy : (cellsA y)[q - j]? = some c := by
                      unfold newElem at hq
                      split at hq
                      · rename_i cs
                        have hek' : cs.length = k' := hek
                        have hq' : (setC cs j (cellsA y))[q]? = some c := hq
                        rw [setC_get (by omega), if_pos hin] at hq'
                        exact hq'
                      · rename_i hne
                        have h1e : (cellsA e).length = 1 := by
                          cases e <;> first | rfl | exact absurd rfl (hne _)
                        have : j = 0 := by omega
                        subst this
                        exact hq
                    obtain ⟨u, q1, q2⟩ := r3 _ _ hcy
                    exact ⟨u, by simpa using q1, q2.mono hNf⟩
                  · rw [if_neg (by omega)]
                    have hce : (cellsA e)[q]? = some c := by
                      unfold newElem at hq
                      split at hq
                      · rename_i cs
                        have hek' : cs.length = k' := hek
                        have hq' : (setC cs j (cellsA y))[q]? = some c := hq
                        rw [setC_get (by omega), if_neg hin] at hq'
                        exact hq'
                      · rename_i hne
                        have h1e : (cellsA e).length = 1 := by
                          cases e <;> first | rfl | exact absurd rfl (hne _)
                        omega
                    obtain ⟨u, q1, q2⟩ := h7 _ _ _ _ he hce
                    exact ⟨u, by simpa using q1, q2.mono hNf⟩
                · have hz' : xs[i']? = some z := by rw [← hxs', List.getElem?_set_ne (Ne.symm hii)] at hz; exact hz
                  have hoff : ¬ (o' + (i * k' + j) ≤ o' + (i' * k' + q) ∧ o' + (i' * k' + q) < o' + (i * k' + j) + (cellsA y).length) := by
                    intro hh
                    rcases Nat.lt_or_gt_of_ne hii with hlt | hgt
                    · have := Nat.mul_le_mul_right k' (show i' + 1 ≤ i by omega)
                      rw [Nat.add_mul, Nat.one_mul] at this
                      omega
                    · have := Nat.mul_le_mul_right k' (show i + 1 ≤ i' by omega)
                      rw [Nat.add_mul, Nat.one_mul] at this
                      omega
                  rw [if_neg (by rw [hcl]; exact hoff)]
                  obtain ⟨u, q1, q2⟩ := h7 _ _ _ _ hz' hq
                  exact ⟨u, by simpa using q1, q2.mono hNf⟩
        · rw [if_neg hc] at h; exact h.elim
      · exact h.elim
    · exact h.elim

end
end Go.Sk

-- SkR
/- append and slicing of own slices. -/
namespace Go.Sk
open Go.RowKit

section
variable {P : Program} {T : TypeId → Option TI} {N0 : Nat → Prop} {base : Nat} {w0 : W0} {σ : St} {a : Act} {w : World}

theorem St.obj_dead (σ : St) (id : Nat) (dst : Option Nat) (x : AV) (o : AO) : ((σ.setObj id .dead).after dst x (some o)).obj = updP σ.obj id .dead σ.next o := by
  rw [St.obj_after, St.obj_setObj]; rfl
theorem St.get_dead (σ : St) (id : Nat) (dst : Option Nat) (x : AV) (o : AO) : ((σ.setObj id .dead).after dst x (some o)).get = upd σ.get dst x := by
  rw [St.get_after]; rfl
theorem St.next_dead (σ : St) (id : Nat) (dst : Option Nat) (x : AV) (o : AO) : (fun i => i < ((σ.setObj id .dead).after dst x (some o)).next) = addA (fun i => i < σ.next) σ.next := by
  rw [St.next_after]; rfl

/-- A step that takes own slice id and makes own slice next of it. -/
theorem take_step {o : Oper} {id k k' : Nat} {xs xs' : List AV} {K : St → Prop} (hob : σ.obj id = some (.arr k xs)) (hd : dstOk σ o = true) (hKσ : K ((σ.setObj id .dead).after o.dst (.ref σ.next) (some (.arr k' xs'))))
    (hr : RS N0 base w0 σ a w) {next : Act → World → Prop} {Q : Exit → Act → World → Prop} (hK : ∀ σ' a' w', K σ' → RS N0 base w0 σ' a' w' → next a' w')
    (h : ∀ V, Rel N0 base w0 σ.size V σ.get σ.obj (fun i => i < σ.next) a w → ∃ v w', (execOp a.eval o).run P w = .ok (.value v) w' ∧ v.oneCell' = true ∧ w.heap.size ≤ w'.heap.size ∧
      (∀ b, b < w.heap.size → ¬ V.f id b → w'.heap[b]? = w.heap[b]?) ∧ w'.os = w.os ∧ w'.tape = w.tape ∧ w'.output = w.output ∧ (∀ b, blk v = some b → V.f id b ∨ (w.heap.size ≤ b ∧ b < w'.heap.size)) ∧
      ((∀ b, Nf N0 base V σ.obj b → b < w.heap.size → Nf N0 base (updV V σ.next v) (updP σ.obj id .dead σ.next (.arr k' xs')) b ∧ w'.heap[b]? = w.heap[b]?) →
        RepO (Nf N0 base (updV V σ.next v) (updP σ.obj id .dead σ.next (.arr k' xs'))) w' (updV V σ.next v) σ.next (.arr k' xs'))) : o.wp P a w next Q := by
  obtain ⟨hp, V, hV⟩ := hr
  obtain ⟨v, w', h1, h2, h3, h4, h5, h6, h7, h8, h9⟩ := h V hV
  unfold Oper.wp
  rw [h1]
  refine hK _ _ _ hKσ ⟨hp, updV V σ.next v, ?_⟩
  rw [St.obj_dead, St.get_dead, St.next_dead]
  have := hV.replace (n := σ.next) (o' := .arr k' xs') hob rfl (by simp) h3 h4 h5 h6 h7 h8 h9 trivial
  refine this.put (dstOk_spec hd) ?_ (by unfold bd; exact .inr rfl)
  have hrf := RepT.ref (N := Nf N0 base (updV V σ.next v) (updP σ.obj id .dead σ.next (.arr k' xs'))) (w := w') (V := updV V σ.next v) σ.next (by rw [updV_same]; exact h2)
  rwa [updV_same] at hrf

theorem append_step (hT : TOK P T) {o : Oper} {t e : TypeId} {ie : TI} {x y : Operand} {id : Nat} {xs ys : List AV} {yv : AV} {K : St → Prop} (ho : o.op = .call { callee := .builtin .append, args := #[x, y], argTypes := #[t, t] })
    (hu : P.underlying t = some (.slice e)) (he : T e = some ie) (hk : 0 < ie.size) (hd : dstOk σ o = true) (hx : σ.eval x = some (.ref id)) (hy : σ.eval y = some yv) (hob : σ.obj id = some (.arr ie.size xs)) (hys : elemsA σ.obj yv = some ys) (hks : ∀ e, e ∈ ys → (cellsA e).length = ie.size)
    (hbytes : (xs.length + ys.length) * ie.bytes ≤ 140737488355328) (h62 : xs.length + ys.length ≤ 4611686018427387904) (hKσ : K ((σ.setObj id .dead).after o.dst (.ref σ.next) (some (.arr ie.size (xs ++ ys)))))
    (hr : RS N0 base w0 σ a w) {next : Act → World → Prop} {Q : Exit → Act → World → Prop} (hK : ∀ σ' a' w', K σ' → RS N0 base w0 σ' a' w' → next a' w') : o.wp P a w next Q := by
  refine take_step hob hd hKσ hr hK fun V hV => ?_
  obtain ⟨hrx, _⟩ := eval_rep hV hx
  obtain ⟨hry, _⟩ := eval_rep hV hy
  have hzs : ie.zero.cells.size = ie.size := by
    obtain ⟨info, _, _, _, _, _, h⟩ := hT e ie he
    exact h
  obtain ⟨hxv, hxo⟩ : a.eval x = V id ∧ (V id).oneCell' = true := by
    generalize a.eval x = v at hrx
    cases hrx with
    | im h => cases h
    | ref _ h => exact ⟨rfl, h⟩
  obtain ⟨a2, c2, e2, hsrc⟩ := src_values hys hry (fun i u hu => hV.obs i u hu) hk hks
  have hex : ∀ {b : Option Addr} {n c : Nat}, V id = .slice b n c → (execOp a.eval o).run P w = ((Builtin.append_ #[t, t] o.type #[.slice b n c, .slice a2 ys.length c2]).run P w).andThen fun v w => .ok (.value v) w := fun hv => by
    simp [execOp, ho, resolve, invoke, builtin, hxv, hv, e2]
  by_cases hne : ys = []
  · subst hne
    obtain ⟨b, n, c, hv, hnc⟩ : ∃ b n c, V id = .slice b n c ∧ n ≤ c := by
      rcases (hV.obs id _ hob).2 with ⟨a', h1, _⟩ | ⟨b, o', cap, arr, Ty, h1, _, _, h4, _⟩
      · exact ⟨a', 0, 0, h1, Nat.le_refl _⟩
      · exact ⟨_, _, _, h1, h4⟩
    refine ⟨V id, w, by rw [hex hv, hv]; simp only [List.length_nil]; rw [append_none hT hu he hnc]; rfl, hxo, Nat.le_refl _, fun _ _ _ => rfl, rfl, rfl, rfl, fun b hb => .inl (((hV.obs id _ hob).1 b).2 hb), fun hN => ⟨fun b => by rw [updV_same, updV_f], ?_⟩⟩
    rw [List.append_nil] at hN ⊢
    rcases (hV.obs id _ hob).2 with ⟨a', h1, h2⟩ | ⟨b, o', cap, arr, Ty, h1, h2, h3, h4, h5, h6, h7⟩
    · exact .inl ⟨a', by rw [updV_same]; exact h1, h2⟩
    · exact .inr ⟨b, o', cap, arr, Ty, by rw [updV_same]; exact h1, h2, h3, h4, h5, h6, fun i e j c h8 h9 => let ⟨u, hu, hr⟩ := h7 i e j c h8 h9; ⟨u, hu, hr.mono hN⟩⟩
  · have hpos : 0 < ys.length := by cases ys with | nil => exact absurd rfl hne | cons _ _ => simp
    rcases hsrc with h | ⟨a3, news, rfl, q1, q2, q3, q4⟩
    · exact absurd h hne
    · rcases (hV.obs id _ hob).2 with ⟨a', h1, h2⟩ | ⟨b, o', cap, arr, Ty, h1, h2, h3, h4, h5, h6, h7⟩
      · subst h2
        obtain ⟨cap, z, r1, r2, r3⟩ := append_grows (w := w) (ty := o.type) hT hu he (base := a') (sLen := 0) (sCap := 0) (xc := c2) (xa := a3) (olds := []) (news := news) (by simp) q1 (fun _ _ j v hj => by simp at hj) (fun _ => ⟨rfl, rfl⟩) q2 (Nat.le_refl 0) (by omega) (by simpa using hbytes) (by simpa using h62)
        refine ⟨.slice (some ⟨w.heap.size, 0, none⟩) ys.length cap, w.drew.alloc (.cells (news.toArray ++ z) e), by rw [hex h1, r1]; simp, rfl, by simp, fun b hb _ => heap_alloc_old w.drew _ b hb, rfl, rfl, rfl, fun b hb => .inr (blk_new (by simp) b hb), fun hN => ⟨fun b => by rw [updV_same, updV_f], ?_⟩⟩
        refine .inr ⟨w.heap.size, 0, cap, news.toArray ++ z, e, by rw [updV_same]; simp, heap_new w.drew _, by omega, by simp; omega, ?_, by simpa using hks, fun i e' j c h8 h9 => ?_⟩
        · simp only [Array.size_append, List.size_toArray, q1, r3, hzs, Nat.zero_add]
          rw [← Nat.add_mul]
          exact Nat.mul_le_mul_right _ (by omega)
        · obtain ⟨u, hu', hr⟩ := q4 i e' j c (by simpa using h8) h9
          refine ⟨u, ?_, hr.mono hN⟩
          have hlt := (List.getElem?_eq_some_iff.1 hu').1
          rw [Nat.zero_add, Array.getElem?_append_left (by simpa using hlt)]
          simpa using hu'
      · have hL : Laid (Nf N0 base V σ.obj) w ie.size xs o' arr := ⟨h6, h7⟩
        have hbk : V.f id b := ((hV.obs id _ hob).1 b).2 (by rw [h1]; simp [bl, blk]; omega)
        by_cases hroom : xs.length + ys.length ≤ cap
        · have r1 := append_room (w := w) (ty := o.type) (P := P) hT hu he (g := b) (o := o') (sLen := xs.length) (sCap := cap) (xc := c2) (n := ys.length) (xa := a3) (news := news) (cur := arr) (Ty := Ty) q1 q2 q3 h2 hroom h5
          have hfit : xs.length * ie.size + ys.length * ie.size ≤ cap * ie.size := by rw [← Nat.add_mul]; exact Nat.mul_le_mul_right _ hroom
          refine ⟨.slice (some ⟨b, o', none⟩) (xs.length + ys.length) cap, _, by rw [hex h1, r1]; rfl, rfl, by rw [setRow_size]; exact Nat.le_refl _, fun b' _ hb => setRow_other w b b' _ (fun e => hb (e ▸ hbk)), rfl, rfl, rfl, fun b' hb => .inl (by simp [blk] at hb; exact hb.2 ▸ hbk), fun hN => ⟨fun b => by rw [updV_same, updV_f], ?_⟩⟩
          refine .inr ⟨b, o', cap, _, Ty, by rw [updV_same]; simp, setRow_heap w b arr _ Ty _ h2, h3, by simpa using hroom, by simp [q1]; omega, fun e' he' => ?_, fun i e' j c h8 h9 => ?_⟩
          · rcases List.mem_append.1 he' with h | h
            · exact h6 e' h
            · exact hks e' h
          · simp only [List.getElem?_toArray]
            rw [splice_get (by simp [q1]; omega)]
            rw [List.getElem?_append] at h8
            split at h8
            · rename_i hi
              have hj : j < ie.size := by rw [← h6 e' (List.mem_of_getElem? h8)]; exact (List.getElem?_eq_some_iff.1 h9).1
              have := Nat.mul_le_mul_right ie.size (show i + 1 ≤ xs.length by omega)
              rw [Nat.add_mul, Nat.one_mul] at this
              rw [if_neg (by omega)]
              obtain ⟨u, hu', hr⟩ := h7 _ _ _ _ h8 h9
              exact ⟨u, by simpa using hu', hr.mono hN⟩
            · rename_i hi
              have hj : j < ie.size := by rw [← hks e' (List.mem_of_getElem? h8)]; exact (List.getElem?_eq_some_iff.1 h9).1
              have hi2 : i - xs.length < ys.length := (List.getElem?_eq_some_iff.1 h8).1
              obtain ⟨u, hu', hr⟩ := q4 _ _ _ _ h8 h9
              have e1 : i * ie.size = xs.length * ie.size + (i - xs.length) * ie.size := by rw [← Nat.add_mul]; congr 1; omega
              have e3 := Nat.mul_le_mul_right ie.size (show (i - xs.length) + 1 ≤ ys.length by omega)
              rw [Nat.add_mul, Nat.one_mul] at e3
              rw [if_pos ⟨by omega, by rw [q1]; omega⟩, show o' + (i * ie.size + j) - (o' + xs.length * ie.size) = (i - xs.length) * ie.size + j by omega]
              exact ⟨u, hu', hr.mono hN⟩
        · obtain ⟨olds, p1, p2, p3, p4⟩ := hL.values (.inl hk)
          obtain ⟨cap', z, r1, r2, r3⟩ := append_grows (w := w) (ty := o.type) hT hu he (base := some ⟨b, o', none⟩) (sLen := xs.length) (sCap := cap) (xc := c2) (xa := a3) (n := ys.length) (olds := olds) (news := news) p1 q1
            (fun b' hb j v hj => by
              injection hb with hb; subst hb
              rw [Addr.add_lit, cell_of_row w b _ arr Ty (0, 0) h2]; exact p2 j v hj) (fun h => by cases h) q2 h4 (by omega) hbytes h62
          refine ⟨.slice (some ⟨w.heap.size, 0, none⟩) (xs.length + ys.length) cap', w.drew.alloc (.cells (olds.toArray ++ news.toArray ++ z) e), by rw [hex h1, r1]; rfl, rfl, by simp, fun b hb _ => heap_alloc_old w.drew _ b hb, rfl, rfl, rfl, fun b hb => .inr (blk_new (by simp) b hb), fun hN => ⟨fun b => by rw [updV_same, updV_f], ?_⟩⟩
          refine .inr ⟨w.heap.size, 0, cap', _, e, by rw [updV_same]; simp, heap_new w.drew _, by omega, by simpa using r2, ?_, fun e' he' => ?_, fun i e' j c h8 h9 => ?_⟩
          · simp only [Array.size_append, List.size_toArray, p1, q1, r3, hzs, Nat.zero_add]
            rw [← Nat.add_mul, ← Nat.add_mul]
            exact Nat.mul_le_mul_right _ (by omega)
          · rcases List.mem_append.1 he' with h | h
            · exact h6 e' h
            · exact hks e' h
          · rw [Nat.zero_add]
            rw [List.getElem?_append] at h8
            split at h8
            · obtain ⟨u, hu', hr⟩ := p4 _ _ _ _ h8 h9
              have hlt := (List.getElem?_eq_some_iff.1 hu').1
              refine ⟨u, ?_, hr.mono hN⟩
              rw [Array.getElem?_append_left (by simp; omega), Array.getElem?_append_left (by simpa using hlt)]
              simpa using hu'
            · rename_i hi
              have hj : j < ie.size := by rw [← hks e' (List.mem_of_getElem? h8)]; exact (List.getElem?_eq_some_iff.1 h9).1
              have hi2 : i - xs.length < ys.length := (List.getElem?_eq_some_iff.1 h8).1
              obtain ⟨u, hu', hr⟩ := q4 _ _ _ _ h8 h9
              have hlt := (List.getElem?_eq_some_iff.1 hu').1
              have e1 : i * ie.size = xs.length * ie.size + (i - xs.length) * ie.size := by rw [← Nat.add_mul]; congr 1; omega
              refine ⟨u, ?_, hr.mono hN⟩
              rw [Array.getElem?_append_left (by simp; omega), Array.getElem?_append_right (by simp; omega)]
              simp only [List.size_toArray, p1, List.getElem?_toArray]
              rw [show i * ie.size + j - xs.length * ie.size = (i - xs.length) * ie.size + j by omega]
              exact hu'

theorem cut_step (hT : TOK P T) {o : Oper} {t e : TypeId} {ie : TI} {x : Operand} {lo hi : Option Operand} {id : Nat} {xs : List AV} {l h : Int} {K : St → Prop} (ho : o.op = .slice t x lo hi none)
    (hu : P.underlying t = some (.slice e)) (he : T e = some ie) (hd : dstOk σ o = true) (hx : σ.eval x = some (.ref id)) (hob : σ.obj id = some (.arr ie.size xs))
    (hlo : (lo = none ∧ l = 0) ∨ ∃ y k, lo = some y ∧ σ.eval y = some (.v (.int k l))) (hhi : (hi = none ∧ h = xs.length) ∨ ∃ y k, hi = some y ∧ σ.eval y = some (.v (.int k h))) (h0 : 0 ≤ l) (h1 : l ≤ h) (h2 : h ≤ xs.length)
    (hKσ : K ((σ.setObj id .dead).after o.dst (.ref σ.next) (some (.arr ie.size ((xs.take h.toNat).drop l.toNat)))))
    (hr : RS N0 base w0 σ a w) {next : Act → World → Prop} {Q : Exit → Act → World → Prop} (hK : ∀ σ' a' w', K σ' → RS N0 base w0 σ' a' w' → next a' w') : o.wp P a w next Q := by
  refine take_step hob hd hKσ hr hK fun V hV => ?_
  obtain ⟨hrx, _⟩ := eval_rep hV hx
  have hxv : a.eval x = V id := by
    generalize a.eval x = v at hrx
    cases hrx with
    | im h => cases h
    | ref _ h => rfl
  have hlo' : (lo.map a.eval = none ∧ l = 0) ∨ ∃ k, lo.map a.eval = some (.int k l) := by
    rcases hlo with ⟨rfl, h⟩ | ⟨y, k, rfl, hy⟩
    · exact .inl ⟨rfl, h⟩
    · exact .inr ⟨k, by rw [Option.map_some, eval_v (eval_rep hV hy).1]⟩
  have hhi' : ∀ {m : Nat}, m = xs.length → (hi.map a.eval = none ∧ h = m) ∨ ∃ k, hi.map a.eval = some (.int k h) := fun hm => by
    rcases hhi with ⟨rfl, h⟩ | ⟨y, k, rfl, hy⟩
    · exact .inl ⟨rfl, by rw [hm]; exact h⟩
    · exact .inr ⟨k, by rw [Option.map_some, eval_v (eval_rep hV hy).1]⟩
  have hex : ∀ {b : Option Addr} {n c : Nat}, V id = .slice b n c → n = xs.length → n ≤ c → (execOp a.eval o).run P w = .ok (.value (.slice (if c = l.toNat then b else b.map (·.add (l.toNat * ie.size))) (h.toNat - l.toNat) (c - l.toNat))) w := fun hv hn hc => by
    have hb := sliceBounds_run (P := P) (w := w) (isS := true) hlo' (hhi' hn) h0 h1 (by omega) hc
    simp only [execOp, ho, hxv, hv, Option.map_none, Instr.sliceAt, Sem.run_bind, run_underlying hu, Result.andThen_ok, Instr.slice, hb, run_sizeOf hT he, Sem.run_pure]
  have hlen : ((xs.take h.toNat).drop l.toNat).length = h.toNat - l.toNat := by simp; omega
  rcases (hV.obs id _ hob).2 with ⟨a', q1, q2⟩ | ⟨b, o', cap, arr, Ty, q1, q2, q3, q4, q5, q6, q7⟩
  · subst q2
    simp only [List.length_nil] at h2
    obtain rfl : l = 0 := by omega
    obtain rfl : h = 0 := by omega
    refine ⟨_, w, hex q1 rfl (Nat.le_refl _), rfl, Nat.le_refl _, fun _ _ _ => rfl, rfl, rfl, rfl, fun b hb => ?_, fun hN => ⟨fun b => by rw [updV_same, updV_f], .inl ⟨a', by rw [updV_same]; rfl, by simp⟩⟩⟩
    simp [blk_zero] at hb
  · have hbk : V.f id b := ((hV.obs id _ hob).1 b).2 (by rw [q1]; simp [bl, blk]; omega)
    refine ⟨_, w, hex q1 rfl q4, rfl, Nat.le_refl _, fun _ _ _ => rfl, rfl, rfl, rfl, fun b' hb => ?_, fun hN => ⟨fun b => by rw [updV_same, updV_f], ?_⟩⟩
    · left
      by_cases hc : cap = l.toNat
      · rw [hc, Nat.sub_self, blk_zero] at hb; cases hb
      · rw [if_neg hc] at hb
        simp only [Option.map_some, Addr.add_lit, blk] at hb
        rw [if_neg (by omega)] at hb
        injection hb with hb; exact hb ▸ hbk
    · by_cases hc : cap = l.toNat
      · left
        refine ⟨_, by rw [updV_same, hc, Nat.sub_self, show h.toNat - l.toNat = 0 by omega], List.eq_nil_of_length_eq_zero (by rw [hlen]; omega)⟩
      · right
        have hm : l.toNat * ie.size + (cap - l.toNat) * ie.size = cap * ie.size := by rw [← Nat.add_mul]; congr 1; omega
        refine ⟨b, o' + l.toNat * ie.size, cap - l.toNat, arr, Ty, by rw [updV_same, if_neg hc, hlen]; simp [Addr.add_lit], q2, by omega, by rw [hlen]; omega, by omega, fun e he => q6 e (List.mem_of_mem_take (List.mem_of_mem_drop he)), fun i e j c h8 h9 => ?_⟩
        have h8' : xs[l.toNat + i]? = some e := by
          rw [List.getElem?_drop, List.getElem?_take] at h8
          split at h8
          · exact h8
          · cases h8
        obtain ⟨u, hu', hr⟩ := q7 _ _ _ _ h8' h9
        refine ⟨u, ?_, hr.mono hN⟩
        rw [show o' + l.toNat * ie.size + (i * ie.size + j) = o' + ((l.toNat + i) * ie.size + j) by rw [Nat.add_mul]; omega]
        exact hu'

end
end Go.Sk
