/- A checker of Go functions by conditions over small pure states: part 7. -/
import Derived.Test.YtkecpgidolphfaaSk4
import Derived.Test.YtkecpgidolphfaaSk5

-- SkS
/- One state forgets what another one knows. -/
namespace Go.Sk
set_option linter.unusedVariables false
set_option linter.unusedSimpArgs false
open Go.RowKit

inductive Src where
  | obj (i : Nat)
  | tmp (t : Nat)
  | cell (i j : Nat)
  deriving DecidableEq

def notSrc (i : Nat) : List Src → Bool
  | [] => true
  | .obj k :: r => (k != i) && notSrc i r
  | _ :: r => notSrc i r
def distinct : List Src → Bool
  | [] => true
  | .obj k :: r => notSrc k r && distinct r
  | _ :: r => distinct r

/-- These objects lie where they lay. -/
def fixB (ss : List Src) : List Nat → Bool
  | [] => true
  | i :: r => (match ss[i]? with | some (.obj k) => k.beq i | _ => false) && fixB ss r
theorem fixB_spec {ss : List Src} : ∀ {ids : List Nat}, fixB ss ids = true → ∀ i, i ∈ ids → ss[i]? = some (.obj i)
  | [], _, i, h => by cases h
  | k :: r, h, i, hi => by
    simp only [fixB, Bool.and_eq_true] at h
    rcases List.mem_cons.1 hi with rfl | hi
    · have h1 := h.1
      split at h1
      · rename_i k' hk
        rw [hk, Nat.eq_of_beq_eq_true h1]
      · cases h1
    · exact fixB_spec h.2 i hi

/-- A cell of an own slice of slices as an immutable value. -/
def pubC : AV → Option AV
  | .own _ ys => some (.sl ys)
  | .sl xs => some (.sl xs)
  | .v x => if x.oneCell' then some (.v x) else none
  | .nils => some (.sl [])
  | _ => none
def pubCL : List AV → Option (List AV)
  | [] => some []
  | x :: r => match pubC x, pubCL r with | some y, some s => some (y :: s) | _, _ => none
def pubE : AV → Option AV
  | .ag cs => (pubCL cs).map .ag
  | x => pubC x
def PubL (xs ys : List AV) : Prop := xs.length = ys.length ∧ ∀ (i : Nat) (e e' : AV), xs[i]? = some e → ys[i]? = some e' → pubE e = some e'

/-- y may be forgotten to x. -/
def leC0 (σ : St) (ss : List Src) (here : Option Src) (y x : AV) : Prop :=
  match y, x with
  | _, .undef => True
  | .ref i, .ref i' => ss[i']? = some (.obj i)
  | .ref i, .sl xs => match σ.obj i with
    | some (.arr _ ys) => ys = xs ∧ notSrc i ss = true
    | some (.tre _ ys) => PubL ys xs ∧ notSrc i ss = true
    | some (.pub ys) => ys = xs
    | _ => False
  | .nils, .sl xs => xs = []
  | .nils, .ref i' => match here with
    | some h => ss[i']? = some h
    | none => False
  | .nils, .nils => True
  | .ptr i j, .ptr i' j' => ss[i']? = some (.obj i) ∧ j = j'
  | .v a, .v b => a = b
  | .sl xs, .sl ys => xs = ys
  | .skip, .skip => True
  | _, _ => False
def leL0 (σ : St) (ss : List Src) : List AV → List AV → Prop
  | [], [] => True
  | y :: ys, x :: xs => leC0 σ ss none y x ∧ leL0 σ ss ys xs
  | _, _ => False
def leC (σ : St) (ss : List Src) (here : Option Src) (y x : AV) : Prop :=
  match y, x with
  | .fn f fs cs, .fn f' fs' cs' => f = f' ∧ leL0 σ ss fs fs' ∧ leL0 σ ss cs cs'
  | y, x => leC0 σ ss here y x
def leL (σ : St) (ss : List Src) : List AV → List AV → Prop
  | [], [] => True
  | y :: ys, x :: xs => leC σ ss none y x ∧ leL σ ss ys xs
  | _, _ => False
def leV1 (σ : St) (ss : List Src) (here : Option Src) (y x : AV) : Prop :=
  match y, x with
  | .ag ys, .ag xs => leL σ ss ys xs
  | y, x => leC σ ss here y x
def leL1 (σ : St) (ss : List Src) : List AV → List AV → Prop
  | [], [] => True
  | y :: ys, x :: xs => leV1 σ ss none y x ∧ leL1 σ ss ys xs
  | _, _ => False
def leV (σ : St) (ss : List Src) (here : Option Src) (y x : AV) : Prop :=
  match y, x with
  | .tup ys, .tup xs => leL1 σ ss ys xs
  | y, x => leV1 σ ss here y x

def leT (σ : St) (ss : List Src) : List (Nat × AV) → Prop
  | [] => True
  | (t, x) :: r => (match σ.get t with | some y => leV σ ss (some (.tmp t)) y x | none => x = .undef) ∧ leT σ ss r

def leB (σ : St) (ss : List Src) (i : Nat) : Nat → List AV → List AV → Prop
  | _, [], [] => True
  | j, y :: ys, x :: xs => leC σ ss (some (.cell i j)) y x ∧ leB σ ss i (j + 1) ys xs
  | _, _, _ => False
def leO (σ : St) (ss : List Src) (s : Src) (o : AO) : Prop :=
  match s with
  | .obj i => match σ.obj i, o with
    | some (.arr k xs), .arr k' xs' => k = k' ∧ xs = xs'
    | some (.arr _ xs), .pub xs' => xs = xs'
    | some (.tre k xs), .tre k' xs' => k = k' ∧ xs = xs' ∧ bdO (fun _ => False) (.tre k xs)
    | some (.tre _ xs), .pub xs' => PubL xs xs'
    | _, .dead => True
    | some (.pub xs), .pub xs' => xs = xs'
    | some (.box cs), .box ds => leB σ ss i 0 cs ds
    | some (.gh G), .gh G' => G = G'
    | _, _ => False
  | .tmp t => match σ.get t, o with
    | some .nils, .arr _ xs => xs = []
    | some .nils, .tre _ xs => xs = []
    | _, _ => False
  | .cell i j => match σ.obj i, o with
    | some (.box cs), .arr _ xs => cs[j]? = some .nils ∧ xs = []
    | some (.box cs), .tre _ xs => cs[j]? = some .nils ∧ xs = []
    | _, _ => False
def leOs (σ : St) (ss : List Src) : List (Nat × AO) → Prop
  | [] => True
  | (i, o) :: r => (match ss[i]? with | some s => leO σ ss s o | none => False) ∧ leOs σ ss r

/-- The state τ knows no more than σ; its own objects come from where ss says. -/
def LeS (σ : St) (ss : List Src) (τ : St) : Prop := (distinct ss && fixB ss σ.par) = true ∧ (τ.size, τ.par) = (σ.size, σ.par) ∧ τ.next = ss.length ∧ leT σ ss τ.tmps ∧ leOs σ ss τ.objs
def Le (σ τ : St) : Prop := ∃ ss, LeS σ ss τ

def valAt (V : VV) (a : Act) (w : World) : Src → Value
  | .obj i => V i
  | .tmp t => a.tmps.getD t Go.undef
  | .cell i j => match V i with
    | .pointer (some p) => (w.cell? ⟨p.block, p.off + j, none⟩).getD Go.undef
    | _ => Go.undef

def newV (V : VV) (a : Act) (w : World) (ss : List Src) : VV :=
  ⟨fun i => match ss[i]? with
    | some s => valAt V a w s
    | none => .nilFunc, fun i => match ss[i]? with
    | some (.obj k) => V.f k
    | _ => fun _ => False⟩

theorem notSrc_spec {i : Nat} : ∀ {ss : List Src}, notSrc i ss = true → ∀ j : Nat, ss[j]? ≠ some (.obj i)
  | [], _, j, h => by simp at h
  | s :: r, hn, j, h => by
    cases j with
    | zero =>
      simp at h; subst h
      simp [notSrc] at hn
    | succ j =>
      refine notSrc_spec (ss := r) ?_ j (by simpa using h)
      cases s <;> simp_all [notSrc]

theorem distinct_spec : ∀ {ss : List Src}, distinct ss = true → ∀ {i j k : Nat}, ss[i]? = some (.obj k) → ss[j]? = some (.obj k) → i = j
  | [], _, i, j, k, h1, _ => by simp at h1
  | s :: r, hd, i, j, k, h1, h2 => by
    have hr : distinct r = true := by cases s <;> simp_all [distinct]
    cases i with
    | zero => cases j with
      | zero => rfl
      | succ j =>
        simp at h1; subst h1
        simp only [distinct, Bool.and_eq_true] at hd
        exact absurd (by simpa using h2) (notSrc_spec hd.1 j)
    | succ i => cases j with
      | zero =>
        simp at h2; subst h2
        simp only [distinct, Bool.and_eq_true] at hd
        exact absurd (by simpa using h1) (notSrc_spec hd.1 i)
      | succ j => exact congrArg (· + 1) (distinct_spec hr (i := i) (j := j) (k := k) (by simpa using h1) (by simpa using h2))

section
variable {N0 : Nat → Prop} {base : Nat} {w0 : W0} {σ τ : St} {a : Act} {w : World} {ss : List Src} {V : VV}

theorem look_mem {α : Type} : ∀ {l : List (Nat × α)} {t : Nat} {x : α}, look l t = some x → (t, x) ∈ l
  | [], t, x, h => by simp [look] at h
  | (t', y) :: r, t, x, h => by
    unfold look at h
    split at h
    · injection h with h; subst h; rename_i e; subst e; simp
    · exact List.mem_cons_of_mem _ (look_mem h)

theorem leT_get : ∀ {l : List (Nat × AV)}, leT σ ss l → ∀ t x, (t, x) ∈ l → (∃ y, σ.get t = some y ∧ leV σ ss (some (.tmp t)) y x) ∨ x = .undef
  | [], _, t, x, h => by simp at h
  | (t', y) :: r, hl, t, x, h => by
    unfold leT at hl
    rcases List.mem_cons.1 h with h | h
    · injection h with h1 h2
      subst h1; subst h2
      obtain ⟨hl, _⟩ := hl
      split at hl
      · exact .inl ⟨_, by assumption, hl⟩
      · exact .inr hl
    · exact leT_get hl.2 t x h

theorem leOs_get : ∀ {l : List (Nat × AO)}, leOs σ ss l → ∀ i o, (i, o) ∈ l → ∃ s, ss[i]? = some s ∧ leO σ ss s o
  | [], _, i, o, h => by simp at h
  | (i', o') :: r, hl, i, o, h => by
    unfold leOs at hl
    rcases List.mem_cons.1 h with h | h
    · injection h with h1 h2
      subst h1; subst h2
      obtain ⟨hl, _⟩ := hl
      split at hl
      · exact ⟨_, by assumption, hl⟩
      · exact hl.elim
    · exact leOs_get hl.2 i o h

theorem leL0_get : ∀ {ys xs : List AV}, leL0 σ ss ys xs → ys.length = xs.length ∧ ∀ (j : Nat) (h1 : j < ys.length) (h2 : j < xs.length), leC0 σ ss none ys[j] xs[j]
  | [], [], h => ⟨rfl, fun j h1 => by simp at h1⟩
  | y :: ys, x :: xs, h => by
    obtain ⟨h1, h2⟩ := leL0_get (ys := ys) (xs := xs) h.2
    refine ⟨by simp [h1], fun j h3 h4 => ?_⟩
    cases j with
    | zero => exact h.1
    | succ j => exact h2 j (Nat.lt_of_succ_lt_succ h3) (Nat.lt_of_succ_lt_succ h4)
  | [], _ :: _, h => by simp [leL0] at h
  | _ :: _, [], h => by simp [leL0] at h

theorem pubCL_get : ∀ {cs ds : List AV}, pubCL cs = some ds → cs.length = ds.length ∧ ∀ (j : Nat) (c d : AV), cs[j]? = some c → ds[j]? = some d → pubC c = some d
  | [], ds, h => by simp [pubCL] at h; subst h; exact ⟨rfl, fun j c d h1 => by simp at h1⟩
  | x :: r, ds, h => by
    simp only [pubCL] at h
    split at h
    · rename_i y s h1 h2
      injection h with h; subst h
      obtain ⟨i1, i2⟩ := pubCL_get h2
      refine ⟨by simp [i1], fun j c d h3 h4 => ?_⟩
      cases j with
      | zero => simp at h3 h4; subst h3; subst h4; exact h1
      | succ j => exact i2 j c d (by simpa using h3) (by simpa using h4)
    · cases h

theorem pubE_get {e e' : AV} (h : pubE e = some e') : (cellsA e).length = (cellsA e').length ∧ ∀ (j : Nat) (c d : AV), (cellsA e)[j]? = some c → (cellsA e')[j]? = some d → pubC c = some d := by
  unfold pubE at h
  split at h
  · rename_i cs
    cases hl : pubCL cs with
    | none => simp [hl] at h
    | some ds => simp [hl] at h; subst h; exact pubCL_get hl
  · rename_i hne
    have h1 : cellsA e = [e] := by cases e <;> first | rfl | exact absurd rfl (hne _)
    have h2 : cellsA e' = [e'] := by
      unfold pubC at h
      split at h <;> (try split at h) <;> first | (cases h; done) | (cases h; rfl)
    rw [h1, h2]
    refine ⟨rfl, fun j c d q1 q2 => ?_⟩
    cases j with
    | zero => simp at q1 q2; subst q1; subst q2; exact h
    | succ j => simp at q1

theorem pubC_rep {N N' : Nat → Prop} {g : Nat → Prop} {c d : AV} {u : Value} (h : pubC c = some d) (hr : RepW N w V g c u) (hN : ∀ b, N b → b < w.heap.size → N' b ∧ w.heap[b]? = w.heap[b]?) (hg : ∀ b, g b → N' b) : Rep N' w d u := by
  unfold pubC at h
  split at h
  · rename_i k ys
    injection h with h; subst h
    obtain ⟨h1, h2⟩ := hr
    rcases h1 with ⟨a, h1, rfl⟩ | ⟨b, o, cap, arr, T, h1, h3, h4, h5, h6, h7, h8⟩
    · rw [h1]; exact .nil _ _
    · rw [h1]
      refine Laid.rep (k := k) (arr := arr) ⟨h7, fun i e j c q1 q2 => let ⟨u, hu, hr⟩ := h8 i e j c q1 q2; ⟨u, hu, hr.mono hN⟩⟩ h3 (hg b ((h2 b).2 ?_)) h5
      rw [h1]; simp [bl, blk]; omega
  · injection h with h; subst h
    cases hr.1 with
    | im h => exact h.mono hN
  · split at h
    · injection h with h; subst h
      cases hr.1 with
      | im h => exact h.mono hN
    · cases h
  · injection h with h; subst h
    cases hr.1 with
    | im h => cases h
    | nils b => exact .nil _ _
  · cases h

theorem pub_tre {N N' : Nat → Prop} {id k : Nat} {xs ys : List AV} (h : RepO N w V id (.tre k xs)) (hp : PubL xs ys) (hN : ∀ b, N b → b < w.heap.size → N' b ∧ w.heap[b]? = w.heap[b]?) (hF : ∀ b, V.f id b → N' b) : Rep N' w (.sl ys) (V id) := by
  obtain ⟨hp1, hp2⟩ := hp
  rcases h with ⟨a, h1, rfl, _⟩ | ⟨b, o, cap, arr, T, G, h1, h2, h3, h4, h5, h6, h7, h8, h9, h10⟩
  · have : ys = [] := List.eq_nil_of_length_eq_zero (by simpa using hp1.symm)
    subst this; rw [h1]; exact .nil _ _
  · have hget : ∀ (i : Nat) (e' : AV) (j : Nat) (d : AV), ys[i]? = some e' → (cellsA e')[j]? = some d → ∃ u, arr[o + (i * k + j)]? = some u ∧ Rep N' w d u := by
      intro i e' j d q1 q2
      have hi : i < xs.length := by rw [hp1]; exact (List.getElem?_eq_some_iff.1 q1).1
      have q3 := List.getElem?_eq_getElem hi
      obtain ⟨r1, r2⟩ := pubE_get (hp2 i _ _ q3 q1)
      have hj : j < (cellsA xs[i]).length := by rw [r1]; exact (List.getElem?_eq_some_iff.1 q2).1
      have q4 := List.getElem?_eq_getElem hj
      obtain ⟨u, hu, _, hr⟩ := h7 i _ j _ q3 q4
      refine ⟨u, hu, pubC_rep (r2 j _ _ q4 q2) hr hN fun b' hb' => hF b' ((h10 b').2 (.inr ⟨_, ?_, hb'⟩))⟩
      have hjk : j < k := by rw [← h6 xs[i] (List.getElem_mem _)]; exact hj
      have := Nat.mul_le_mul_right k (show i + 1 ≤ xs.length by omega)
      rw [Nat.add_mul, Nat.one_mul] at this
      omega
    rw [h1, hp1]
    refine Laid.rep (k := k) (arr := arr) ⟨fun e' he' => ?_, hget⟩ h2 (hF b ((h10 b).2 (.inl rfl))) (by omega)
    obtain ⟨i, hi, rfl⟩ := List.mem_iff_getElem.1 he'
    have hi' : i < xs.length := by omega
    rw [← (pubE_get (hp2 i _ _ (List.getElem?_eq_getElem hi') (List.getElem?_eq_getElem hi))).1]
    exact h6 _ (List.getElem_mem _)

mutual
theorem ren_free {f : Nat → Nat} : ∀ (x : AV), bd (fun _ => False) x → ren f x = x
  | .ref id, hb => by unfold bd at hb; exact hb.elim
  | .ptr id _, hb => by unfold bd at hb; exact hb.elim
  | .pea id _ _ _, hb => by unfold bd at hb; exact hb.elim
  | .ag cs, hb => by unfold bd at hb; unfold ren; rw [renL_free cs hb]
  | .tup cs, hb => by unfold bd at hb; unfold ren; rw [renL_free cs hb]
  | .fn _ fs cs, hb => by unfold bd at hb; unfold ren; rw [renL_free fs hb.1, renL_free cs hb.2]
  | .v _, _ | .sl _, _ | .pel _, _ | .nils, _ | .skip, _ | .undef, _ | .own _ _, _ => by unfold ren; rfl
theorem renL_free {f : Nat → Nat} : ∀ (xs : List AV), bdL (fun _ => False) xs → renL f xs = xs
  | [], _ => by unfold renL; rfl
  | x :: r, hb => by unfold bdL at hb; unfold renL; rw [ren_free x hb.1, renL_free r hb.2]
end

theorem renO_free {f : Nat → Nat} {k : Nat} {xs : List AV} (h : bdO (fun _ => False) (.tre k xs)) : renO f (.tre k xs) = .tre k xs := by
  have : ∀ (l : List AV), (∀ e, e ∈ l → bdL (fun _ => False) (cellsA e)) → renL f l = l := by
    intro l
    induction l with
    | nil => intro _; unfold renL; rfl
    | cons e r ih =>
      intro h
      unfold renL
      rw [ih fun e he => h e (by simp [he])]
      have he := h e (by simp)
      rw [ren_free e ?_]
      cases e <;> simp_all [cellsA, bdL, bd]
  show AO.tre k (renL f xs) = AO.tre k xs
  rw [this xs h]

theorem leL_get : ∀ {ys xs : List AV}, leL σ ss ys xs → ys.length = xs.length ∧ ∀ (j : Nat) (h1 : j < ys.length) (h2 : j < xs.length), leC σ ss none ys[j] xs[j]
  | [], [], _ => ⟨rfl, fun j h => by simp at h⟩
  | y :: ys, x :: xs, h => by
    unfold leL at h
    obtain ⟨h1, h2⟩ := leL_get h.2
    refine ⟨by simp [h1], fun j h3 h4 => ?_⟩
    cases j with
    | zero => exact h.1
    | succ j => exact h2 j (Nat.lt_of_succ_lt_succ h3) (Nat.lt_of_succ_lt_succ h4)
  | [], _ :: _, h => by simp [leL] at h
  | _ :: _, [], h => by simp [leL] at h

theorem leL1_get : ∀ {ys xs : List AV}, leL1 σ ss ys xs → ys.length = xs.length ∧ ∀ (j : Nat) (h1 : j < ys.length) (h2 : j < xs.length), leV1 σ ss none ys[j] xs[j]
  | [], [], _ => ⟨rfl, fun j h => by simp at h⟩
  | y :: ys, x :: xs, h => by
    unfold leL1 at h
    obtain ⟨h1, h2⟩ := leL1_get h.2
    refine ⟨by simp [h1], fun j h3 h4 => ?_⟩
    cases j with
    | zero => exact h.1
    | succ j => exact h2 j (Nat.lt_of_succ_lt_succ h3) (Nat.lt_of_succ_lt_succ h4)
  | [], _ :: _, h => by simp [leL1] at h
  | _ :: _, [], h => by simp [leL1] at h

theorem leB_get {i : Nat} : ∀ {j0 : Nat} {ys xs : List AV}, leB σ ss i j0 ys xs → ys.length = xs.length ∧ ∀ (j : Nat) (h1 : j < ys.length) (h2 : j < xs.length), leC σ ss (some (.cell i (j0 + j))) ys[j] xs[j]
  | _, [], [], _ => ⟨rfl, fun j h => by simp at h⟩
  | j0, y :: ys, x :: xs, h => by
    unfold leB at h
    obtain ⟨h1, h2⟩ := leB_get h.2
    refine ⟨by simp [h1], fun j h3 h4 => ?_⟩
    cases j with
    | zero => exact h.1
    | succ j =>
      have := h2 j (Nat.lt_of_succ_lt_succ h3) (Nat.lt_of_succ_lt_succ h4)
      rw [show j0 + (j + 1) = j0 + 1 + j by omega]
      exact this
  | _, [], _ :: _, h => by simp [leB] at h
  | _, _ :: _, [], h => by simp [leB] at h

theorem LeS.sound (h : RS N0 base w0 σ a w) (hl : LeS σ ss τ) : RS N0 base w0 τ a w := by
  obtain ⟨hp, V, hV⟩ := h
  obtain ⟨hdi, hsp, hnext, hT, hO⟩ := hl
  simp only [Bool.and_eq_true] at hdi
  obtain ⟨hdist, hids⟩ := hdi
  simp only [Prod.mk.injEq] at hsp
  obtain ⟨hsize, hpar⟩ := hsp
  -- live objects of τ come from live objects of σ, or have no block
  have hlive : ∀ i b, live τ.obj i → (newV V a w ss).f i b → ∃ k, ss[i]? = some (.obj k) ∧ live σ.obj k ∧ V.f k b := by
    intro i b ⟨o, ho, hlv⟩ hb
    obtain ⟨s, hs, hle⟩ := leOs_get hO i o (look_mem ho)
    unfold newV at hb
    simp only [hs] at hb
    cases s with
    | obj k =>
      refine ⟨k, hs, ?_, hb⟩
      unfold leO at hle
      simp only at hle
      split at hle
      · exact ⟨_, by assumption, rfl⟩
      · exact ⟨_, by assumption, rfl⟩
      · exact ⟨_, by assumption, rfl⟩
      · exact ⟨_, by assumption, rfl⟩
      · cases hlv
      · cases hlv
      · exact ⟨_, by assumption, rfl⟩
      · exact ⟨_, by assumption, rfl⟩
      · exact hle.elim
    | tmp t => exact hb.elim
    | cell k j => exact hb.elim
  have hNf : ∀ b, Nf N0 base V σ.obj b → Nf N0 base (newV V a w ss) τ.obj b := fun b hN => ⟨hN.1, fun i hl hb => by
    obtain ⟨k, _, h1, h2⟩ := hlive i b hl hb
    exact hN.2 k h1 h2⟩
  have hNm : ∀ b, Nf N0 base V σ.obj b → b < w.heap.size → Nf N0 base (newV V a w ss) τ.obj b ∧ w.heap[b]? = w.heap[b]? := fun b hN _ => ⟨hNf b hN, rfl⟩
  have hbdN : ∀ i : Nat, ∀ s, ss[i]? = some s → i < τ.next := fun i s hs => by rw [hnext]; exact (List.getElem?_eq_some_iff.1 hs).1
  have nF : ∀ {i k : Nat}, ss[i]? = some (.obj k) → (newV V a w ss).f i = V.f k := fun hs => by unfold newV; simp only [hs]
  have notOld : ∀ {i b : Nat}, live σ.obj i → notSrc i ss = true → V.f i b → Nf N0 base (newV V a w ss) τ.obj b := fun {i b} hli hns hbk => by
    refine ⟨fun hb => ?_, fun i' hl hb => ?_⟩
    · rcases (hV.low i b hli hbk).1 with q | ⟨_, q⟩
      · omega
      · exact q
    · obtain ⟨k', hs, h8, h9⟩ := hlive i' b hl hb
      have := hV.inj k' i b h8 hli h9 hbk
      subst this
      exact notSrc_spec hns i' hs
  have pubRep : ∀ {k : Nat} {xs : List AV} {i : Nat}, σ.obj i = some (.arr k xs) → notSrc i ss = true → Rep (Nf N0 base (newV V a w ss) τ.obj) w (.sl xs) (V i) := by
    intro k xs i hob hns
    obtain ⟨h0, h00⟩ := hV.obs i _ hob
    rcases h00 with ⟨a', h1, h2⟩ | ⟨b, o, cap, arr, Ty, h1, h2, h3, h4, h5, h6, h7⟩
    · rw [h1, h2]; exact .nil _ _
    · have hbk : V.f i b := (h0 b).2 (by rw [h1]; simp [bl, blk]; omega)
      rw [h1]
      exact Laid.rep (k := k) (arr := arr) ⟨h6, fun i e j c h8 h9 => let ⟨u, hu, hr⟩ := h7 i e j c h8 h9; ⟨u, hu, hr.mono hNm⟩⟩ h2 (notOld ⟨_, hob, rfl⟩ hns hbk) h4
  have hC0 : ∀ {here : Option Src} {y x : AV} {v : Value}, leC0 σ ss here y x → RepT (Nf N0 base V σ.obj) w V y v → (∀ s, here = some s → y = .nils → valAt V a w s = v) →
      RepT (Nf N0 base (newV V a w ss) τ.obj) w (newV V a w ss) x v ∧ bd (fun i => i < τ.next) x := by
    intro here y x v hle hr hh
    have nV : ∀ {i : Nat} {s : Src}, ss[i]? = some s → newV V a w ss i = valAt V a w s := fun hs => by unfold newV; simp only [hs]
    unfold leC0 at hle
    split at hle
    · exact ⟨.undef v, by simp [bd]⟩
    · rename_i i i'
      cases hr with
      | im h => cases h
      | ref _ ho =>
        have := RepT.ref (N := Nf N0 base (newV V a w ss) τ.obj) (w := w) (V := newV V a w ss) i' (by rw [nV hle]; exact ho)
        rw [nV hle] at this
        exact ⟨this, by unfold bd; exact hbdN _ _ hle⟩
    · rename_i i xs
      cases hr with
      | im h => cases h
      | ref _ ho =>
        split at hle
        · rename_i k ys hob
          obtain ⟨rfl, hns⟩ := hle
          exact ⟨.im (pubRep hob hns), by simp [bd]⟩
        · rename_i k ys hob
          obtain ⟨hp, hns⟩ := hle
          exact ⟨.im (pub_tre (hV.obs i _ hob) hp hNm fun b hb => notOld ⟨_, hob, rfl⟩ hns hb), by simp [bd]⟩
        · rename_i ys hob
          subst hle
          have : Rep (Nf N0 base V σ.obj) w (.sl ys) (V i) := hV.obs i _ hob
          exact ⟨.im (this.mono hNm), by simp [bd]⟩
        · exact hle.elim
    · subst hle
      cases hr with
      | im h => cases h
      | nils b => exact ⟨.im (.nil b 0), by simp [bd]⟩
    · rename_i i'
      split at hle
      · rename_i s
        have hv := hh s rfl rfl
        have := RepT.ref (N := Nf N0 base (newV V a w ss) τ.obj) (w := w) (V := newV V a w ss) i' (by
          rw [nV hle, hv]
          cases hr with
          | im h => cases h
          | nils b => rfl)
        rw [nV hle, hv] at this
        exact ⟨this, by unfold bd; exact hbdN _ _ hle⟩
      · exact hle.elim
    · cases hr with
      | im h => cases h
      | nils b => exact ⟨.nils b, by simp [bd]⟩
    · obtain ⟨hs, rfl⟩ := hle
      cases hr with
      | im h => cases h
      | ptr _ _ b o h => exact ⟨.ptr _ _ b o (by rw [nV hs]; exact h), by unfold bd; exact hbdN _ _ hs⟩
    · subst hle
      cases hr with
      | im h => exact ⟨.im (h.mono hNm), by simp [bd]⟩
    · subst hle
      cases hr with
      | im h => exact ⟨.im (h.mono hNm), by simp [bd]⟩
    · cases hr with
      | im h => cases h
      | skip => exact ⟨.skip, by simp [bd]⟩
    · exact hle.elim
  have hL0 : ∀ {ys xs : List AV}, leL0 σ ss ys xs → ys.length = xs.length ∧ ∀ (j : Nat) (h1 : j < ys.length) (h2 : j < xs.length), leC0 σ ss none ys[j] xs[j] := fun h => leL0_get h
  have hC : ∀ {here : Option Src} {y x : AV} {v : Value}, leC σ ss here y x → RepT (Nf N0 base V σ.obj) w V y v → (∀ s, here = some s → y = .nils → valAt V a w s = v) →
      RepT (Nf N0 base (newV V a w ss) τ.obj) w (newV V a w ss) x v ∧ bd (fun i => i < τ.next) x := by
    intro here y x v hle hr hh
    unfold leC at hle
    split at hle
    · rename_i f fs cs f' fs' cs'
      obtain ⟨rfl, h1, h2⟩ := hle
      obtain ⟨l1, g1⟩ := hL0 h1
      obtain ⟨l2, g2⟩ := hL0 h2
      cases hr with
      | im h => cases h
      | fn _ _ _ us vs hs hs' hr hr' =>
        refine ⟨.fn f fs' cs' us vs (by omega) (by omega) (fun j h3 h4 => (hC0 (g1 j (by omega) h3) (hr j (by omega) h4) (fun s hs => by cases hs)).1) (fun j h3 h4 => (hC0 (g2 j (by omega) h3) (hr' j (by omega) h4) (fun s hs => by cases hs)).1), ?_⟩
        unfold bd
        refine ⟨bdL_iff.2 fun x hx => ?_, bdL_iff.2 fun x hx => ?_⟩
        · obtain ⟨j, q1, q2⟩ := List.mem_iff_getElem.1 hx
          exact q2 ▸ (hC0 (g1 j (by omega) q1) (hr j (by omega) (by omega)) (fun s hs => by cases hs)).2
        · obtain ⟨j, q1, q2⟩ := List.mem_iff_getElem.1 hx
          exact q2 ▸ (hC0 (g2 j (by omega) q1) (hr' j (by omega) (by omega)) (fun s hs => by cases hs)).2
    · exact hC0 hle hr hh
  have hV1 : ∀ {here : Option Src} {y x : AV} {v : Value}, leV1 σ ss here y x → RepT (Nf N0 base V σ.obj) w V y v → (∀ s, here = some s → y = .nils → valAt V a w s = v) →
      RepT (Nf N0 base (newV V a w ss) τ.obj) w (newV V a w ss) x v ∧ bd (fun i => i < τ.next) x := by
    intro here y x v hle hr hh
    unfold leV1 at hle
    split at hle
    · rename_i ys xs
      obtain ⟨h1, h2⟩ := leL_get hle
      cases hr with
      | im h => cases h
      | ag _ vs hs hr ho =>
        refine ⟨.ag xs vs (by omega) (fun j h3 h4 => (hC (h2 j (by omega) h3) (hr j (by omega) h4) (fun s hs => by cases hs)).1) ho, ?_⟩
        unfold bd
        refine bdL_iff.2 fun x hx => ?_
        obtain ⟨j, q1, q2⟩ := List.mem_iff_getElem.1 hx
        exact q2 ▸ (hC (h2 j (by omega) q1) (hr j (by omega) (by omega)) (fun s hs => by cases hs)).2
    · exact hC hle hr hh
  have hVV : ∀ {here : Option Src} {y x : AV} {v : Value}, leV σ ss here y x → RepT (Nf N0 base V σ.obj) w V y v → (∀ s, here = some s → y = .nils → valAt V a w s = v) →
      RepT (Nf N0 base (newV V a w ss) τ.obj) w (newV V a w ss) x v ∧ bd (fun i => i < τ.next) x := by
    intro here y x v hle hr hh
    unfold leV at hle
    split at hle
    · rename_i ys xs
      obtain ⟨h1, h2⟩ := leL1_get hle
      cases hr with
      | im h => cases h
      | tup _ vs hs hr =>
        refine ⟨.tup xs vs (by omega) (fun j h3 h4 => (hV1 (h2 j (by omega) h3) (hr j (by omega) h4) (fun s hs => by cases hs)).1), ?_⟩
        unfold bd
        refine bdL_iff.2 fun x hx => ?_
        obtain ⟨j, q1, q2⟩ := List.mem_iff_getElem.1 hx
        exact q2 ▸ (hV1 (h2 j (by omega) q1) (hr j (by omega) (by omega)) (fun s hs => by cases hs)).2
    · exact hV1 hle hr hh
  have hTm : ∀ t x, τ.get t = some x → RepT (Nf N0 base (newV V a w ss) τ.obj) w (newV V a w ss) x (a.tmps.getD t Go.undef) ∧ bd (fun i => i < τ.next) x := fun t x hx => by
    rcases leT_get hT t x (look_mem hx) with ⟨y, h1, h2⟩ | rfl
    · exact hVV h2 (hV.tm t y h1) (fun s hs _ => by injection hs with hs; subst hs; rfl)
    · exact ⟨.undef _, by simp [bd]⟩
  have nilRep : ∀ {k i' : Nat} {v : Value}, newV V a w ss i' = v → (∀ b, ¬ (newV V a w ss).f i' b) → RepT (Nf N0 base V σ.obj) w V .nils v →
      RepO (Nf N0 base (newV V a w ss) τ.obj) w (newV V a w ss) i' (.arr k []) ∧ RepO (Nf N0 base (newV V a w ss) τ.obj) w (newV V a w ss) i' (.tre k []) := by
    intro k i' v hv hf hr
    cases hr with
    | im h => cases h
    | nils b =>
      refine ⟨⟨fun b' => ⟨fun h => (hf b' h).elim, fun h => ?_⟩, .inl ⟨b, hv, rfl⟩⟩, .inl ⟨b, hv, rfl, hf⟩⟩
      rw [hv] at h
      simp [bl, blk_zero] at h
  have hOb : ∀ i o, τ.obj i = some o → RepO (Nf N0 base (newV V a w ss) τ.obj) w (newV V a w ss) i o ∧ i < τ.next ∧ bdO (fun i => i < τ.next) o := fun i o ho => by
    obtain ⟨s, hs, hle⟩ := leOs_get hO i o (look_mem ho)
    have nV : newV V a w ss i = valAt V a w s := by unfold newV; simp only [hs]
    have key : RepO (Nf N0 base (newV V a w ss) τ.obj) w (newV V a w ss) i o ∧ bdO (fun i => i < τ.next) o := by
      unfold leO at hle
      split at hle
      · rename_i k
        have nF' : (newV V a w ss).f i = V.f k := nF hs
        -- published: no live object of τ has its blocks
        have pubOld : ∀ {b : Nat}, live σ.obj k → o.live = false → V.f k b → Nf N0 base (newV V a w ss) τ.obj b := fun {b} hli hlv hbk => by
          refine ⟨fun hb => ?_, fun i' hl hb => ?_⟩
          · rcases (hV.low k b hli hbk).1 with q | ⟨_, q⟩
            · omega
            · exact q
          · obtain ⟨k', hs', h8, h9⟩ := hlive i' b hl hb
            have := hV.inj k' k b h8 hli h9 hbk
            subst this
            have := distinct_spec hdist hs hs'
            subst this
            obtain ⟨o2, ho2, hlv'⟩ := hl
            rw [ho] at ho2
            injection ho2 with ho2
            subst ho2
            rw [hlv] at hlv'; cases hlv'
        split at hle
        · rename_i k1 xs k2 xs' hob
          obtain ⟨rfl, rfl⟩ := hle
          obtain ⟨h0, h00⟩ := hV.obs k _ hob
          refine ⟨⟨fun b => by rw [nF', nV]; exact h0 b, ?_⟩, trivial⟩
          rw [nV]
          rcases h00 with ⟨a', h1, h2⟩ | ⟨b, o, cap, arr, Ty, h1, h2, h3, h4, h5, h6, h7⟩
          · exact .inl ⟨a', h1, h2⟩
          · exact .inr ⟨b, o, cap, arr, Ty, h1, h2, h3, h4, h5, h6, fun i e j c h8 h9 => let ⟨u, hu, hr⟩ := h7 i e j c h8 h9; ⟨u, hu, hr.mono hNm⟩⟩
        · rename_i k1 xs xs' hob
          subst hle
          refine ⟨?_, trivial⟩
          show Rep _ w (.sl xs) (newV V a w ss i)
          rw [nV]
          obtain ⟨h0, h00⟩ := hV.obs k _ hob
          show Rep _ w (.sl xs) (V k)
          rcases h00 with ⟨a', h1, h2⟩ | ⟨b, o, cap, arr, Ty, h1, h2, h3, h4, h5, h6, h7⟩
          · rw [h1, h2]; exact .nil _ _
          · have hbk : V.f k b := (h0 b).2 (by rw [h1]; simp [bl, blk]; omega)
            rw [h1]
            exact Laid.rep (k := k1) (arr := arr) ⟨h6, fun i e j c h8 h9 => let ⟨u, hu, hr⟩ := h7 i e j c h8 h9; ⟨u, hu, hr.mono hNm⟩⟩ h2 (pubOld ⟨_, hob, rfl⟩ rfl hbk) h4
        · rename_i k1 xs k2 xs' hob
          obtain ⟨rfl, rfl, hfree⟩ := hle
          refine ⟨?_, bdO_mono (fun _ h => h.elim) _ hfree⟩
          have h1 := hV.obs k _ hob
          -- its cells have no numbers: what it is does not hang on the other objects' values
          have h2 : RepO (Nf N0 base (newV V a w ss) τ.obj) w (setF (updV V k (V k)) k (V.f k)) k (.tre k1 xs) :=
            h1.mono (A := fun i => i = k) hNm (Nat.le_refl _) (fun i hi => by subst hi; rw [setF_v, updV_same]) (fun b => by rw [setF_f]) rfl (fun _ _ _ => rfl) (bdO_mono (fun _ h => h.elim) _ hfree)
          have h3 := renO_rep (V := setF (updV V k (V k)) k (V.f k)) (V' := newV V a w ss) (f := fun _ => i) (A := fun i => i = k) (fun j hj => by subst hj; rw [nV, setF_v, updV_same]; rfl) rfl (fun b => by rw [nF', setF_f]) h2 (bdO_mono (fun _ h => h.elim) _ hfree)
          rwa [renO_free hfree] at h3
        · rename_i k1 xs xs' hob
          refine ⟨?_, trivial⟩
          show Rep _ w (.sl xs') (newV V a w ss i)
          rw [nV]
          exact pub_tre (hV.obs k _ hob) hle hNm fun b hb => pubOld ⟨_, hob, rfl⟩ rfl hb
        · exact ⟨trivial, trivial⟩
        · rename_i xs xs' hob
          subst hle
          refine ⟨?_, trivial⟩
          show Rep _ w (.sl xs) (newV V a w ss i)
          rw [nV]
          have : Rep (Nf N0 base V σ.obj) w (.sl xs) (V k) := hV.obs k _ hob
          exact this.mono hNm
        · rename_i cs ds hob
          obtain ⟨h1, h2⟩ := leB_get hle
          obtain ⟨h0, b, arr, Ty, q1, q2, q3, q4⟩ := hV.obs k _ hob
          have hcell : ∀ (j : Nat) (h : j < ds.length), ∃ u, arr[j]? = some u ∧ u.oneCell' = true ∧ RepT (Nf N0 base (newV V a w ss) τ.obj) w (newV V a w ss) ds[j] u ∧ bd (fun i => i < τ.next) ds[j] := fun j hj => by
            obtain ⟨u, r1, r2, r3⟩ := q4 j _ (List.getElem?_eq_getElem (by omega))
            have := hC (h2 j (by omega) hj) r2 (fun s hs hn => by
              injection hs with hs
              subst hs
              simp only [valAt, q1]
              rw [cell_of_row w b _ arr Ty (0, 0) q2, Nat.zero_add, Nat.zero_add, r1]; rfl)
            exact ⟨u, r1, r3, this.1, this.2⟩
          refine ⟨⟨fun b => by rw [nF', nV]; exact h0 b, b, arr, Ty, by rw [nV]; exact q1, q2, by omega, fun j c hc => ?_⟩, bdL_iff.2 fun x hx => ?_⟩
          · obtain ⟨q5, q6⟩ := List.getElem?_eq_some_iff.1 hc
            obtain ⟨u, r1, r2, r3, _⟩ := hcell j q5
            exact ⟨u, r1, q6 ▸ r3, r2⟩
          · obtain ⟨j, q5, q6⟩ := List.mem_iff_getElem.1 hx
            obtain ⟨u, r1, r2, r3, r4⟩ := hcell j q5
            exact q6 ▸ r4
        · rename_i G G' hob
          subst hle
          have h1 : G.R (Nf N0 base V σ.obj) w (V.f k) := hV.obs k _ hob
          refine ⟨?_, trivial⟩
          show G.R _ w ((newV V a w ss).f i)
          rw [nF']
          exact G.mono hNm (Nat.le_refl _) (fun _ _ => rfl) h1
        · exact hle.elim
      · rename_i t
        have nF' : ∀ b, ¬ (newV V a w ss).f i b := fun b hb => by unfold newV at hb; simp only [hs] at hb
        split at hle
        · rename_i k xs hg
          subst hle
          exact ⟨(nilRep (by rw [nV]; rfl) nF' (hV.tm t _ hg)).1, trivial⟩
        · rename_i k xs hg
          subst hle
          exact ⟨(nilRep (by rw [nV]; rfl) nF' (hV.tm t _ hg)).2, fun e he => by simp at he⟩
        · exact hle.elim
      · rename_i k j
        have nF' : ∀ b, ¬ (newV V a w ss).f i b := fun b hb => by unfold newV at hb; simp only [hs] at hb
        have hc : ∀ {cs : List AV}, σ.obj k = some (.box cs) → cs[j]? = some .nils → ∃ u, newV V a w ss i = u ∧ RepT (Nf N0 base V σ.obj) w V .nils u := fun {cs} hg h1 => by
          obtain ⟨_, b', arr, Ty, q1, q2, q3, q4⟩ := hV.obs k _ hg
          obtain ⟨u, r1, r2, _⟩ := q4 j _ h1
          refine ⟨u, ?_, r2⟩
          rw [nV]
          simp only [valAt, q1]
          rw [cell_of_row w b' _ arr Ty (0, 0) q2, Nat.zero_add, r1]; rfl
        split at hle
        · rename_i cs k' xs hg
          obtain ⟨h1, rfl⟩ := hle
          obtain ⟨u, r1, r2⟩ := hc hg h1
          exact ⟨(nilRep r1 nF' r2).1, trivial⟩
        · rename_i cs k' xs hg
          obtain ⟨h1, rfl⟩ := hle
          obtain ⟨u, r1, r2⟩ := hc hg h1
          exact ⟨(nilRep r1 nF' r2).2, fun e he => by simp at he⟩
        · exact hle.elim
    exact ⟨key.1, hbdN _ _ hs, key.2⟩
  refine ⟨hp.trans hpar.symm, newV V a w ss, ⟨fun t x hx => (hTm t x hx).1, fun i o ho => (hOb i o ho).1, fun i j b hi hj hbi hbj => ?_, fun i b hi hbi => ?_, fun t x hx => (hTm t x hx).2, fun i o ho => (hOb i o ho).2, hV.bel, hV.bas, hV.dfr, by rw [hsize]; exact hV.siz, fun i hi => ?_⟩⟩
  · obtain ⟨k1, s1, l1, b1⟩ := hlive i b hi hbi
    obtain ⟨k2, s2, l2, b2⟩ := hlive j b hj hbj
    have := hV.inj k1 k2 b l1 l2 b1 b2
    subst this
    exact distinct_spec hdist s1 s2
  · obtain ⟨k1, _, l1, b1⟩ := hlive i b hi hbi
    exact hV.low k1 b l1 b1
  · have hs := fixB_spec hids i (by rw [← hp]; exact hi)
    refine ⟨hbdN i _ hs, ?_⟩
    rw [← (hV.par i hi).2]
    unfold newV; simp only [hs]; rfl

theorem Le.sound (h : RS N0 base w0 σ a w) (hl : Le σ τ) : RS N0 base w0 τ a w := by
  obtain ⟨ss, hs⟩ := hl
  exact hs.sound h

end
end Go.Sk

-- SkSa
/- What a loop keeps; slices that go back to their cells. -/
namespace Go.Sk
open Go.RowKit

def memB (x : Nat) : List Nat → Bool
  | [] => false
  | y :: r => match x.beq y with
    | true => true
    | false => memB x r

/-- Its numbers are among these. -/
def stayC (ids : List Nat) : AV → Bool
  | .ref i | .ptr i _ => memB i ids
  | .v _ | .sl _ | .nils | .skip | .undef => true
  | _ => false
def stayL (ids : List Nat) : List AV → Bool
  | [] => true
  | x :: r => stayC ids x && stayL ids r
def stayF (ids : List Nat) : AV → Bool
  | .fn _ fs cs => stayL ids fs && stayL ids cs
  | x => stayC ids x
def stayFL (ids : List Nat) : List AV → Bool
  | [] => true
  | x :: r => stayF ids x && stayFL ids r
def stay (ids : List Nat) : AV → Bool
  | .ag cs => stayFL ids cs
  | x => stayF ids x

/-- The values that are kept: not those of ds, nor of other objects. -/
def keepK (ids : List Nat) : List (Nat × AV) → List Nat → List (Nat × AV) → (List (Nat × AV) → Prop) → Prop
  | [], _, acc, K => K acc
  | (t, x) :: r, ds, acc, K => match memB t ds with
    | true => keepK ids r ds acc K
    | false => match stay ids x with
      | true => keepK ids r (t :: ds) ((t, x) :: acc) K
      | false => keepK ids r (t :: ds) acc K

def stayKs (ids : List Nat) : List (Nat × AV) → Bool
  | [] => true
  | p :: r => stay ids p.2 && stayKs ids r

theorem keepK_elim {ids : List Nat} : ∀ {l : List (Nat × AV)} {ds : List Nat} {acc : List (Nat × AV)} {K : List (Nat × AV) → Prop}, keepK ids l ds acc K → stayKs ids acc = true → ∃ kept, K kept ∧ stayKs ids kept = true
  | [], ds, acc, K, h, ha => ⟨acc, h, ha⟩
  | (t, x) :: r, ds, acc, K, h, ha => by
    unfold keepK at h
    split at h
    · exact keepK_elim h ha
    · split at h
      · rename_i hs
        exact keepK_elim h (by simp [stayKs, hs, ha])
      · exact keepK_elim h ha

theorem memB_spec {x : Nat} : ∀ {l : List Nat}, memB x l = true → x ∈ l
  | [], h => by simp [memB] at h
  | y :: r, h => by
    unfold memB at h
    split at h
    · rename_i hb; rw [Nat.eq_of_beq_eq_true hb]; simp
    · exact List.mem_cons_of_mem _ (memB_spec h)

section
variable {N0 : Nat → Prop} {base : Nat} {w0 : W0} {σ : St} {a : Act} {w : World} {ss : List Src} {ids : List Nat}

theorem stayC_le (hf : fixB ss ids = true) {here : Option Src} {x : AV} (h : stayC ids x = true) : leC0 σ ss here x x := by
  cases x <;> simp [stayC] at h <;> unfold leC0 <;> simp
  · exact fixB_spec hf _ (memB_spec h)
  · exact fixB_spec hf _ (memB_spec h)
theorem stayL_le (hf : fixB ss ids = true) : ∀ {xs : List AV}, stayL ids xs = true → leL0 σ ss xs xs
  | [], _ => trivial
  | x :: r, h => by
    simp only [stayL, Bool.and_eq_true] at h
    exact ⟨stayC_le hf h.1, stayL_le hf h.2⟩
theorem stayF_le (hf : fixB ss ids = true) {here : Option Src} {x : AV} (h : stayF ids x = true) : leC σ ss here x x := by
  cases x with
  | fn f fs cs =>
    simp only [stayF, Bool.and_eq_true] at h
    exact ⟨rfl, stayL_le hf h.1, stayL_le hf h.2⟩
  | v x => exact stayC_le (σ := σ) (here := here) (x := .v x) hf h
  | sl x => exact stayC_le (σ := σ) (here := here) (x := .sl x) hf h
  | ref x => exact stayC_le (σ := σ) (here := here) (x := .ref x) hf h
  | ptr x j => exact stayC_le (σ := σ) (here := here) (x := .ptr x j) hf h
  | nils => exact stayC_le (σ := σ) (here := here) (x := .nils) hf h
  | skip => exact stayC_le (σ := σ) (here := here) (x := .skip) hf h
  | undef => exact stayC_le (σ := σ) (here := here) (x := .undef) hf h
  | _ => simp [stayF, stayC] at h
theorem stayFL_le (hf : fixB ss ids = true) : ∀ {xs : List AV}, stayFL ids xs = true → leL σ ss xs xs
  | [], _ => trivial
  | x :: r, h => by
    simp only [stayFL, Bool.and_eq_true] at h
    exact ⟨stayF_le hf h.1, stayFL_le hf h.2⟩
theorem stay_le (hf : fixB ss ids = true) {here : Option Src} {x : AV} (h : stay ids x = true) : leV σ ss here x x := by
  cases x with
  | ag cs => exact stayFL_le hf h
  | fn f fs cs => exact stayF_le (σ := σ) (here := here) (x := .fn f fs cs) hf h
  | v x => exact stayF_le (σ := σ) (here := here) (x := .v x) hf h
  | sl x => exact stayF_le (σ := σ) (here := here) (x := .sl x) hf h
  | ref x => exact stayF_le (σ := σ) (here := here) (x := .ref x) hf h
  | ptr x j => exact stayF_le (σ := σ) (here := here) (x := .ptr x j) hf h
  | nils => exact stayF_le (σ := σ) (here := here) (x := .nils) hf h
  | skip => exact stayF_le (σ := σ) (here := here) (x := .skip) hf h
  | undef => exact stayF_le (σ := σ) (here := here) (x := .undef) hf h
  | _ => simp [stay, stayF, stayC] at h

/-- The state of a loop's head: what is new, and what is kept. -/
def headSt (σ : St) (new kept : List (Nat × AV)) (objs : List (Nat × AO)) (next : Nat) : St := { tmps := new ++ kept, objs := objs, next := next, size := σ.size, par := σ.par }

def LeH (ids : List Nat) (σ : St) (new kept : List (Nat × AV)) (objs : List (Nat × AO)) (next : Nat) : Prop :=
  ∃ ss, (distinct ss && fixB ss σ.par && fixB ss ids) = true ∧ (kept.map fun p => σ.get p.1) = (kept.map fun p => some p.2) ∧ next = ss.length ∧ leT σ ss new ∧ leOs σ ss objs

/-- Slices go back to their cells before a state is forgotten. -/
def backK : List (Nat × Nat × Nat) → St → (St → Prop) → Prop
  | [], σ, K => K σ
  | (id, i, p) :: r, σ, K => match σ.obj id, σ.obj p with
    | some (.tre 1 xs), some (.arr k2 ys) => xs[i]? = some (.ref p) ∧ backK r ((σ.setObj p .dead).setObj id (.tre 1 (xs.set i (.own k2 ys)))) K
    | _, _ => False

theorem backK_elim : ∀ {bs : List (Nat × Nat × Nat)} {σ : St} {K : St → Prop}, backK bs σ K → RS N0 base w0 σ a w → ∃ σ', K σ' ∧ RS N0 base w0 σ' a w ∧ σ'.size = σ.size ∧ σ'.par = σ.par
  | [], σ, K, h, hr => ⟨σ, h, hr, rfl, rfl⟩
  | (id, i, p) :: r, σ, K, h, hr => by
    unfold backK at h
    split at h
    · rename_i xs k2 ys h1 h2
      obtain ⟨hi, hK⟩ := h
      obtain ⟨hp, V, hV⟩ := hr
      obtain ⟨V', hV'⟩ := hV.treBack h1 h2 hi
      have hr' : RS N0 base w0 ((σ.setObj p .dead).setObj id (.tre 1 (xs.set i (.own k2 ys)))) a w := ⟨hp, V', by rw [setObj_updK1]; exact hV'⟩
      obtain ⟨σ', q1, q2, q3, q4⟩ := backK_elim hK hr'
      exact ⟨σ', q1, q2, q3, q4⟩
    · exact h.elim

theorem leT_append : ∀ {l r : List (Nat × AV)}, leT σ ss l → leT σ ss r → leT σ ss (l ++ r)
  | [], _, _, h => h
  | _ :: _, _, h, h' => ⟨h.1, leT_append h.2 h'⟩

theorem leT_kept (hf : fixB ss ids = true) : ∀ {kept : List (Nat × AV)}, stayKs ids kept = true → (kept.map fun p => σ.get p.1) = (kept.map fun p => some p.2) → leT σ ss kept
  | [], _, _ => trivial
  | (t, x) :: r, h, he => by
    simp only [stayKs, Bool.and_eq_true] at h
    simp only [List.map_cons, List.cons.injEq] at he
    refine ⟨?_, leT_kept hf h.2 he.2⟩
    rw [he.1]
    exact stay_le hf h.1

theorem LeH.sound {new kept : List (Nat × AV)} {objs : List (Nat × AO)} {next : Nat} (hk : stayKs ids kept = true) (h : LeH ids σ new kept objs next) (hr : RS N0 base w0 σ a w) : RS N0 base w0 (headSt σ new kept objs next) a w := by
  obtain ⟨ss, h1, h2, h3, h4, h5⟩ := h
  simp only [Bool.and_eq_true] at h1
  refine LeS.sound (ss := ss) hr ⟨by simp [h1.1.1, h1.1.2], rfl, h3, leT_append h4 (leT_kept h1.2 hk h2), h5⟩

end
end Go.Sk

-- SkSb
/- Where the objects of a wanted state come from; loops by what turns in them. -/
namespace Go.Sk
open Go.RowKit

def addS (acc : List (Nat × Src)) (i : Nat) (s : Src) : List (Nat × Src) := match look acc i with
  | some _ => acc
  | none => (i, s) :: acc
def vC (here : Option Src) (y x : AV) (acc : List (Nat × Src)) : List (Nat × Src) :=
  match y, x with
  | .ref i, .ref i' => addS acc i' (.obj i)
  | .ptr i _, .ptr i' _ => addS acc i' (.obj i)
  | .nils, .ref i' => match here with
    | some h => addS acc i' h
    | none => acc
  | _, _ => acc
def vL : List AV → List AV → List (Nat × Src) → List (Nat × Src)
  | y :: ys, x :: xs, acc => vL ys xs (vC none y x acc)
  | _, _, acc => acc
def vF (here : Option Src) (y x : AV) (acc : List (Nat × Src)) : List (Nat × Src) :=
  match y, x with
  | .fn _ fs cs, .fn _ fs' cs' => vL cs cs' (vL fs fs' acc)
  | y, x => vC here y x acc
def vFL : List AV → List AV → List (Nat × Src) → List (Nat × Src)
  | y :: ys, x :: xs, acc => vFL ys xs (vF none y x acc)
  | _, _, acc => acc
def vA (here : Option Src) (y x : AV) (acc : List (Nat × Src)) : List (Nat × Src) :=
  match y, x with
  | .ag ys, .ag xs => vFL ys xs acc
  | y, x => vF here y x acc
def vAL : List AV → List AV → List (Nat × Src) → List (Nat × Src)
  | y :: ys, x :: xs, acc => vAL ys xs (vA none y x acc)
  | _, _, acc => acc
def vT (here : Option Src) (y x : AV) (acc : List (Nat × Src)) : List (Nat × Src) :=
  match y, x with
  | .tup ys, .tup xs => vAL ys xs acc
  | y, x => vA here y x acc
def srcT (σ : St) : List (Nat × AV) → List (Nat × Src) → List (Nat × Src)
  | [], acc => acc
  | (t, x) :: r, acc => match σ.get t with
    | some y => srcT σ r (vT (some (.tmp t)) y x acc)
    | none => srcT σ r acc
def srcB (i : Nat) : Nat → List AV → List AV → List (Nat × Src) → List (Nat × Src)
  | j, y :: ys, x :: xs, acc => srcB i (j + 1) ys xs (vF (some (.cell i j)) y x acc)
  | _, _, _, acc => acc
def srcO (σ : St) : List (Nat × AO) → List (Nat × Src) → List (Nat × Src)
  | [], acc => acc
  | (i', .box ds) :: r, acc => match look acc i' with
    | some (.obj i) => match σ.obj i with
      | some (.box cs) => srcO σ r (srcB i 0 cs ds acc)
      | _ => srcO σ r acc
    | _ => srcO σ r acc
  | _ :: r, acc => srcO σ r acc
def srcN (σ : St) (objs : List (Nat × AO)) : Nat → List (Nat × Src) → List (Nat × Src)
  | 0, acc => acc
  | n + 1, acc => srcN σ objs n (srcO σ objs acc)
def boxes : List (Nat × AO) → Nat
  | [] => 0
  | (_, .box _) :: r => boxes r + 1
  | _ :: r => boxes r
def selfS : List Nat → List (Nat × Src)
  | [] => []
  | i :: r => (i, .obj i) :: selfS r
def upTo : Nat → List Nat → List Nat
  | 0, acc => acc
  | n + 1, acc => upTo n (n :: acc)
def outS (acc : List (Nat × Src)) : List Nat → List Src
  | [] => []
  | i :: r => (match look acc i with | some s => s | none => .tmp 0) :: outS acc r
/-- Where each object of the wanted state comes from. -/
def findS (σ : St) (ids : List Nat) (new : List (Nat × AV)) (objs : List (Nat × AO)) (next : Nat) : List Src :=
  outS (srcN σ objs (boxes objs) (srcT σ new (selfS (σ.par ++ ids)))) (upTo next [])

theorem upTo_len : ∀ (n : Nat) (acc : List Nat), (upTo n acc).length = n + acc.length
  | 0, acc => by simp [upTo]
  | n + 1, acc => by rw [upTo, upTo_len n]; simp; omega
theorem upTo_mem : ∀ {n : Nat} {acc : List Nat} {i : Nat}, i < n ∨ i ∈ acc → i ∈ upTo n acc
  | 0, acc, i, h => h.resolve_left (by omega)
  | n + 1, acc, i, h => upTo_mem (n := n) (acc := n :: acc) (by
    rcases h with h | h
    · rcases Nat.lt_or_ge i n with h' | h'
      · exact .inl h'
      · exact .inr (by rw [show i = n by omega]; exact List.mem_cons_self)
    · exact .inr (List.mem_cons_of_mem _ h))
theorem mem_upTo {n i : Nat} (h : i < n) : i ∈ upTo n [] := upTo_mem (.inl h)
theorem upTo_lt : ∀ {n : Nat} {acc : List Nat} {i : Nat}, i ∈ upTo n acc → i < n ∨ i ∈ acc
  | 0, acc, i, h => .inr h
  | n + 1, acc, i, h => by
    rcases upTo_lt (n := n) h with h | h
    · exact .inl (by omega)
    · rcases List.mem_cons.1 h with rfl | h
      · exact .inl (by omega)
      · exact .inr h
theorem outS_len (acc : List (Nat × Src)) : ∀ l, (outS acc l).length = l.length
  | [] => rfl
  | _ :: r => by simp [outS, outS_len acc r]
theorem findS_len (σ : St) (ids : List Nat) (new : List (Nat × AV)) (objs : List (Nat × AO)) (next : Nat) : next = (findS σ ids new objs next).length := by
  unfold findS; rw [outS_len, upTo_len]; simp

/-- An object that a loop does not turn. -/
def stayO (ids : List Nat) : AO → Bool
  | .box cs => stayFL ids cs
  | .arr _ _ | .pub _ | .gh _ => true
  | _ => false
def keepO (ids : List Nat) : List (Nat × AO) → List Nat → List (Nat × AO) → (List (Nat × AO) → Prop) → Prop
  | [], _, acc, K => K acc
  | (i, o) :: r, ov, acc, K => match memB i ov with
    | true => keepO ids r ov acc K
    | false => match memB i ids && stayO ids o with
      | true => keepO ids r (i :: ov) ((i, o) :: acc) K
      | false => keepO ids r (i :: ov) acc K
def stayOs (ids : List Nat) : List (Nat × AO) → Bool
  | [] => true
  | p :: r => memB p.1 ids && stayO ids p.2 && stayOs ids r
theorem keepO_elim {ids : List Nat} : ∀ {l : List (Nat × AO)} {ov : List Nat} {acc : List (Nat × AO)} {K : List (Nat × AO) → Prop}, keepO ids l ov acc K → stayOs ids acc = true → ∃ kept, K kept ∧ stayOs ids kept = true
  | [], ov, acc, K, h, ha => ⟨acc, h, ha⟩
  | (i, o) :: r, ov, acc, K, h, ha => by
    unfold keepO at h
    split at h
    · exact keepO_elim h ha
    · split at h
      · rename_i hs
        simp only [Bool.and_eq_true] at hs
        exact keepO_elim h (by simp [stayOs, hs.1, hs.2, ha])
      · exact keepO_elim h ha

def refL : List AV → List Nat
  | [] => []
  | .ref i :: r => i :: refL r
  | _ :: r => refL r
def refV : AV → List Nat
  | .ref i => [i]
  | .ag cs => refL cs
  | .tup cs => refL cs
  | _ => []
def refT : List (Nat × AV) → List Nat
  | [] => []
  | (_, x) :: r => refV x ++ refT r
def refO : List (Nat × AO) → List Nat
  | [] => []
  | (_, .box cs) :: r => refL cs ++ refO r
  | _ :: r => refO r
/-- The numbers of the rows that a loop makes anew. -/
def movedL (rs : List Nat) : List (Nat × AO) → List Nat
  | [] => []
  | (i, .arr _ _) :: r => match memB i rs with
    | true => i :: movedL rs r
    | false => movedL rs r
  | (i, .tre _ _) :: r => match memB i rs with
    | true => i :: movedL rs r
    | false => movedL rs r
  | _ :: r => movedL rs r
def idsK : List (Nat × AO) → List Nat → List Nat → (List Nat → Prop) → Prop
  | [], _, acc, K => K acc
  | (i, _) :: r, skip, acc, K => match memB i skip with
    | true => idsK r skip acc K
    | false => idsK r (i :: skip) (i :: acc) K
theorem idsK_elim : ∀ {l : List (Nat × AO)} {skip acc : List Nat} {K : List Nat → Prop}, idsK l skip acc K → ∃ ids, K ids
  | [], _, acc, K, h => ⟨acc, h⟩
  | (i, _) :: r, skip, acc, K, h => by
    unfold idsK at h
    split at h
    · exact idsK_elim h
    · exact idsK_elim h
def numsO : List (Nat × AO) → List Nat
  | [] => []
  | p :: r => p.1 :: numsO r

/-- A state shows what a loop's head knows. -/
def Shows (ids : List Nat) (kept : List (Nat × AV)) (keptO : List (Nat × AO)) (next : Nat) (σ : St) (new : List (Nat × AV)) (objs : List (Nat × AO)) : Prop :=
  (distinct (findS σ ids new objs next) && fixB (findS σ ids new objs next) σ.par && fixB (findS σ ids new objs next) ids) = true ∧ (kept.map fun p => σ.get p.1) = (kept.map fun p => some p.2) ∧
    (keptO.map fun p => σ.obj p.1) = (keptO.map fun p => some p.2) ∧ leT σ (findS σ ids new objs next) new ∧ leOs σ (findS σ ids new objs next) objs

theorem stayFL_leB {σ : St} {ss : List Src} {ids : List Nat} (hf : fixB ss ids = true) (i : Nat) : ∀ {j : Nat} {cs : List AV}, stayFL ids cs = true → leB σ ss i j cs cs
  | _, [], _ => trivial
  | j, c :: r, h => by
    simp only [stayFL, Bool.and_eq_true] at h
    exact ⟨stayF_le hf h.1, stayFL_leB hf i h.2⟩
theorem leOs_append {σ : St} {ss : List Src} : ∀ {l r : List (Nat × AO)}, leOs σ ss l → leOs σ ss r → leOs σ ss (l ++ r)
  | [], _, _, h => h
  | _ :: _, _, h, h' => ⟨h.1, leOs_append h.2 h'⟩
theorem leOs_kept {σ : St} {ss : List Src} {ids : List Nat} (hf : fixB ss ids = true) : ∀ {kept : List (Nat × AO)}, stayOs ids kept = true → (kept.map fun p => σ.obj p.1) = (kept.map fun p => some p.2) → leOs σ ss kept
  | [], _, _ => trivial
  | (i, o) :: r, h, he => by
    simp only [stayOs, Bool.and_eq_true] at h
    simp only [List.map_cons, List.cons.injEq] at he
    refine ⟨?_, leOs_kept hf h.2 he.2⟩
    rw [fixB_spec hf i (memB_spec h.1.1)]
    have h1 := he.1
    have h2 := h.1.2
    cases o with
    | box cs => simp only [leO, h1]; exact stayFL_leB hf i h2
    | arr k xs => simp [leO, h1]
    | pub xs => simp only [leO, h1]
    | tre k xs => simp [stayO] at h2
    | dead => simp [stayO] at h2
    | gh G => simp only [leO, h1]

theorem Shows.leH {ids : List Nat} {kept : List (Nat × AV)} {keptO : List (Nat × AO)} {next : Nat} {σ : St} {new : List (Nat × AV)} {objs : List (Nat × AO)} (hk : stayOs ids keptO = true) (h : Shows ids kept keptO next σ new objs) :
    LeH ids σ new kept (objs ++ keptO) next := by
  obtain ⟨h1, h2, h3, h4, h5⟩ := h
  refine ⟨findS σ ids new objs next, h1, h2, findS_len _ _ _ _ _, h4, leOs_append h5 (leOs_kept ?_ hk h3)⟩
  simp only [Bool.and_eq_true] at h1
  exact h1.2

theorem backK_mono : ∀ {bs : List (Nat × Nat × Nat)} {σ : St} {K K' : St → Prop}, (∀ σ, K σ → K' σ) → backK bs σ K → backK bs σ K'
  | [], σ, K, K', hK, h => hK _ h
  | (id, i, p) :: r, σ, K, K', hK, h => by
    unfold backK at *
    split at h
    · rename_i h1 h2
      exact ⟨h.1, backK_mono hK h.2⟩
    · exact h.elim

end Go.Sk
