/- A checker of Go functions by conditions over small pure states: part 14. -/
import Derived.Test.YtkecpgidolphfaaSk12
set_option linter.unusedVariables false
set_option linter.unusedSimpArgs false
namespace Go.Sk
open Go.RowKit
def dstIdx (ops : List Oper) (t : Nat) : Option Nat := ops.findIdx? fun o => o.dst == some t
def afterB (o : Oper) (i : Nat) : Bool := o.after.toList.any fun e => Region.binds .any e && e.on == i
def looksOK (pre : List Oper) (o : Oper) (t : Nat) : Bool := match dstIdx pre t with
  | some i => afterB o i
  | none => true
def tmpsOf (o : Oper) : List Nat := o.op.operands.toList.filterMap fun | .tmp t => some t | _ => none
def ddp : List Nat → List Nat
  | [] => []
  | x :: r => let d := ddp r; match d.contains x with
    | true => d
    | false => x :: d
theorem mem_ddp : ∀ {l : List Nat} {x : Nat}, x ∈ ddp l → x ∈ l
  | y :: r, x, h => by
    unfold ddp at h
    simp only at h
    split at h
    · exact List.mem_cons_of_mem _ (mem_ddp h)
    · rcases List.mem_cons.1 h with rfl | h
      · simp
      · exact List.mem_cons_of_mem _ (mem_ddp h)
def ancs (ops : List Oper) : List (List Nat) :=
  ops.foldl (fun acc o => acc ++ [ddp ((o.after.toList.filter (Region.binds .any)).flatMap fun e => e.on :: acc.getD e.on [])]) []
def noDefer (o : Oper) : Bool := match o.op with | .defer _ => false | _ => true
def preOK (ops : List Oper) (k : Nat) : Bool :=
  let pre := ops.take k
  (pre.zipIdx.all fun (o, j) => (match o.dst with | some d => dstIdx pre d == some j | none => false) && (tmpsOf o).all (looksOK pre o) &&
    (match o.guard with
      | none => true
      | some (g, _) => match (ops[g]?).bind Oper.dst with
        | some d => looksOK pre o d
        | none => false)) &&
  (ops.zipIdx.all fun (o, j) => o.after.toList.all fun e => !Region.binds .any e || decide (e.on < j)) && ops.all noDefer
def sufOK (ops : List Oper) (k : Nat) : Bool :=
  let an := ancs ops
  (List.range ops.length).all fun j => decide (j < k) || (List.range j).all fun i => (an.getD j []).contains i
def St.afterAt (σ : St) (dst : Option Nat) (x : AV) (no : Option AO) (n : Nat) : St :=
  { tmps := match dst with | some d => (d, x) :: σ.tmps | none => σ.tmps
    objs := match no with | some o => (n, o) :: σ.objs | none => σ.objs
    next := σ.next, size := σ.size, par := σ.par }
section
variable {P : Program} {T : TypeId → Option TI} {N0 : Nat → Prop} {base : Nat} {w0 : W0}
def wantA (all : Array Oper) (σ : St) (o : Oper) : Option Bool :=
  match o.guard with
  | none => some true
  | some (j, want) => match (all[j]?).bind Oper.dst with
    | none => none
    | some d => match σ.get d with
      | some (.v (.bool b)) => some (b == want)
      | some .skip => some false
      | _ => none
structure Vis where
  ob : Nat → Option AO
  n : Nat
def Vis.of (v : Vis) (σ : St) (o : Oper) (i : Nat) : Option AO :=
  match v.ob i with
  | some u => some u
  | none => match decide (v.n ≤ i) && afterB o (i - v.n) with
    | true => σ.obj i
    | false => none
def Good (P : Program) (all : Array Oper) (ob : Vis) (n : Nat) (σ : St) (o : Oper) (r : AV × Option AO) : Prop :=
  dstOk σ o = true ∧ ((wantA all σ o = some true ∧ OKs P o σ.eval (ob.of σ o) n r.1 r.2) ∨ (wantA all σ o = some false ∧ r = (.skip, none)))
def Alike (σ2 σ : St) : Prop := σ2.get = σ.get ∧ σ2.obj = σ.obj ∧ σ2.next = σ.next ∧ σ2.size = σ.size ∧ σ2.par = σ.par
theorem Alike.refl (σ : St) : Alike σ σ := ⟨rfl, rfl, rfl, rfl, rfl⟩
theorem Alike.learn {σ : St} {d : Nat} {b : Bool} (h : σ.get d = some (.v (.bool b))) : Alike (σ.after (some d) (.v (.bool b)) none) σ := by
  refine ⟨?_, rfl, rfl, rfl, rfl⟩
  rw [St.get_after]
  funext t
  unfold upd
  split
  · rename_i e; injection e with e; subst e; exact h.symm
  · rfl
inductive Gen (P : Program) (all : Array Oper) (ob : Vis) : List Oper → Nat → St → List (AV × Option AO) → St → Prop
  | nil (n : Nat) (σ : St) : Gen P all ob [] n σ [] σ
  | cons {o : Oper} {r : List Oper} {n : Nat} {σ σ' : St} {x : AV × Option AO} {xs : List (AV × Option AO)} {σ2 : St} (hs : Alike σ2 σ) (h : Good P all ob n σ o x) (h' : Gen P all ob r (n + 1) (σ2.afterAt o.dst x.1 x.2 n) xs σ') : Gen P all ob (o :: r) n σ (x :: xs) σ'
structure Pre (P : Program) (T : TypeId → Option TI) (all : Array Oper) (ob : Vis) (ops : List Oper) (n : Nat) (σ : St) (K : St → Prop) : Prop where
  gen : TOK P T → ∃ rs σ', Gen P all ob ops n σ rs σ' ∧ K σ'
theorem preNil {all : Array Oper} {ob : Vis} {n : Nat} {σ : St} {K : St → Prop} (h : K σ) : Pre P T all ob [] n σ K := ⟨fun _ => ⟨[], σ, .nil n σ, h⟩⟩
section
variable {all : Array Oper} {ob : Vis} {n : Nat} {σ : St} {K : St → Prop} {o : Oper} {r : List Oper}
theorem preI {all : Array Oper} {ob : Vis} {ops : List Oper} {n : Nat} {σ : St} {K : St → Prop} (h : Pre P T all ob ops n σ K) : Pre P T all ob ops n σ K := h
theorem pre_run {σ2 : St} (hs : Alike σ2 σ) (hd : dstOk σ o = true) (hw : wantA all σ o = some true) (h : pstep P T false σ2.eval (ob.of σ2 o) n o fun x no => Pre P T all ob r (n + 1) (σ2.afterAt o.dst x no n) K) : Pre P T all ob (o :: r) n σ K := ⟨fun hT => by
  obtain ⟨x, no, h1, h2⟩ := pstep_sound hT h
  obtain ⟨rs, σ', h3, h4⟩ := h1.gen hT
  have e : σ2.eval = σ.eval := by unfold St.eval; rw [hs.1]
  have e2 : ob.of σ2 o = ob.of σ o := by funext i; unfold Vis.of; rw [hs.2.1]
  rw [e, e2] at h2
  exact ⟨(x, no) :: rs, σ', .cons hs ⟨hd, .inl ⟨hw, h2⟩⟩ h3, h4⟩⟩
theorem pre_skip {σ2 : St} (hs : Alike σ2 σ) (hd : dstOk σ o = true) (hw : wantA all σ o = some false) (h : Pre P T all ob r (n + 1) (σ2.afterAt o.dst .skip none n) K) : Pre P T all ob (o :: r) n σ K := ⟨fun hT => by
  obtain ⟨rs, σ', h3, h4⟩ := h.gen hT
  exact ⟨(.skip, none) :: rs, σ', .cons hs ⟨hd, .inr ⟨hw, rfl⟩⟩ h3, h4⟩⟩
theorem preOp (hd : dstOk σ o = true) (hg : o.guard = none) (h : pstep P T false σ.eval (ob.of σ o) n o fun x no => Pre P T all ob r (n + 1) (σ.afterAt o.dst x no n) K) : Pre P T all ob (o :: r) n σ K :=
  pre_run (Alike.refl σ) hd (by simp [wantA, hg]) h
theorem preSkip {j d : Nat} {want : Bool} (hd : dstOk σ o = true) (hg : o.guard = some (j, want)) (hj : (all[j]?).bind Oper.dst = some d) (hv : σ.get d = some .skip) (h : Pre P T all ob r (n + 1) (σ.afterAt o.dst .skip none n) K) : Pre P T all ob (o :: r) n σ K :=
  pre_skip (Alike.refl σ) hd (by simp only [wantA, hg, hj, hv]) h
theorem preGT {j d : Nat} {b : Bool} (hd : dstOk σ o = true) (hg : o.guard = some (j, true)) (hj : (all[j]?).bind Oper.dst = some d) (hv : σ.get d = some (.v (.bool b)))
    (h : ifB b (pstep P T false (σ.after (some d) (.v (.bool true)) none).eval (ob.of (σ.after (some d) (.v (.bool true)) none) o) n o fun x no => Pre P T all ob r (n + 1) ((σ.after (some d) (.v (.bool true)) none).afterAt o.dst x no n) K) (Pre P T all ob r (n + 1) ((σ.after (some d) (.v (.bool false)) none).afterAt o.dst .skip none n) K)) : Pre P T all ob (o :: r) n σ K := by
  have hw : wantA all σ o = some (b == true) := by simp only [wantA, hg, hj, hv]
  cases b with
  | true => exact pre_run (Alike.learn hv) hd hw ((ifB_elim h).1 rfl)
  | false => exact pre_skip (Alike.learn hv) hd hw ((ifB_elim h).2 rfl)
theorem preGF {j d : Nat} {b : Bool} (hd : dstOk σ o = true) (hg : o.guard = some (j, false)) (hj : (all[j]?).bind Oper.dst = some d) (hv : σ.get d = some (.v (.bool b)))
    (h : ifB b (Pre P T all ob r (n + 1) ((σ.after (some d) (.v (.bool true)) none).afterAt o.dst .skip none n) K) (pstep P T false (σ.after (some d) (.v (.bool false)) none).eval (ob.of (σ.after (some d) (.v (.bool false)) none) o) n o fun x no => Pre P T all ob r (n + 1) ((σ.after (some d) (.v (.bool false)) none).afterAt o.dst x no n) K)) : Pre P T all ob (o :: r) n σ K := by
  have hw : wantA all σ o = some (b == false) := by simp only [wantA, hg, hj, hv]
  cases b with
  | true => exact pre_skip (Alike.learn hv) hd hw ((ifB_elim h).1 rfl)
  | false => exact pre_run (Alike.learn hv) hd hw ((ifB_elim h).2 rfl)
theorem preT {j d : Nat} (hd : dstOk σ o = true) (hg : o.guard = some (j, true)) (hj : (all[j]?).bind Oper.dst = some d) (hv : σ.get d = some (.v (.bool true)))
    (h : pstep P T false σ.eval (ob.of σ o) n o fun x no => Pre P T all ob r (n + 1) (σ.afterAt o.dst x no n) K) : Pre P T all ob (o :: r) n σ K :=
  pre_run (Alike.refl σ) hd (by simp only [wantA, hg, hj, hv]; rfl) h
theorem preF {j d : Nat} (hd : dstOk σ o = true) (hg : o.guard = some (j, false)) (hj : (all[j]?).bind Oper.dst = some d) (hv : σ.get d = some (.v (.bool false)))
    (h : pstep P T false σ.eval (ob.of σ o) n o fun x no => Pre P T all ob r (n + 1) (σ.afterAt o.dst x no n) K) : Pre P T all ob (o :: r) n σ K :=
  pre_run (Alike.refl σ) hd (by simp only [wantA, hg, hj, hv]; rfl) h
theorem preTS {j d : Nat} (hd : dstOk σ o = true) (hg : o.guard = some (j, true)) (hj : (all[j]?).bind Oper.dst = some d) (hv : σ.get d = some (.v (.bool false)))
    (h : Pre P T all ob r (n + 1) (σ.afterAt o.dst .skip none n) K) : Pre P T all ob (o :: r) n σ K :=
  pre_skip (Alike.refl σ) hd (by simp only [wantA, hg, hj, hv]; rfl) h
theorem preFS {j d : Nat} (hd : dstOk σ o = true) (hg : o.guard = some (j, false)) (hj : (all[j]?).bind Oper.dst = some d) (hv : σ.get d = some (.v (.bool true)))
    (h : Pre P T all ob r (n + 1) (σ.afterAt o.dst .skip none n) K) : Pre P T all ob (o :: r) n σ K :=
  pre_skip (Alike.refl σ) hd (by simp only [wantA, hg, hj, hv]; rfl) h
end
section
variable (P : Program) (T : TypeId → Option TI)
def vcPre (all : Array Oper) (ob : Vis) : List Oper → Nat → St → (St → Prop) → Prop
  | [], _, σ, K => K σ
  | o :: r, n, σ, K =>
    let run := fun (σ : St) => pstep P T false σ.eval (ob.of σ o) n o fun x no => vcPre all ob r (n + 1) (σ.afterAt o.dst x no n) K
    let skip := fun (σ : St) => vcPre all ob r (n + 1) (σ.afterAt o.dst .skip none n) K
    match dstOk σ o with
    | false => False
    | true => match o.guard with
      | none => run σ
      | some (j, want) => match (all[j]?).bind Oper.dst with
        | none => False
        | some d => match σ.get d with
          | some (.v (.bool b)) => match want with
            | true => ifB b (run (σ.after (some d) (.v (.bool true)) none)) (skip (σ.after (some d) (.v (.bool false)) none))
            | false => ifB b (skip (σ.after (some d) (.v (.bool true)) none)) (run (σ.after (some d) (.v (.bool false)) none))
          | some .skip => skip σ
          | _ => False
end
theorem vcPre_gen (hT : TOK P T) {all : Array Oper} {ob : Vis} : ∀ {ops : List Oper} {n : Nat} {σ : St} {K : St → Prop}, vcPre P T all ob ops n σ K → ∃ rs σ', Gen P all ob ops n σ rs σ' ∧ K σ'
  | [], n, σ, K, h => ⟨[], σ, .nil n σ, h⟩
  | o :: r, n, σ, K, h => by
    unfold vcPre at h
    simp only at h
    split at h
    · exact h.elim
    · rename_i hd
      have run : ∀ {σ2 : St}, Alike σ2 σ → wantA all σ o = some true → pstep P T false σ2.eval (ob.of σ2 o) n o (fun x no => vcPre P T all ob r (n + 1) (σ2.afterAt o.dst x no n) K) → ∃ rs σ', Gen P all ob (o :: r) n σ rs σ' ∧ K σ' := fun {σ2} hs hw h => by
        obtain ⟨x, no, h1, h2⟩ := pstep_sound hT h
        obtain ⟨rs, σ', h3, h4⟩ := vcPre_gen hT h1
        have e : σ2.eval = σ.eval := by unfold St.eval; rw [hs.1]
        have e2 : ob.of σ2 o = ob.of σ o := by funext i; unfold Vis.of; rw [hs.2.1]
        rw [e, e2] at h2
        exact ⟨(x, no) :: rs, σ', .cons hs ⟨hd, .inl ⟨hw, h2⟩⟩ h3, h4⟩
      have skip : ∀ {σ2 : St}, Alike σ2 σ → wantA all σ o = some false → vcPre P T all ob r (n + 1) (σ2.afterAt o.dst .skip none n) K → ∃ rs σ', Gen P all ob (o :: r) n σ rs σ' ∧ K σ' := fun {σ2} hs hw h => by
        obtain ⟨rs, σ', h3, h4⟩ := vcPre_gen hT h
        exact ⟨(.skip, none) :: rs, σ', .cons hs ⟨hd, .inr ⟨hw, rfl⟩⟩ h3, h4⟩
      split at h
      · rename_i hg
        exact run (Alike.refl σ) (by simp [wantA, hg]) h
      · rename_i j want hg
        split at h
        · exact h.elim
        · rename_i d hj
          split at h
          · rename_i b hb
            have hw : wantA all σ o = some (b == want) := by simp only [wantA, hg, hj, hb]
            split at h
            · cases b with
              | true => exact run (Alike.learn hb) hw ((ifB_elim h).1 rfl)
              | false => exact skip (Alike.learn hb) hw ((ifB_elim h).2 rfl)
            · cases b with
              | true => exact skip (Alike.learn hb) hw ((ifB_elim h).1 rfl)
              | false => exact run (Alike.learn hb) hw ((ifB_elim h).2 rfl)
          · rename_i hb
            exact skip (Alike.refl σ) (by simp only [wantA, hg, hj, hb]) h
          · exact h.elim
theorem preAll {all : Array Oper} {ob : Vis} {ops : List Oper} {n : Nat} {σ : St} {K : St → Prop} (h : vcPre P T all ob ops n σ K) : Pre P T all ob ops n σ K := ⟨fun hT => vcPre_gen hT h⟩
variable (P T) in
def vcDraw (ops : Array Oper) (σ : St) (K : St → Prop) : Prop :=
  ∃ k, (preOK ops.toList k && sufOK ops.toList k && decide (k ≤ ops.size)) = true ∧
    Pre P T ops ⟨σ.obj, σ.next⟩ (ops.toList.take k) σ.next { σ with next := σ.next + k } fun σ' => vcOps0 P T ops (ops.toList.drop k) σ' K
def valOf : List Oper → List (AV × Option AO) → (Nat → Option AV) → Nat → Option AV
  | o :: r, x :: xs, g => valOf r xs (upd g o.dst x.1)
  | _, _, g => g
def objOf : List Oper → List (AV × Option AO) → Nat → (Nat → Option AO) → Nat → Option AO
  | _ :: r, x :: xs, n, ob => objOf r xs (n + 1) (updN ob n x.2)
  | _, _, _, ob => ob
theorem afterAt_get (σ : St) (dst : Option Nat) (x : AV) (no : Option AO) (n : Nat) : (σ.afterAt dst x no n).get = upd σ.get dst x := by
  funext t
  cases dst with
  | none => rfl
  | some d => simp [St.get, St.afterAt, look, upd]
theorem afterAt_obj (σ : St) (dst : Option Nat) (x : AV) (no : Option AO) (n : Nat) : (σ.afterAt dst x no n).obj = updN σ.obj n no := by
  funext i
  cases no with
  | none => rfl
  | some o => simp only [St.obj, St.afterAt, look, updN, updO, eq_comm]
theorem Gen.end {all : Array Oper} {ob : Vis} {ops : List Oper} {n : Nat} {σ σ' : St} {rs : List (AV × Option AO)} (h : Gen P all ob ops n σ rs σ') :
    rs.length = ops.length ∧ σ'.get = valOf ops rs σ.get ∧ σ'.obj = objOf ops rs n σ.obj ∧ σ'.next = σ.next ∧ σ'.size = σ.size := by
  induction h with
  | nil n σ => exact ⟨rfl, rfl, rfl, rfl, rfl⟩
  | cons hs h h' ih =>
    obtain ⟨i1, i2, i3, i4, i5⟩ := ih
    rw [afterAt_get, hs.1] at i2
    rw [afterAt_obj, hs.2.1] at i3
    exact ⟨by simp [i1], i2, i3, i4.trans hs.2.2.1, i5.trans hs.2.2.2.1⟩
theorem Gen.at {all : Array Oper} {ob : Vis} {ops : List Oper} {n : Nat} {σ σ' : St} {rs : List (AV × Option AO)} (h : Gen P all ob ops n σ rs σ') :
    ∀ (j : Nat) (h1 : j < ops.length) (h2 : j < rs.length), ∃ σj : St, Good P all ob (n + j) σj ops[j] rs[j] ∧ σj.get = valOf (ops.take j) (rs.take j) σ.get ∧ σj.size = σ.size ∧ σj.obj = objOf (ops.take j) (rs.take j) n σ.obj := by
  induction h with
  | nil n σ => intro j h1; simp at h1
  | @cons o r n σ σ' x xs σ2 hs h h' ih =>
    intro j h1 h2
    cases j with
    | zero => exact ⟨σ, h, rfl, rfl, rfl⟩
    | succ j =>
      obtain ⟨σj, i1, i2, i3, i4⟩ := ih j (Nat.lt_of_succ_lt_succ h1) (Nat.lt_of_succ_lt_succ h2)
      rw [afterAt_get, hs.1] at i2
      rw [afterAt_obj, hs.2.1] at i4
      exact ⟨σj, by rw [show n + (j + 1) = n + 1 + j by omega]; exact i1, i2, i3.trans hs.2.2.2.1, i4⟩
theorem valOf_none : ∀ {ops : List Oper} {rs : List (AV × Option AO)} {g : Nat → Option AV} {t : Nat}, (∀ o, o ∈ ops → o.dst ≠ some t) → valOf ops rs g t = g t
  | [], rs, g, t, _ => by cases rs <;> rfl
  | o :: r, [], g, t, _ => rfl
  | o :: r, x :: xs, g, t, h => by
    unfold valOf
    rw [valOf_none fun o' ho' => h o' (by simp [ho'])]
    unfold upd
    rw [if_neg (h o (by simp))]
theorem valOf_some : ∀ {ops : List Oper} {rs : List (AV × Option AO)} {g : Nat → Option AV} {t i : Nat} {o : Oper} {x : AV × Option AO}, ops[i]? = some o → o.dst = some t → rs[i]? = some x → (∀ (j : Nat) (o' : Oper), ops[j]? = some o' → o'.dst = some t → j = i) → valOf ops rs g t = some x.1
  | [], rs, g, t, i, o, x, h, _, _, _ => by simp at h
  | o' :: r, [], g, t, i, o, x, _, _, h, _ => by simp at h
  | o' :: r, x' :: xs, g, t, i, o, x, h1, h2, h3, h4 => by
    unfold valOf
    cases i with
    | zero =>
      simp at h1 h3
      subst h1; subst h3
      rw [valOf_none fun o'' ho'' hd => by
        obtain ⟨j, hj⟩ := List.mem_iff_getElem?.1 ho''
        have := h4 (j + 1) o'' (by simpa using hj) hd
        omega]
      unfold upd
      rw [if_pos h2]
    | succ i =>
      exact valOf_some (i := i) (by simpa using h1) h2 (by simpa using h3) fun j o'' hj hd => by
        have := h4 (j + 1) o'' (by simpa using hj) hd
        omega
theorem objOf_get : ∀ {ops : List Oper} {rs : List (AV × Option AO)} {n : Nat} {ob : Nat → Option AO} {i : Nat}, rs.length = ops.length → objOf ops rs n ob i = if n ≤ i ∧ i < n + ops.length then (match (rs[i - n]?).bind (·.2) with | some o => some o | none => ob i) else ob i
  | [], rs, n, ob, i, h => by
    have : rs = [] := List.eq_nil_of_length_eq_zero h
    subst this
    simp only [objOf, List.length_nil]
    rw [if_neg (by omega)]
  | o :: r, [], n, ob, i, h => by simp at h
  | o :: r, x :: xs, n, ob, i, h => by
    unfold objOf
    rw [objOf_get (by simpa using h)]
    simp only [List.length_cons]
    by_cases hi : i = n
    · subst hi
      rw [if_neg (by omega), if_pos (by omega), Nat.sub_self]
      cases hx : x.2 <;> simp [updN, updO, hx]
    · have hu : updN ob n x.2 i = ob i := by
        cases x.2 with
        | none => rfl
        | some o => simp [updN, updO, hi]
      rw [hu]
      by_cases hc : n + 1 ≤ i ∧ i < n + 1 + r.length
      · rw [if_pos hc, if_pos (by omega), show i - n = (i - (n + 1)) + 1 by omega, List.getElem?_cons_succ]
      · rw [if_neg hc, if_neg (by omega)]
end
end Go.Sk
namespace Go.Sk
open Go.RowKit
theorem filter_lt {α : Type} {p q : α → Bool} : ∀ {l : List α}, (∀ x, q x = true → p x = true) → ∀ {x : α}, x ∈ l → p x = true → q x = false → (l.filter q).length < (l.filter p).length
  | [], _, x, h, _, _ => by simp at h
  | y :: r, hpq, x, h, h1, h2 => by
    have hle : (r.filter q).length ≤ (r.filter p).length := by
      clear h
      induction r with
      | nil => simp
      | cons z r ih =>
        simp only [List.filter_cons]
        cases hq : q z with
        | true => rw [hpq z hq]; simpa using ih
        | false => cases p z <;> simp <;> omega
    rcases List.mem_cons.1 h with rfl | h
    · simp only [List.filter_cons, h1, h2, if_true, Bool.false_eq_true, if_false, List.length_cons]
      omega
    · have := filter_lt hpq h h1 h2
      simp only [List.filter_cons]
      cases hq : q y with
      | true => rw [hpq y hq]; simpa using this
      | false => cases p y <;> simp <;> omega
def cnt (listed : Array Bool) : Nat := ((List.range listed.size).filter fun i => !listed.getD i true).length
theorem cnt_set {listed : Array Bool} {i : Nat} (h : listed.getD i true = false) : cnt (listed.setIfInBounds i true) < cnt listed := by
  have hi : i < listed.size := by
    rcases Nat.lt_or_ge i listed.size with h' | h'
    · exact h'
    · simp [Array.getElem?_eq_none h'] at h
  unfold cnt
  rw [Array.size_setIfInBounds]
  refine filter_lt (x := i) (fun x hx => ?_) (by simpa using hi) (by simpa using h) ?_
  · by_cases hxi : i = x
    · subst hxi; simp [hi] at hx
    · rw [getD_set_ne true hxi] at hx; exact hx
  · simp [hi]
def Closed (ops : Array Oper) (listed : Array Bool) : Prop := ∀ (i : Nat) (o : Oper), listed.getD i false = true → ops[i]? = some o → ∀ e ∈ o.after, Region.binds .any e = true → listed.getD e.on false = true
theorem ancs_snoc (l : List Oper) (o : Oper) : ancs (l ++ [o]) = ancs l ++ [ddp ((o.after.toList.filter (Region.binds .any)).flatMap fun e => e.on :: (ancs l).getD e.on [])] := by
  simp [ancs, List.foldl_append]
theorem ancs_len (l : List Oper) : ∀ n, n ≤ l.length → (ancs (l.take n)).length = n := by
  intro n
  induction n with
  | zero => intro _; simp [ancs]
  | succ n ih =>
    intro hn
    rw [List.take_succ_eq_append_getElem (by omega), ancs_snoc, List.length_append, ih (by omega)]
    rfl
theorem ancs_listed {ops : Array Oper} {listed : Array Bool} (hc : Closed ops listed) : ∀ n, n ≤ ops.toList.length → ∀ (j : Nat) (o : Oper), j < n → ops[j]? = some o → (∀ e ∈ o.after, Region.binds .any e = true → listed.getD e.on false = true) →
    ∀ i ∈ (ancs (ops.toList.take n)).getD j [], listed.getD i false = true := by
  intro n
  induction n with
  | zero => intro _ j o hj; omega
  | succ n ih =>
    intro hn j o hj ho hl i hi
    have hlen := ancs_len ops.toList n (by omega)
    rw [List.take_succ_eq_append_getElem (by omega), ancs_snoc] at hi
    by_cases hjn : j < n
    · refine ih (by omega) j o hjn ho hl i ?_
      simp only [List.getD_eq_getElem?_getD] at hi ⊢
      rwa [List.getElem?_append_left (by omega)] at hi
    · have hje : j = n := by omega
      subst hje
      simp only [List.getD_eq_getElem?_getD] at hi
      rw [List.getElem?_append_right (by omega), hlen, Nat.sub_self] at hi
      simp only [List.getElem?_cons_zero, Option.getD_some] at hi
      replace hi := mem_ddp hi
      simp only [List.mem_flatMap, List.mem_filter] at hi
      obtain ⟨e, ⟨he1, he2⟩, he3⟩ := hi
      have hjs : j < ops.size := by
        rw [Array.length_toList] at hn
        omega
      have hoe : ops.toList[j] = o := by
        rw [Array.getElem_toList]
        rw [Array.getElem?_eq_getElem hjs] at ho
        injection ho
      rw [hoe] at he1
      have hle := hl e (by simpa using he1) he2
      rcases List.mem_cons.1 he3 with rfl | he3
      · exact hle
      · by_cases hej : e.on < j
        · obtain ⟨o', ho'⟩ : ∃ o', ops[e.on]? = some o' := ⟨_, Array.getElem?_eq_getElem (by omega)⟩
          refine ih (by omega) e.on o' hej ho' (hc e.on o' hle ho') i ?_
          rw [List.getD_eq_getElem?_getD]; exact he3
        · rw [List.getElem?_eq_none (by omega)] at he3
          simp at he3
section
variable {P : Program} {T : TypeId → Option TI} {N0 : Nat → Prop} {base : Nat} {w0 : W0}
theorem closed_set {ops : Array Oper} {listed : Array Bool} (hc : Closed ops listed) {j : Nat} (hr : j ∈ Region.ready .any ops listed) : Closed ops (listed.setIfInBounds j true) := by
  obtain ⟨_, o', ho', hall⟩ := mem_ready.1 hr
  intro i o hi ho e he hb
  by_cases hij : j = i
  · subst hij
    rw [ho'] at ho; injection ho with ho; subst ho
    exact getD_set_true (hall e he hb)
  · rw [getD_set_ne false hij] at hi
    exact getD_set_true (hc i o hi ho e he hb)
theorem suf_any (hT : TOK P T) {ops : Array Oper} {k : Nat} (hsuf : ∀ j, j < ops.size → k ≤ j → ∀ i, i < j → i ∈ (ancs ops.toList).getD j []) (hedge : ∀ (j : Nat) (o : Oper), ops[j]? = some o → ∀ e ∈ o.after, Region.binds .any e = true → e.on < j)
    {K : St → Prop} {Q : Exit → Act → World → Prop} (hK : ∀ σ' a' w', K σ' → RS N0 base w0 σ' a' w' → Q .normal a' w') :
    ∀ (fuel i : Nat) (listed : Array Bool) (σ : St) (a : Act) (w : World), ops.size - i ≤ fuel → k ≤ i → i ≤ ops.size → listed.size = ops.size → Closed ops listed → (∀ q, q < ops.size → (listed.getD q false = true ↔ q < i)) →
      vcOps0 P T ops (ops.toList.drop i) σ K → RS N0 base w0 σ a w → wpAny P .any ops Q fuel listed a w := by
  have hgd : ∀ {listed : Array Bool} {q : Nat}, listed.size = ops.size → q < ops.size → listed.getD q true = listed.getD q false := fun h1 h2 => by
    simp [h1, h2]
  have hready : ∀ {listed : Array Bool} {i : Nat}, k ≤ i → listed.size = ops.size → Closed ops listed → (∀ q, q < ops.size → (listed.getD q false = true ↔ q < i)) → ∀ j, j ∈ Region.ready .any ops listed → j = i := by
    intro listed i hki hsz hcl hl j hj
    obtain ⟨h1, o, ho, hall⟩ := mem_ready.1 hj
    have hjs : j < ops.size := (Array.getElem?_eq_some_iff.1 ho).1
    rw [hgd hsz hjs] at h1
    have hij : ¬ j < i := fun h => by rw [(hl j hjs).2 h] at h1; cases h1
    by_cases hji : i < j
    · have := ancs_listed hcl ops.toList.length (Nat.le_refl _) j o (by simpa using hjs) ho hall i (by rw [List.take_length]; exact hsuf j hjs (by omega) i hji)
      have := (hl i (by omega)).1 this
      omega
    · omega
  intro fuel
  induction fuel with
  | zero =>
    intro i listed σ a w hf hki his hsz hcl hl hv hr
    have hie : i = ops.size := by omega
    subst hie
    rw [show ops.toList.drop ops.size = [] from List.drop_eq_nil_of_le (by simp)] at hv
    refine ⟨?_, hK _ _ _ hv hr⟩
    refine List.eq_nil_iff_forall_not_mem.2 fun j hj => ?_
    have := hready hki hsz hcl hl j hj
    obtain ⟨_, o, ho, _⟩ := mem_ready.1 hj
    have := (Array.getElem?_eq_some_iff.1 ho).1
    omega
  | succ fuel ih =>
    intro i listed σ a w hf hki his hsz hcl hl hv hr
    refine ⟨fun hnil => ?_, fun j hj => ?_⟩
    · by_cases hie : i = ops.size
      · subst hie
        rw [show ops.toList.drop ops.size = [] from List.drop_eq_nil_of_le (by simp)] at hv
        exact hK _ _ _ hv hr
      · have hil : i < ops.size := by omega
        have : i ∈ Region.ready .any ops listed := mem_ready.2 ⟨by
          rw [hgd hsz hil]
          cases h : listed.getD i false with
          | false => rfl
          | true => have := (hl i hil).1 h; omega, _, Array.getElem?_eq_getElem hil, fun e he hbi => (hl _ (by have := hedge i _ (Array.getElem?_eq_getElem hil) e he hbi; omega)).2 (hedge i _ (Array.getElem?_eq_getElem hil) e he hbi)⟩
        rw [hnil] at this
        cases this
    · obtain rfl := hready hki hsz hcl hl j hj
      have hcl' := closed_set hcl hj
      obtain ⟨_, o, ho, _⟩ := mem_ready.1 hj
      have hjs : j < ops.size := (Array.getElem?_eq_some_iff.1 ho).1
      have hoe : ops.toList[j]'(by simpa using hjs) = o := by
        rw [Array.getElem_toList]
        rw [Array.getElem?_eq_getElem hjs] at ho
        injection ho
      rw [List.drop_eq_getElem_cons (by simpa using hjs), hoe] at hv
      have next : ∀ {σ' : St} {a' : Act} {w' : World}, vcOps0 P T ops (ops.toList.drop (j + 1)) σ' K → RS N0 base w0 σ' a' w' → wpAny P .any ops Q fuel (listed.setIfInBounds j true) a' w' := fun h1 h2 =>
        ih (j + 1) _ _ _ _ (by omega) (by omega) (by omega) (by simpa using hsz) hcl' (fun q hq => by
          by_cases hjq : j = q
          · subst hjq; simp [hsz, hjs]
          · rw [getD_set_ne false hjq, hl q hq]; omega) h1 h2
      unfold wpOp
      rw [ho]
      have hone := vcOps0_sound (N0 := N0) (base := base) (w0 := w0) hT (all := ops) (ops := [o]) (σ := σ) (K := fun σ' => vcOps0 P T ops (ops.toList.drop (j + 1)) σ' K) (a := a) (w := w)
        (Q := fun e a' w' => match e with | .normal => wpAny P .any ops Q fuel (listed.setIfInBounds j true) a' w' | e => Q e a' w') (by
          unfold vcOps0 at hv ⊢
          exact hv) hr (fun σ' a' w' h1 h2 => next h1 h2)
      unfold wpList at hone
      simp only
      split at hone
      · rename_i hw
        rw [if_pos hw]
        rcases hone with hone | ⟨h1, a0, w0', h2⟩
        · left
          unfold Oper.wp at hone ⊢
          generalize (execOp a.eval o).run P w = r at hone ⊢
          cases r with
          | ok n w' =>
            cases n <;> simp only [Oper.upon, wpList] at hone ⊢ <;> exact hone
          | halt x w' => cases x <;> simp only [Oper.upon] at hone ⊢ <;> exact hone
        · exact .inr ⟨h1, a0, w0', h2⟩
      · rename_i hw
        rw [if_neg hw]
        exact hone
theorem dstIdx_some {pre : List Oper} {t i : Nat} (h : dstIdx pre t = some i) : ∃ o, pre[i]? = some o ∧ o.dst = some t := by
  unfold dstIdx at h
  rw [List.findIdx?_eq_some_iff_getElem] at h
  obtain ⟨h1, h2, _⟩ := h
  exact ⟨pre[i], List.getElem?_eq_getElem h1, by simpa using h2⟩
theorem dstIdx_none {pre : List Oper} {t : Nat} (h : dstIdx pre t = none) : ∀ o, o ∈ pre → o.dst ≠ some t := by
  unfold dstIdx at h
  rw [List.findIdx?_eq_none_iff] at h
  intro o ho hd
  have := h o ho
  simp [hd] at this
structure PreF (ops : Array Oper) (k : Nat) : Prop where
  dst : ∀ (j : Nat) (o : Oper), j < k → ops[j]? = some o → ∃ d, o.dst = some d ∧ dstIdx (ops.toList.take k) d = some j
  look : ∀ (j : Nat) (o : Oper), j < k → ops[j]? = some o → ∀ t, t ∈ tmpsOf o → ∀ i, dstIdx (ops.toList.take k) t = some i → afterB o i = true
  guard : ∀ (j : Nat) (o : Oper), j < k → ops[j]? = some o → ∀ g want d, o.guard = some (g, want) → (ops[g]?).bind Oper.dst = some d → ∀ i, dstIdx (ops.toList.take k) d = some i → afterB o i = true
  edge : ∀ (j : Nat) (o : Oper), ops[j]? = some o → ∀ e ∈ o.after, Region.binds .any e = true → e.on < j
theorem preOK_spec {ops : Array Oper} {k : Nat} (hk : k ≤ ops.size) (h : preOK ops.toList k = true) : PreF ops k := by
  unfold preOK at h
  rw [Bool.and_eq_true] at h
  replace h := h.1
  simp only [Bool.and_eq_true, List.all_eq_true] at h
  obtain ⟨h1, h2⟩ := h
  have hmem : ∀ (j : Nat) (o : Oper), j < k → ops[j]? = some o → (o, j) ∈ (ops.toList.take k).zipIdx := fun j o hj ho => by
    obtain ⟨q1, q2⟩ := Array.getElem?_eq_some_iff.1 ho
    refine List.mem_iff_getElem.2 ⟨j, by simp; omega, ?_⟩
    simp [q2]
  refine ⟨fun j o hj ho => ?_, fun j o hj ho t ht i hi => ?_, fun j o hj ho g want d hg hd i hi => ?_, fun j o ho e he hbi => ?_⟩
  · have := (h1 _ (hmem j o hj ho)).1.1
    simp only at this
    cases hd : o.dst with
    | none => simp [hd] at this
    | some d => simp only [hd] at this; exact ⟨d, rfl, by simpa using this⟩
  · have := (h1 _ (hmem j o hj ho)).1.2 t ht
    unfold looksOK at this
    rw [hi] at this
    exact this
  · have := (h1 _ (hmem j o hj ho)).2
    simp only [hg, Array.getElem?_toList, hd] at this
    unfold looksOK at this
    rw [hi] at this
    exact this
  · obtain ⟨q1, q2⟩ := Array.getElem?_eq_some_iff.1 ho
    have hm : (o, j) ∈ ops.toList.zipIdx := List.mem_iff_getElem.2 ⟨j, by simpa using q1, by simp [q2]⟩
    have := h2 _ hm e (by simpa using he)
    simpa [hbi] using this
theorem after_of {o : Oper} {i : Nat} {listed : Array Bool} (h : afterB o i = true) (hall : ∀ e ∈ o.after, Region.binds .any e = true → listed.getD e.on false = true) : listed.getD i false = true := by
  unfold afterB at h
  rw [List.any_eq_true] at h
  obtain ⟨e, h1, h2⟩ := h
  simp only [Bool.and_eq_true, beq_iff_eq] at h2
  exact h2.2 ▸ hall e (by simpa using h1) h2.1
def gS (pre : List Oper) (rs : List (AV × Option AO)) (listed : Array Bool) (g : Nat → Option AV) (t : Nat) : Option AV :=
  match dstIdx pre t with
  | some i => if listed.getD i false = true then (rs[i]?).map (·.1) else none
  | none => g t
def oS (rs : List (AV × Option AO)) (n : Nat) (listed : Array Bool) (ob : Nat → Option AO) (id : Nat) : Option AO :=
  if n ≤ id ∧ listed.getD (id - n) false = true then (match (rs[id - n]?).bind (·.2) with | some o => some o | none => ob id) else ob id
def aS (n : Nat) (listed : Array Bool) (id : Nat) : Prop := id < n ∨ (n ≤ id ∧ listed.getD (id - n) false = true)
theorem Rel.weakA {m : Nat} {V : VV} {g : Nat → Option AV} {ob : Nat → Option AO} {A A' : Nat → Prop} {a : Act} {w : World} (h : Rel N0 base w0 m V g ob A a w) (hA : ∀ i, A i → A' i) : Rel N0 base w0 m V g ob A' a w :=
  { h with
    bdt := fun t x hx => bd_mono hA x (h.bdt t x hx)
    bdo := fun i o ho => ⟨hA i (h.bdo i o ho).1, bdO_mono hA o (h.bdo i o ho).2⟩
    par := fun i hi => ⟨hA i (h.par i hi).1, (h.par i hi).2⟩ }
theorem Gen.par_eq {P : Program} {all : Array Oper} {ob : Vis} : ∀ {ops : List Oper} {n : Nat} {σ σ' : St} {rs : List (AV × Option AO)}, Gen P all ob ops n σ rs σ' → σ'.par = σ.par := by
  intro ops n σ σ' rs h
  induction h with
  | nil => rfl
  | cons hs _ _ ih => exact ih.trans hs.2.2.2.2
theorem Rel.less {m : Nat} {V : VV} {g g' : Nat → Option AV} {ob : Nat → Option AO} {A : Nat → Prop} {a : Act} {w : World} (h : Rel N0 base w0 m V g ob A a w) (hg : ∀ t x, g' t = some x → g t = some x) : Rel N0 base w0 m V g' ob A a w :=
  { h with
    tm := fun t x hx => h.tm t x (hg t x hx)
    bdt := fun t x hx => h.bdt t x (hg t x hx) }
theorem drawn_rel {σ : St} {a : Act} {w : World} (h : RS N0 base w0 σ a w) : RS N0 base w0 σ a { w with drawn := w.drawn + 1 } := by
  obtain ⟨hp, V, hV⟩ := h
  exact ⟨hp, V, hV.grow (w' := { w with drawn := w.drawn + 1 }) ⟨rfl, rfl, ⟨rfl, Nat.le_succ _⟩, Nat.le_refl _, fun _ _ => rfl⟩⟩
end
end Go.Sk
namespace Go.Sk
open Go.RowKit
section
variable {P : Program} {T : TypeId → Option TI} {N0 : Nat → Prop} {base : Nat} {w0 : W0}
theorem yielded_rel {m : Nat} {V : VV} {g : Nat → Option AV} {ob : Nat → Option AO} {A : Nat → Prop} {a : Act} {w : World} (hV : Rel N0 base w0 m V g ob A a w) {all : Array Oper} {j d : Nat} (hj : (all[j]?).bind Oper.dst = some d) :
    (∀ b, g d = some (.v (.bool b)) → yielded all a.tmps j = some b) ∧ (g d = some .skip → yielded all a.tmps j = none) := by
  refine ⟨fun b hb => ?_, fun hb => ?_⟩
  · have := eval_v (hV.tm d _ hb)
    unfold yielded
    have hj' : ((all[j]?).bind (·.dst)) = some d := hj
    rw [hj']
    simp only [Option.bind_some]
    simp at this
    cases ht : a.tmps[d]? with
    | none => simp [ht, Go.undef] at this
    | some v => simp [ht] at this; subst this; rfl
  · have := hV.tm d _ hb
    unfold yielded
    have hj' : ((all[j]?).bind (·.dst)) = some d := hj
    rw [hj']
    simp only [Option.bind_some]
    generalize hv : a.tmps.getD d Go.undef = v at this
    cases this with
    | im h => cases h
    | skip =>
      simp at hv
      cases ht : a.tmps[d]? with
      | none => rfl
      | some v => simp [ht] at hv; subst hv; rfl
theorem take_get {α : Type} {l : List α} {i j : Nat} (h : i < j) : (l.take j)[i]? = l[i]? := by rw [List.getElem?_take, if_pos h]
theorem pre_any (hT : TOK P T) {ops : Array Oper} {k : Nat} (hk : k ≤ ops.size) (hF : PreF ops k) (hsuf : ∀ j, j < ops.size → k ≤ j → ∀ i, i < j → i ∈ (ancs ops.toList).getD j [])
    {σ σ0 σ1 : St} (hσ0 : σ0.get = σ.get ∧ σ0.obj = σ.obj ∧ σ0.size = σ.size ∧ σ0.next = σ.next + k) {rs : List (AV × Option AO)} (hG : Gen P ops ⟨σ.obj, σ.next⟩ (ops.toList.take k) σ.next σ0 rs σ1) (hpar : w0.m = σ1.par) (hobn : ∀ i u, σ.obj i = some u → i < σ.next)
    {K : St → Prop} (hv : vcOps0 P T ops (ops.toList.drop k) σ1 K) {Q : Exit → Act → World → Prop} (hK : ∀ σ' a' w', K σ' → RS N0 base w0 σ' a' w' → Q .normal a' w') :
    ∀ (fuel : Nat) (listed : Array Bool) (a : Act) (w : World), cnt listed ≤ fuel → listed.size = ops.size → Closed ops listed → (∀ i, k ≤ i → listed.getD i false = false) →
      (∃ V, Rel N0 base w0 σ.size V (gS (ops.toList.take k) rs listed σ.get) (oS rs σ.next listed σ.obj) (aS σ.next listed) a w) → wpAny P .any ops Q fuel listed a w := by
  obtain ⟨hlen, hend1, hend2, hend3, hend4⟩ := hG.end
  rw [hσ0.1] at hend1
  rw [hσ0.2.1] at hend2
  have hplen : (ops.toList.take k).length = k := by simp; omega
  have hpre : ∀ {i : Nat}, i < k → (ops.toList.take k)[i]? = ops[i]? := fun hi => by rw [take_get hi]; simp
  have huniq : ∀ {t i j : Nat} {o : Oper}, dstIdx (ops.toList.take k) t = some i → (ops.toList.take k)[j]? = some o → o.dst = some t → j = i := by
    intro t i j o hi hj hd
    have hjk : j < k := by have := (List.getElem?_eq_some_iff.1 hj).1; omega
    obtain ⟨d, h1, h2⟩ := hF.dst j o hjk (by rw [← hpre hjk]; exact hj)
    rw [hd] at h1
    injection h1 with h1
    subst h1
    rw [h2] at hi
    injection hi
  have hik : ∀ {t i : Nat}, dstIdx (ops.toList.take k) t = some i → i < k := fun hi => by
    obtain ⟨o, h1, _⟩ := dstIdx_some hi
    have := (List.getElem?_eq_some_iff.1 h1).1
    omega
  have hgd : ∀ {listed : Array Bool} {q : Nat}, listed.size = ops.size → q < ops.size → listed.getD q true = listed.getD q false := fun h1 h2 => by simp [h1, h2]
  intro fuel
  induction fuel with
  | zero =>
    intro listed a w hc hsz hcl hun hr
    have hall : ∀ i, i < ops.size → listed.getD i false = true := fun i hi => by
      cases h : listed.getD i false with
      | true => rfl
      | false =>
        have := cnt_set (listed := listed) (i := i) (by rw [hgd hsz hi]; exact h)
        omega
    have hke : k = ops.size := by
      rcases Nat.lt_or_ge k ops.size with h | h
      · have h1 := hall k h
        rw [hun k (Nat.le_refl _)] at h1
        cases h1
      · omega
    refine suf_any hT hsuf hF.edge hK 0 k listed σ1 a w (by omega) (Nat.le_refl _) hk hsz hcl (fun q hq => ⟨fun _ => by omega, fun _ => hall q hq⟩) hv ?_
    obtain ⟨V, hV⟩ := hr
    refine ⟨hpar, V, ?_⟩
    have hobj : σ1.obj = oS rs σ.next listed σ.obj := by
      rw [hend2]; funext id
      rw [objOf_get hlen, hplen]
      unfold oS
      by_cases hid : σ.next ≤ id ∧ id < σ.next + k
      · rw [if_pos hid, if_pos ⟨hid.1, hall _ (by omega)⟩]
        try (cases (rs[id - σ.next]?).bind (·.2) <;> rfl)
      · rw [if_neg hid]
        split
        · rename_i h2
          have : rs[id - σ.next]? = none := List.getElem?_eq_none (by omega)
          rw [this]; rfl
        · rfl
    rw [hobj, hend4, hσ0.2.2.1]
    refine (hV.weakA (A' := fun i => i < σ1.next) fun i hi => ?_).less fun t x hx => ?_
    · rw [hend3, hσ0.2.2.2]
      rcases hi with hi | ⟨h1, h2⟩
      · omega
      · rcases Nat.lt_or_ge (i - σ.next) k with h3 | h3
        · omega
        · rw [hun _ h3] at h2; cases h2
    · rw [hend1] at hx
      unfold gS
      split
      · rename_i i hi
        obtain ⟨o, h1, h2⟩ := dstIdx_some hi
        have h3 : i < rs.length := by have := hik hi; omega
        rw [valOf_some h1 h2 (List.getElem?_eq_getElem h3) (fun j o' hj hd => huniq hi hj hd)] at hx
        rw [if_pos (hall i (by have := hik hi; omega)), List.getElem?_eq_getElem h3]
        exact hx
      · rename_i hi
        rw [valOf_none (dstIdx_none hi)] at hx
        exact hx
  | succ fuel ih =>
    intro listed a w hc hsz hcl hun hr
    by_cases hall : ∀ i, i < k → listed.getD i false = true
    · refine suf_any hT hsuf hF.edge hK (fuel + 1) k listed σ1 a w ?_ (Nat.le_refl _) hk hsz hcl (fun q hq => ⟨fun h => (by
          rcases Nat.lt_or_ge q k with h' | h'
          · exact h'
          · rw [hun q h'] at h; cases h), fun h => hall q h⟩) hv ?_
      ·
        have : ops.size - k ≤ cnt listed := by
          unfold cnt
          rw [hsz]
          have hsub : (List.range' k (ops.size - k)).length ≤ ((List.range ops.size).filter fun i => !listed.getD i true).length := by
            refine List.Sublist.length_le ?_
            have h1 : (List.range' k (ops.size - k)).filter (fun i => !listed.getD i true) = List.range' k (ops.size - k) := by
              rw [List.filter_eq_self]
              intro q hq
              have hq' := List.mem_range'_1.1 hq
              rw [hgd hsz (by omega), hun q hq'.1]; rfl
            rw [← h1]
            refine List.Sublist.filter _ ?_
            rw [List.range_eq_range']
            have : List.range' 0 ops.size = List.range' 0 k ++ List.range' k (ops.size - k) := by
              rw [show ops.size = k + (ops.size - k) by omega, ← List.range'_append_1]
              simp
            rw [this]
            exact List.sublist_append_right _ _
          simpa using hsub
        omega
      · obtain ⟨V, hV⟩ := hr
        refine ⟨hpar, V, ?_⟩
        have hobj : σ1.obj = oS rs σ.next listed σ.obj := by
          rw [hend2]; funext id
          rw [objOf_get hlen, hplen]
          unfold oS
          by_cases hid : σ.next ≤ id ∧ id < σ.next + k
          · rw [if_pos hid, if_pos ⟨hid.1, hall _ (by omega)⟩]
            try (cases (rs[id - σ.next]?).bind (·.2) <;> rfl)
          · rw [if_neg hid]
            split
            · rename_i h2
              have : rs[id - σ.next]? = none := List.getElem?_eq_none (by omega)
              rw [this]; rfl
            · rfl
        rw [hobj, hend4, hσ0.2.2.1]
        refine (hV.weakA (A' := fun i => i < σ1.next) fun i hi => ?_).less fun t x hx => ?_
        · rw [hend3, hσ0.2.2.2]
          rcases hi with hi | ⟨h1, h2⟩
          · omega
          · rcases Nat.lt_or_ge (i - σ.next) k with h3 | h3
            · omega
            · rw [hun _ h3] at h2; cases h2
        · rw [hend1] at hx
          unfold gS
          split
          · rename_i i hi
            obtain ⟨o, h1, h2⟩ := dstIdx_some hi
            have h3 : i < rs.length := by have := hik hi; omega
            rw [valOf_some h1 h2 (List.getElem?_eq_getElem h3) (fun j o' hj hd => huniq hi hj hd)] at hx
            rw [if_pos (hall i (hik hi)), List.getElem?_eq_getElem h3]
            exact hx
          · rename_i hi
            rw [valOf_none (dstIdx_none hi)] at hx
            exact hx
    ·
      have hex : ∃ i, i < k ∧ listed.getD i false = false := by
        refine Classical.byContradiction fun hno => hall fun i hi => ?_
        cases h : listed.getD i false with
        | true => rfl
        | false => exact absurd ⟨i, hi, h⟩ hno
      obtain ⟨i0, ⟨hi0, hf0⟩, hmin⟩ := exists_least hex
      have hready0 : i0 ∈ Region.ready .any ops listed := mem_ready.2 ⟨(by rw [hgd hsz (by omega)]; exact hf0), _, Array.getElem?_eq_getElem (by omega), fun e he hbi => by
        have hlt := hF.edge i0 _ (Array.getElem?_eq_getElem (by omega)) e he hbi
        cases h : listed.getD e.on false with
        | true => rfl
        | false => have := hmin e.on ⟨by omega, h⟩; omega⟩
      refine ⟨fun hnil => (by rw [hnil] at hready0; cases hready0), fun j hj => ?_⟩
      obtain ⟨h1, o, ho, hpred⟩ := mem_ready.1 hj
      have hjs : j < ops.size := (Array.getElem?_eq_some_iff.1 ho).1
      rw [hgd hsz hjs] at h1
      have hjk : j < k := by
        rcases Nat.lt_or_ge j k with h | h
        · exact h
        · have := ancs_listed hcl ops.toList.length (Nat.le_refl _) j o (by simpa using hjs) ho hpred i0 (by rw [List.take_length]; exact hsuf j hjs h i0 (by omega))
          rw [hf0] at this; cases this
      have hcl' := closed_set hcl hj
      have hsz' : (listed.setIfInBounds j true).size = ops.size := by simpa using hsz
      have hcnt' : cnt (listed.setIfInBounds j true) ≤ fuel := by
        have := cnt_set (listed := listed) (i := j) (by rw [hgd hsz hjs]; exact h1)
        omega
      have hun' : ∀ i, k ≤ i → (listed.setIfInBounds j true).getD i false = false := fun i hi => by rw [getD_set_ne false (by omega)]; exact hun i hi
      have hself : (listed.setIfInBounds j true).getD j false = true := by simp [hsz, hjs]
      have hpj : (ops.toList.take k)[j]? = some o := by rw [hpre hjk]; exact ho
      have hjl : j < (ops.toList.take k).length := by omega
      have hjr : j < rs.length := by omega
      have hoj : (ops.toList.take k)[j] = o := by rw [List.getElem?_eq_getElem hjl] at hpj; injection hpj
      obtain ⟨σj, hgood, hgj, hszj, hobj⟩ := hG.at j hjl hjr
      rw [hoj] at hgood
      rw [hσ0.1] at hgj
      rw [hσ0.2.2.1] at hszj
      obtain ⟨d, hd1, hd2⟩ := hF.dst j o hjk ho
      obtain ⟨V, hV⟩ := hr
      have agree : ∀ t, (∀ i, dstIdx (ops.toList.take k) t = some i → afterB o i = true) → gS (ops.toList.take k) rs listed σ.get t = σj.get t := by
        intro t ht
        rw [hgj]
        unfold gS
        split
        · rename_i i hi
          have hab := ht i hi
          have hli := after_of hab hpred
          have hij : i < j := by
            unfold afterB at hab
            rw [List.any_eq_true] at hab
            obtain ⟨e, h3, h4⟩ := hab
            simp only [Bool.and_eq_true, beq_iff_eq] at h4
            have := hF.edge j o ho e (by simpa using h3) h4.1
            omega
          obtain ⟨oi, q1, q2⟩ := dstIdx_some hi
          have hir : i < rs.length := by have := hik hi; omega
          rw [if_pos hli, valOf_some (i := i) (o := oi) (x := rs[i]) (by rw [take_get hij]; exact q1) q2 (by rw [take_get hij]; exact List.getElem?_eq_getElem hir) (fun j' o' hj' hd' => by
            have hlt : j' < j := by have := (List.getElem?_eq_some_iff.1 hj').1; simp at this; omega
            rw [take_get hlt] at hj'
            exact huniq hi hj' hd')]
          rw [List.getElem?_eq_getElem hir]; rfl
        · rename_i hi
          rw [valOf_none fun o' ho' => dstIdx_none hi o' (List.mem_of_mem_take ho')]
      have hwant : ∀ b, wantA ops σj o = some b → Region.wanted o (yielded ops a.tmps) = b := by
        intro b hb
        unfold wantA at hb
        unfold Region.wanted
        split at hb
        · rename_i hg; rw [hg]; injection hb
        · rename_i g want hg
          rw [hg]
          simp only
          split at hb
          · cases hb
          · rename_i d' hd'
            obtain ⟨y1, y2⟩ := yielded_rel hV hd'
            have hag := agree d' fun i hi => hF.guard j o hjk ho g want d' hg hd' i hi
            split at hb
            · rename_i b' hb'
              have hbb := Option.some.inj hb
              subst hbb
              rw [y1 b' (by rw [hag]; exact hb')]
              cases b' <;> cases want <;> rfl
            · rename_i hb'
              have hbb := Option.some.inj hb
              subst hbb
              rw [y2 (by rw [hag]; exact hb')]
              rfl
            · cases hb
      have hgS' : ∀ x, rs[j].1 = x → gS (ops.toList.take k) rs (listed.setIfInBounds j true) σ.get = upd (gS (ops.toList.take k) rs listed σ.get) o.dst x := by
        intro x hx
        funext t
        unfold upd
        rw [hd1]
        by_cases htd : d = t
        · subst htd
          rw [if_pos rfl]
          unfold gS
          simp only [hd2, hself, if_true, List.getElem?_eq_getElem hjr, Option.map_some, hx]
        · rw [if_neg (fun e => htd (by injection e))]
          unfold gS
          split
          · rename_i i hi
            have hne : j ≠ i := fun e => by
              subst e
              obtain ⟨oi, q1, q2⟩ := dstIdx_some hi
              rw [hpj] at q1
              injection q1 with q1
              subst q1
              rw [hd1] at q2
              injection q2 with q2
              exact htd q2
            rw [getD_set_ne false hne]
          · rfl
      have hoS' : ∀ no, rs[j].2 = no → oS rs σ.next (listed.setIfInBounds j true) σ.obj = updN (oS rs σ.next listed σ.obj) (σ.next + j) no := by
        intro no hno
        funext id
        by_cases hid : id = σ.next + j
        · subst hid
          have e1 : σ.next + j - σ.next = j := by omega
          have hl : oS rs σ.next (listed.setIfInBounds j true) σ.obj (σ.next + j) = match no with | some o => some o | none => σ.obj (σ.next + j) := by
            unfold oS
            rw [e1, if_pos ⟨by omega, hself⟩, List.getElem?_eq_getElem hjr]
            simp only [Option.bind_some, hno]
            cases no <;> rfl
          have hl2 : oS rs σ.next listed σ.obj (σ.next + j) = σ.obj (σ.next + j) := by
            unfold oS
            rw [e1, if_neg (fun h => by rw [h1] at h; cases h.2)]
          rw [hl]
          cases no with
          | none => exact hl2.symm
          | some o' => simp [updN, updO]
        · have hl : oS rs σ.next (listed.setIfInBounds j true) σ.obj id = oS rs σ.next listed σ.obj id := by
            unfold oS
            by_cases hn : σ.next ≤ id
            · rw [getD_set_ne false (by omega)]
            · rw [if_neg (fun h => hn h.1), if_neg (fun h => hn h.1)]
          rw [hl]
          cases no with
          | none => rfl
          | some o' => simp [updN, updO, hid]
      have haS' : ∀ i, aS σ.next listed i → aS σ.next (listed.setIfInBounds j true) i := fun i hi => by
        rcases hi with hi | ⟨q1, q2⟩
        · exact .inl hi
        · exact .inr ⟨q1, getD_set_true q2⟩
      have hdok : ∀ d', o.dst = some d' → d' < σ.size := fun d' hd' => by rw [← hszj]; exact dstOk_spec hgood.1 d' hd'
      unfold wpOp
      rw [ho]
      simp only
      rcases hgood.2 with ⟨hw, hok⟩ | ⟨hw, hskip⟩
      · rw [if_pos (hwant true hw)]
        left
        refine hok hV (fun y hy => ?_) (fun i u hu => ?_) (fun hA => ?_) hdok _ Q fun a' w' V' hV' => ?_
        · cases y with
          | tmp t => exact agree t fun i hi => hF.look j o hjk ho t (by
              unfold tmpsOf
              rw [List.mem_filterMap]
              exact ⟨.tmp t, by simpa using hy, rfl⟩) i hi
          | _ => rfl
        · unfold Vis.of at hu
          simp only at hu
          split at hu
          · rename_i u' hu'
            injection hu with hu
            subst hu
            have := hobn i u' hu'
            unfold oS
            rw [if_neg (by omega)]
            exact hu'
          · rename_i hnone
            split at hu
            · rename_i hc
              rw [Bool.and_eq_true, decide_eq_true_eq] at hc
              have hab := hc.2
              have hli := after_of hab hpred
              have hij : i - σ.next < j := by
                unfold afterB at hab
                rw [List.any_eq_true] at hab
                obtain ⟨e, h3, h4⟩ := hab
                simp only [Bool.and_eq_true, beq_iff_eq] at h4
                have := hF.edge j o ho e (by simpa using h3) h4.1
                omega
              rw [hobj, objOf_get (by rw [List.length_take, List.length_take]; omega), hσ0.2.1] at hu
              rw [if_pos ⟨hc.1, by rw [List.length_take]; omega⟩, take_get hij] at hu
              unfold oS
              rw [if_pos ⟨hc.1, hli⟩]
              exact hu
            · cases hu
        · rcases hA with hA | ⟨_, hA⟩
          · omega
          · rw [show σ.next + j - σ.next = j by omega, h1] at hA; cases hA
        · refine ih _ _ _ hcnt' hsz' hcl' hun' ⟨V', ?_⟩
          rw [hgS' _ rfl, hoS' _ rfl]
          refine hV'.weakA fun i hi => ?_
          cases hno : rs[j].2 with
          | none => rw [hno] at hi; exact haS' i hi
          | some o' =>
            rw [hno] at hi
            rcases hi with hi | rfl
            · exact haS' i hi
            · exact .inr ⟨by omega, by rw [show σ.next + j - σ.next = j by omega]; exact hself⟩
      · rw [if_neg (by rw [hwant false hw]; simp)]
        refine ih _ _ _ hcnt' hsz' hcl' hun' ⟨V, ?_⟩
        rw [hgS' .skip (by rw [hskip]), hoS' none (by rw [hskip])]
        exact (hV.put hdok .skip (by simp [bd])).weakA haS'
theorem vcDraw_any (hT : TOK P T) {ops : Array Oper} {σ : St} {K : St → Prop} {a : Act} {w : World} {Q : Exit → Act → World → Prop} (h : vcDraw P T ops σ K) (hr : RS N0 base w0 σ a w)
    (hK : ∀ σ' a' w', K σ' → RS N0 base w0 σ' a' w' → Q .normal a' w') : wpAny P .any ops Q ops.size (Array.replicate ops.size false) a { w with drawn := w.drawn + 1 } := by
  obtain ⟨k, hc, hv⟩ := h
  simp only [Bool.and_eq_true, decide_eq_true_eq] at hc
  obtain ⟨⟨hpre, hsuf⟩, hk⟩ := hc
  obtain ⟨rs, σ1, hG, hv1⟩ := hv.gen hT
  have hF := preOK_spec hk hpre
  have hsuf' : ∀ j, j < ops.size → k ≤ j → ∀ i, i < j → i ∈ (ancs ops.toList).getD j [] := by
    intro j hj hkj i hij
    unfold sufOK at hsuf
    simp only [List.all_eq_true, List.mem_range, Bool.or_eq_true, decide_eq_true_eq] at hsuf
    rcases hsuf j (by simpa using hj) with h | h
    · omega
    · have := h i hij
      simpa using this
  have hr' := drawn_rel hr
  obtain ⟨hp, V, hV⟩ := hr'
  have h0 : ∀ i, (Array.replicate ops.size false).getD i false = false := fun i => by
    rcases Nat.lt_or_ge i ops.size with h | h
    · simp [h]
    · simp [h]
  refine pre_any hT hk hF hsuf' (σ := σ) (σ0 := { σ with next := σ.next + k }) ⟨rfl, rfl, rfl, rfl⟩ hG (by rw [hG.par_eq]; exact hp) (fun i u hu => (hV.bdo i u hu).1) hv1 hK ops.size _ a _ ?_ (by simp) (fun i o hi => by rw [h0] at hi; cases hi) (fun i _ => h0 i) ⟨V, ?_⟩
  · unfold cnt
    refine Nat.le_trans (List.length_filter_le _ _) (by simp)
  · have e2 : oS rs σ.next (Array.replicate ops.size false) σ.obj = σ.obj := by
      funext i
      unfold oS
      rw [if_neg (fun h => by rw [h0] at h; cases h.2)]
    rw [e2]
    refine (hV.weakA fun i hi => .inl hi).less fun t x hx => ?_
    unfold gS at hx
    split at hx
    · rw [h0] at hx
      simp at hx
    · exact hx
def onlyN (Q : Exit → Act → World → Prop) (e : Exit) (a : Act) (w : World) : Prop := e = .normal ∧ Q .normal a w
theorem noDefer_spec {o : Oper} (h : noDefer o = true) : ∀ c, o.op ≠ .defer c := fun c hc => by unfold noDefer at h; rw [hc] at h; cases h
theorem wpAnyIn_of {md : Region.Mode} {ops : Array Oper} {Q : Exit → Act → World → Prop} {r0 : Option Nat} {n : Nat} (hd : ∀ (i : Nat) (o : Oper), ops[i]? = some o → noDefer o = true) : ∀ (fuel : Nat) (listed : Array Bool) (a : Act) (w : World),
    wpAny P md ops (onlyN Q) fuel listed a w → wpAnyIn (WR r0) n P md ops (onlyN Q) fuel listed a w
  | 0, _, _, _, h => h
  | fuel + 1, listed, a, w, h => ⟨h.1, fun i hi => by
    have h2 := h.2 i hi
    unfold wpOp at h2
    unfold wpOpIn
    split
    · rename_i hn
      rw [hn] at h2
      exact wpAnyIn_of hd fuel _ _ _ h2
    · rename_i o ho
      rw [ho] at h2
      simp only at h2
      split
      · rename_i hw
        rw [if_pos hw] at h2
        rcases h2 with h2 | ⟨_, q1, q2, q3⟩
        · exact Oper.wpIn_mono (fun a w => wpAnyIn_of hd fuel _ a w) (wpIn_of_wp (noDefer_spec (hd i o ho)) h2)
        · cases q3.1
      · rename_i hw
        rw [if_neg hw] at h2
        exact ⟨fun _ _ => trivial, wpAnyIn_of hd fuel _ _ _ h2⟩⟩
theorem vcDraw_noDefer {ops : Array Oper} {σ : St} {K : St → Prop} (h : vcDraw P T ops σ K) : ∀ (i : Nat) (o : Oper), ops[i]? = some o → noDefer o = true := fun i o ho => by
  obtain ⟨k, h, _⟩ := h
  simp only [Bool.and_eq_true] at h
  have := h.1.1
  unfold preOK at this
  rw [Bool.and_eq_true] at this
  exact List.all_eq_true.1 this.2 o (Array.mem_toList_iff.2 (Array.mem_of_getElem? ho))
theorem vcDraw_ok (hT : TOK P T) (hm : P.follows .mixedOrders = true) : DOK P (vcDraw P T) := fun {N0 base w0 r0 n id ops σ K a w Q} h hr hK =>
  wpIn_mono (wpIn_region_any hm (wpAnyIn_of (Q := Q) (vcDraw_noDefer h) _ _ _ _ (vcDraw_any (Q := onlyN Q) hT h hr fun σ' a' w' h1 h2 => ⟨rfl, hK σ' a' w' h1 h2⟩))) fun e a w ⟨h1, h2⟩ => by subst h1; exact h2
end
end Go.Sk
