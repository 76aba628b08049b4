/- A checker of Go functions by conditions over small pure states: part 9. -/
import Derived.Test.YtceeabnmleemiaaSk7
import Derived.Tactics
import Derived.Deep.LoopGhost
import Derived.TacticsIn
import Derived.OrdersIn
import Derived.RangeFuncLeaves
import Derived.RangeFuncRecord
import Derived.RangeFuncIn
import Derived.Sort.LoopGhostIn
set_option linter.unusedVariables false
set_option linter.unusedSimpArgs false

-- SkT
/- The conditions under which a body does what is said of it; and that they are enough. -/
namespace Go.Sk
open Go.RowKit

def liveC (ob : Nat → Option AO) : AV → List Nat
  | .ref id => match ob id with
    | some (.arr _ _) => [id]
    | _ => []
  | _ => []
def liveL (ob : Nat → Option AO) : List AV → List Nat
  | [] => []
  | x :: r => liveC ob x ++ liveL ob r
def liveA (ob : Nat → Option AO) : AV → List Nat
  | .ag cs => liveL ob cs
  | x => liveC ob x
def liveAs (ob : Nat → Option AO) : List AV → List Nat
  | [] => []
  | x :: r => liveA ob x ++ liveAs ob r

section
variable (P : Program) (T : TypeId → Option TI)

def pureS (σ : St) (o : Oper) (K : St → Prop) : Prop := pstep P T true σ.eval σ.obj σ.next o fun x no => K (σ.after o.dst x no)

def sappend (σ : St) (o : Oper) (t t' : TypeId) (id k : Nat) (xs : List AV) (y : AV) (K : St → Prop) : Prop :=
  match (T t).map TI.desc, elemsA σ.obj y with
  | some (TypeDesc.slice e), some ys => match T e with
    | none => False
    | some ie => if t = t' ∧ k = ie.size ∧ 0 < ie.size then (∀ e, e ∈ ys → (cellsA e).length = ie.size) ∧ (xs.length + ys.length) * ie.bytes ≤ 140737488355328 ∧ xs.length + ys.length ≤ 4611686018427387904 ∧
        CalcL (xs ++ ys) fun zs => K ((σ.setObj id .dead).after o.dst (.ref σ.next) (some (.arr k zs))) else False
  | _, _ => False

def scut (σ : St) (o : Oper) (t : TypeId) (lo hi : Option Operand) (id k : Nat) (xs : List AV) (K : St → Prop) : Prop :=
  match (T t).map TI.desc with
  | some (TypeDesc.slice e) => match T e with
    | none => False
    | some ie => if k = ie.size then optK σ.eval lo 0 fun l => optK σ.eval hi xs.length fun h => 0 ≤ l ∧ l ≤ h ∧ h ≤ xs.length ∧
        K ((σ.setObj id .dead).after o.dst (.ref σ.next) (some (.arr k ((xs.take h.toNat).drop l.toNat)))) else False
  | _ => False

/-- Is there something that only a callee with own objects can be given? -/
def needs1 (ob : Nat → Option AO) : AV → Bool
  | .ptr _ _ | .pea _ _ _ _ | .fn _ _ _ => true
  | .ref i => match ob i with
    | some (.tre _ _) => true
    | some (.mp _ _ _) => true
    | _ => false
  | _ => false
def needsL (ob : Nat → Option AO) : List AV → Bool
  | [] => false
  | x :: r => match needs1 ob x with
    | true => true
    | false => needsL ob r
def needsA (ob : Nat → Option AO) : List AV → Bool
  | [] => false
  | .ag cs :: r => match needsL ob cs with
    | true => true
    | false => needsA ob r
  | x :: r => match needs1 ob x with
    | true => true
    | false => needsA ob r

/-- A call with own objects. -/
def gc (σ : St) (o : Oper) (f : Operand) (args : List Operand) (K : St → Prop) : Prop :=
  kx σ.eval f fun fv => kl σ.eval args fun ys => match calleeOf fv with
    | some (fid, fs, cs) => gcall P σ o fid (fs ++ ys ++ cs) K
    | none => False

/-- A state that knows less, given in full. -/
def Forget (σ τ : St) : Prop := ∃ bs, backK bs σ fun σ' => ∃ ss, LeS σ' ss τ

/-- A call that leaves open which of several outcomes there is. -/
def gcX (σ : St) (o : Oper) (f : Operand) (args : List Operand) (K : St → Prop) : Prop :=
  kx σ.eval f fun fv => kl σ.eval args fun ys => match calleeOf fv with
    | some (fid, fs, cs) => gcallX P σ o fid (fs ++ ys ++ cs) K
    | none => False
def gc' (σ : St) (o : Oper) (f : Operand) (args : List Operand) (K : St → Prop) : Prop :=
  gc P σ o f args K ∨ (∃ τ, Forget σ τ ∧ (gc P τ o f args K ∨ gcX P τ o f args K ∨ pureS P T τ o K)) ∨ gcX P σ o f args K

def sstep0 (σ : St) (o : Oper) (K : St → Prop) : Prop :=
  match dstOk σ o with
  | false => False
  | true => match o.op with
    | .store t p x => match o.dst with
      | some _ => False
      | none => kx σ.eval p fun pv => kx σ.eval x fun xv => match pv with
        | .pea id k i j => match σ.obj id with
          | some (.tre k' xs) => tstore T σ t id k i j k' xs xv K
          | _ => sstore T (σ.pub (liveA σ.obj xv)) t (.pea id k i j) xv K
        | pv => sstore T σ t pv xv K
    | .load t p => kx σ.eval p fun pv => match pv with
      | .pea id k i j => match σ.obj id with
        | some (.tre k' xs) => match k'.beq 1 && k.beq 1 && j.beq 0 with
          | true => tload P T σ o t id i xs K
          | false => pureS P T σ o K
        | _ => pureS P T σ o K
      | _ => pureS P T σ o K
    | .slice t x lo hi mx => match mx with
      | some _ => False
      | none => kx σ.eval x fun xv => match xv with
        | .ref id => match σ.obj id with
          | some (.arr k xs) => scut T σ o t lo hi id k xs K
          | _ => pureS P T σ o K
        | _ => pureS P T σ o K
    | .buildSlice _ _ parts => kl σ.eval (parts.toList.map (·.2)) fun ys => match liveAs σ.obj ys with
      | [] => pureS P T σ o K
      | is => pureS P T (σ.pub is) o K
    | .call c => kl σ.eval c.args.toList fun ys => match c.callee with
      | .builtin .append => match ys, c.argTypes.toList with
        | [.ref id, y], [t, t'] => match σ.obj id with
          | some (.arr k xs) => sappend T σ o t t' id k xs y K
          | _ => pureS P T σ o K
        | _, _ => pureS P T σ o K
      | .builtin .len => match ys, c.argTypes.toList with
        | [.ref id], [t] => match σ.obj id with
          | some (.mp _ _ _) => slen T σ o t id K
          | _ => pureS P T σ o K
        | _, _ => pureS P T σ o K
      | .value f => kx σ.eval f fun fv => match needsA σ.obj (fv :: ys) with
        | true => gc' P T σ o f c.args.toList K
        | false => match liveAs σ.obj ys with
          | [] => pureS P T σ o K ∨ gc' P T σ o f c.args.toList K
          | is => pureS P T σ o K ∨ pureS P T (σ.pub is) o K ∨ gc' P T σ o f c.args.toList K
      | _ => pureS P T σ o K
    | .lookup t x i ok => kx σ.eval x fun xv => kx σ.eval i fun iv => match xv, iv with
      | .ref id, .v key => slook T σ o t id key ok K
      | _, _ => False
    | .mapUpdate t m k v => match o.dst with
      | some _ => False
      | none => kx σ.eval m fun mv => kx σ.eval k fun kv => kx σ.eval v fun vv => match mv, kv with
        | .ref id, .v key => supd T σ t id key vv K
        | _, _ => False
    | .makeMap t r => match r with
      | none => smake T σ o t K
      | some _ => False
    | _ => pureS P T σ o K

end

section
variable {P : Program} {T : TypeId → Option TI} {N0 : Nat → Prop} {base : Nat} {w0 : W0}

theorem pub_size : ∀ (is : List Nat) (σ : St), (σ.pub is).size = σ.size
  | [], σ => rfl
  | i :: r, σ => by
    unfold St.pub
    split
    · rw [pub_size r]; rfl
    · exact pub_size r σ

theorem pub_tmps : ∀ (is : List Nat) (σ : St), (σ.pub is).tmps = σ.tmps
  | [], σ => rfl
  | i :: r, σ => by
    unfold St.pub
    split
    · rw [pub_tmps r]; rfl
    · exact pub_tmps r σ

theorem pub_eval (is : List Nat) (σ : St) : (σ.pub is).eval = σ.eval := by
  unfold St.eval
  have : (σ.pub is).get = σ.get := by funext t; unfold St.get; rw [pub_tmps]
  rw [this]

theorem pub_dstOk {is : List Nat} {σ : St} {o : Oper} (h : dstOk σ o = true) : dstOk (σ.pub is) o = true := by
  unfold dstOk at *
  rw [pub_size]; exact h

theorem pureS_step (hT : TOK P T) {o : Oper} {σ : St} {K : St → Prop} (hd : dstOk σ o = true) (h : pureS P T σ o K) {a : Act} {w : World} (hr : RS N0 base w0 σ a w) {next : Act → World → Prop} {Q : Exit → Act → World → Prop}
    (hK : ∀ σ' a' w', K σ' → RS N0 base w0 σ' a' w' → next a' w') : o.wp P a w next Q := pure_step hT hd h hr hK

theorem Forget.sound {σ τ : St} {a : Act} {w : World} (h : Forget σ τ) (hr : RS N0 base w0 σ a w) : RS N0 base w0 τ a w ∧ τ.size = σ.size := by
  obtain ⟨bs, h⟩ := h
  obtain ⟨σ', ⟨ss, h1⟩, h2, h3, h4⟩ := backK_elim h hr
  refine ⟨h1.sound h2, ?_⟩
  have := h1.2.1
  simp only [Prod.mk.injEq] at this
  rw [this.1, h3]

/-- How a call of a value runs. -/
theorem call_hex {o : Oper} {f : Operand} {c : Call} {σ : St} (ho : o.op = .call c) (hc : c.callee = .value f) {a : Act} {w : World} {fv : AV} (h1 : σ.eval f = some fv) {ys : List AV} (h3 : ys.length = c.args.toList.length)
    (h4 : ∀ (j : Nat) (h1 : j < c.args.toList.length) (h2 : j < ys.length), σ.eval c.args.toList[j] = some ys[j]) {fid : FuncId} {fs cs : List AV} (hcal : calleeOf fv = some (fid, fs, cs)) (V : VV)
    (hV : Rel N0 base w0 σ.size V σ.get σ.obj (fun i => i < σ.next) a w) : ∃ vs : Array Value, vs.size = (fs ++ ys ++ cs).length ∧ (execOp a.eval o).run P w = (callFunc fid vs).run P w ∧
      ∀ (j : Nat) (h1 : j < (fs ++ ys ++ cs).length) (h2 : j < vs.size), RepT (Nf N0 base V σ.obj) w V (fs ++ ys ++ cs)[j] vs[j] ∧ bd (fun i => i < σ.next) (fs ++ ys ++ cs)[j] := by
  have hop : ∀ y z, y ∈ o.op.operands → σ.eval y = some z → RepT (Nf N0 base V σ.obj) w V z (a.eval y) ∧ bd (fun i => i < σ.next) z := fun y z _ hz => eval_rep hV hz
  obtain ⟨e1, e2⟩ := ev_kl (xs := c.args) (fun y hy => by rw [ho]; simp [Op.operands, Call.operands, hc, hy]) hop h3 h4
  have hfv := eval_rep hV h1
  obtain ⟨us, vs, hev, r1, r2, r3, r4⟩ : ∃ us vs : Array Value, a.eval f = .func (.func fid) us vs ∧ us.size = fs.length ∧ vs.size = cs.length ∧ (∀ (j : Nat) (h1 : j < fs.length) (h2 : j < us.size), RepT (Nf N0 base V σ.obj) w V fs[j] us[j] ∧ bd (fun i => i < σ.next) fs[j]) ∧ (∀ (j : Nat) (h1 : j < cs.length) (h2 : j < vs.size), RepT (Nf N0 base V σ.obj) w V cs[j] vs[j] ∧ bd (fun i => i < σ.next) cs[j]) := by
    obtain ⟨hfr, hbd⟩ := hfv
    unfold calleeOf at hcal
    split at hcal
    · split at hcal
      · rename_i hz
        injection hcal with hcal
        simp only [Prod.mk.injEq] at hcal
        obtain ⟨rfl, rfl, rfl⟩ := hcal
        exact ⟨_, _, eval_v hfr, by simpa using hz.1, by simpa using hz.2, fun j h1 => by simp at h1, fun j h1 => by simp at h1⟩
      · cases hcal
    · injection hcal with hcal
      simp only [Prod.mk.injEq] at hcal
      obtain ⟨rfl, rfl, rfl⟩ := hcal
      unfold bd at hbd
      generalize a.eval f = v at hfr
      cases hfr with
      | im h => cases h
      | fn _ _ _ us vs q1 q2 q3 q4 => exact ⟨us, vs, rfl, q1, q2, fun j h1 h2 => ⟨q3 j h1 h2, bdL_iff.1 hbd.1 _ (List.getElem_mem h1)⟩, fun j h1 h2 => ⟨q4 j h1 h2, bdL_iff.1 hbd.2 _ (List.getElem_mem h1)⟩⟩
    · cases hcal
  refine ⟨us ++ c.args.map a.eval ++ vs, by simp only [Array.size_append, List.length_append, r1, r2, e1], ?_, fun j h6 h7 => ?_⟩
  · simp only [execOp, ho, resolve, hc, hev, Deferred.ofValue, Sem.run_bind, Sem.run_pure, Result.andThen_ok, invoke]
  · simp only [Array.getElem_append, List.getElem_append, Array.size_append, List.length_append, r1, e1]
    split
    · split
      · exact r3 _ _ _
      · exact e2 _ _ _
    · exact r4 _ _ _

theorem gc_step {o : Oper} {f : Operand} {c : Call} {σ : St} {K : St → Prop} (hd : dstOk σ o = true) (ho : o.op = .call c) (hc : c.callee = .value f) (h : gc P σ o f c.args.toList K) {a : Act} {w : World} (hr : RS N0 base w0 σ a w) {next : Act → World → Prop} {Q : Exit → Act → World → Prop}
    (hK : ∀ σ' a' w', K σ' → RS N0 base w0 σ' a' w' → next a' w') : o.wp P a w next Q := by
  obtain ⟨fv, h1, h2⟩ := kx_iff h
  obtain ⟨ys, h3, h4, h5⟩ := kl_iff h2
  split at h5
  · rename_i fid fs cs hcal
    exact gcall_step hd h5 hr (call_hex ho hc h1 h3 h4 hcal) hK
  · exact h5.elim
theorem gcX_step {o : Oper} {f : Operand} {c : Call} {σ : St} {K : St → Prop} (hd : dstOk σ o = true) (ho : o.op = .call c) (hc : c.callee = .value f) (h : gcX P σ o f c.args.toList K) {a : Act} {w : World} (hr : RS N0 base w0 σ a w) {next : Act → World → Prop} {Q : Exit → Act → World → Prop}
    (hK : ∀ σ' a' w', K σ' → RS N0 base w0 σ' a' w' → next a' w') : o.wp P a w next Q := by
  obtain ⟨fv, h1, h2⟩ := kx_iff h
  obtain ⟨ys, h3, h4, h5⟩ := kl_iff h2
  split at h5
  · rename_i fid fs cs hcal
    exact gcallX_step hd h5 hr (call_hex ho hc h1 h3 h4 hcal) hK
  · exact h5.elim

theorem gc'_step (hT : TOK P T) {o : Oper} {f : Operand} {c : Call} {σ : St} {K : St → Prop} (hd : dstOk σ o = true) (ho : o.op = .call c) (hc : c.callee = .value f) (h : gc' P T σ o f c.args.toList K) {a : Act} {w : World} (hr : RS N0 base w0 σ a w) {next : Act → World → Prop} {Q : Exit → Act → World → Prop}
    (hK : ∀ σ' a' w', K σ' → RS N0 base w0 σ' a' w' → next a' w') : o.wp P a w next Q := by
  rcases h with h | ⟨τ, hF, h⟩ | h
  · exact gc_step hd ho hc h hr hK
  · obtain ⟨hr', hs⟩ := hF.sound hr
    have hd' : dstOk τ o = true := by unfold dstOk at *; rw [hs]; exact hd
    rcases h with h | h | h
    · exact gc_step hd' ho hc h hr' hK
    · exact gcX_step hd' ho hc h hr' hK
    · exact pureS_step hT hd' h hr' hK
  · exact gcX_step hd ho hc h hr hK

theorem sstep0_sound (hT : TOK P T) {o : Oper} {σ : St} {K : St → Prop} (h : sstep0 P T σ o K) {a : Act} {w : World} (hr : RS N0 base w0 σ a w) {next : Act → World → Prop} {Q : Exit → Act → World → Prop}
    (hK : ∀ σ' a' w', K σ' → RS N0 base w0 σ' a' w' → next a' w') : o.wp P a w next Q := by
  unfold sstep0 at h
  split at h
  · exact h.elim
  · rename_i hd
    have pure : pureS P T σ o K → o.wp P a w next Q := fun h => pureS_step hT hd h hr hK
    split at h
    · rename_i t p x ho
      split at h
      · exact h.elim
      · rename_i hdst
        obtain ⟨pv, h1, h2⟩ := kx_iff h
        obtain ⟨xv, h3, h4⟩ := kx_iff h2
        split at h4
        · rename_i id k i j
          split at h4
          · rename_i k' xs hob
            exact tstore_step hT ho hdst h1 h3 hob h4 hr hK
          · exact store_step hT ho hdst (by rw [pub_eval]; exact h1) (by rw [pub_eval]; exact h3) h4 hr.pub hK
        · exact store_step hT ho hdst h1 h3 h4 hr hK
    · rename_i t p ho
      obtain ⟨pv, h1, h2⟩ := kx_iff h
      split at h2
      · rename_i id k i j
        split at h2
        · rename_i k' xs hob
          split at h2
          · rename_i hb
            simp only [Bool.and_eq_true] at hb
            obtain ⟨⟨b1, b2⟩, b3⟩ := hb
            have e1 := Nat.eq_of_beq_eq_true b1
            have e2 := Nat.eq_of_beq_eq_true b2
            have e3 := Nat.eq_of_beq_eq_true b3
            subst e1; subst e2; subst e3
            exact tload_step hT hd ho h1 hob h2 hr hK
          · exact pure h2
        · exact pure h2
      · exact pure h2
    · rename_i t x lo hi mx ho
      split at h
      · exact h.elim
      · obtain ⟨xv, h1, h2⟩ := kx_iff h
        split at h2
        · rename_i id
          split at h2
          · rename_i k xs hob
            unfold scut at h2
            split at h2
            · rename_i e hde
              split at h2
              · exact h2.elim
              · rename_i ie hie
                by_cases hk : k = ie.size
                · rw [if_pos hk] at h2
                  subst hk
                  obtain ⟨l, h3, hlo⟩ := optK_get h2
                  obtain ⟨r, h4, hhi⟩ := optK_get h3
                  obtain ⟨q0, q1, q2, hKK⟩ := h4
                  exact cut_step hT ho (under_of hT hde) hie hd h1 hob hlo hhi q0 q1 q2 hKK hr hK
                · rw [if_neg hk] at h2; exact h2.elim
            · exact h2.elim
          · exact pure h2
        · exact pure h2
    · obtain ⟨ys, h1, h2, h3⟩ := kl_iff h
      split at h3
      · exact pure h3
      · exact pureS_step hT (pub_dstOk hd) h3 hr.pub hK
    · rename_i c ho
      obtain ⟨ys, h1, h2, h3⟩ := kl_iff h
      split at h3
      · rename_i hc
        split at h3
        · rename_i id y t t' hts
          split at h3
          · rename_i k xs hob
            unfold sappend at h3
            split at h3
            · rename_i e ys hde hys
              split at h3
              · exact h3.elim
              · rename_i ie hie
                by_cases hk : t = t' ∧ k = ie.size ∧ 0 < ie.size
                · rw [if_pos hk] at h3
                  obtain ⟨rfl, rfl, hpos⟩ := hk
                  obtain ⟨q1, q2, q3, q4⟩ := h3
                  replace q4 := q4.elim
                  obtain ⟨x0, x1, hx0⟩ : ∃ x0 x1, c.args.toList = [x0, x1] := by
                    cases hh : c.args.toList with
                    | nil => rw [hh] at h1; cases h1
                    | cons x0 r => cases r with
                      | nil => rw [hh] at h1; cases h1
                      | cons x1 r => cases r with
                        | nil => exact ⟨x0, x1, rfl⟩
                        | cons x2 r => rw [hh] at h1; simp at h1
                  have hceta := call_eta hc hx0 hts
                  have hxa : σ.eval x0 = some (.ref id) := by have := h2 0 (by rw [hx0]; simp) (by simp); simpa [hx0] using this
                  have hxb : σ.eval x1 = some y := by have := h2 1 (by rw [hx0]; simp) (by simp); simpa [hx0] using this
                  exact append_step hT (by rw [ho, hceta]) (under_of hT hde) hie hpos hd hxa hxb hob hys q1 q2 q3 q4 hr hK
                · rw [if_neg hk] at h3; exact h3.elim
            · exact h3.elim
          · exact pure h3
        · exact pure h3
      · rename_i hc
        split at h3
        · rename_i id t hts
          split at h3
          · rename_i hob
            obtain ⟨x0, hx0⟩ : ∃ x0, c.args.toList = [x0] := List.length_eq_one_iff.1 (by rw [← h1]; rfl)
            have hceta := call_eta hc hx0 hts
            have hxa : σ.eval x0 = some (.ref id) := by have := h2 0 (by rw [hx0]; simp) (by simp); simpa [hx0] using this
            exact mlen_step hT hd (by rw [ho, hceta]) hxa h3 hr hK
          · exact pure h3
        · exact pure h3
      · rename_i f hc
        obtain ⟨fv, h5, h6⟩ := kx_iff h3
        split at h6
        · exact gc'_step hT hd ho hc h6 hr hK
        · split at h6
          · rcases h6 with h6 | h6
            · exact pure h6
            · exact gc'_step hT hd ho hc h6 hr hK
          · rcases h6 with h6 | h6 | h6
            · exact pure h6
            · exact pureS_step hT (pub_dstOk hd) h6 hr.pub hK
            · exact gc'_step hT hd ho hc h6 hr hK
      · exact pure h3
    · rename_i t x i ok ho
      obtain ⟨xv, h1, h2⟩ := kx_iff h
      obtain ⟨iv, h3, h4⟩ := kx_iff h2
      split at h4
      · exact look_step hT hd ho h1 h3 h4 hr hK
      · exact h4.elim
    · rename_i t m k v ho
      split at h
      · exact h.elim
      · rename_i hdst
        obtain ⟨mv, h1, h2⟩ := kx_iff h
        obtain ⟨kv, h3, h4⟩ := kx_iff h2
        obtain ⟨vv, h5, h6⟩ := kx_iff h4
        split at h6
        · exact upd_step hT ho hdst h1 h3 h5 h6 hr hK
        · exact h6.elim
    · rename_i t r ho
      split at h
      · exact make_step hd ho h hr hK
      · exact h.elim
    · exact pure h

theorem RS.skip {σ : St} {a : Act} {w : World} (h : RS N0 base w0 σ a w) {o : Oper} (hd : dstOk σ o = true) : RS N0 base w0 (σ.after o.dst .skip none) (a.put o.dst Go.undef) w := by
  obtain ⟨hp, V, hV⟩ := h
  refine ⟨hp, V, ?_⟩
  rw [St.get_after, St.obj_after, St.next_after]
  exact hV.put (dstOk_spec hd) .skip (by simp [bd])

/-- A test's outcome is known. -/
theorem RS.learn {σ : St} {a : Act} {w : World} (h : RS N0 base w0 σ a w) {d : Nat} {b c : Bool} (hg : σ.get d = some (.v (.bool b))) (hb : b = c) : RS N0 base w0 (σ.after (some d) (.v (.bool c)) none) a w := by
  obtain ⟨hp, V, hV⟩ := h
  refine ⟨hp, V, ?_⟩
  have : (σ.after (some d) (.v (.bool c)) none).get = σ.get := by
    rw [St.get_after]
    funext t
    unfold upd
    split
    · rename_i e; injection e with e; subst e; rw [hg, hb]
    · rfl
  rw [this, St.obj_after, St.next_after]
  exact hV

theorem yielded_of {σ : St} {a : Act} {w : World} (h : RS N0 base w0 σ a w) {all : Array Oper} {j d : Nat} (hj : (all[j]?).bind Oper.dst = some d) :
    (∀ b, σ.get d = some (.v (.bool b)) → yielded all a.tmps j = some b) ∧ (σ.get d = some .skip → yielded all a.tmps j = none) := by
  obtain ⟨hp, V, hV⟩ := h
  refine ⟨fun b hb => ?_, fun hb => ?_⟩
  · have := eval_v (hV.tm d _ hb)
    unfold yielded
    have hj' : ((all[j]?).bind (·.dst)) = some d := hj
    rw [hj']
    simp only [Option.bind_some]
    simp at this
    cases ht : a.tmps[d]? with
    | none => simp [ht, Go.undef] at this
    | some v => simp [ht] at this; subst this; rfl
  · have := hV.tm d _ hb
    unfold yielded
    have hj' : ((all[j]?).bind (·.dst)) = some d := hj
    rw [hj']
    simp only [Option.bind_some]
    generalize hv : a.tmps.getD d Go.undef = v at this
    cases this with
    | im h => cases h
    | skip =>
      simp at hv
      cases ht : a.tmps[d]? with
      | none => rfl
      | some v => simp [ht] at hv; subst hv; rfl

end

section
variable (P : Program) (T : TypeId → Option TI)
/-- The same without calls of yield. -/
def vcOps0 (all : Array Oper) : List Oper → St → (St → Prop) → Prop
  | [], σ, K => K σ
  | o :: r, σ, K => match o.guard with
    | none => sstep0 P T σ o fun σ' => vcOps0 all r σ' K
    | some (j, want) => match (all[j]?).bind Oper.dst with
      | none => False
      | some d => match σ.get d with
        | some (.v (.bool b)) => match want with
          | true => ifB b (sstep0 P T (σ.after (some d) (.v (.bool true)) none) o fun σ' => vcOps0 all r σ' K)
              (match dstOk σ o with
              | true => vcOps0 all r ((σ.after (some d) (.v (.bool false)) none).after o.dst .skip none) K
              | false => False)
          | false => ifB b (match dstOk σ o with
              | true => vcOps0 all r ((σ.after (some d) (.v (.bool true)) none).after o.dst .skip none) K
              | false => False) (sstep0 P T (σ.after (some d) (.v (.bool false)) none) o fun σ' => vcOps0 all r σ' K)
        | some .skip => match dstOk σ o with
          | true => vcOps0 all r (σ.after o.dst .skip none) K
          | false => False
        | _ => False

end
section
variable {P : Program} {T : TypeId → Option TI} {N0 : Nat → Prop} {base : Nat} {w0 : W0}
theorem vcOps0_sound (hT : TOK P T) {all : Array Oper} : ∀ {ops : List Oper} {σ : St} {K : St → Prop} {a : Act} {w : World} {Q : Exit → Act → World → Prop}, vcOps0 P T all ops σ K → RS N0 base w0 σ a w → (∀ σ' a' w', K σ' → RS N0 base w0 σ' a' w' → Q .normal a' w') →
    wpList P all Q ops a w
  | [], σ, K, a, w, Q, h, hr, hK => hK _ _ _ h hr
  | o :: r, σ, K, a, w, Q, h, hr, hK => by
    refine wpList_step fun KK hKK => ?_
    unfold vcOps0 at h
    split at h
    · rename_i hg
      simp only [Region.wanted, hg, if_true]
      exact sstep0_sound hT h hr fun σ' a' w' h1 h2 => hKK _ _ (vcOps0_sound hT h1 h2 hK)
    · rename_i j want hg
      split at h
      · exact h.elim
      · rename_i d hj
        obtain ⟨y1, y2⟩ := yielded_of hr hj
        split at h
        · rename_i b hb
          have hy := y1 b hb
          replace h : (b = want → sstep0 P T (σ.after (some d) (.v (.bool want)) none) o fun σ' => vcOps0 P T all r σ' K) ∧
            (b = !want → match dstOk σ o with
              | true => vcOps0 P T all r ((σ.after (some d) (.v (.bool (!want))) none).after o.dst .skip none) K
              | false => False) := by
            cases want with
            | true => exact ifB_elim h
            | false => exact ⟨(ifB_elim h).2, (ifB_elim h).1⟩
          by_cases hbw : b = want
          · subst hbw
            simp only [Region.wanted, hg, hy, beq_self_eq_true, if_true]
            exact sstep0_sound hT (h.1 rfl) (hr.learn hb rfl) fun σ' a' w' h1 h2 => hKK _ _ (vcOps0_sound hT h1 h2 hK)
          · have hbn : b = !want := by cases b <;> cases want <;> simp_all
            have hw : Region.wanted o (yielded all a.tmps) = false := by
              simp only [Region.wanted, hg, hy]
              simpa using hbw
            rw [hw]
            simp only [Bool.false_eq_true, if_false]
            have h2 := h.2 hbn
            split at h2
            · rename_i hd
              exact hKK _ _ (vcOps0_sound hT h2 ((hr.learn hb hbn).skip hd) hK)
            · exact h2.elim
        · rename_i hb
          have hw : Region.wanted o (yielded all a.tmps) = false := by
            simp only [Region.wanted, hg, y2 hb]
            rfl
          rw [hw]
          simp only [Bool.false_eq_true, if_false]
          split at h
          · rename_i hd
            exact hKK _ _ (vcOps0_sound hT h (hr.skip hd) hK)
          · exact h.elim
        · exact h.elim

end
end Go.Sk

-- SkTa
/- Fences that let everything in; the marks of loops over functions; calls of yield. -/
namespace Go.Sk
open Go.RowKit

/-- All is let in; r: in a round of that loop over a function. -/
def WR (r : Option Nat) : Fence := { Fence.wide with round := r }
theorem calls_WR {r : Option Nat} {n : Nat} {P : Program} {f : FuncId} {args : Array Value} {w : World} {R : Ending → World → Prop} : CallsIn (WR r) n P f args w R ↔ Calls P f args w R := callsIn_wide (n := n)
theorem round_WR {r : Option Nat} {n m : Nat} {P : Program} {l : Nat} {f : FuncId} {tmps : Array Value} {x y : Code} {w : World} {R : Ending → World → Prop} (h : RoundIn Fence.wide n P l f tmps x y w R) : RoundIn (WR r) m P l f tmps x y w R :=
  ⟨trivial, fun c cs _ => h.2 c cs (room_wide _)⟩

theorem wpIn_of_wp {P : Program} {o : Oper} {a : Act} {w : World} {next : Act → World → Prop} {Q : Exit → Act → World → Prop} {r : Option Nat} {n : Nat} (hd : ∀ c, o.op ≠ .defer c) (h : o.wp P a w next Q) : o.wpIn (WR r) n P a w next Q := by
  refine ⟨fun _ _ => trivial, ?_⟩
  rw [Oper.semAt_eq _ _ _ hd]
  unfold Oper.wp at h
  generalize (execOp a.eval o).run P w = res at h
  cases res with
  | ok x w' =>
    cases x <;> simp only [Oper.upon, Oper.uponIn] at h ⊢ <;> first
      | exact h
      | exact ⟨(fun q => by cases q), calls_WR.2 h⟩
      | exact ⟨(fun q => by cases q), fun c cs _ => let ⟨v, w', q1, q2⟩ := h c cs; ⟨v, w', q1, stepsIn_wide.2 q2⟩⟩
  | halt x w' => cases x <;> simp only [Oper.upon, Oper.uponIn] at h ⊢ <;> exact h

/-! ### the same world seen anew: marks -/
def markOf (D : Nat) : Deferred := { target := .collected D, args := #[] }
/-- What a later look at the memory knows of an earlier one. -/
structure Ext (N0 : Nat → Prop) (base : Nat) (w0 : W0) (N0' : Nat → Prop) (base' : Nat) (w0' : W0) : Prop where
  le : base ≤ base'
  vis : ∀ b, b < base → N0' b → N0 b
  low : ∀ b, w0'.f b → base ≤ b ∨ (w0.f b ∧ N0 b)
  frm : Frm base w0 w0'.w
  keep : ∀ k, k < base → ¬ w0.f k → ¬ w0'.f k
  m : w0'.m = w0.m
  v : w0'.v = w0.v
  bs : base' ≤ w0'.w.heap.size
  ds : ∃ Ds : List Nat, w0'.ds = Ds.map markOf ++ w0.ds ∧ Ds.Nodup ∧ ∀ D, D ∈ Ds → base ≤ D ∧ D < base' ∧ ¬ N0' D ∧ ¬ w0'.f D ∧ w0'.w.heap[D]? = some (.deferred (some []))

theorem Ext.trans {N0 N1 N2 : Nat → Prop} {b0 b1 b2 : Nat} {w0 w1 w2 : W0} (h : Ext N0 b0 w0 N1 b1 w1) (k : Ext N1 b1 w1 N2 b2 w2) : Ext N0 b0 w0 N2 b2 w2 := by
  refine ⟨Nat.le_trans h.le k.le, fun b hb hN => h.vis b hb (k.vis b (Nat.lt_of_lt_of_le hb h.le) hN), fun b hb => ?_, ?_, fun q hq hf => k.keep q (Nat.lt_of_lt_of_le hq h.le) (h.keep q hq hf), k.m.trans h.m, k.v.trans h.v, k.bs, ?_⟩
  · rcases k.low b hb with q | ⟨q, _⟩
    · exact .inl (Nat.le_trans h.le q)
    · exact h.low b q
  · exact h.frm.turn k.frm.os k.frm.tape k.frm.output k.frm.size fun q hq hf => k.frm.block q (Nat.lt_of_lt_of_le hq h.le) (h.keep q hq hf)
  · obtain ⟨Ds, q1, q2, q3⟩ := h.ds
    obtain ⟨Es, r1, r2, r3⟩ := k.ds
    refine ⟨Es ++ Ds, by rw [r1, q1, List.map_append, List.append_assoc], List.nodup_append.2 ⟨r2, q2, fun x hx y hy e => ?_⟩, fun D hD => ?_⟩
    · subst e
      have := (r3 x hx).1
      have := (q3 x hy).2.1
      omega
    · rcases List.mem_append.1 hD with hD | hD
      · have := r3 D hD
        exact ⟨Nat.le_trans h.le this.1, this.2⟩
      · obtain ⟨p1, p2, p3, p4, p5⟩ := q3 D hD
        exact ⟨p1, Nat.lt_of_lt_of_le p2 k.le, fun hN => p3 (k.vis D p2 hN), k.keep D p2 p4, (k.frm.block D p2 p4).trans p5⟩
theorem Ext.refl {N0 : Nat → Prop} {base : Nat} {w0 : W0} (hb : base ≤ w0.w.heap.size) (hl : ∀ b, w0.f b → base ≤ b ∨ (w0.f b ∧ N0 b)) : Ext N0 base w0 N0 base w0 :=
  ⟨Nat.le_refl _, fun _ _ h => h, hl, ⟨rfl, rfl, rfl, Nat.le_refl _, fun _ _ _ => rfl⟩, fun _ _ h => h, rfl, rfl, hb, [], by simp, List.nodup_nil, fun _ h => by simp at h⟩

section
variable {P : Program} {T : TypeId → Option TI} {N0 : Nat → Prop} {base : Nat} {w0 : W0}
def RSX (N0 : Nat → Prop) (base : Nat) (w0 : W0) (σ : St) (a : Act) (w : World) : Prop := ∃ N0' base' w0', Ext N0 base w0 N0' base' w0' ∧ RS N0' base' w0' σ a w
theorem RSX.map {σ σ' : St} {a a' : Act} {w w' : World} (h : RSX N0 base w0 σ a w) (k : ∀ {N0 base w0}, RS N0 base w0 σ a w → RS N0 base w0 σ' a' w') : RSX N0 base w0 σ' a' w' :=
  let ⟨N1, b1, w1, e, h⟩ := h; ⟨N1, b1, w1, e, k h⟩
theorem RSX.up {N1 : Nat → Prop} {b1 : Nat} {w1 : W0} {σ : St} {a : Act} {w : World} (e : Ext N0 base w0 N1 b1 w1) (h : RSX N1 b1 w1 σ a w) : RSX N0 base w0 σ a w :=
  let ⟨N2, b2, w2, e', h⟩ := h; ⟨N2, b2, w2, e.trans e', h⟩

/-- The memory in the look of the beginning, some other blocks turned. -/
theorem Rel.settle {N0' : Nat → Prop} {base' : Nat} {w0' : W0} {m : Nat} {V : VV} {g : Nat → Option AV} {ob : Nat → Option AO} {A : Nat → Prop} {a : Act} {w w2 : World} (h : Rel N0' base' w0' m V g ob A a w) (hx : Ext N0 base w0 N0' base' w0')
    (hsz : w.heap.size ≤ w2.heap.size) (hb : ∀ b, b < w.heap.size → ((b < base' → N0' b) ∨ base' ≤ b ∨ w0'.f b) → w2.heap[b]? = w.heap[b]?) (hf : ∀ b, b < base → ¬ w0.f b → w2.heap[b]? = w.heap[b]?)
    (hos : w2.os = w.os) (hta : w2.tape = w.tape) (hou : w2.output = w.output) : Rel N0 base w0 m V g ob A { a with defers := w0.ds } w2 := by
  have hN : ∀ b, Nf N0' base' V ob b → b < w.heap.size → Nf N0 base V ob b ∧ w2.heap[b]? = w.heap[b]? := fun b hn hlt =>
    ⟨⟨fun q => hx.vis b q (hn.1 (Nat.lt_of_lt_of_le q hx.le)), hn.2⟩, hb b hlt (.inl hn.1)⟩
  refine ⟨fun t x ht => (h.tm t x ht).mono hN (fun _ _ => rfl) (h.bdt t x ht), fun i o ho => (h.obs i o ho).mono hN hsz (fun _ _ => rfl) (fun _ => Iff.rfl) (h.bdo i o ho).1 (fun hl b hbb => ?_) (h.bdo i o ho).2, h.inj, fun i b hl hbb => ⟨?_, Nat.lt_of_lt_of_le (h.low i b hl hbb).2 hsz⟩, h.bdt, h.bdo, ?_,
    Nat.le_trans hx.le (Nat.le_trans h.bas hsz), rfl, h.siz, fun i hi => ?_⟩
  · refine hb b (h.low i b ⟨o, ho, hl⟩ hbb).2 ?_
    rcases (h.low i b ⟨o, ho, hl⟩ hbb).1 with q | ⟨q, _⟩
    · exact .inr (.inl q)
    · exact .inr (.inr q)
  · rcases (h.low i b hl hbb).1 with q | ⟨q, _⟩
    · exact .inl (Nat.le_trans hx.le q)
    · exact hx.low b q
  · have h1 : Frm base w0 w := hx.frm.turn h.bel.os h.bel.tape h.bel.output h.bel.size fun k hk hf => h.bel.block k (Nat.lt_of_lt_of_le hk hx.le) (hx.keep k hk hf)
    exact h1.turn hos hta hou hsz hf
  · have := h.par i (by rw [hx.m]; exact hi)
    rw [hx.v] at this
    exact this

/-- A block that nobody looks at turns, from the beginning on. -/
def W0.poke (w0 : W0) (l : Nat) (o : Obj) : W0 := { w0 with w := w0.w.putObj l o }
theorem Frm.poke {w : World} (h : Frm base w0 w) {l : Nat} (o : Obj) : Frm base (w0.poke l o) (w.putObj l o) :=
  ⟨h.os, h.tape, h.output, by rw [World.putObj_size]; exact (World.putObj_size (w := w0.w)).symm ▸ h.size, fun k hk hf => by
    by_cases e : k = l
    · subst e
      unfold World.putObj W0.poke World.putObj
      simp only [Array.getElem?_setIfInBounds_self]
      have hs := h.size
      by_cases q : k < w0.w.heap.size
      · rw [if_pos q, if_pos (by omega)]
      · have hb := h.block k hk hf
        rw [Array.getElem?_eq_none (show w0.w.heap.size ≤ k by omega)] at hb
        have : ¬ k < w.heap.size := fun q => by rw [Array.getElem?_eq_getElem q] at hb; cases hb
        rw [if_neg q, if_neg this]
    · exact (World.putObj_heap_other e).trans ((h.block k hk hf).trans (World.putObj_heap_other (w := w0.w) e).symm)⟩
theorem Rel.poke {m : Nat} {V : VV} {g : Nat → Option AV} {ob : Nat → Option AO} {A : Nat → Prop} {a : Act} {w : World} (h : Rel N0 base w0 m V g ob A a w) {l : Nat} (o : Obj) (hl : l < base) (hN : ¬ N0 l) (hf : ¬ w0.f l) :
    Rel N0 base (w0.poke l o) m V g ob A a (w.putObj l o) := by
  have hsz : (w.putObj l o).heap.size = w.heap.size := World.putObj_size
  have hm : ∀ b, Nf N0 base V ob b → b < w.heap.size → Nf N0 base V ob b ∧ (w.putObj l o).heap[b]? = w.heap[b]? := fun b hn _ => ⟨hn, World.putObj_heap_other fun e => by subst e; exact hN (hn.1 hl)⟩
  refine ⟨fun t x ht => (h.tm t x ht).mono hm (fun _ _ => rfl) (h.bdt t x ht), fun i u ho => (h.obs i u ho).mono hm (by rw [hsz]; exact Nat.le_refl _) (fun _ _ => rfl) (fun _ => Iff.rfl) (h.bdo i u ho).1 (fun hlv b hbb => World.putObj_heap_other fun e => ?_) (h.bdo i u ho).2, h.inj,
    fun i b hlv hbb => ⟨(h.low i b hlv hbb).1, by rw [hsz]; exact (h.low i b hlv hbb).2⟩, h.bdt, h.bdo, h.bel.poke o, by rw [hsz]; exact h.bas, h.dfr, h.siz, h.par⟩
  subst e
  rcases (h.low i b ⟨u, ho, hlv⟩ hbb).1 with q | ⟨q, _⟩
  · omega
  · exact hf q
theorem RSX.poke {σ : St} {a : Act} {w : World} (h : RSX N0 base w0 σ a w) {l : Nat} (o : Obj) (hl : l < base) (hN : ¬ N0 l) (hf : ¬ w0.f l) : RSX N0 base (w0.poke l o) σ a (w.putObj l o) := by
  obtain ⟨N1, b1, w1, e, hp, V, hV⟩ := h
  refine ⟨N1, b1, w1.poke l o, ⟨e.le, e.vis, e.low, ?_, e.keep, e.m, e.v, ?_, ?_⟩, hp, V, hV.poke o (Nat.lt_of_lt_of_le hl e.le) (fun q => hN (e.vis l hl q)) (e.keep l hl hf)⟩
  · exact e.frm.poke o
  · exact Nat.le_trans e.bs (by unfold W0.poke; rw [World.putObj_size]; exact Nat.le_refl _)
  · obtain ⟨Ds, q1, q2, q3⟩ := e.ds
    refine ⟨Ds, q1, q2, fun D hD => ?_⟩
    obtain ⟨p1, p2, p3, p4, p5⟩ := q3 D hD
    exact ⟨p1, p2, p3, p4, (World.putObj_heap_other (by omega)).trans p5⟩
end
end Go.Sk

-- SkTb
/- Calls of yield; the operations of a region one after the other. -/
namespace Go.Sk
open Go.RowKit

/-- A CALL OF yield by a loop over a function: the loop's owner turns its part of memory and says whether it goes on. -/
def YCall (P : Program) (l : Nat) (G : Ghost) (xs : List AV) (Gf : Bool → Ghost) : Prop :=
  bdL (fun _ => False) xs ∧ ∀ (N : Nat → Prop) (w : World) (V : VV) (vs : Array Value), vs.size = xs.length → Own N V (obL [.gh G]) (ltA 1) w → (∀ (j : Nat) (h1 : j < xs.length) (h2 : j < vs.size), RepT N w V xs[j] vs[j]) →
    ∃ fn tmps assign body, (Instr.yield l vs).run P w = .ok (.round l fn tmps assign body) w ∧ RoundIn Fence.wide 0 P l fn tmps assign body w fun e w' =>
      ∃ b, e = .returned (.bool b) ∧ Frm w.heap.size { w := w, f := foot V (obL [.gh G]) } w' ∧ Outc N w V [.gh G] w' (.v (.bool b)) [.gh (Gf b)] (.bool b)

/-- There is no such part of memory. -/
def Gone (G : Ghost) : Prop := ∀ N w f, ¬ G.R N w f
def yieldOf : AV → Option Nat
  | .v (.func (.yield l) ⟨[]⟩ _) => some l
  | _ => none
def ycall (P : Program) (σ : St) (o : Oper) (l : Nat) (ys : List AV) (K : St → Prop) : Prop :=
  ∃ (id : Nat) (G : Ghost) (Gf : Bool → Ghost) (xs : List AV), ([id].map σ.obj = [AO.gh G].map (fun o => some (renO (rn [id] σ.next) o)) ∧ xs.map (ren (rn [id] σ.next)) = ys.map (pubA σ.obj) ∧ numsOK σ.next [id] = true) ∧ YCall P l G xs Gf ∧
    (K (afterCall σ o [id] [.gh G] [.gh (Gf true)] (.v (.bool true))) ∨ Gone (Gf true)) ∧ (K (afterCall σ o [id] [.gh G] [.gh (Gf false)] (.v (.bool false))) ∨ Gone (Gf false))
section
variable (P : Program) (T : TypeId → Option TI)
def sstep (σ : St) (o : Oper) (K : St → Prop) : Prop :=
  match o.op with
  | .call c => match c.callee with
    | .value f => kx σ.eval f fun fv => match yieldOf fv with
      | some l => match dstOk σ o with
        | true => kl σ.eval c.args.toList fun ys => ycall P (σ.pub (liveAs σ.obj ys)) o l ys K
        | false => False
      | none => sstep0 P T σ o K
    | _ => sstep0 P T σ o K
  | _ => sstep0 P T σ o K
def vcOps (all : Array Oper) : List Oper → St → (St → Prop) → Prop
  | [], σ, K => K σ
  | o :: r, σ, K => match o.guard with
    | none => sstep P T σ o fun σ' => vcOps all r σ' K
    | some (j, want) => match (all[j]?).bind Oper.dst with
      | none => False
      | some d => match σ.get d with
        | some (.v (.bool b)) => match want with
          | true => ifB b (sstep P T (σ.after (some d) (.v (.bool true)) none) o fun σ' => vcOps all r σ' K)
              (match dstOk σ o with
              | true => vcOps all r ((σ.after (some d) (.v (.bool false)) none).after o.dst .skip none) K
              | false => False)
          | false => ifB b (match dstOk σ o with
              | true => vcOps all r ((σ.after (some d) (.v (.bool true)) none).after o.dst .skip none) K
              | false => False) (sstep P T (σ.after (some d) (.v (.bool false)) none) o fun σ' => vcOps all r σ' K)
        | some .skip => match dstOk σ o with
          | true => vcOps all r (σ.after o.dst .skip none) K
          | false => False
        | _ => False

end
section
variable {P : Program} {T : TypeId → Option TI} {N0 : Nat → Prop} {base : Nat} {w0 : W0}
theorem sstep0_nodefer {σ : St} {o : Oper} {K : St → Prop} (h : sstep0 P T σ o K) : ∀ c, o.op ≠ .defer c := fun c hc => by
  unfold sstep0 at h
  split at h
  · exact h
  · rw [hc] at h
    simp only [pureS, pstep, hc] at h
theorem pub_next : ∀ (is : List Nat) (σ : St), (σ.pub is).next = σ.next
  | [], σ => rfl
  | i :: r, σ => by
    unfold St.pub
    split
    · rw [pub_next r]; rfl
    · exact pub_next r σ
theorem sstep_sound (hT : TOK P T) {r0 : Option Nat} {n : Nat} {o : Oper} {σ : St} {K : St → Prop} (h : sstep P T σ o K) {a : Act} {w : World} (hr : RSX N0 base w0 σ a w) {next : Act → World → Prop} {Q : Exit → Act → World → Prop}
    (hK : ∀ σ' a' w', K σ' → RSX N0 base w0 σ' a' w' → next a' w') : o.wpIn (WR r0) n P a w next Q := by
  obtain ⟨N1, b1, w1, hx, hr⟩ := hr
  have old : sstep0 P T σ o K → o.wpIn (WR r0) n P a w next Q := fun h => wpIn_of_wp (sstep0_nodefer h) (sstep0_sound hT h hr fun σ' a' w' h1 h2 => hK σ' a' w' h1 ⟨N1, b1, w1, hx, h2⟩)
  unfold sstep at h
  split at h
  · rename_i c ho
    split at h
    · rename_i f hc
      obtain ⟨fv, h1, h2⟩ := kx_iff h
      split at h2
      · rename_i l hl
        split at h2
        · rename_i hd
          obtain ⟨ys, h3, h4, id, G, Gf, xs, ⟨e1, e2, e3⟩, ⟨hfree, hy⟩, hk1, hk2⟩ := kl_iff h2
          have hr' := hr.pub (is := liveAs σ.obj ys)
          obtain ⟨hpar, V, hV⟩ := hr'
          have hd' := pub_dstOk (is := liveAs σ.obj ys) hd
          have hop : ∀ y z, y ∈ o.op.operands → (σ.pub (liveAs σ.obj ys)).eval y = some z → RepT (Nf N1 b1 V (σ.pub (liveAs σ.obj ys)).obj) w V z (a.eval y) ∧ bd (fun i => i < (σ.pub (liveAs σ.obj ys)).next) z := fun y z _ hz => eval_rep hV hz
          obtain ⟨g1, g2⟩ := ev_kl (xs := c.args) (fun y hy => by rw [ho]; simp [Op.operands, Call.operands, hc, hy]) hop h3 (by rw [pub_eval]; exact h4)
          obtain ⟨q1, q2, q3, q4⟩ := call_give hV (vs := c.args.map a.eval) e1 e2 e3 g1 g2
          obtain ⟨fn, tmps, assign, body, hrun, hround⟩ := hy _ w _ _ q1 q2 q3
          have hev : ∃ cs, a.eval f = .func (.yield l) #[] cs := by
            have h1' : (σ.pub (liveAs σ.obj ys)).eval f = some fv := by rw [pub_eval]; exact h1
            have hfv := (eval_rep hV h1').1
            unfold yieldOf at hl
            split at hl
            · injection hl with hl
              subst hl
              exact ⟨_, eval_v hfv⟩
            · cases hl
          obtain ⟨cs, hev⟩ := hev
          refine ⟨fun _ _ => trivial, ?_⟩
          rw [Oper.semAt_eq _ _ _ (fun c' => by rw [ho]; simp)]
          have hex : (execOp a.eval o).run P w = (Instr.yield l (c.args.map a.eval)).run P w := by
            simp only [execOp, ho, resolve, hc, hev, Deferred.ofValue, Sem.run_bind, Sem.run_pure, Result.andThen_ok, invoke, Array.empty_append]
          rw [hex, hrun]
          refine ⟨(fun q => by cases q), (round_WR hround).mono ?_⟩
          rintro e w' ⟨b, rfl, hfr, hout⟩
          have ht := call_take hd' hpar hV e1 e3 (os' := [.gh (Gf b)]) (Nat.le_refl 1) hfr hout
          have hgone : Gone (Gf b) → False := fun hg => by
            obtain ⟨V', _, _, _, ho, _⟩ := hout
            exact hg _ _ _ (ho 0 _ rfl).1
          cases b with
          | true =>
            rcases hk1 with hk1 | hk1
            · exact hK _ _ _ hk1 ⟨N1, b1, w1, hx, ht⟩
            · exact (hgone hk1).elim
          | false =>
            rcases hk2 with hk2 | hk2
            · exact hK _ _ _ hk2 ⟨N1, b1, w1, hx, ht⟩
            · exact (hgone hk2).elim
        · exact h2.elim
      · exact old h2
    · exact old h
  · exact old h
theorem yielded_ofX {σ : St} {a : Act} {w : World} (h : RSX N0 base w0 σ a w) {all : Array Oper} {j d : Nat} (hj : (all[j]?).bind Oper.dst = some d) :
    (∀ b, σ.get d = some (.v (.bool b)) → yielded all a.tmps j = some b) ∧ (σ.get d = some .skip → yielded all a.tmps j = none) :=
  let ⟨_, _, _, _, h⟩ := h; yielded_of h hj

theorem vcOps_sound (hT : TOK P T) {r0 : Option Nat} {n : Nat} {all : Array Oper} : ∀ {ops : List Oper} {σ : St} {K : St → Prop} {a : Act} {w : World} {Q : Exit → Act → World → Prop}, vcOps P T all ops σ K → RSX N0 base w0 σ a w → (∀ σ' a' w', K σ' → RSX N0 base w0 σ' a' w' → Q .normal a' w') →
    wpListIn (WR r0) n P all Q ops a w
  | [], σ, K, a, w, Q, h, hr, hK => hK _ _ _ h hr
  | o :: r, σ, K, a, w, Q, h, hr, hK => by
    refine wpListIn_step fun KK hKK => ?_
    unfold vcOps at h
    split at h
    · rename_i hg
      simp only [Region.wanted, hg, if_true]
      exact sstep_sound hT h hr fun σ' a' w' h1 h2 => hKK _ _ (vcOps_sound hT h1 h2 hK)
    · rename_i j want hg
      split at h
      · exact h.elim
      · rename_i d hj
        obtain ⟨y1, y2⟩ := yielded_ofX hr hj
        split at h
        · rename_i b hb
          have hy := y1 b hb
          replace h : (b = want → sstep P T (σ.after (some d) (.v (.bool want)) none) o fun σ' => vcOps P T all r σ' K) ∧
            (b = !want → match dstOk σ o with
              | true => vcOps P T all r ((σ.after (some d) (.v (.bool (!want))) none).after o.dst .skip none) K
              | false => False) := by
            cases want with
            | true => exact ifB_elim h
            | false => exact ⟨(ifB_elim h).2, (ifB_elim h).1⟩
          by_cases hbw : b = want
          · subst hbw
            simp only [Region.wanted, hg, hy, beq_self_eq_true, if_true]
            exact sstep_sound hT (h.1 rfl) (hr.map fun h => h.learn hb rfl) fun σ' a' w' h1 h2 => hKK _ _ (vcOps_sound hT h1 h2 hK)
          · have hbn : b = !want := by cases b <;> cases want <;> simp_all
            have hw : Region.wanted o (yielded all a.tmps) = false := by
              simp only [Region.wanted, hg, hy]
              simpa using hbw
            rw [hw]
            simp only [Bool.false_eq_true, if_false]
            have h2 := h.2 hbn
            split at h2
            · rename_i hd
              exact ⟨fun _ _ => trivial, hKK _ _ (vcOps_sound hT h2 (hr.map fun h => (h.learn hb hbn).skip hd) hK)⟩
            · exact h2.elim
        · rename_i hb
          have hw : Region.wanted o (yielded all a.tmps) = false := by
            simp only [Region.wanted, hg, y2 hb]
            rfl
          rw [hw]
          simp only [Bool.false_eq_true, if_false]
          split at h
          · rename_i hd
            exact ⟨fun _ _ => trivial, hKK _ _ (vcOps_sound hT h (hr.map fun h => h.skip hd) hK)⟩
          · exact h.elim
        · exact h.elim

end
end Go.Sk

-- SkTc
/- Suspended activations, and the loops over functions that suspend them. -/
namespace Go.Sk
open Go.RowKit

/-- What a suspended activation shows of its part of the memory: f are the blocks that are its own, X those of the loop's record. -/
def Susp (N : Nat → Prop) (w : World) (f X : Nat → Prop) (tm : Array Value) (pins : List Nat) (pv : Nat → Value) (τ : St) : Prop :=
  ∃ V : VV, (∀ i o, τ.obj i = some o → RepO N w V i o ∧ i < τ.next ∧ bdO (fun i => i < τ.next) o) ∧ (∀ i j b, live τ.obj i → live τ.obj j → V.f i b → V.f j b → i = j) ∧ (∀ i b, live τ.obj i → V.f i b → b < w.heap.size) ∧
    (∀ b, f b ↔ foot V τ.obj b ∨ X b) ∧ (∀ b, X b → ¬ foot V τ.obj b) ∧ (∀ t x, look τ.tmps t = some x → RepT N w V x (tm.getD t Go.undef) ∧ bd (fun i => i < τ.next) x) ∧ (∀ i, i ∈ pins → i < τ.next ∧ V i = pv i)

theorem Susp.mono {N N' : Nat → Prop} {w w' : World} {f X : Nat → Prop} {tm : Array Value} {pins : List Nat} {pv : Nat → Value} {τ : St} (hb : ∀ b, N b → b < w.heap.size → N' b ∧ w'.heap[b]? = w.heap[b]?) (hsz : w.heap.size ≤ w'.heap.size)
    (hf : ∀ b, f b → w'.heap[b]? = w.heap[b]?) (h : Susp N w f X tm pins pv τ) : Susp N' w' f X tm pins pv τ := by
  obtain ⟨V, h1, h2, h3, h4, h5, h6, h7⟩ := h
  refine ⟨V, fun i o ho => ⟨(h1 i o ho).1.mono (A := fun i => i < τ.next) hb hsz (fun _ _ => rfl) (fun _ => Iff.rfl) (h1 i o ho).2.1 (fun hl b hbb => hf b ((h4 b).2 (.inl ⟨i, ⟨o, ho, hl⟩, hbb⟩))) (h1 i o ho).2.2, (h1 i o ho).2⟩, h2, fun i b hl hbb => Nat.lt_of_lt_of_le (h3 i b hl hbb) hsz, h4, h5,
    fun t x hx => ⟨(h6 t x hx).1.mono hb (fun _ _ => rfl) (h6 t x hx).2, (h6 t x hx).2⟩, h7⟩

/-- The part of the memory of an activation that is suspended at a loop over a function: l is the loop's record, Dm the block for deferred calls; how it stands is one of those of Tf, with the jump that is pending. -/
def rangeG (l : Nat) (Dm : Option Nat) (rec : Option Code → Loop) (tm : Array Value) (pins : List Nat) (pv : Nat → Value) (Tf : St → Option Code → Prop) : Ghost where
  R N w f := ∃ τ p, Tf τ p ∧ Susp N w f (fun b => b = l ∨ Dm = some b) tm pins pv τ ∧ w.heap[l]? = some (.loop (rec p)) ∧ ∀ D, Dm = some D → w.heap[D]? = some (.deferred (some []))
  mono := fun hb hsz hf ⟨τ, p, h1, h2, h3, h4⟩ => by
    have hX : ∀ b, (b = l ∨ Dm = some b) → _ := fun b hX => hf b (by obtain ⟨V, _, _, _, q, _⟩ := h2; exact (q b).2 (.inr hX))
    exact ⟨τ, p, h1, h2.mono hb hsz hf, (hX l (.inl rfl)).trans h3, fun D hD => (hX D (.inr hD)).trans (h4 D hD)⟩

section
variable {P : Program} {T : TypeId → Option TI} {N0 : Nat → Prop} {base : Nat} {w0 : W0}

/-- A suspended activation goes on: in a round, or behind the loop. -/
theorem Susp.rel {N : Nat → Prop} {w : World} {f X : Nat → Prop} {tm : Array Value} {pins : List Nat} {pv : Nat → Value} {τ : St} {V : VV} (h1 : ∀ i o, τ.obj i = some o → RepO N w V i o ∧ i < τ.next ∧ bdO (fun i => i < τ.next) o) (h2 : ∀ i j b, live τ.obj i → live τ.obj j → V.f i b → V.f j b → i = j)
    (h3 : ∀ i b, live τ.obj i → V.f i b → b < w.heap.size) (h6 : ∀ t x, look τ.tmps t = some x → RepT N w V x (tm.getD t Go.undef) ∧ bd (fun i => i < τ.next) x) (hN : ∀ b, N b → ¬ foot V τ.obj b) {m : List Nat} {ds : List Deferred} (hm : ∀ i, i ∈ m → i < τ.next) {size : Nat} (hs : tm.size = size) :
    Rel (fun b => N b ∨ foot V τ.obj b) w.heap.size { w := w, f := foot V τ.obj, m := m, v := V.v, ds := ds } size V (look τ.tmps) τ.obj (fun i => i < τ.next) { tmps := tm, defers := ds } w := by
  have hNf : ∀ b, N b → b < w.heap.size → Nf (fun b => N b ∨ foot V τ.obj b) w.heap.size V τ.obj b ∧ w.heap[b]? = w.heap[b]? := fun b hb _ => ⟨⟨fun _ => .inl hb, fun i hl hbb => hN b hb ⟨i, hl, hbb⟩⟩, rfl⟩
  exact ⟨fun t x hx => (h6 t x hx).1.mono hNf (fun _ _ => rfl) (h6 t x hx).2, fun i o ho => (h1 i o ho).1.mono hNf (Nat.le_refl _) (fun _ _ => rfl) (fun _ => Iff.rfl) (h1 i o ho).2.1 (fun _ _ _ => rfl) (h1 i o ho).2.2, h2,
    fun i b hl hb => ⟨.inr ⟨⟨i, hl, hb⟩, .inr ⟨i, hl, hb⟩⟩, h3 i b hl hb⟩, fun t x hx => (h6 t x hx).2, fun i o ho => (h1 i o ho).2, ⟨rfl, rfl, rfl, Nat.le_refl _, fun _ _ _ => rfl⟩, Nat.le_refl _, rfl, hs, fun i hi => ⟨hm i hi, rfl⟩⟩

/-- An activation is suspended. -/
theorem Rel.susp {m : Nat} {V : VV} {τ : St} {a : Act} {w : World} (h : Rel N0 base w0 m V τ.get τ.obj (fun i => i < τ.next) a w) {N X : Nat → Prop} {pins : List Nat} {pv : Nat → Value} (hN : ∀ b, Nf N0 base V τ.obj b → b < w.heap.size → N b)
    (hX : ∀ b, X b → ¬ foot V τ.obj b) (hp : ∀ i, i ∈ pins → i < τ.next ∧ V i = pv i) : Susp N w (fun b => foot V τ.obj b ∨ X b) X a.tmps pins pv τ :=
  have hm : ∀ b, Nf N0 base V τ.obj b → b < w.heap.size → N b ∧ w.heap[b]? = w.heap[b]? := fun b hb hs => ⟨hN b hb hs, rfl⟩
  ⟨V, fun i o ho => ⟨(h.obs i o ho).mono (A := fun i => i < τ.next) hm (Nat.le_refl _) (fun _ _ => rfl) (fun _ => Iff.rfl) (h.bdo i o ho).1 (fun _ _ _ => rfl) (h.bdo i o ho).2, h.bdo i o ho⟩, h.inj, fun i b hl hb => (h.low i b hl hb).2, fun _ => Iff.rfl, hX,
    fun t x hx => ⟨(h.tm t x hx).mono hm (fun _ _ => rfl) (h.bdt t x hx), h.bdt t x hx⟩, hp⟩
end

/-! ### parameters of a round -/
def paramT : List Tmp → List AV → List (Nat × AV)
  | p :: ps, x :: xs => (p, x) :: paramT ps xs
  | _, _ => []
theorem fold_setT : ∀ (l : List (Tmp × Value)) (tm : Array Value), (l.map (·.1)).Nodup →
    (l.foldl (fun t (p : Tmp × Value) => t.setIfInBounds p.1 p.2) tm).size = tm.size ∧ (∀ t, t ∉ l.map (·.1) → (l.foldl (fun t (p : Tmp × Value) => t.setIfInBounds p.1 p.2) tm).getD t Go.undef = tm.getD t Go.undef) ∧
      ∀ p, p ∈ l → p.1 < tm.size → (l.foldl (fun t (p : Tmp × Value) => t.setIfInBounds p.1 p.2) tm).getD p.1 Go.undef = p.2
  | [], tm, _ => ⟨rfl, fun _ _ => rfl, fun _ h => by cases h⟩
  | p :: l, tm, h => by
    rw [List.map_cons, List.nodup_cons] at h
    obtain ⟨h1, h2, h3⟩ := fold_setT l (tm.setIfInBounds p.1 p.2) h.2
    refine ⟨by rw [List.foldl_cons, h1]; simp, fun t ht => ?_, fun q hq hlt => ?_⟩
    · rw [List.map_cons, List.mem_cons, not_or] at ht
      rw [List.foldl_cons, h2 t ht.2]
      simp [Array.getElem?_setIfInBounds_ne (Ne.symm ht.1)]
    · rw [List.foldl_cons]
      rcases List.mem_cons.1 hq with rfl | hq
      · rw [h2 _ h.1]
        simp [hlt]
      · exact h3 q hq (by simpa using hlt)
theorem paramT_get : ∀ {ps : List Tmp} {xs : List AV} {t : Nat} {x : AV}, look (paramT ps xs) t = some x → ∃ (j : Nat) (h1 : j < ps.length) (h2 : j < xs.length), ps[j] = t ∧ xs[j] = x
  | [], _, t, x, h => by simp [paramT, look] at h
  | _ :: _, [], t, x, h => by simp [paramT, look] at h
  | p :: ps, y :: xs, t, x, h => by
    simp only [paramT, look] at h
    split at h
    · rename_i e
      injection h with h
      exact ⟨0, by simp, by simp, e, h⟩
    · obtain ⟨j, h1, h2, h3, h4⟩ := paramT_get h
      exact ⟨j + 1, by simpa using h1, by simpa using h2, h3, h4⟩
theorem paramT_none : ∀ {ps : List Tmp} {xs : List AV} {t : Nat}, ps.length ≤ xs.length → look (paramT ps xs) t = none → t ∉ ps
  | [], _, t, _, _ => by simp
  | _ :: _, [], t, h, _ => by simp at h
  | p :: ps, y :: xs, t, hl, h => by
    simp only [paramT, look] at h
    split at h
    · cases h
    · rename_i e
      rw [List.mem_cons, not_or]
      exact ⟨fun q => e q.symm, paramT_none (by simpa using hl) h⟩
theorem keepK_elim2 {ids : List Nat} : ∀ {l : List (Nat × AV)} {ds : List Nat} {acc : List (Nat × AV)} {K : List (Nat × AV) → Prop}, keepK ids l ds acc K → stayKs ids acc = true → ∃ kept, K kept ∧ stayKs ids kept = true ∧ ∀ p, p ∈ kept → p ∈ acc ∨ p.1 ∉ ds
  | [], ds, acc, K, h, ha => ⟨acc, h, ha, fun _ h => .inl h⟩
  | (t, x) :: r, ds, acc, K, h, ha => by
    unfold keepK at h
    split at h
    · exact keepK_elim2 h ha
    · rename_i hm
      have hmem : t ∉ ds := fun q => by
        have : ∀ {l : List Nat}, t ∈ l → memB t l = true := fun {l} => by
          induction l with
          | nil => intro h; cases h
          | cons y l ih =>
            intro h
            unfold memB
            split
            · rfl
            · rename_i hb
              rcases List.mem_cons.1 h with rfl | h
              · simp at hb
              · exact ih h
        rw [this q] at hm
        cases hm
      split at h
      · rename_i hs
        obtain ⟨kept, q1, q2, q3⟩ := keepK_elim2 h (by simp [stayKs, hs, ha])
        refine ⟨kept, q1, q2, fun p hp => ?_⟩
        rcases q3 p hp with q | q
        · rcases List.mem_cons.1 q with rfl | q
          · exact .inr hmem
          · exact .inl q
        · exact .inr fun h => q (List.mem_cons_of_mem _ h)
      · obtain ⟨kept, q1, q2, q3⟩ := keepK_elim2 h ha
        exact ⟨kept, q1, q2, fun p hp => (q3 p hp).imp id fun q h => q (List.mem_cons_of_mem _ h)⟩
theorem stayKs_get {ids : List Nat} : ∀ {l : List (Nat × AV)}, stayKs ids l = true → ∀ t x, look l t = some x → stay ids x = true
  | [], _, t, x, h => by simp [look] at h
  | (u, y) :: r, hs, t, x, h => by
    simp only [stayKs, Bool.and_eq_true] at hs
    simp only [look] at h
    split at h
    · injection h with h
      rw [← h]; exact hs.1
    · exact stayKs_get hs.2 t x h
theorem stayC_bd {ids : List Nat} {x : AV} (h : stayC ids x = true) : bd (fun i => i ∈ ids) x := by
  cases x <;> simp [stayC] at h <;> unfold bd <;> first | exact memB_spec h | trivial
theorem stayL_bd {ids : List Nat} : ∀ {xs : List AV}, stayL ids xs = true → bdL (fun i => i ∈ ids) xs
  | [], _ => by unfold bdL; trivial
  | x :: r, h => by
    simp only [stayL, Bool.and_eq_true] at h
    unfold bdL
    exact ⟨stayC_bd h.1, stayL_bd h.2⟩
theorem stayF_bd {ids : List Nat} {x : AV} (h : stayF ids x = true) : bd (fun i => i ∈ ids) x := by
  cases x with
  | fn f fs cs => simp only [stayF, Bool.and_eq_true] at h; unfold bd; exact ⟨stayL_bd h.1, stayL_bd h.2⟩
  | _ => exact stayC_bd h
theorem stayFL_bd {ids : List Nat} : ∀ {xs : List AV}, stayFL ids xs = true → bdL (fun i => i ∈ ids) xs
  | [], _ => by unfold bdL; trivial
  | x :: r, h => by
    simp only [stayFL, Bool.and_eq_true] at h
    unfold bdL
    exact ⟨stayF_bd h.1, stayFL_bd h.2⟩
theorem stay_bd {ids : List Nat} {x : AV} (h : stay ids x = true) : bd (fun i => i ∈ ids) x := by
  cases x with
  | ag cs => unfold bd; exact stayFL_bd h
  | _ => exact stayF_bd h

/-- Without these objects. -/
def delL (is : List Nat) : List (Nat × AO) → List (Nat × AO)
  | [] => []
  | (i, o) :: r => match memB i is with
    | true => delL is r
    | false => (i, o) :: delL is r
theorem look_delL {is : List Nat} : ∀ {l : List (Nat × AO)} {j : Nat} {o : AO}, look (delL is l) j = some o → look l j = some o ∧ j ∉ is
  | [], j, o, h => by simp [delL, look] at h
  | (i, u) :: r, j, o, h => by
    simp only [delL] at h
    split at h
    · rename_i hm
      obtain ⟨h1, h2⟩ := look_delL h
      refine ⟨?_, h2⟩
      simp only [look]
      rw [if_neg (fun e : i = j => h2 (e ▸ memB_spec hm))]
      exact h1
    · rename_i hm
      simp only [look] at h ⊢
      split at h
      · rename_i e
        subst e
        rw [if_pos rfl]
        refine ⟨h, fun q => ?_⟩
        have : ∀ {l : List Nat}, i ∈ l → memB i l = true := fun {l} => by
          induction l with
          | nil => intro h; cases h
          | cons y l ih =>
            intro h
            unfold memB
            split
            · rfl
            · rename_i hb
              rcases List.mem_cons.1 h with rfl | h
              · simp at hb
              · exact ih h
        rw [this q] at hm
        cases hm
      · rename_i e
        rw [if_neg e]
        exact look_delL h
def noneIn (is : List Nat) : List Nat → Bool
  | [] => true
  | x :: r => !(memB x is) && noneIn is r
def subB (ids : List Nat) : List Nat → Bool
  | [] => true
  | x :: r => memB x ids && subB ids r
theorem subB_spec {ids : List Nat} : ∀ {l : List Nat}, subB ids l = true → ∀ x, x ∈ l → x ∈ ids
  | [], _, x, h => by cases h
  | y :: r, h, x, hx => by
    simp only [subB, Bool.and_eq_true] at h
    rcases List.mem_cons.1 hx with rfl | hx
    · exact memB_spec h.1
    · exact subB_spec h.2 x hx
def nodupB : List Nat → Bool
  | [] => true
  | x :: r => !(memB x r) && nodupB r
theorem memB_mem {x : Nat} : ∀ {l : List Nat}, x ∈ l → memB x l = true
  | [], h => by cases h
  | y :: l, h => by
    unfold memB
    split
    · rfl
    · rename_i hb
      rcases List.mem_cons.1 h with rfl | h
      · simp at hb
      · exact memB_mem h
theorem nodupB_spec : ∀ {l : List Nat}, nodupB l = true → l.Nodup
  | [], _ => List.nodup_nil
  | x :: r, h => by
    simp only [nodupB, Bool.and_eq_true] at h
    rw [List.nodup_cons]
    exact ⟨fun q => by rw [memB_mem q] at h; simp at h, nodupB_spec h.2⟩
theorem noneIn_spec {is : List Nat} : ∀ {l : List (Nat × AO)}, noneIn is (numsO l) = true → ∀ j o, look l j = some o → j ∉ is
  | [], _, j, o, h => by simp [look] at h
  | (i, u) :: r, hn, j, o, h => by
    simp only [numsO, noneIn, Bool.and_eq_true] at hn
    simp only [look] at h
    split at h
    · rename_i e
      subst e
      exact fun q => by rw [memB_mem q] at hn; simp at hn
    · exact noneIn_spec hn.2 j o h
end Go.Sk
