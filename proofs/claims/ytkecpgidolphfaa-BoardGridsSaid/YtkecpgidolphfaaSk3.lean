/- A checker of Go functions by conditions over small pure states: part 4. -/
import Derived.Test.YtkecpgidolphfaaSk2

-- SkL
/- The step of the pure picture is sound: the theorem. -/
namespace Go.Sk
set_option linter.unusedVariables false
set_option linter.unusedSimpArgs false
open Go.RowKit

section
variable {P : Program} {T : TypeId → Option TI} {o : Oper} {ρ : Operand → Option AV} {ob : Nat → Option AO} {n : Nat}

theorem ev_kl {N : Nat → Prop} {V : VV} {A : Nat → Prop} {a : Act} {w : World} {xs : Array Operand} {ys : List AV} (hsub : ∀ y, y ∈ xs → y ∈ o.op.operands)
    (hop : ∀ y z, y ∈ o.op.operands → ρ y = some z → RepT N w V z (a.eval y) ∧ bd A z) (hl : ys.length = xs.toList.length)
    (h : ∀ (j : Nat) (h1 : j < xs.toList.length) (h2 : j < ys.length), ρ xs.toList[j] = some ys[j]) :
    (xs.map a.eval).size = ys.length ∧ ∀ (j : Nat) (h1 : j < ys.length) (h2 : j < (xs.map a.eval).size), RepT N w V ys[j] (xs.map a.eval)[j] ∧ bd A ys[j] := by
  refine ⟨by simp; simpa using hl.symm, fun j h1 h2 => ?_⟩
  have h3 : j < xs.size := by simpa using h2
  rw [Array.getElem_map]
  have := h j (by simpa using h3) h1
  rw [Array.getElem_toList] at this
  exact hop _ _ (hsub _ (Array.getElem_mem h3)) this

/-- New row of elements as an own object. -/
theorem arr_new {N0 : Nat → Prop} {base : Nat} {V : VV} {ob' : Nat → Option AO} {w : World} {o' : Obj} {arr : Array Value} {Ty : TypeId} {n k cap : Nat} {xs : List AV} {w1 : World}
    (hw1 : w1.heap = w.heap) (ho' : o' = .cells arr Ty)
    (hL : Laid (Nf N0 base V ob') w k xs 0 arr) (hcap : xs.length ≤ cap) (hsz : cap * k ≤ arr.size)
    (hN : ∀ b, Nf N0 base V ob' b → b < w.heap.size → Nf N0 base (updV V n (.slice (some ⟨w.heap.size, 0, none⟩) xs.length cap)) (updO ob' n (.arr k xs)) b ∧ (w1.alloc o').heap[b]? = w.heap[b]?) :
    RepO (Nf N0 base (updV V n (.slice (some ⟨w.heap.size, 0, none⟩) xs.length cap)) (updO ob' n (.arr k xs))) (w1.alloc o') (updV V n (.slice (some ⟨w.heap.size, 0, none⟩) xs.length cap)) n (.arr k xs) := by
  refine ⟨fun b => by rw [updV_same, updV_f], ?_⟩
  by_cases hc : cap = 0
  · left
    have : xs = [] := List.eq_nil_of_length_eq_zero (by omega)
    subst this; subst hc
    exact ⟨_, updV_same _ _ _, rfl⟩
  · right
    refine ⟨w.heap.size, 0, cap, arr, Ty, updV_same _ _ _, by subst ho'; rw [← hw1]; exact heap_new w1 _, by omega, hcap, by omega, hL.1, fun i e j c h1 h2 => ?_⟩
    obtain ⟨u, hu, hr⟩ := hL.2 i e j c h1 h2
    exact ⟨u, hu, hr.mono hN⟩

theorem blk_new {w : World} {n cap : Nat} {w' : World} (h : w.heap.size < w'.heap.size) : ∀ b, blk (.slice (some ⟨w.heap.size, 0, none⟩) n cap) = some b → w.heap.size ≤ b ∧ b < w'.heap.size := by
  intro b hb
  simp only [blk] at hb
  split at hb
  · cases hb
  · injection hb with hb; subst hb; exact ⟨Nat.le_refl _, h⟩

/-- New elements as an immutable slice: the world grows. -/
theorem OKs.grown {x : AV}
    (h : ∀ {N0 : Nat → Prop} {base : Nat} {V : VV} {g : Nat → Option AV} {ob' : Nat → Option AO} {A : Nat → Prop} {a : Act} {w : World},
      base ≤ w.heap.size → (∀ y ∈ o.op.operands, evalA g y = ρ y) → (∀ y z, y ∈ o.op.operands → ρ y = some z → RepT (Nf N0 base V ob') w V z (a.eval y) ∧ bd A z) →
      (∀ i u, ob i = some u → RepO (Nf N0 base V ob') w V i u ∧ A i ∧ bdO A u) → (∀ i b, live ob' i → V.f i b → b < w.heap.size) →
      ∃ v w', (execOp a.eval o).run P w = .ok (.value v) w' ∧ Below w.heap.size w w' ∧ bd A x ∧ RepT (Nf N0 base V ob') w' V x v) : OKs P o ρ ob n x none := by
  intro N0 base w0 m V g ob' A a w hr hρ hob hn hd next Q hK
  obtain ⟨v, w', h1, h2, h3, h4⟩ := h (N0 := N0) (base := base) (V := V) (g := g) (ob' := ob') (A := A) (a := a) (w := w) hr.bas hρ
    (fun y z hy hz => by
      rw [← hρ y hy] at hz
      cases y with
      | tmp t => exact ⟨hr.tm t z hz, hr.bdt t z hz⟩
      | const v => have := constA_rep (N := Nf N0 base V ob') (w := w) (V := V) hz; exact ⟨this.1, this.2 A⟩
      | func f => simp only [evalA, Option.some.injEq] at hz; subst hz; exact ⟨.im (.v _ rfl), by simp [bd]⟩
      | global i => simp [evalA] at hz)
    (fun i u hu => ⟨hr.obs i u (hob i u hu), hr.bdo i u (hob i u hu)⟩) (fun i b hl hb => (hr.low i b hl hb).2)
  unfold Oper.wp
  rw [h1]
  exact hK _ _ _ ((hr.grow h2).put hd h4 h3)

theorem Nf_new {N0 : Nat → Prop} {base : Nat} {V : VV} {ob' : Nat → Option AO} {w : World} (hb : base ≤ w.heap.size) (hl : ∀ i b, live ob' i → V.f i b → b < w.heap.size) : Nf N0 base V ob' w.heap.size :=
  ⟨fun h => by omega, fun i hi hc => by have := hl i _ hi hc; omega⟩

/-- The values that lie behind a slice's address. -/
def SrcV (N : Nat → Prop) (w : World) (k : Nat) (ys : List AV) (a : Option Addr) : Prop :=
  ys = [] ∨ ∃ (b : Addr) (news : List Value), a = some b ∧ news.length = ys.length * k ∧ (∀ j u, news[j]? = some u → w.cell? (b.add j) = some u) ∧ (∀ u ∈ news, u.oneCell' = true) ∧
      ∀ (i : Nat) (e : AV) (j : Nat) (c : AV), ys[i]? = some e → (cellsA e)[j]? = some c → ∃ u : Value, news[i * k + j]? = some u ∧ Rep N w c u

/-- What append reads of its second argument. -/
theorem src_values {N : Nat → Prop} {w : World} {V : VV} {y : AV} {ys : List AV} {k : Nat} {v : Value} (hy : elemsA ob y = some ys) (hr : RepT N w V y v) (ho : ∀ i u, ob i = some u → RepO N w V i u) (hk : 0 < k) (hks : ∀ e, e ∈ ys → (cellsA e).length = k) :
    ∃ a c, v = .slice a ys.length c ∧ SrcV N w k ys a := by
  have fromLaid : ∀ {b o cap : Nat} {arr : Array Value} {Ty : TypeId} {fr : Nat × Nat}, w.heap[b]? = some (.cells arr Ty fr) → Laid N w k ys o arr → ∃ a c, Value.slice (some ⟨b, o, none⟩) ys.length cap = .slice a ys.length c ∧ SrcV N w k ys a := by
    intro b o cap arr Ty fr hb hL
    obtain ⟨news, q1, q2, q3, q4⟩ := hL.values (.inl hk)
    exact ⟨_, _, rfl, .inr ⟨_, news, rfl, q1, fun j u hj => by rw [Addr.add_lit, cell_of_row w b _ arr Ty fr hb]; exact q2 j u hj, q3, q4⟩⟩
  have fromRep : ∀ {v : Value}, Rep N w (.sl ys) v → ∃ a c, v = .slice a ys.length c ∧ SrcV N w k ys a := by
    intro v h
    cases h with
    | nil a c => exact ⟨a, c, rfl, .inl rfl⟩
    | sl _ k' b off cap f hN hb hcap hk' hc hr' =>
      by_cases hne : ys = []
      · exact ⟨_, _, rfl, .inl hne⟩
      · have hkk : k' = k := by
          cases ys with
          | nil => exact absurd rfl hne
          | cons e r => rw [← hk' e (by simp), hks e (by simp)]
        subst hkk
        have hb' : ∃ arr Ty fr, w.heap[b]? = some (.cells arr Ty fr) := by
          cases ys with
          | nil => exact absurd rfl hne
          | cons e r =>
            have hl : 0 < (cellsA e).length := by rw [hk' e (by simp)]; exact hk
            have := hc 0 e 0 _ (by simp) (List.getElem?_eq_getElem hl)
            unfold World.cell? at this
            split at this
            · exact ⟨_, _, _, by assumption⟩
            · cases this
        obtain ⟨arr, Ty, fr, hb'⟩ := hb'
        refine fromLaid hb' ⟨hk', fun i e j c h1 h2 => ⟨f i j, ?_, hr' i e j c h1 h2⟩⟩
        rw [← cell_of_row w b _ arr Ty fr hb']
        exact hc i e j c h1 h2
  unfold elemsA at hy
  split at hy
  · injection hy with hy; subst hy
    cases hr with
    | im h => exact fromRep h
  · injection hy with hy; subst hy
    cases hr with
    | im h => cases h
    | nils a => exact ⟨a, 0, rfl, .inl rfl⟩
  · rename_i id
    split at hy
    · rename_i k' zs hob
      injection hy with hy; subst hy
      cases hr with
      | im h => cases h
      | ref _ h =>
        rcases (ho id _ hob).2 with ⟨a, h1, h2⟩ | ⟨b, o', cap, arr, Ty, h1, h2, h3, h4, h5, h6, h7⟩
        · subst h2; exact ⟨a, 0, h1, .inl rfl⟩
        · rw [h1]
          by_cases hne : zs = []
          · exact ⟨_, _, rfl, .inl hne⟩
          · have hkk : k' = k := by
              cases zs with
              | nil => exact absurd rfl hne
              | cons e r => rw [← h6 e (by simp), hks e (by simp)]
            subst hkk
            exact fromLaid h2 ⟨h6, h7⟩
    · rename_i zs hob
      injection hy with hy; subst hy
      cases hr with
      | im h => cases h
      | ref _ h => exact fromRep (ho id _ hob)
    · cases hy
  · cases hy

end
end Go.Sk

-- SkM
/- The step of the pure picture is sound: the theorem itself. -/
namespace Go.Sk
open Go.RowKit

section
variable {P : Program} {T : TypeId → Option TI} {o : Oper} {ρ : Operand → Option AV} {ob : Nat → Option AO} {n : Nat}

theorem blk_zero (b : Option Addr) (k : Nat) : blk (.slice b k 0) = none := by cases b <;> rfl

theorem append_nils_OK (hT : TOK P T) {t e : TypeId} {ie : TI} {x y : Operand} {ys : List AV} {own : Bool} {yv : AV} {K : AV → Option AO → Prop} (ho : o.op = .call { callee := .builtin .append, args := #[x, y], argTypes := #[t, t] })
    (hu : P.underlying t = some (.slice e)) (he : T e = some ie) (hk : 0 < ie.size) (hx : ρ x = some .nils) (hy : ρ y = some yv) (hys : elemsA ob yv = some ys) (hks : ∀ e, e ∈ ys → (cellsA e).length = ie.size)
    (hbytes : ys.length * ie.bytes ≤ 140737488355328) (h62 : ys.length ≤ 4611686018427387904)
    (hK : match own with | true => K (.ref n) (some (.arr ie.size ys)) | false => K (.sl ys) none) : ∃ x no, K x no ∧ OKs P o ρ ob n x no := by
  have hmx : x ∈ o.op.operands := by rw [ho]; simp [Op.operands, Call.operands]
  have hmy : y ∈ o.op.operands := by rw [ho]; simp [Op.operands, Call.operands]
  have hrun : ∀ {N : Nat → Prop} {V : VV} {a : Act} {w : World}, RepT N w V .nils (a.eval x) → RepT N w V yv (a.eval y) → (∀ i u, ob i = some u → RepO N w V i u) →
      (ys = [] ∧ ∃ b, (execOp a.eval o).run P w = .ok (.value (.slice b 0 0)) w) ∨ ∃ cap arr, (execOp a.eval o).run P w = .ok (.value (.slice (some ⟨w.heap.size, 0, none⟩) ys.length cap)) (w.drew.alloc (.cells arr e)) ∧ ys.length ≤ cap ∧ cap * ie.size ≤ arr.size ∧ Laid N w ie.size ys 0 arr := by
    intro N V a w h1 h2 h3
    obtain ⟨b, hb⟩ : ∃ b, a.eval x = .slice b 0 0 := by
      generalize a.eval x = v at h1
      cases h1 with
      | im h => cases h
      | nils b => exact ⟨b, rfl⟩
    obtain ⟨a2, c2, e2, hsrc⟩ := src_values hys h2 h3 hk hks
    have hex : (execOp a.eval o).run P w = ((Builtin.append_ #[t, t] o.type #[.slice b 0 0, .slice a2 ys.length c2]).run P w).andThen fun v w => .ok (.value v) w := by
      simp [execOp, ho, resolve, invoke, builtin, hb, e2]
    by_cases hne : ys = []
    · left
      refine ⟨hne, b, ?_⟩
      rw [hex, hne]
      simp only [List.length_nil]
      rw [append_none hT hu he (Nat.le_refl 0)]
      rfl
    · right
      have hpos : 0 < ys.length := by cases ys with | nil => exact absurd rfl hne | cons _ _ => simp
      rcases hsrc with h | ⟨a3, news, rfl, q1, q2, q3, q4⟩
      · exact absurd h hne
      · obtain ⟨cap, z, r1, r2, r3⟩ := append_grows (w := w) (ty := o.type) hT hu he (base := b) (sLen := 0) (sCap := 0) (xc := c2) (xa := a3) (olds := []) (news := news) (by simp) q1 (fun _ _ j v hj => by simp at hj) (fun _ => ⟨rfl, rfl⟩) q2 (Nat.le_refl 0) (by omega) (by simpa using hbytes) (by omega)
        have hzs : ie.zero.cells.size = ie.size := by
          obtain ⟨info, _, _, _, _, _, h⟩ := hT e ie he
          exact h
        refine ⟨cap, news.toArray ++ z, by rw [hex, r1]; simp, by omega, ?_, hks, fun i e j c h4 h5 => ?_⟩
        · simp only [Array.size_append, List.size_toArray, q1, r3, hzs, Nat.zero_add]
          rw [← Nat.add_mul]
          exact Nat.mul_le_mul_right _ (by omega)
        · obtain ⟨u, hu', hr⟩ := q4 i e j c h4 h5
          refine ⟨u, ?_, hr⟩
          have hlt := (List.getElem?_eq_some_iff.1 hu').1
          rw [Nat.zero_add]
          rw [Array.getElem?_append_left (by simpa using hlt)]
          simpa using hu'
  cases own with
  | true =>
    refine ⟨_, _, hK, OKs.newObj (fun A h => by simpa [bd] using h) fun {N0 base V g ob' A a w} hbas hn hρ hop hobs hlow hne => ?_⟩
    rcases hrun (hop x _ hmx hx).1 (hop y _ hmy hy).1 (fun i u hu => (hobs i u hu).1) with ⟨h0, b, h1⟩ | ⟨cap, arr, h1, h2, h3, h4⟩
    · refine ⟨_, .slice b 0 0, w, h1, Below.refl _ _, (fun b' hb => by rw [blk_zero] at hb; cases hb), trivial, fun hN => ⟨⟨fun b => by rw [updV_same, updV_f], .inl ⟨b, updV_same _ _ _, h0⟩⟩, ?_⟩⟩
      have := RepT.ref (N := Nf N0 base (updV V n (.slice b 0 0)) (updO ob' n (.arr ie.size ys))) (w := w) (V := updV V n (.slice b 0 0)) n (by rw [updV_same]; rfl)
      rwa [updV_same] at this
    · refine ⟨_, .slice (some ⟨w.heap.size, 0, none⟩) ys.length cap, _, h1, below_drew_alloc _ _, blk_new (by simp), trivial, fun hN => ⟨arr_new (w1 := w.drew) rfl rfl h4 h2 h3 hN, ?_⟩⟩
      have := RepT.ref (N := Nf N0 base (updV V n (.slice (some ⟨w.heap.size, 0, none⟩) ys.length cap)) (updO ob' n (.arr ie.size ys))) (w := w.drew.alloc (.cells arr e)) (V := updV V n (.slice (some ⟨w.heap.size, 0, none⟩) ys.length cap)) n (by rw [updV_same]; rfl)
      rwa [updV_same] at this
  | false =>
    refine ⟨_, _, hK, OKs.grown fun {N0 base V g ob' A a w} hbas hρ hop hobs hlow => ?_⟩
    rcases hrun (hop x _ hmx hx).1 (hop y _ hmy hy).1 (fun i u hu => (hobs i u hu).1) with ⟨h0, b, h1⟩ | ⟨cap, arr, h1, h2, h3, h4⟩
    · subst h0
      exact ⟨_, w, h1, Below.refl _ _, by simp [bd], .im (.nil b 0)⟩
    · refine ⟨_, _, h1, below_drew_alloc _ _, by simp [bd], .im ?_⟩
      exact (h4.mono fun b hN hlt => ⟨hN, (below_drew_alloc w _).block b hlt⟩).rep (heap_new w.drew _) (Nf_new hbas hlow) h2


theorem optK_get {x : Option Operand} {d : Int} {K : Int → Prop} (h : optK ρ x d K) : ∃ i, K i ∧ ((x = none ∧ i = d) ∨ ∃ y k, x = some y ∧ ρ y = some (.v (.int k i))) := by
  unfold optK at h
  split at h
  · exact ⟨d, h, .inl ⟨rfl, rfl⟩⟩
  · obtain ⟨y, h1, h2⟩ := kx_iff h
    split at h2
    · exact ⟨_, h2, .inr ⟨_, _, rfl, h1⟩⟩
    · exact h2.elim

theorem sliceBounds_run {w : World} {isS : Bool} {len cap : Nat} {lo hi : Option Value} {l h : Int} (hlo : (lo = none ∧ l = 0) ∨ ∃ k, lo = some (.int k l)) (hhi : (hi = none ∧ h = len) ∨ ∃ k, hi = some (.int k h))
    (h0 : 0 ≤ l) (h1 : l ≤ h) (h2 : h ≤ len) (hc : len ≤ cap) : (Instr.sliceBounds isS len cap lo hi none).run P w = .ok (l.toNat, h.toNat, cap) w := by
  have hb : ∀ {k : IntKind} {i : Int} {y : Nat} {c : BoundsCode}, 0 ≤ i → i ≤ y → (Instr.sliceBound (.int k i) y c).run P w = .ok i.toNat w := fun h0 h1 => by
    simp [Instr.sliceBound, asIntOf, h0, h1]
  rcases hlo with ⟨rfl, rfl⟩ | ⟨k, rfl⟩ <;> rcases hhi with ⟨rfl, rfl⟩ | ⟨k', rfl⟩
  · simp [Instr.sliceBounds]
  · have h3 := hb (k := k') (i := h) (y := cap) (c := if isS = true then BoundsCode.sliceAcap else BoundsCode.sliceAlen) (by omega) (by omega)
    simp [Instr.sliceBounds, h3]
  · have h3 := hb (k := k) (i := l) (y := len) (c := BoundsCode.sliceB) h0 (by omega)
    simp [Instr.sliceBounds, h3]
  · have h3 := hb (k := k') (i := h) (y := cap) (c := if isS = true then BoundsCode.sliceAcap else BoundsCode.sliceAlen) (by omega) (by omega)
    have h4 := hb (k := k) (i := l) (y := h.toNat) (c := BoundsCode.sliceB) h0 (by omega)
    simp [Instr.sliceBounds, h3, h4]

theorem rep_slice {N : Nat → Prop} {w : World} {xs : List AV} {v : Value} (h : Rep N w (.sl xs) v) {ie : TI} (hks : ∀ e, e ∈ xs → (cellsA e).length = ie.size) {l r : Nat} (h1 : l ≤ r) (h2 : r ≤ xs.length) :
    ∃ a n c, v = .slice a n c ∧ n = xs.length ∧ n ≤ c ∧ Rep N w (.sl ((xs.take r).drop l)) (.slice (if c = l then a else a.map (·.add (l * ie.size))) (r - l) (c - l)) := by
  cases h with
  | nil a c =>
    refine ⟨a, 0, c, rfl, rfl, Nat.zero_le _, ?_⟩
    simp only [List.length_nil, Nat.le_zero] at h2
    subst h2
    obtain rfl : l = 0 := by omega
    simp only [List.take_nil, List.drop_nil, Nat.sub_self]
    exact .nil _ _
  | sl _ k b off cap f hN hb hcap hk hc hr =>
    refine ⟨_, _, cap, rfl, rfl, hcap, ?_⟩
    have hlen : ((xs.take r).drop l).length = r - l := by simp; omega
    by_cases hrl : r = l
    · subst hrl
      have : (xs.take r).drop r = [] := List.eq_nil_of_length_eq_zero (by rw [List.length_drop, List.length_take]; omega)
      rw [this, Nat.sub_self]
      exact .nil _ _
    · have hne : cap ≠ l := by omega
      rw [if_neg hne]
      have hkk : k = ie.size := by
        cases xs with
        | nil => simp only [List.length_nil] at h2; omega
        | cons e t => rw [← hk e (by simp), hks e (by simp)]
      subst hkk
      simp only [Option.map_some, Addr.add_lit]
      rw [← hlen]
      have hget : ∀ i e, ((xs.take r).drop l)[i]? = some e → xs[l + i]? = some e := fun i e h => by
        rw [List.getElem?_drop, List.getElem?_take] at h
        split at h
        · exact h
        · cases h
      refine .sl _ ie.size b (off + l * ie.size) (cap - l) (fun i j => f (l + i) j) hN hb (by rw [hlen]; omega) (fun e he => hk e (List.mem_of_mem_take (List.mem_of_mem_drop he))) (fun i e j c h3 h4 => ?_) (fun i e j c h3 h4 => hr _ _ _ _ (hget i e h3) h4)
      have := hc _ _ _ _ (hget i e h3) h4
      rw [show off + l * ie.size + (i * ie.size + j) = off + ((l + i) * ie.size + j) by rw [Nat.add_mul]; omega]
      exact this

end
end Go.Sk

-- SkN
/- The step of the pure picture is sound: put together. -/
namespace Go.Sk
open Go.RowKit

section
variable {P : Program} {T : TypeId → Option TI} {o : Oper} {ρ : Operand → Option AV} {ob : Nat → Option AO} {n : Nat}

theorem elems_rep {N : Nat → Prop} {w : World} {V : VV} {x : AV} {xs : List AV} {v : Value} (h : elemsA ob x = some xs) (hl : noLive ob x = true) (hr : RepT N w V x v) (ho : ∀ i u, ob i = some u → RepO N w V i u) : Rep N w (.sl xs) v := by
  unfold elemsA at h
  split at h
  · injection h with h; subst h
    cases hr with
    | im h => exact h
  · injection h with h; subst h
    cases hr with
    | im h => cases h
    | nils a => exact .nil a 0
  · rename_i id
    simp only [noLive] at hl
    split at h
    · rename_i hob; rw [hob] at hl; cases hl
    · rename_i ys hob
      injection h with h; subst h
      cases hr with
      | im h => cases h
      | ref _ h => exact ho id _ hob
    · cases h
  · cases h

theorem slice_OK (hT : TOK P T) {t e : TypeId} {ie : TI} {x : Operand} {lo hi : Option Operand} {xv : AV} {xs : List AV} {l h : Int} (ho : o.op = .slice t x lo hi none) (hu : P.underlying t = some (.slice e)) (he : T e = some ie)
    (hx : ρ x = some xv) (hxs : elemsA ob xv = some xs) (hl : noLive ob xv = true) (hks : ∀ y, y ∈ xs → (cellsA y).length = ie.size)
    (hlo : (lo = none ∧ l = 0) ∨ ∃ y k, lo = some y ∧ ρ y = some (.v (.int k l))) (hhi : (hi = none ∧ h = xs.length) ∨ ∃ y k, hi = some y ∧ ρ y = some (.v (.int k h))) (h0 : 0 ≤ l) (h1 : l ≤ h) (h2 : h ≤ xs.length) :
    OKs P o ρ ob n (.sl ((xs.take h.toNat).drop l.toNat)) none := by
  refine OKs.value fun {N V g A a w} hρ hop hobs => ?_
  have hr := elems_rep hxs hl (hop x _ (by rw [ho]; simp [Op.operands]) hx).1 (fun i u hu => (hobs i u hu).1)
  obtain ⟨b, m, c, hv, hm, hc, hrep⟩ := rep_slice hr hks (l := l.toNat) (r := h.toNat) (by omega) (by omega)
  have hlo' : (lo.map a.eval = none ∧ l = 0) ∨ ∃ k, lo.map a.eval = some (.int k l) := by
    rcases hlo with ⟨rfl, h⟩ | ⟨y, k, rfl, hy⟩
    · exact .inl ⟨rfl, h⟩
    · exact .inr ⟨k, by rw [Option.map_some, eval_v (hop y _ (by rw [ho]; simp [Op.operands]) hy).1]⟩
  have hhi' : (hi.map a.eval = none ∧ h = m) ∨ ∃ k, hi.map a.eval = some (.int k h) := by
    rcases hhi with ⟨rfl, h⟩ | ⟨y, k, rfl, hy⟩
    · exact .inl ⟨rfl, by rw [hm]; exact h⟩
    · exact .inr ⟨k, by rw [Option.map_some, eval_v (hop y _ (by rw [ho]; simp [Op.operands]) hy).1]⟩
  have hb := sliceBounds_run (P := P) (w := w) (isS := true) (len := m) (cap := c) hlo' hhi' h0 h1 (by omega) hc
  refine ⟨_, ?_, .im hrep, by simp [bd]⟩
  simp only [execOp, ho, hv, Option.map_none, Instr.sliceAt, Sem.run_bind, run_underlying hu, Result.andThen_ok, Instr.slice, hb, run_sizeOf hT he, Sem.run_pure]

theorem len_OK {t e : TypeId} {x : Operand} {xv : AV} {m : Nat} (ho : o.op = .call { callee := .builtin .len, args := #[x], argTypes := #[t] }) (hu : P.underlying t = some (.slice e)) (hx : ρ x = some xv) (hxs : lenA ob xv = some m) :
    OKs P o ρ ob n (.v (.int .i64 m)) none := by
  refine OKs.value fun {N V g A a w} hρ hop hobs => ?_
  obtain ⟨b, c, hv⟩ := lenA_run hxs (hop x _ (by rw [ho]; simp [Op.operands, Call.operands]) hx).1 (fun i u hu => (hobs i u hu).1)
  refine ⟨.int .i64 m, ?_, .im (.v _ rfl), by simp [bd]⟩
  simp [execOp, ho, resolve, invoke, builtin, hv, Builtin.len_, run_underlying hu, goInt]

theorem strlen_OK {t : TypeId} {x : Operand} {s : ByteArray} (ho : o.op = .call { callee := .builtin .len, args := #[x], argTypes := #[t] }) (hu : P.underlying t = some .string) (hx : ρ x = some (.v (.string s))) :
    OKs P o ρ ob n (.v (.int .i64 s.size)) none := by
  refine OKs.value fun {N V g A a w} hρ hop hobs => ?_
  have hv := eval_v (hop x _ (by rw [ho]; simp [Op.operands, Call.operands]) hx).1
  refine ⟨.int .i64 s.size, ?_, .im (.v _ rfl), by simp [bd]⟩
  simp [execOp, ho, resolve, invoke, builtin, hv, Builtin.len_, run_underlying hu, goInt]

theorem call_eta {c : Call} {b : Builtin} {xs : List Operand} {ts : List TypeId} (h1 : c.callee = .builtin b) (h2 : c.args.toList = xs) (h3 : c.argTypes.toList = ts) : c = { callee := .builtin b, args := xs.toArray, argTypes := ts.toArray } := by
  cases c; simp_all [← h2, ← h3]

theorem pbuiltin_sound (hT : TOK P T) {own : Bool} {c : Call} {b : Builtin} {ys : List AV} {K : AV → Option AO → Prop} (ho : o.op = .call c) (hc : c.callee = .builtin b)
    (hl : ys.length = c.args.toList.length) (hys : ∀ (j : Nat) (h1 : j < c.args.toList.length) (h2 : j < ys.length), ρ c.args.toList[j] = some ys[j]) (h : pbuiltin T ob n own b c.argTypes.toList ys K) : ∃ x no, K x no ∧ OKs P o ρ ob n x no := by
  unfold pbuiltin at h
  split at h
  · rename_i t x hts
    obtain ⟨x0, hx0⟩ : ∃ x0, c.args.toList = [x0] := by
      simp at hl
      exact List.length_eq_one_iff.1 (by simpa using hl.symm)
    have hceta := call_eta hc hx0 hts
    have hx : ρ x0 = some x := by
      have := hys 0 (by rw [hx0]; simp) (by simp)
      simpa [hx0] using this
    split at h
    · rename_i xs hlo hxs
      unfold lenOK at hlo
      split at hlo
      · rename_i e hd
        exact ⟨_, _, h, len_OK (by rw [ho, hceta]) (under_of hT hd) hx hxs⟩
      · cases hlo
    · split at h
      · rename_i s hst _
        unfold strOK at hst
        split at hst
        · rename_i hd
          exact ⟨_, _, h, strlen_OK (by rw [ho, hceta]) (under_of hT hd) hx⟩
        · cases hst
      · exact h.elim
  · rename_i k x r
    split at h
    · rename_i y hy
      refine ⟨_, _, h, OKs.value fun {N V g A a w} hρ hop hobs => ?_⟩
      obtain ⟨e1, e2⟩ := ev_kl (xs := c.args) (fun y hy => by rw [ho]; simp [Op.operands, Call.operands, hc, hy]) hop hl hys
      refine ⟨.int k y, ?_, .im (.v _ rfl), by simp [bd]⟩
      obtain ⟨v0, vs, hvs⟩ : ∃ v0 vs, (c.args.map a.eval).toList = v0 :: vs := by
        cases hh : (c.args.map a.eval).toList with
        | nil => have := congrArg List.length hh; rw [Array.length_toList, e1] at this; simp at this
        | cons v0 vs => exact ⟨v0, vs, rfl⟩
      have hget : ∀ (j : Nat) (h1 : j < (.v (.int k x) :: r : List AV).length) (h2 : j < (v0 :: vs).length), RepT N w V (.v (.int k x) :: r : List AV)[j] (v0 :: vs)[j] := fun j h1 h2 => by
        have h3 : j < (c.args.map a.eval).size := by rw [e1]; exact h1
        have h4 : (c.args.map a.eval).toList[j]'(by rw [Array.length_toList]; exact h3) = (v0 :: vs)[j] := by simp only [hvs]
        rw [← h4, Array.getElem_toList]
        exact (e2 j h1 h3).1
      have hv0 := eval_v (hget 0 (by simp) (by simp))
      simp only [List.getElem_cons_zero] at hv0
      subst hv0
      have hrun := minL_run (P := P) (w := w) (N := N) (V := V) hy (vs := vs) (by have := congrArg List.length hvs; rw [Array.length_toList, e1] at this; simp at this; omega) (fun j h1 h2 => hget (j + 1) (Nat.succ_lt_succ h1) (Nat.succ_lt_succ h2))
      simp only [execOp, ho, resolve, hc, invoke, builtin, Builtin.min_, Sem.run_bind, Sem.run_pure, Result.andThen_ok, hvs, hrun]
    · exact h.elim
  · rename_i k x r
    split at h
    · rename_i y hy
      refine ⟨_, _, h, OKs.value fun {N V g A a w} hρ hop hobs => ?_⟩
      obtain ⟨e1, e2⟩ := ev_kl (xs := c.args) (fun y hy => by rw [ho]; simp [Op.operands, Call.operands, hc, hy]) hop hl hys
      refine ⟨.int k y, ?_, .im (.v _ rfl), by simp [bd]⟩
      obtain ⟨v0, vs, hvs⟩ : ∃ v0 vs, (c.args.map a.eval).toList = v0 :: vs := by
        cases hh : (c.args.map a.eval).toList with
        | nil => have := congrArg List.length hh; rw [Array.length_toList, e1] at this; simp at this
        | cons v0 vs => exact ⟨v0, vs, rfl⟩
      have hget : ∀ (j : Nat) (h1 : j < (.v (.int k x) :: r : List AV).length) (h2 : j < (v0 :: vs).length), RepT N w V (.v (.int k x) :: r : List AV)[j] (v0 :: vs)[j] := fun j h1 h2 => by
        have h3 : j < (c.args.map a.eval).size := by rw [e1]; exact h1
        have h4 : (c.args.map a.eval).toList[j]'(by rw [Array.length_toList]; exact h3) = (v0 :: vs)[j] := by simp only [hvs]
        rw [← h4, Array.getElem_toList]
        exact (e2 j h1 h3).1
      have hv0 := eval_v (hget 0 (by simp) (by simp))
      simp only [List.getElem_cons_zero] at hv0
      subst hv0
      have hrun := maxL_run (P := P) (w := w) (N := N) (V := V) hy (vs := vs) (by have := congrArg List.length hvs; rw [Array.length_toList, e1] at this; simp at this; omega) (fun j h1 h2 => hget (j + 1) (Nat.succ_lt_succ h1) (Nat.succ_lt_succ h2))
      simp only [execOp, ho, resolve, hc, invoke, builtin, Builtin.max_, Sem.run_bind, Sem.run_pure, Result.andThen_ok, hvs, hrun]
    · exact h.elim
  · rename_i t t' y hts
    split at h
    · rename_i e ys' hd hys'
      split at h
      · exact h.elim
      · rename_i ie he
        split at h
        · rename_i hh
          obtain ⟨rfl, hk⟩ := hh
          obtain ⟨h1, h2, h3, h4⟩ := h
          obtain ⟨x0, x1, hx0⟩ : ∃ x0 x1, c.args.toList = [x0, x1] := by
            cases hh : c.args.toList with
            | nil => rw [hh] at hl; cases hl
            | cons x0 r => cases r with
              | nil => rw [hh] at hl; cases hl
              | cons x1 r => cases r with
                | nil => exact ⟨x0, x1, rfl⟩
                | cons x2 r => rw [hh] at hl; simp at hl
          have hceta := call_eta hc hx0 hts
          have hxa : ρ x0 = some .nils := by have := hys 0 (by rw [hx0]; simp) (by simp); simpa [hx0] using this
          have hxb : ρ x1 = some y := by have := hys 1 (by rw [hx0]; simp) (by simp); simpa [hx0] using this
          exact append_nils_OK hT (by rw [ho, hceta]) (under_of hT hd) he hk hxa hxb hys' h1 h2 h3 h4
        · exact h.elim
    · exact h.elim
  · exact h.elim

end
end Go.Sk

-- SkO
/- The step of the pure picture is sound: the theorem. -/
namespace Go.Sk
open Go.RowKit

section
variable {P : Program} {T : TypeId → Option TI} {o : Oper} {ρ : Operand → Option AV} {ob : Nat → Option AO} {n : Nat}

theorem makeSlice_OK (hT : TOK P T) {t e : TypeId} {ie : TI} {l c : Operand} {a : Int} {k k' : IntKind} {z0 z : AV} (ho : o.op = .makeSlice t l c) (hu : P.underlying t = some (.slice e)) (he : T e = some ie)
    (hl : ρ l = some (.v (.int k a))) (hc : ρ c = some (.v (.int k' a))) (hz0 : constA ie.zero = some z0) (hz : immA ob z0 = some z) (hs : ie.size = (cellsA z).length) (hpos : 0 < ie.size) (h0 : 0 ≤ a) (h1 : a ≤ 4611686018427387904) (h2 : ie.bytes * a ≤ 140737488355328) :
    OKs P o ρ ob n (.ref n) (some (.arr ie.size (List.replicate a.toNat z))) := by
  refine OKs.newObj (fun A h => by simpa [bd] using h) fun {N0 base V g ob' A a' w} hbas hn hρ hop hobs hlow hne => ?_
  have e1 := eval_v (hop l _ (by rw [ho]; simp [Op.operands]) hl).1
  have e2 := eval_v (hop c _ (by rw [ho]; simp [Op.operands]) hc).1
  obtain ⟨arr, h3, h4⟩ := makeSlice_run (P := P) (w := w) hT hu he (k := k) (k' := k') h0 h1 h2 hpos
  have hlen : (List.replicate a.toNat z).length = a.toNat := List.length_replicate
  have hL : Laid (Nf N0 base V ob') w ie.size (List.replicate a.toNat z) 0 arr ∧ a.toNat * ie.size ≤ arr.size := by
    obtain ⟨r1, r2, r3, _⟩ := immA_rep hz (constA_rep (N := Nf N0 base V ob') (w := w) (V := V) hz0).1 (fun i u hu => (hobs i u hu).1)
    rcases h4 with rfl | rfl
    · exact ⟨⟨fun e he => by simp at he, fun i e j c h => by simp at h⟩, by simp⟩
    · exact ⟨zero_laid (by rw [r2, hs]) hs.symm r3, by simp⟩
  refine ⟨.slice (some ⟨w.heap.size, 0, none⟩) a.toNat a.toNat, .slice (some ⟨w.heap.size, 0, none⟩) (List.replicate a.toNat z).length a.toNat, w.alloc (.cells arr e), ?_, below_alloc _ _, blk_new (by simp), trivial, fun hN => ⟨?_, ?_⟩⟩
  · simp only [execOp, ho, e1, e2, Sem.run_bind, h3, Result.andThen_ok, Sem.run_pure]
  · exact arr_new (w1 := w) rfl rfl hL.1 (by rw [hlen]; exact Nat.le_refl _) hL.2 hN
  · have := RepT.ref (N := Nf N0 base (updV V n (.slice (some ⟨w.heap.size, 0, none⟩) (List.replicate a.toNat z).length a.toNat)) (updO ob' n (.arr ie.size (List.replicate a.toNat z)))) (w := w.alloc (.cells arr e)) (V := updV V n (.slice (some ⟨w.heap.size, 0, none⟩) (List.replicate a.toNat z).length a.toNat)) n (by rw [updV_same]; rfl)
    rw [updV_same] at this
    rwa [hlen] at this ⊢

theorem makeTre_OK (hT : TOK P T) {t e : TypeId} {ie : TI} {l c : Operand} {a : Int} {k k' : IntKind} {k2 : Nat} (ho : o.op = .makeSlice t l c) (hu : P.underlying t = some (.slice e)) (he : T e = some ie)
    (hl : ρ l = some (.v (.int k a))) (hc : ρ c = some (.v (.int k' a))) (hz : ie.zero = .slice none 0 0) (h0 : 0 ≤ a) (h1 : a ≤ 4611686018427387904) (h2 : ie.bytes * a ≤ 140737488355328) :
    OKs P o ρ ob n (.ref n) (some (.tre 1 (List.replicate a.toNat (.own k2 [])))) := by
  refine OKs.newObj (fun A h => by simpa [bd] using h) fun {N0 base V g ob' A a' w} hbas hn hρ hop hobs hlow hne => ?_
  have e1 := eval_v (hop l _ (by rw [ho]; simp [Op.operands]) hl).1
  have e2 := eval_v (hop c _ (by rw [ho]; simp [Op.operands]) hc).1
  have hs : ie.size = 1 := by
    obtain ⟨info, _, _, _, _, _, h⟩ := hT e ie he
    rw [hz] at h
    simpa [Value.cells] using h.symm
  obtain ⟨arr, h3, h4⟩ := makeSlice_run (P := P) (w := w) hT hu he (k := k) (k' := k') h0 h1 h2 (by omega)
  have hget : ∀ i, i < a.toNat → arr[i]? = some (.slice none 0 0) := fun i hi => by
    rcases h4 with rfl | rfl
    · simp at hi
    · rw [hz, hs]
      simp [Value.cells, hi, Nat.mod_one]
  refine ⟨.slice (some ⟨w.heap.size, 0, none⟩) a.toNat a.toNat, .slice (some ⟨w.heap.size, 0, none⟩) a.toNat a.toNat, w.alloc (.cells arr e), ?_, below_alloc _ _, blk_new (by simp), fun e' he' => ?_, fun hN => ⟨?_, ?_⟩⟩
  · simp only [execOp, ho, e1, e2, Sem.run_bind, h3, Result.andThen_ok, Sem.run_pure]
  · rw [(List.mem_replicate.1 he').2]; simp [cellsA, bdL, bd]
  · by_cases ha : a.toNat = 0
    · left
      refine ⟨_, by rw [updV_same, ha], by rw [ha]; rfl, fun b hb => ?_⟩
      rw [updV_f, ha] at hb
      simp [bl, blk] at hb
    · right
      refine ⟨w.heap.size, 0, a.toNat, arr, e, fun _ _ => False, by rw [updV_same]; simp, heap_new w _, by omega, by simp, ?_, fun e' he' => by rw [(List.mem_replicate.1 he').2]; rfl, fun i e' j c' q1 q2 => ?_, fun _ _ _ h => h.elim, fun _ _ h => h.elim, fun b => ?_⟩
      · have : (a.toNat - 1) < arr.size := (Array.getElem?_eq_some_iff.1 (hget (a.toNat - 1) (by omega))).1
        omega
      · obtain ⟨q3, q4⟩ := List.getElem?_eq_some_iff.1 q1
        simp at q3 q4
        subst q4
        cases j with
        | succ j => simp [cellsA] at q2
        | zero =>
          simp [cellsA] at q2
          subst q2
          exact ⟨.slice none 0 0, by rw [← hget i (by omega)]; congr 1; omega, rfl, .inl ⟨none, rfl, rfl⟩, fun b => by simp [bl, blk]⟩
      · rw [updV_f]
        simp only [bl, blk, if_neg ha, Option.some.injEq, and_false, exists_false, or_false, eq_comm]
  · have := RepT.ref (N := Nf N0 base (updV V n (.slice (some ⟨w.heap.size, 0, none⟩) a.toNat a.toNat)) (updO ob' n (.tre 1 (List.replicate a.toNat (.own k2 []))))) (w := w.alloc (.cells arr e)) (V := updV V n (.slice (some ⟨w.heap.size, 0, none⟩) a.toNat a.toNat)) n (by rw [updV_same]; rfl)
    rwa [updV_same] at this

theorem buildSlice_OK (hT : TOK P T) {t e : TypeId} {ie : TI} {len : Nat} {parts : Array (Nat × Operand)} {ys es : List AV} {own : Bool} {K : AV → Option AO → Prop} (ho : o.op = .buildSlice t len parts) (hu : P.underlying t = some (.slice e)) (he : T e = some ie)
    (hi : idxs 0 parts.toList = true) (hl : parts.size = len) (hsz : len * ie.size ≤ 16777216)
    (hlen : ys.length = (parts.toList.map (·.2)).length) (hys : ∀ (j : Nat) (h1 : j < (parts.toList.map (·.2)).length) (h2 : j < ys.length), ρ (parts.toList.map (·.2))[j] = some ys[j]) (himm : immAll ob ie.size ys = some es)
    (hK : match len, own with | 0, _ => K .nils none | _, true => K (.ref n) (some (.arr ie.size es)) | _, false => K (.sl es) none) : ∃ x no, K x no ∧ OKs P o ρ ob n x no := by
  have hlen' : ys.length = parts.size := by simpa using hlen
  have hrun : ∀ {N : Nat → Prop} {V : VV} {A : Nat → Prop} {a : Act} {w : World}, (∀ y z, y ∈ o.op.operands → ρ y = some z → RepT N w V z (a.eval y) ∧ bd A z) → (∀ i u, ob i = some u → RepO N w V i u) →
      ∃ cells, (execOp a.eval o).run P w = .ok (.value (.slice (some ⟨w.heap.size, 0, none⟩) len len)) (w.alloc (.cells cells e)) ∧ cells.size = len * ie.size ∧ Laid N w ie.size es 0 cells ∧ es.length = len := by
    intro N V A a w hop hobs
    obtain ⟨cells, h1, h2, h3, h4⟩ := buildSlice_run (P := P) (w := w) (N := N) (V := V) (ob := ob) (ev := a.eval) hT hu he hi hl hsz hlen' (fun j h1 h2 => by
      have := hys j (by simpa using h1) h2
      simp only [List.getElem_map, Array.getElem_toList] at this
      refine (hop _ _ ?_ this).1
      rw [ho]
      simp only [Op.operands, List.mem_toArray, List.mem_map, Array.mem_toList_iff]
      exact ⟨parts[j], Array.getElem_mem h1, rfl⟩) himm hobs
    exact ⟨cells, by simp only [execOp, ho, Sem.run_bind, h1, Result.andThen_ok, Sem.run_pure], h2, h3, h4⟩
  split at hK
  · refine ⟨_, _, hK, OKs.grown fun {N0 base V g ob' A a w} hbas hρ hop hobs hlow => ?_⟩
    obtain ⟨cells, h1, _⟩ := hrun hop (fun i u hu => (hobs i u hu).1)
    exact ⟨_, _, h1, below_alloc _ _, by simp [bd], .nils _⟩
  · refine ⟨_, _, hK, OKs.newObj (fun A h => by simpa [bd] using h) fun {N0 base V g ob' A a w} hbas hn hρ hop hobs hlow hne => ?_⟩
    obtain ⟨cells, h1, h2, h3, h4⟩ := hrun hop (fun i u hu => (hobs i u hu).1)
    refine ⟨_, .slice (some ⟨w.heap.size, 0, none⟩) es.length len, _, h1, below_alloc _ _, blk_new (by simp), trivial, fun hN => ⟨arr_new (w1 := w) rfl rfl h3 (by omega) (by omega) hN, ?_⟩⟩
    have := RepT.ref (N := Nf N0 base (updV V n (.slice (some ⟨w.heap.size, 0, none⟩) es.length len)) (updO ob' n (.arr ie.size es))) (w := w.alloc (.cells cells e)) (V := updV V n (.slice (some ⟨w.heap.size, 0, none⟩) es.length len)) n (by rw [updV_same]; rfl)
    rw [updV_same] at this
    rwa [h4] at this ⊢
  · refine ⟨_, _, hK, OKs.grown fun {N0 base V g ob' A a w} hbas hρ hop hobs hlow => ?_⟩
    obtain ⟨cells, h1, h2, h3, h4⟩ := hrun hop (fun i u hu => (hobs i u hu).1)
    refine ⟨_, _, h1, below_alloc _ _, by simp [bd], .im ?_⟩
    have := (h3.mono fun b hN hlt => ⟨hN, (below_alloc w (.cells cells e)).block b hlt⟩).rep (heap_new w _) (Nf_new hbas hlow) (cap := len) (by omega)
    rwa [h4] at this

theorem pstep_sound (hT : TOK P T) {own : Bool} {K : AV → Option AO → Prop} (h : pstep P T own ρ ob n o K) : ∃ x no, K x no ∧ OKs P o ρ ob n x no := by
  unfold pstep at h
  split at h
  · rename_i x ho
    obtain ⟨y, h1, h2⟩ := kx_iff h
    exact ⟨_, _, h2, move_OK (.inl ho) h1⟩
  · rename_i x ho
    obtain ⟨y, h1, h2⟩ := kx_iff h
    exact ⟨_, _, h2, move_OK (.inr ho) h1⟩
  · rename_i c x y ho
    obtain ⟨cv, h1, h2⟩ := kx_iff h
    split at h2
    · rename_i t
      replace h2 := ifB_elim h2
      cases t with
      | true =>
        obtain ⟨z, h3, h4⟩ := kx_iff (h2.1 rfl)
        exact ⟨_, _, h4, pick_OK (t := true) ho h1 h3⟩
      | false =>
        obtain ⟨z, h3, h4⟩ := kx_iff (h2.2 rfl)
        exact ⟨_, _, h4, pick_OK (t := false) ho h1 h3⟩
    · exact h2.elim
  · rename_i op t x y t' ho
    obtain ⟨xv, h1, h2⟩ := kx_iff h
    obtain ⟨yv, h3, h4⟩ := kx_iff h2
    split at h4
    · obtain ⟨r, h5, h6, h7⟩ := abin_sound hT h4
      exact ⟨_, _, h5, binOp_OK ho h1 h3 h7 h6⟩
    · exact h4.elim
  · rename_i op t x ho
    obtain ⟨xv, h1, h2⟩ := kx_iff h
    split at h2
    · rename_i b
      exact ⟨_, _, h2, plain1_OK (by rw [ho]; simp [Op.operands]) h1 rfl fun e w he => by simp [execOp, ho, he, Op.unary]⟩
    · rename_i k i
      exact ⟨_, _, h2.elim, plain1_OK (by rw [ho]; simp [Op.operands]) h1 rfl fun e w he => by simp [execOp, ho, he, Op.unary, Op.intArith]⟩
    · exact h2.elim
  · rename_i src dst x ho
    obtain ⟨xv, h1, h2⟩ := kx_iff h
    split at h2
    · rename_i hs hd
      exact ⟨_, _, h2.elim, plain1_OK (by rw [ho]; simp [Op.operands]) h1 rfl fun e w he => by simp [execOp, ho, he, convert, run_underlying (under_of hT hs), run_underlying (under_of hT hd), Conv.intToInt]⟩
    · rename_i hs hd
      exact ⟨_, _, h2, plain1_OK (by rw [ho]; simp [Op.operands]) h1 rfl fun e w he => by simp [execOp, ho, he, convert, run_underlying (under_of hT hs), run_underlying (under_of hT hd)]⟩
    · exact h2.elim
  · rename_i x ho
    obtain ⟨xv, h1, h2⟩ := kx_iff h
    have key : ∀ {y : AV}, ρ x = some y → (∀ {N : Nat → Prop} {w : World} {V : VV} {v : Value}, RepT N w V y v → ∃ b o, v = .pointer (some ⟨b, o, none⟩)) → OKs P o ρ ob n y none := fun hy hp =>
      addr_OK (by rw [ho]; simp [Op.operands]) hy fun hr hb _ => by
        obtain ⟨b, o', e⟩ := hp hr
        refine ⟨_, ?_, hr, hb⟩
        simp only [execOp, ho, e]
        rfl
    split at h2
    · exact ⟨_, _, h2, key h1 fun hr => by cases hr with | im h => cases h | ptr _ j b o h => exact ⟨_, _, rfl⟩⟩
    · exact ⟨_, _, h2, key h1 fun hr => by cases hr with | im h => cases h | pea _ k i j b o n c h => exact ⟨_, _, rfl⟩⟩
    · exact ⟨_, _, h2, key h1 fun hr => by cases hr with | im h => cases h | pel cs b o f hN hb hc hr => exact ⟨_, _, rfl⟩⟩
    · exact h2.elim
  · rename_i s x f ho
    obtain ⟨xv, h1, h2⟩ := kx_iff h
    split at h2
    · exact h2.elim
    · rename_i fd hfd
      split at h2
      · exact h2.elim
      · rename_i ti hti
        split at h2
        · exact h2.elim
        · rename_i p hp
          by_cases hs : ti.size ≠ 0
          · rw [if_pos hs] at h2
            refine ⟨_, _, h2, addr_OK (by rw [ho]; simp [Op.operands]) h1 fun hr hb _ => ?_⟩
            obtain ⟨b, o', e, hr', hb'⟩ := addOff_rep hr hp
            refine ⟨_, ?_, hr', hb' _ hb⟩
            simp only [execOp, ho, e, Sem.run_bind, run_fieldAt hT hfd hti hs, Result.andThen_ok, Sem.run_pure]
          · rw [if_neg hs] at h2; exact h2.elim
  · rename_i s x f ho
    obtain ⟨xv, h1, h2⟩ := kx_iff h
    split at h2
    · rename_i fd cs hfd
      split at h2
      · exact h2.elim
      · rename_i ti hti
        split at h2
        · rename_i y hy
          refine ⟨_, _, h2, addr_OK (by rw [ho]; simp [Op.operands]) h1 fun {N V A e w} hr hb _ => ?_⟩
          obtain ⟨vs, hv⟩ : ∃ vs, e x = .agg vs := by
            generalize e x = v at hr
            cases hr with
            | im h => cases h
            | ag _ vs hs hr ho => exact ⟨vs, rfl⟩
          rw [hv] at hr
          obtain ⟨u, h3, h4⟩ := part_rep hT hti hr hy
          obtain ⟨fs, h5, h6⟩ := fieldOf_run hT hfd
          refine ⟨u, ?_, h4, bd_part (by simpa [bd] using hb) hy⟩
          simp only [execOp, ho, hv, Instr.field, Sem.run_bind, run_underlying h5, Result.andThen_ok, h6, asAgg, Sem.run_pure, h3]
        · exact h2.elim
    · exact h2.elim
  · rename_i t x i ho
    obtain ⟨xv, h1, h2⟩ := kx_iff h
    obtain ⟨iv, h3, h4⟩ := kx_iff h2
    split at h4
    · rename_i k j
      obtain ⟨p, h5, h6⟩ := idxAddr_sound (k := k) hT h4
      refine ⟨_, _, h5, OKs.value fun {N V g A a w} hρ hop hobs => ?_⟩
      have hv := eval_v (hop i _ (by rw [ho]; simp [Op.operands]) h3).1
      obtain ⟨hr, hb⟩ := hop x _ (by rw [ho]; simp [Op.operands]) h1
      obtain ⟨u, h7, h8, h9⟩ := h6 hr hb hobs
      exact ⟨u, by simp only [execOp, ho, hv, Sem.run_bind, h7, Result.andThen_ok, Sem.run_pure], h8, h9⟩
    · exact h4.elim
  · rename_i t x i ho
    obtain ⟨xv, h1, h2⟩ := kx_iff h
    obtain ⟨iv, h3, h4⟩ := kx_iff h2
    split at h4
    · rename_i s k j hd
      obtain ⟨h5, b, h6, h7⟩ := h4
      refine ⟨_, _, h7, OKs.value fun {N V g A a w} hρ hop hobs => ?_⟩
      have hv := eval_v (hop i _ (by rw [ho]; simp [Op.operands]) h3).1
      have hx := eval_v (hop x _ (by rw [ho]; simp [Op.operands]) h1).1
      refine ⟨_, ?_, .im (.v _ rfl), by simp [bd]⟩
      simp only [execOp, ho, hv, hx, Instr.index, asIntOf, Sem.run_bind, Sem.run_pure, Result.andThen_ok, run_underlying (under_of hT hd), h5, if_true, h6]
    · rename_i len e cs k j hd
      split at h4
      · exact h4.elim
      · rename_i ie hie
        obtain ⟨h5, h6, h7⟩ := h4
        split at h7
        · rename_i y hy
          refine ⟨_, _, h7, OKs.value fun {N V g A a w} hρ hop hobs => ?_⟩
          have hv := eval_v (hop i _ (by rw [ho]; simp [Op.operands]) h3).1
          obtain ⟨hr, hb⟩ := hop x _ (by rw [ho]; simp [Op.operands]) h1
          obtain ⟨vs, hvx⟩ : ∃ vs, a.eval x = .agg vs := by
            generalize a.eval x = v at hr
            cases hr with
            | im h => cases h
            | ag _ vs hs hr ho => exact ⟨vs, rfl⟩
          rw [hvx] at hr
          obtain ⟨u, h8, h9⟩ := part_rep hT hie hr hy
          refine ⟨u, ?_, h9, bd_part (by simpa [bd] using hb) hy⟩
          have h10 : 0 ≤ j ∧ j < (len : Int) := ⟨h5, h6⟩
          simp only [execOp, ho, hv, hvx, Instr.index, asIntOf, Sem.run_bind, Sem.run_pure, Result.andThen_ok, run_underlying (under_of hT hd), h10, and_self, if_true, run_sizeOf hT hie, h8]
        · exact h7.elim
    · exact h4.elim
  · rename_i t p ho
    obtain ⟨pv, h1, h2⟩ := kx_iff h
    split at h2
    · exact h2.elim
    · rename_i i hi
      obtain ⟨cs, h3, h4⟩ := atPtr_sound h2
      split at h3
      · rename_i x hx
        refine ⟨_, _, h3, addr_OK (by rw [ho]; simp [Op.operands]) h1 fun {N V A e w} hr hb hobs => ?_⟩
        obtain ⟨h5, h6⟩ := h4 hr hobs
        obtain ⟨u, h7, h8⟩ := h5.load hT hi hx
        exact ⟨u, by simp only [execOp, ho, Sem.run_bind, h7, Result.andThen_ok, Sem.run_pure], h8, bd_part h6 hx⟩
      · exact h3.elim
  · rename_i x i ho
    obtain ⟨xv, h1, h2⟩ := kx_iff h
    split at h2
    · rename_i cs
      split at h2
      · rename_i c hc
        refine ⟨_, _, h2, addr_OK (by rw [ho]; simp [Op.operands]) h1 fun {N V A e w} hr hb hobs => ?_⟩
        obtain ⟨vs, hv, hs, hr'⟩ : ∃ vs : Array Value, e x = .tuple vs ∧ vs.size = cs.length ∧ ∀ (j : Nat) (h1 : j < cs.length) (h2 : j < vs.size), RepT N w V cs[j] vs[j] := by
          generalize e x = v at hr
          cases hr with
          | im h => cases h
          | tup _ vs hs hr => exact ⟨vs, rfl, hs, hr⟩
        obtain ⟨h3, h4⟩ := List.getElem?_eq_some_iff.1 hc
        have h5 : i < vs.size := by omega
        refine ⟨vs[i], ?_, h4 ▸ hr' i h3 h5, bdL_get (by simpa [bd] using hb) hc⟩
        simp [execOp, ho, hv, Instr.extract, h5]
      · exact h2.elim
    · exact h2.elim
  · rename_i f fs cs ho
    obtain ⟨us, h1, h2, h3⟩ := kl_iff h
    obtain ⟨vs, h4, h5, h6⟩ := kl_iff h3
    refine ⟨_, _, h6, OKs.value fun {N V g A a w} hρ hop hobs => ?_⟩
    obtain ⟨e1, e2⟩ := ev_kl (xs := fs) (fun y hy => by rw [ho]; simp [Op.operands, hy]) hop h1 h2
    obtain ⟨e3, e4⟩ := ev_kl (xs := cs) (fun y hy => by rw [ho]; simp [Op.operands, hy]) hop h4 h5
    refine ⟨.func f (fs.map a.eval) (cs.map a.eval), by simp [execOp, ho, Instr.makeFunc], .fn f us vs _ _ e1 e3 (fun j h1 h2 => (e2 j h1 h2).1) (fun j h1 h2 => (e4 j h1 h2).1), ?_⟩
    unfold bd
    refine ⟨bdL_iff.2 fun x hx => ?_, bdL_iff.2 fun x hx => ?_⟩
    · obtain ⟨j, q1, q2⟩ := List.mem_iff_getElem.1 hx
      exact q2 ▸ (e2 j q1 (by omega)).2
    · obtain ⟨j, q1, q2⟩ := List.mem_iff_getElem.1 hx
      exact q2 ▸ (e4 j q1 (by omega)).2
  · rename_i t x ho
    obtain ⟨xv, h1, h2⟩ := kx_iff h
    by_cases hok : okA xv = true
    · rw [if_pos hok] at h2
      exact ⟨_, _, h2, box_OK ho h1 hok⟩
    · rw [if_neg hok] at h2; exact h2.elim
  · rename_i t ho
    split at h
    · exact h.elim
    · rename_i i hi
      split at h
      · exact h.elim
      · rename_i cs hcs
        exact ⟨_, _, h, alloc_OK hT ho hi hcs⟩
  · rename_i t parts ho
    split at h
    · exact h.elim
    · rename_i i hi
      split at h
      · exact h.elim
      · rename_i zs hzs
        by_cases hb : buildOK T t = true
        · rw [if_pos hb] at h
          obtain ⟨ys, h1, h2, h3⟩ := kl_iff h
          split at h3
          · rename_i cs hcs
            refine ⟨_, _, h3, OKs.value fun {N V g A a w} hρ hop hobs => ?_⟩
            have hm : ∀ (j : Nat) (q : j < parts.size), parts[j].2 ∈ o.op.operands := fun j q => by
              rw [ho]
              simp only [Op.operands, List.mem_toArray, List.mem_map, Array.mem_toList_iff]
              exact ⟨parts[j], Array.getElem_mem q, rfl⟩
            have hall : ∀ (j : Nat) (q1 : j < parts.size) (q2 : j < ys.length), RepT N w V ys[j] (a.eval parts[j].2) ∧ bd A ys[j] := fun j q1 q2 => by
              have := h2 j (by simpa using q1) q2
              simp only [List.getElem_map, Array.getElem_toList] at this
              exact hop _ _ (hm j q1) this
            obtain ⟨arr, h4, h5⟩ := build_run (P := P) (w := w) (N := N) (V := V) (ev := a.eval) hT hi hzs hb (by simpa using h1) (fun j q1 q2 => (hall j q1 q2).1) hcs
            refine ⟨_, by simp only [execOp, ho, Sem.run_bind, h4, Result.andThen_ok, Sem.run_pure], h5, ?_⟩
            unfold bd
            have hz := (constL_rep (N := N) (w := w) (V := V) hzs).2.2 A
            have hlen : ys.length = parts.size := by simpa using h1
            have : ∀ (ps : List (Nat × AV)) (cs0 cs1 : List AV), bdL A cs0 → (∀ p, p ∈ ps → bd A p.2) → fillA (placeOf T t) cs0 ps = some cs1 → bdL A cs1 := by
              intro ps
              induction ps with
              | nil => intro cs0 cs1 q _ q3; simp [fillA] at q3; exact q3 ▸ q
              | cons p r ih =>
                intro cs0 cs1 q q2 q3
                unfold fillA at q3
                split at q3
                · cases q3
                · split at q3
                  · refine ih _ _ (bdL_iff.2 fun x hx => ?_) (fun p hp => q2 p (by simp [hp])) q3
                    unfold setC at hx
                    rcases List.mem_append.1 hx with hx | hx
                    · rcases List.mem_append.1 hx with hx | hx
                      · exact bdL_iff.1 q x (List.mem_of_mem_take hx)
                      · exact bdL_iff.1 (bd_cells (q2 p (by simp))) x hx
                    · exact bdL_iff.1 q x (List.mem_of_mem_drop hx)
                  · cases q3
            refine this _ _ _ hz (fun p hp => ?_) hcs
            obtain ⟨j, q1, q2⟩ := List.mem_iff_getElem.1 (List.of_mem_zip hp).2
            rw [← q2]
            exact (hall j (by omega) q1).2
          · exact h3.elim
        · rw [if_neg hb] at h; exact h.elim
  · rename_i t len parts ho
    split at h
    · rename_i e hd
      split at h
      · exact h.elim
      · rename_i ie hie
        split at h
        · rename_i hh
          obtain ⟨q1, q2, q3, _⟩ := hh
          obtain ⟨ys, h1, h2, h3⟩ := kl_iff h
          split at h3
          · exact h3.elim
          · rename_i es hes
            exact buildSlice_OK hT ho (under_of hT hd) hie q1 q2 q3 h1 h2 hes h3
        · exact h.elim
    · exact h.elim
  · rename_i t l c ho
    obtain ⟨lv, h1, h2⟩ := kx_iff h
    obtain ⟨cv, h3, h4⟩ := kx_iff h2
    split at h4
    · rename_i e k a k' b hd
      split at h4
      · exact h4.elim
      · rename_i ie hie
        split at h4
        · exact h4.elim
        · rename_i z0 hz0
          split at h4
          · exact h4.elim
          · rename_i z hz
            split at h4
            · rename_i hh
              obtain ⟨rfl, q1, q2, q3, q4⟩ := h4
              have hflat : OKs P o ρ ob n (.ref n) (some (.arr ie.size (List.replicate a.toNat z))) := makeSlice_OK hT ho (under_of hT hd) hie h1 h3 hz0 hz hh.1 hh.2 q1 q2 q3
              unfold makeK at q4
              split at q4
              · rename_i hz1
                split at q4
                · rcases q4 with q4 | q4
                  · exact ⟨_, _, q4, hflat⟩
                  · exact ⟨_, _, q4, makeTre_OK hT ho (under_of hT hd) hie h1 h3 hz1 q1 q2 q3⟩
                · exact ⟨_, _, q4, hflat⟩
              · exact ⟨_, _, q4, hflat⟩
            · exact h4.elim
    · exact h4.elim
  · rename_i t x lo hi mx ho
    split at h
    · exact h.elim
    · obtain ⟨xv, h1, h2⟩ := kx_iff h
      split at h2
      · rename_i s hd
        obtain ⟨l, h3, hlo⟩ := optK_get h2
        obtain ⟨r, h4, hhi⟩ := optK_get h3
        obtain ⟨q0, q1, q2, hK⟩ := h4
        refine ⟨_, _, hK, OKs.value fun {N V g A a w} hρ hop hobs => ?_⟩
        have hx := eval_v (hop x _ (by rw [ho]; simp [Op.operands]) h1).1
        have hlo' : (lo.map a.eval = none ∧ l = 0) ∨ ∃ k, lo.map a.eval = some (.int k l) := by
          rcases hlo with ⟨hq1, hq2⟩ | ⟨y, k, hq1, hy⟩
          · exact .inl ⟨by rw [hq1]; rfl, hq2⟩
          · exact .inr ⟨k, by rw [hq1, Option.map_some, eval_v (hop y _ (by rw [ho, hq1]; simp [Op.operands]) hy).1]⟩
        have hhi' : (hi.map a.eval = none ∧ r = s.size) ∨ ∃ k, hi.map a.eval = some (.int k r) := by
          rcases hhi with ⟨hq1, hq2⟩ | ⟨y, k, hq1, hy⟩
          · exact .inl ⟨by rw [hq1]; rfl, hq2⟩
          · exact .inr ⟨k, by rw [hq1, Option.map_some, eval_v (hop y _ (by rw [ho, hq1]; simp [Op.operands]) hy).1]⟩
        have hb := sliceBounds_run (P := P) (w := w) (isS := false) (len := s.size) (cap := s.size) hlo' hhi' q0 q1 q2 (Nat.le_refl _)
        refine ⟨_, ?_, .im (.v _ rfl), by simp [bd]⟩
        simp only [execOp, ho, hx, Option.map_none, Instr.sliceAt, Sem.run_bind, run_underlying (under_of hT hd), Result.andThen_ok, Instr.slice, Option.isSome_none, Bool.false_eq_true, if_false, hb, Sem.run_pure]
      · rename_i e hd
        split at h2
        · rename_i ie xs hie hxs hnl
          obtain ⟨hks, h2⟩ := h2
          obtain ⟨l, h3, hlo⟩ := optK_get h2
          obtain ⟨r, h4, hhi⟩ := optK_get h3
          obtain ⟨q0, q1, q2, hK⟩ := h4
          exact ⟨_, _, hK, slice_OK hT ho (under_of hT hd) hie h1 hxs hnl hks hlo hhi q0 q1 q2⟩
        · exact h2.elim
      · exact h2.elim
  · rename_i c ho
    split at h
    · rename_i b hc
      obtain ⟨ys, h1, h2, h3⟩ := kl_iff h
      exact pbuiltin_sound hT ho hc h1 h2 h3
    · rename_i f hc
      obtain ⟨fv, h1, h2⟩ := kx_iff h
      obtain ⟨ys, h3, h4, h5⟩ := kl_iff h2
      split at h5
      · rename_i fid fs cs hcal
        refine pcall_OK h5 fun N V A a w hop => ?_
        obtain ⟨e1, e2⟩ := ev_kl (xs := c.args) (fun y hy => by rw [ho]; simp [Op.operands, Call.operands, hc, hy]) hop h3 h4
        have hfv := hop f fv (by rw [ho]; simp [Op.operands, Call.operands, hc]) h1
        obtain ⟨us, vs, hev, r1, r2, r3, r4⟩ : ∃ us vs : Array Value, a.eval f = .func (.func fid) us vs ∧ us.size = fs.length ∧ vs.size = cs.length ∧ (∀ (j : Nat) (h1 : j < fs.length) (h2 : j < us.size), RepT N w V fs[j] us[j]) ∧ (∀ (j : Nat) (h1 : j < cs.length) (h2 : j < vs.size), RepT N w V cs[j] vs[j]) := by
          have hfr := hfv.1
          unfold calleeOf at hcal
          split at hcal
          · split at hcal
            · rename_i hz
              injection hcal with hcal
              simp only [Prod.mk.injEq] at hcal
              obtain ⟨rfl, rfl, rfl⟩ := hcal
              exact ⟨_, _, eval_v hfr, by simpa using hz.1, by simpa using hz.2, fun j h1 => by simp at h1, fun j h1 => by simp at h1⟩
            · cases hcal
          · injection hcal with hcal
            simp only [Prod.mk.injEq] at hcal
            obtain ⟨rfl, rfl, rfl⟩ := hcal
            generalize a.eval f = v at hfr
            cases hfr with
            | im h => cases h
            | fn _ _ _ us vs q1 q2 q3 q4 => exact ⟨us, vs, rfl, q1, q2, q3, q4⟩
          · cases hcal
        refine ⟨us ++ c.args.map a.eval ++ vs, by simp only [Array.size_append, List.length_append, r1, r2, e1], ?_, fun j h6 h7 => ?_⟩
        · simp only [execOp, ho, resolve, hc, hev, Deferred.ofValue, Sem.run_bind, Sem.run_pure, Result.andThen_ok, invoke]
        · simp only [Array.getElem_append, List.getElem_append, Array.size_append, List.length_append, r1, e1]
          split
          · split
            · exact r3 _ _ _
            · exact (e2 _ _ _).1
          · exact r4 _ _ _
      · exact h5.elim
    · exact h.elim
  · exact h.elim

end
end Go.Sk
