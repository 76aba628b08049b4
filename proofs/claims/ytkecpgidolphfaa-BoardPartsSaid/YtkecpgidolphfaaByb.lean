/- Contracts of functions of the program, proved by the checker. -/
import Derived.Test.YtkecpgidolphfaaBya
namespace Go.Proofs.Ytkecpgidolphfaa
set_option linter.unusedVariables false
set_option linter.unusedSimpArgs false
open Go Go.Sk

/-! Parts: what determines them; both ways find them. -/
def Bd.adj (b : Bd) (x y : Int) : Prop := y ∈ b.near x ∨ x ∈ b.near y
theorem to_cell {b : Bd} {s d c : Int} (h : 0 ≤ b.to s d c) : 0 ≤ c ∧ c < b.cells := by
  unfold Bd.to at h
  split at h
  · omega
  · omega
theorem mem_near {b : Bd} {c x : Int} : x ∈ b.near c ↔ 0 ≤ x ∧ x < b.cells ∧ x ≠ c ∧ ∃ d : Int, 0 ≤ d ∧ d < b.next.length ∧ b.to 0 d c = x := by
  unfold Bd.near Bd.step
  simp only [List.mem_filter, mem_ints, Bool.and_eq_true, bne_iff_ne, ne_eq, List.any_eq_true, beq_iff_eq]
  constructor
  · rintro ⟨h1, h2, d, h3, h4⟩
    exact ⟨h1.1, h1.2, h2, d, h3.1, h3.2, h4⟩
  · rintro ⟨h1, h2, h3, d, h4, h5, h6⟩
    exact ⟨⟨h1, h2⟩, h3, d, ⟨h4, h5⟩, h6⟩
theorem near_src {b : Bd} {c x : Int} (h : x ∈ b.near c) : 0 ≤ c ∧ c < b.cells := by
  obtain ⟨h0, _, _, d, _, _, e⟩ := mem_near.1 h
  exact to_cell (s := 0) (d := d) (by omega)
theorem Bd.adj_rg {b : Bd} {x y : Int} (h : b.adj x y) : (0 ≤ x ∧ x < b.cells) ∧ 0 ≤ y ∧ y < b.cells := by
  rcases h with h | h
  · exact ⟨near_src h, near_mem h⟩
  · exact ⟨near_mem h, near_src h⟩
theorem Bd.adj_symm {b : Bd} {x y : Int} (h : b.adj x y) : b.adj y x := h.elim .inr .inl
inductive Con (R : Int → Int → Prop) (a : Int) : Int → Prop
  | refl : Con R a a
  | step {x y : Int} (h : Con R a x) (r : R x y) : Con R a y
theorem Con.trans {R : Int → Int → Prop} {a b c : Int} (h1 : Con R a b) (h2 : Con R b c) : Con R a c := by
  induction h2 with
  | refl => exact h1
  | step _ r ih => exact ih.step r
theorem Con.symm {R : Int → Int → Prop} (hR : ∀ x y, R x y → R y x) {a b : Int} (h : Con R a b) : Con R b a := by
  induction h with
  | refl => exact .refl
  | step _ r ih => exact (Con.step .refl (hR _ _ r)).trans ih

structure Part (b : Bd) (p : List Int) : Prop where
  len : (p.length : Int) = b.cells
  le : ∀ c, 0 ≤ c → c < b.cells → 0 ≤ nth p c ∧ nth p c ≤ c
  con : ∀ c, 0 ≤ c → c < b.cells → Con b.adj (nth p c) c
  eq : ∀ c x, b.adj c x → nth p x = nth p c
theorem Part.path {b : Bd} {p : List Int} (h : Part b p) {a c : Int} (hc : Con b.adj a c) : nth p c = nth p a := by
  induction hc with
  | refl => rfl
  | step _ r ih => rw [h.eq _ _ r, ih]
theorem Part.unique {b : Bd} {p q : List Int} (hp : Part b p) (hq : Part b q) : p = q := by
  refine ext_nth (by have := hp.len; have := hq.len; omega) fun c c0 c1 => ?_
  have c1' : c < b.cells := by have := hp.len; omega
  have h1 := hp.le c c0 c1'
  have h2 := hq.le c c0 c1'
  have h3 := hq.path (hp.con c c0 c1')
  have h4 := hp.path (hq.con c c0 c1')
  have h5 := hq.le (nth p c) h1.1 (by omega)
  have h6 := hp.le (nth q c) h2.1 (by omega)
  omega

/-! By passes. -/
structure PJ (b : Bd) (o : List Int) : Prop where
  len : (o.length : Int) = b.cells
  le : ∀ c, 0 ≤ c → c < b.cells → 0 ≤ nth o c ∧ nth o c ≤ c
  con : ∀ c, 0 ≤ c → c < b.cells → Con b.adj (nth o c) c
theorem nx_adj {b : Bd} {d c : Int} (d0 : 0 ≤ d) (d1 : d < b.next.length) (c0 : 0 ≤ c) (c1 : c < b.cells) (h0 : 0 ≤ b.nx d c) (h1 : b.nx d c < b.cells) (hn : b.nx d c ≠ c) : b.adj c (b.nx d c) := by
  refine .inl (mem_near.2 ⟨h0, h1, hn, d, d0, d1, ?_⟩)
  unfold Bd.to
  rw [if_neg (by omega), if_neg (by omega)]
theorem PJ.step {b : Bd} (hb : b.ok) {s : List Int × Bool} (h : PJ b s.1) {q : Int × Int} (h0 : 0 ≤ q.1) (h1 : q.1 < b.next.length) (h2 : 0 ≤ q.2) (h3 : q.2 < b.cells) : PJ b (b.pstep s q).1 := by
  have hx := hb.lx q.1 q.2 h0 h1 h2 h3
  unfold Bd.pstep
  split
  · exact h
  · rename_i hn
    have hne : b.nx q.1 q.2 ≠ q.2 := fun e => hn (.inr (by rw [e]))
    have hadj := nx_adj h0 h1 h2 h3 (by omega) hx.2 hne
    generalize b.nx q.1 q.2 = x at *
    generalize q.2 = c at *
    have hl := h.len
    have lx := h.le x (by omega) (by omega)
    have lc := h.le c h2 h3
    have cx := h.con x (by omega) (by omega)
    have cc := h.con c h2 h3
    obtain ⟨m, hm⟩ : ∃ m, m = min (nth s.1 x) (nth s.1 c) := ⟨_, rfl⟩
    rw [← hm]
    have m0 : 0 ≤ m := by omega
    have mx : m ≤ x := by omega
    have mc : m ≤ c := by omega
    have hmc : Con b.adj m c ∧ Con b.adj m x := by
      have : m = nth s.1 x ∨ m = nth s.1 c := by omega
      rcases this with e | e
      · rw [e]; exact ⟨cx.step (b.adj_symm hadj), cx⟩
      · rw [e]; exact ⟨cc, cc.step hadj⟩
    have val : ∀ y, 0 ≤ y → y < b.cells → nth ((s.1.set x.toNat m).set c.toNat m) y = if y = c ∨ y = x then m else nth s.1 y := fun y y0 y1 => by
      by_cases e1 : y = c
      · subst e1
        rw [if_pos (.inl rfl), nth_set_eq y0 (by rw [List.length_set]; omega)]
      · rw [nth_set_ne h2 y0 (Ne.symm e1)]
        by_cases e2 : y = x
        · subst e2
          rw [if_pos (.inr rfl), nth_set_eq y0 (by omega)]
        · rw [nth_set_ne (by omega) y0 (Ne.symm e2), if_neg (by rintro (q | q); exact e1 q; exact e2 q)]
    refine ⟨by simp only [List.length_set]; exact hl, fun y y0 y1 => ?_, fun y y0 y1 => ?_⟩
    · simp only
      rw [val y y0 y1]
      split
      · rename_i e; rcases e with rfl | rfl <;> omega
      · exact h.le y y0 y1
    · simp only
      rw [val y y0 y1]
      split
      · rename_i e
        rcases e with rfl | rfl
        · exact hmc.1
        · exact hmc.2
      · exact h.con y y0 y1
theorem PJ.fold {b : Bd} (hb : b.ok) : ∀ {l : List (Int × Int)} {s : List Int × Bool}, (∀ q, q ∈ l → 0 ≤ q.1 ∧ q.1 < b.next.length ∧ 0 ≤ q.2 ∧ q.2 < b.cells) → PJ b s.1 → PJ b (l.foldl b.pstep s).1
  | [], _, _, h => h
  | q :: l, s, hl, h => PJ.fold (s := b.pstep s q) hb (fun y hy => hl y (by simp [hy])) (h.step hb (hl q (by simp)).1 (hl q (by simp)).2.1 (hl q (by simp)).2.2.1 (hl q (by simp)).2.2.2)
/-- A pass that changes nothing. -/
theorem pass_still {b : Bd} : ∀ {l : List (Int × Int)} {s : List Int × Bool}, (l.foldl b.pstep s).2 = false → (l.foldl b.pstep s).1 = s.1 ∧ ∀ q, q ∈ l → b.nx q.1 q.2 < 0 ∨ nth s.1 (b.nx q.1 q.2) = nth s.1 q.2
  | [], s, _ => ⟨rfl, by simp⟩
  | q :: l, s, h => by
    rw [List.foldl_cons] at h ⊢
    obtain ⟨h1, h2⟩ := pass_still h
    have h3 : b.pstep s q = s := by
      unfold Bd.pstep
      split
      · rfl
      · rename_i hn
        exfalso
        have keep : ∀ (l : List (Int × Int)) (s : List Int × Bool), s.2 = true → (l.foldl b.pstep s).2 = true := fun l => by
          induction l with
          | nil => intro s h; exact h
          | cons q l ih =>
            intro s h
            rw [List.foldl_cons]
            refine ih _ ?_
            unfold Bd.pstep
            split
            · exact h
            · rfl
        have : (l.foldl b.pstep (b.pstep s q)).2 = true := keep l _ (by unfold Bd.pstep; rw [if_neg hn])
        rw [this] at h
        cases h
    rw [h3] at h1 h2
    rw [h3]
    refine ⟨h1, fun p hp => ?_⟩
    rcases List.mem_cons.1 hp with rfl | hp
    · unfold Bd.pstep at h3
      by_cases hn : b.nx p.1 p.2 < 0 ∨ nth s.1 (b.nx p.1 p.2) = nth s.1 p.2
      · exact hn
      · rw [if_neg hn] at h3
        have : s.2 = true := by rw [← h3]
        have keep : ∀ (l : List (Int × Int)) (s : List Int × Bool), s.2 = true → (l.foldl b.pstep s).2 = true := fun l => by
          induction l with
          | nil => intro s h; exact h
          | cons q l ih =>
            intro s h
            rw [List.foldl_cons]
            refine ih _ ?_
            unfold Bd.pstep
            split
            · exact h
            · rfl
        have h4 := keep (p :: l) s this
        rw [List.foldl_cons, h] at h4
        cases h4
    · exact h2 p hp
theorem partsR_part {b : Bd} (hb : b.ok) : ∀ (k : Nat) (o : List Int) (ch : Bool), PartsI b ⟨k, o, ch⟩ → PJ b o → (ch = false → Part b o) → Part b (b.partsR k o ch)
  | 0, o, ch, hI, _, hc => by
    cases ch with
    | false => exact hc rfl
    | true => exact absurd (hI.fuel rfl) (by simp)
  | k + 1, o, false, hI, _, hc => hc rfl
  | k + 1, o, true, hI, hj, hc => by
    simp only [Bd.partsR, if_true]
    obtain ⟨k', hk, hn⟩ := hI.next hb rfl
    simp only at hk hn
    obtain rfl : k = k' := by omega
    have hj' : PJ b (b.pass o).1 := PJ.fold hb (ppre_rg (Int.le_refl _)) hj
    refine partsR_part hb k _ _ hn hj' fun hf => ?_
    obtain ⟨h1, h2⟩ := pass_still hf
    have key : ∀ c x, x ∈ b.near c → nth o x = nth o c := fun c x hx => by
      obtain ⟨x0, x1, xc, d, d0, d1, e⟩ := mem_near.1 hx
      have hc := near_src hx
      have en : b.to 0 d c = b.nx d c := by unfold Bd.to; rw [if_neg (by omega), if_neg (by omega)]
      rw [en] at e
      have := h2 (d, c) (List.mem_flatMap.2 ⟨d, mem_ints.2 ⟨d0, d1⟩, List.mem_map.2 ⟨c, mem_ints.2 hc, rfl⟩⟩)
      simp only [e] at this
      rcases this with h | h
      · omega
      · exact h
    have e1 : (b.pass o).1 = o := h1
    rw [e1]
    exact ⟨hj.len, hj.le, hj.con, fun c x h => h.elim (key c x) (fun h => (key x c h).symm)⟩
theorem parts_part (b : Bd) (hb : b.ok) : Part b b.parts := by
  have c1 := hb.c1
  unfold Bd.parts
  refine partsR_part hb _ _ _ (PartsI.zero hb) ⟨by rw [ints_len]; omega, fun c c0 c1 => by rw [nth_ints c0 c1]; omega, fun c c0 c1 => by rw [nth_ints c0 c1]; exact .refl⟩ (fun h => by cases h)

/-! By queues. -/
theorem lkA_mem {l : List (List Int)} {i v y w : Int} (i0 : 0 ≤ i) (i1 : i < l.length) (y0 : 0 ≤ y) : w ∈ nth (lkA l i v) y ↔ w ∈ nth l y ∨ (y = i ∧ w = v) := by
  unfold lkA
  by_cases e : i = y
  · subst e
    rw [nth_set_eq i0 i1]
    simp
  · rw [nth_set_ne i0 y0 e]
    simp [Ne.symm e]
theorem lkR_mem {m c : Int} (c0 : 0 ≤ c) (c1 : c < m) : ∀ {L : List Int} {u : Nat} {l : List (List Int)}, (∀ x, x ∈ L → 0 ≤ x ∧ x < m) → LI m u l → ∀ {y w : Int}, 0 ≤ y → (w ∈ nth (L.foldl (lk1 c) l) y ↔ w ∈ nth l y ∨ (y = c ∧ w ∈ L) ∨ (w = c ∧ y ∈ L))
  | [], u, l, hL, hl, y, w, y0 => by simp
  | x :: L, u, l, hL, hl, y, w, y0 => by
    have hx := hL x (by simp)
    have h1 := hl.add c0 c1 hx.1 hx.2
    rw [List.foldl_cons, lkR_mem c0 c1 (fun z hz => hL z (by simp [hz])) (hl.one c0 c1 hx.1 hx.2) y0]
    unfold lk1
    rw [lkA_mem hx.1 (by rw [h1.len]; exact hx.2) y0, lkA_mem c0 (by rw [hl.len]; exact c1) y0]
    simp only [List.mem_cons]
    constructor
    · rintro (((h | h) | h) | h | h)
      · exact .inl h
      · exact .inr (.inl ⟨h.1, .inl h.2⟩)
      · exact .inr (.inr ⟨h.2, .inl h.1⟩)
      · exact .inr (.inl ⟨h.1, .inr h.2⟩)
      · exact .inr (.inr ⟨h.1, .inr h.2⟩)
    · rintro (h | h | h)
      · exact .inl (.inl (.inl h))
      · rcases h.2 with q | q
        · exact .inl (.inl (.inr ⟨h.1, q⟩))
        · exact .inr (.inl ⟨h.1, q⟩)
      · rcases h.2 with q | q
        · exact .inl (.inr ⟨q, h.1⟩)
        · exact .inr (.inr ⟨h.1, q⟩)
theorem lks_I (b : Bd) (hb : b.ok) : ∀ n : Nat, (n : Int) ≤ b.cells → ∃ u, LI b.cells u ((ints n).foldl b.lkR b.lks0) ∧ ∀ y w : Int, 0 ≤ y → y < b.cells → (w ∈ nth ((ints n).foldl b.lkR b.lks0) y ↔ (y < n ∧ w ∈ b.near y) ∨ (w < n ∧ y ∈ b.near w))
  | 0, _ => ⟨0, LI.zero b hb, fun y w y0 y1 => by
      have : nth b.lks0 y = [] := by
        unfold Bd.lks0
        exact (List.mem_replicate.1 (nth_mem (l := List.replicate b.cells.toNat ([] : List Int)) y0 (by simp; omega))).2
      rw [show ints ((0 : Nat) : Int) = [] from rfl, List.foldl_nil, this]
      simp only [List.not_mem_nil, false_iff]
      rintro (h | h)
      · omega
      · have := near_src h.2; omega⟩
  | n + 1, h => by
    obtain ⟨u, h1, h2⟩ := lks_I b hb n (by omega)
    rw [show ((n + 1 : Nat) : Int) = (n : Int) + 1 by omega, ints_succ (by omega), List.foldl_append, List.foldl_cons, List.foldl_nil]
    have hr : ∀ x, x ∈ b.near n → 0 ≤ x ∧ x < b.cells := fun x hx => near_mem hx
    refine ⟨u + 2 * (b.near n).length, ?_, fun y w y0 y1 => ?_⟩
    · have go : ∀ (L : List Int) (u : Nat) (l : List (List Int)), (∀ x, x ∈ L → 0 ≤ x ∧ x < b.cells) → LI b.cells u l → LI b.cells (u + 2 * L.length) (L.foldl (lk1 n) l) := fun L => by
        induction L with
        | nil => intro u l _ h; exact h
        | cons x L ih =>
          intro u l hL h
          have := ih (u + 2) _ (fun z hz => hL z (by simp [hz])) (h.one (c := n) (by omega) (by omega) (hL x (by simp)).1 (hL x (by simp)).2)
          rw [List.foldl_cons]
          exact this.weak (by simp only [List.length_cons]; omega)
      exact go _ _ _ hr h1
    · rw [show ∀ l c, b.lkR l c = (b.near c).foldl (lk1 c) l from fun _ _ => rfl, lkR_mem (by omega) (by omega) hr h1 y0, h2 y w y0 y1]
      constructor
      · rintro ((h | h) | h | h)
        · exact .inl ⟨by omega, h.2⟩
        · exact .inr ⟨by omega, h.2⟩
        · exact .inl ⟨by omega, by rw [h.1]; exact h.2⟩
        · exact .inr ⟨by omega, by rw [h.1]; exact h.2⟩
      · rintro (h | h)
        · by_cases e : y = n
          · exact .inr (.inl ⟨e, by rw [← e]; exact h.2⟩)
          · exact .inl (.inl ⟨by omega, h.2⟩)
        · by_cases e : w = n
          · exact .inr (.inr ⟨e, by rw [← e]; exact h.2⟩)
          · exact .inl (.inr ⟨by omega, h.2⟩)
theorem lks_mem {b : Bd} (hb : b.ok) {y w : Int} (y0 : 0 ≤ y) (y1 : y < b.cells) : w ∈ nth b.lks y ↔ b.adj y w := by
  have c1 := hb.c1
  obtain ⟨u, h1, h2⟩ := lks_I b hb b.cells.toNat (by omega)
  rw [show ((b.cells.toNat : Nat) : Int) = b.cells by omega] at h1 h2
  have e : (ints b.cells).foldl b.lkR b.lks0 = b.lks := rfl
  rw [e] at h2
  rw [h2 y w y0 y1]
  constructor
  · rintro (h | h)
    · exact .inl h.2
    · exact .inr h.2
  · rintro (h | h)
    · exact .inl ⟨y1, h⟩
    · exact .inr ⟨(near_src h).2, h⟩

/-- The parts below c are known. -/
structure PQ (b : Bd) (c : Int) (o : List Int) : Prop where
  len : (o.length : Int) = b.cells
  lo : ∀ y, 0 ≤ y → y < b.cells → -1 ≤ nth o y
  le : ∀ y, 0 ≤ y → y < b.cells → 0 ≤ nth o y → nth o y ≤ y ∧ Con b.adj (nth o y) y
  cl : ∀ y z, 0 ≤ nth o y → b.adj y z → nth o z = nth o y
  dn : ∀ y, 0 ≤ y → y < c → 0 ≤ nth o y
/-- While the part of c is found. -/
structure PR (b : Bd) (c : Int) (o0 : List Int) (S : Int → Prop) (o : List Int) : Prop where
  len : (o.length : Int) = b.cells
  keep : ∀ y, 0 ≤ y → y < b.cells → 0 ≤ nth o0 y → nth o y = nth o0 y
  new : ∀ y, 0 ≤ y → y < b.cells → nth o0 y < 0 → 0 ≤ nth o y → nth o y = c ∧ Con b.adj c y
  lo : ∀ y, 0 ≤ y → y < b.cells → -1 ≤ nth o y
  up : ∀ y, 0 ≤ y → y < b.cells → nth o0 y < 0 → 0 ≤ nth o y → ¬ S y → ∀ z, b.adj y z → 0 ≤ nth o z
theorem PR.set {b : Bd} {c : Int} {o0 : List Int} {S : Int → Prop} {o : List Int} (h : PR b c o0 S o) (c0 : 0 ≤ c) {x q : Int} (x0 : 0 ≤ x) (x1 : x < b.cells) (hx : nth o x < 0) (hq : Con b.adj c q) (hqx : b.adj q x) : PR b c o0 (fun y => S y ∨ y = x) (o.set x.toNat c) := by
  have hl := h.len
  have self : nth (o.set x.toNat c) x = c := nth_set_eq x0 (by omega)
  have other : ∀ y, 0 ≤ y → y ≠ x → nth (o.set x.toNat c) y = nth o y := fun y y0 hy => nth_set_ne x0 y0 (Ne.symm hy)
  have hx0 : nth o0 x < 0 := by
    rcases Int.lt_or_le (nth o0 x) 0 with h1 | h1
    · exact h1
    · rw [h.keep x x0 x1 h1] at hx; exact hx
  refine ⟨by rw [List.length_set]; exact hl, fun y y0 y1 hy => ?_, fun y y0 y1 hy hy2 => ?_, fun y y0 y1 => ?_, fun y y0 y1 hy hy2 hS z hz => ?_⟩
  · rw [other y y0 (fun e => by subst e; omega)]; exact h.keep y y0 y1 hy
  · by_cases e : y = x
    · subst e; exact ⟨self, hq.step hqx⟩
    · rw [other y y0 e] at hy2 ⊢; exact h.new y y0 y1 hy hy2
  · by_cases e : y = x
    · subst e; rw [self]; omega
    · rw [other y y0 e]; exact h.lo y y0 y1
  · have e : y ≠ x := fun e => hS (.inr e)
    rw [other y y0 e] at hy2
    have := h.up y y0 y1 hy hy2 (fun q => hS (.inl q)) z hz
    rw [other z (b.adj_rg hz).2.1 (fun e => by subst e; omega)]
    exact this
theorem PR.weak {b : Bd} {c : Int} {o0 : List Int} {S S' : Int → Prop} {o : List Int} (h : PR b c o0 S o) (hs : ∀ y, S y → S' y) : PR b c o0 S' o :=
  ⟨h.len, h.keep, h.new, h.lo, fun y y0 y1 h1 h2 h3 => h.up y y0 y1 h1 h2 fun q => h3 (hs y q)⟩
theorem PR.fold {b : Bd} {c : Int} {o0 : List Int} (c0 : 0 ≤ c) {q : Int} (hq : Con b.adj c q) : ∀ {l : List Int} {s : List Int × List Int}, PR b c o0 (fun y => y ∈ s.2) s.1 → (∀ x, x ∈ l → b.adj q x) →
    PR b c o0 (fun y => y ∈ (l.foldl (bfs1 c) s).2) (l.foldl (bfs1 c) s).1 ∧ (∀ x, x ∈ l → 0 ≤ nth (l.foldl (bfs1 c) s).1 x)
  | [], s, h, _ => ⟨h, by simp⟩
  | x :: l, s, h, hl => by
    have hx := (b.adj_rg (hl x (by simp))).2
    have hlen := h.len
    rw [List.foldl_cons]
    have h1 : PR b c o0 (fun y => y ∈ (bfs1 c s x).2) (bfs1 c s x).1 := by
      unfold bfs1
      split
      · rename_i hn
        refine (h.set c0 hx.1 hx.2 hn hq (hl x (by simp))).weak fun y hy => ?_
        simp only [List.mem_append, List.mem_singleton]
        exact hy
      · exact h
    have hsx : 0 ≤ nth (bfs1 c s x).1 x := by
      unfold bfs1
      split
      · simp only; rw [nth_set_eq hx.1 (by omega)]; exact c0
      · omega
    obtain ⟨i1, i2⟩ := PR.fold (l := l) c0 hq h1 (fun y hy => hl y (by simp [hy]))
    refine ⟨i1, fun y hy => ?_⟩
    rcases List.mem_cons.1 hy with rfl | hy
    · rw [fold_keep (l := l) hx.1 (fun z hz => (b.adj_rg (hl z (by simp [hz]))).2.1) hsx]; exact hsx
    · exact i2 y hy
theorem bqR_part {b : Bd} (hb : b.ok) {c : Int} {o0 : List Int} (c0 : 0 ≤ c) : ∀ (k : Nat) (o qs : List Int), QI b.cells k o qs → PR b c o0 (fun y => y ∈ qs) o → (∀ y, y ∈ qs → nth o0 y < 0) → PR b c o0 (fun _ => False) (bqR (nth b.lks) (fun _ _ => c) k o qs)
  | 0, o, qs, hq, h, _ => by
    have := hq.fuel
    obtain rfl := List.length_eq_zero_iff.1 (show qs.length = 0 by omega)
    exact h.weak fun y hy => by simp at hy
  | k + 1, o, [], hq, h, _ => h.weak fun y hy => by simp at hy
  | k + 1, o, q :: r, hq, h, hn => by
    simp only [bqR]
    have hqr := hq.rg q (by simp)
    have hc := (h.new q hqr.1 hqr.2.1 (hn q (by simp)) hqr.2.2).2
    have hL : ∀ x, x ∈ nth b.lks q → b.adj q x := fun x hx => (lks_mem hb hqr.1 hqr.2.1).1 hx
    obtain ⟨i1, i2⟩ := PR.fold (l := nth b.lks q) (s := (o, q :: r)) c0 hc h hL
    have hQ := QI.fold (s := (o, q :: r)) (n := c) (k := k + 1) c0 (fun x hx => (b.adj_rg (hL x hx)).2) hq
    have hm : ∀ y, y ∈ ((nth b.lks q).foldl (bfs1 c) (o, q :: r)).2 → nth o0 y < 0 := by
      have go : ∀ (l : List Int) (s : List Int × List Int), (∀ x, x ∈ l → b.adj q x) → (∀ y, 0 ≤ y → y < b.cells → nth s.1 y < 0 → nth o0 y < 0) → (∀ y, y ∈ s.2 → nth o0 y < 0) → ∀ y, y ∈ (l.foldl (bfs1 c) s).2 → nth o0 y < 0 := fun l => by
        induction l with
        | nil => intro s _ _ h; exact h
        | cons x l ih =>
          intro s hl h1 h2
          have hx := (b.adj_rg (hl x (by simp))).2
          rw [List.foldl_cons]
          refine ih _ (fun z hz => hl z (by simp [hz])) (fun y y0 y1 hy => ?_) (fun y hy => ?_)
          · refine h1 y y0 y1 ?_
            rcases Int.lt_or_le (nth s.1 y) 0 with h3 | h3
            · exact h3
            · rw [bfs1_keep hx.1 y0 h3] at hy; omega
          · unfold bfs1 at hy
            split at hy
            · rename_i h3
              rcases List.mem_append.1 hy with hy | hy
              · exact h2 y hy
              · simp at hy; subst hy; exact h1 y hx.1 hx.2 h3
            · exact h2 y hy
      refine go _ _ hL (fun y y0 y1 hy => ?_) hn
      rcases Int.lt_or_le (nth o0 y) 0 with h3 | h3
      · exact h3
      · simp only at hy; rw [h.keep y y0 y1 h3] at hy; omega
    obtain ⟨t, ht⟩ := fold_head (n := c) (nth b.lks q) o q r
    rw [ht] at hm hQ i1 ⊢
    obtain ⟨k', hk, hq'⟩ := hQ.pop
    obtain rfl : k = k' := by omega
    refine bqR_part hb c0 k _ _ hq' ⟨i1.len, i1.keep, i1.new, i1.lo, fun y y0 y1 h1 h2 h3 z hz => ?_⟩ fun y hy => hm y (by simp at hy; simp [hy])
    by_cases e : y = q
    · subst e
      exact i2 z ((lks_mem hb y0 y1).2 hz)
    · exact i1.up y y0 y1 h1 h2 (fun q => (List.mem_cons.1 q).elim e h3) z hz
theorem pq1_I {b : Bd} (hb : b.ok) {c : Int} {o : List Int} (h : PQ b c o) (c0 : 0 ≤ c) (c1 : c < b.cells) : PQ b (c + 1) (pq1 (nth b.lks) o c) := by
  have hl := h.len
  unfold pq1
  split
  · rename_i hc
    exact ⟨h.len, h.lo, h.le, h.cl, fun y y0 y1 => by
      by_cases e : y = c
      · subst e; exact hc
      · exact h.dn y y0 (by omega)⟩
  · rename_i hc
    have self : nth (o.set c.toNat c) c = c := nth_set_eq c0 (by omega)
    have other : ∀ y, 0 ≤ y → y ≠ c → nth (o.set c.toNat c) y = nth o y := fun y y0 hy => nth_set_ne c0 y0 (Ne.symm hy)
    have h1 : PR b c o (fun y => y ∈ [c]) (o.set c.toNat c) := by
      refine ⟨by rw [List.length_set]; exact hl, fun y y0 y1 hy => other y y0 (fun e => by subst e; omega), fun y y0 y1 hy hy2 => ?_, fun y y0 y1 => ?_, fun y y0 y1 hy hy2 hS => ?_⟩
      · by_cases e : y = c
        · subst e; exact ⟨self, .refl⟩
        · rw [other y y0 e] at hy2; omega
      · by_cases e : y = c
        · subst e; rw [self]; omega
        · rw [other y y0 e]; exact h.lo y y0 y1
      · have e : y ≠ c := fun e => hS (by simp [e])
        rw [other y y0 e] at hy2; omega
    have h2 := bqR_part hb c0 66 _ _ (QI.one hb.c64 hl c0 c1) h1 (fun y hy => by simp at hy; subst hy; omega)
    have hcc : 0 ≤ nth (bqR (nth b.lks) (fun _ _ => c) 66 (o.set c.toNat c) [c]) c := by
      have go : ∀ (k : Nat) (o qs : List Int) (y : Int), QI b.cells k o qs → 0 ≤ y → 0 ≤ nth o y → 0 ≤ nth (bqR (nth b.lks) (fun _ _ => c) k o qs) y := fun k => by
        induction k with
        | zero => intro o qs y _ _ h; exact h
        | succ k ih =>
          intro o qs y hq y0 hy
          cases qs with
          | nil => exact hy
          | cons q r =>
            simp only [bqR]
            have hqr := hq.rg q (by simp)
            have hL : ∀ x, x ∈ nth b.lks q → 0 ≤ x ∧ x < b.cells := fun x hx => (b.adj_rg ((lks_mem hb hqr.1 hqr.2.1).1 hx)).2
            have hQ := QI.fold (s := (o, q :: r)) (n := c) (k := k + 1) c0 hL hq
            have hkp := fold_keep (n := c) (s := (o, q :: r)) y0 (fun x hx => (hL x hx).1) hy
            obtain ⟨t, ht⟩ := fold_head (n := c) (nth b.lks q) o q r
            rw [ht] at hQ ⊢
            obtain ⟨k', hk, hq'⟩ := hQ.pop
            obtain rfl : k = k' := by omega
            exact ih _ _ y hq' y0 (by rw [hkp]; exact hy)
      exact go _ _ _ _ (QI.one hb.c64 hl c0 c1) c0 (by rw [self]; exact c0)
    generalize bqR (nth b.lks) (fun _ _ => c) 66 (o.set c.toNat c) [c] = o' at *
    have clo : ∀ y z, b.adj y z → nth o y < 0 → nth o z < 0 := fun y z hyz hy => by
      rcases Int.lt_or_le (nth o z) 0 with h3 | h3
      · exact h3
      · have := h.cl z y h3 (b.adj_symm hyz); omega
    refine ⟨h2.len, h2.lo, fun y y0 y1 hy => ?_, fun y z hy hyz => ?_, fun y y0 y1 => ?_⟩
    · rcases Int.lt_or_le (nth o y) 0 with h3 | h3
      · have h4 := h2.new y y0 y1 h3 hy
        rw [h4.1]
        refine ⟨?_, h4.2⟩
        rcases Int.lt_or_le y c with h5 | h5
        · have := h.dn y y0 h5; omega
        · exact h5
      · rw [h2.keep y y0 y1 h3]; exact h.le y y0 y1 h3
    · have hr := b.adj_rg hyz
      rcases Int.lt_or_le (nth o y) 0 with h3 | h3
      · have h4 := h2.new y hr.1.1 hr.1.2 h3 hy
        have h5 := h2.up y hr.1.1 hr.1.2 h3 hy (fun q => q) z hyz
        rw [h4.1, (h2.new z hr.2.1 hr.2.2 (clo y z hyz h3) h5).1]
      · have h4 := h.cl y z h3 hyz
        rw [h2.keep y hr.1.1 hr.1.2 h3, h2.keep z hr.2.1 hr.2.2 (by omega), h4]
    · by_cases e : y = c
      · subst e; exact hcc
      · have := h.dn y y0 (by omega)
        rw [h2.keep y y0 (by omega) this]; exact this
theorem partsQ_part (b : Bd) (hb : b.ok) : Part b b.partsQ := by
  have c1 := hb.c1
  have go : ∀ n : Nat, (n : Int) ≤ b.cells → PQ b n ((ints n).foldl (pq1 (nth b.lks)) (List.replicate b.cells.toNat (-1))) := fun n => by
    induction n with
    | zero =>
      intro _
      have hr : ∀ y, 0 ≤ y → y < b.cells → nth (List.replicate b.cells.toNat (-1 : Int)) y = -1 := fun y y0 y1 => (List.mem_replicate.1 (nth_mem (l := List.replicate b.cells.toNat (-1 : Int)) y0 (by simp; omega))).2
      show PQ b 0 (List.replicate b.cells.toNat (-1))
      refine ⟨by simp; omega, fun y y0 y1 => by rw [hr y y0 y1]; omega, fun y y0 y1 h => by rw [hr y y0 y1] at h; omega, fun y z h hyz => ?_, fun y y0 y1 => by omega⟩
      have := b.adj_rg hyz
      rw [hr y this.1.1 this.1.2] at h; omega
    | succ n ih =>
      intro h
      have h1 := pq1_I hb (ih (by omega)) (by omega) (by omega)
      rw [show ((n + 1 : Nat) : Int) = (n : Int) + 1 by omega, ints_succ (by omega), List.foldl_append, List.foldl_cons, List.foldl_nil]
      exact h1
  have h := go b.cells.toNat (by omega)
  rw [show ((b.cells.toNat : Nat) : Int) = b.cells by omega] at h
  have e : (ints b.cells).foldl (pq1 (nth b.lks)) (List.replicate b.cells.toNat (-1)) = b.partsQ := rfl
  rw [e] at h
  exact ⟨h.len, fun c c0 c1 => ⟨h.dn c c0 c1, (h.le c c0 c1 (h.dn c c0 c1)).1⟩, fun c c0 c1 => (h.le c c0 c1 (h.dn c c0 c1)).2, fun c x hx => h.cl c x (h.dn c (b.adj_rg hx).1.1 (b.adj_rg hx).1.2) hx⟩
theorem partsQ_eq (b : Bd) (hb : b.ok) : b.partsQ = b.parts := (partsQ_part b hb).unique (parts_part b hb)
end Go.Proofs.Ytkecpgidolphfaa
