/- Contracts of functions of the program, proved by the checker. -/
import Derived.Test.YtkecpgidolphfaaBu
namespace Go.Proofs.Ytkecpgidolphfaa
set_option linter.unusedVariables false
set_option linter.unusedSimpArgs false
open Go Go.Sk

/-! Distances: what determines them; both searches find them. -/
structure Dist (near : Int → List Int) (m a : Int) (f : List Int) : Prop where
  len : (f.length : Int) = m
  zero : nth f a = 0
  lo : ∀ c, 0 ≤ c → c < m → -1 ≤ nth f c
  up : ∀ k, 0 ≤ k → k < m → 0 ≤ nth f k → ∀ c, c ∈ near k → 0 ≤ nth f c ∧ nth f c ≤ nth f k + 1
  dn : ∀ c, 0 ≤ c → c < m → c ≠ a → 0 ≤ nth f c → ∃ k, 0 ≤ k ∧ k < m ∧ 0 ≤ nth f k ∧ nth f c = nth f k + 1 ∧ c ∈ near k
theorem Dist.least {near : Int → List Int} {m a : Int} {f g : List Int} (hf : Dist near m a f) (hg : Dist near m a g) : ∀ (n : Nat) (c : Int), 0 ≤ c → c < m → nth f c = n → 0 ≤ nth g c ∧ nth g c ≤ n
  | n, c, h0, h1, h => by
    by_cases e : c = a
    · subst e; rw [hg.zero]; omega
    · obtain ⟨k, k0, k1, k2, k3, k4⟩ := hf.dn c h0 h1 e (by omega)
      obtain ⟨n', rfl⟩ : ∃ n', n = n' + 1 := ⟨n - 1, by omega⟩
      have ih := Dist.least hf hg n' k k0 k1 (by omega)
      have := hg.up k k0 k1 ih.1 c k4
      omega
theorem Dist.unique {near : Int → List Int} {m a : Int} {f g : List Int} (hf : Dist near m a f) (hg : Dist near m a g) : f = g := by
  refine ext_nth (by have := hf.len; have := hg.len; omega) fun c h0 h1 => ?_
  have h1' : c < m := by have := hf.len; omega
  have l1 := hf.lo c h0 h1'
  have l2 := hg.lo c h0 h1'
  by_cases q : 0 ≤ nth f c
  · have h2 := hf.least hg (nth f c).toNat c h0 h1' (by omega)
    have h3 := hg.least hf (nth g c).toNat c h0 h1' (by omega)
    omega
  · by_cases q2 : 0 ≤ nth g c
    · have h3 := hg.least hf (nth g c).toNat c h0 h1' (by omega)
      omega
    · omega

/-- What holds while distances are found; S: what has still to be looked at. -/
structure BI (near : Int → List Int) (m a n : Int) (S : Int → Prop) (o : List Int) : Prop where
  len : (o.length : Int) = m
  zero : nth o a = 0
  lo : ∀ c, 0 ≤ c → c < m → -1 ≤ nth o c
  top : ∀ c, 0 ≤ c → c < m → nth o c ≤ n
  dn : ∀ c, 0 ≤ c → c < m → c ≠ a → 0 ≤ nth o c → ∃ k, 0 ≤ k ∧ k < m ∧ 0 ≤ nth o k ∧ nth o c = nth o k + 1 ∧ c ∈ near k
  up : ∀ k, 0 ≤ k → k < m → 0 ≤ nth o k → ¬ S k → ∀ c, c ∈ near k → 0 ≤ nth o c ∧ nth o c ≤ nth o k + 1
theorem BI.dist {near : Int → List Int} {m a n : Int} {S : Int → Prop} {o : List Int} (h : BI near m a n S o) (hS : ∀ k, ¬ S k) : Dist near m a o :=
  ⟨h.len, h.zero, h.lo, fun k k0 k1 k2 => h.up k k0 k1 k2 (hS k), h.dn⟩
section
variable {near : Int → List Int} {m a n : Int}
theorem BI.set (hr : ∀ k c, c ∈ near k → 0 ≤ c ∧ c < m) {S : Int → Prop} {o : List Int} (h : BI near m a n S o) (hn : 1 ≤ n) (a0 : 0 ≤ a) {x k : Int} (x0 : 0 ≤ x) (x1 : x < m) (hx : nth o x < 0) (k0 : 0 ≤ k) (k1 : k < m) (hk : nth o k = n - 1) (hxk : x ∈ near k) :
    BI near m a n (fun y => S y ∨ y = x) (o.set x.toNat n) := by
  have hl := h.len
  have keep : ∀ y, 0 ≤ y → 0 ≤ nth o y → nth (o.set x.toNat n) y = nth o y := fun y y0 hy => nth_set_ne x0 y0 (fun e => by subst e; omega)
  have other : ∀ y, 0 ≤ y → y ≠ x → nth (o.set x.toNat n) y = nth o y := fun y y0 hy => nth_set_ne x0 y0 (Ne.symm hy)
  have self : nth (o.set x.toNat n) x = n := nth_set_eq x0 (by omega)
  refine ⟨by rw [List.length_set]; exact hl, by rw [keep a a0 (by rw [h.zero]; exact Int.le_refl _)]; exact h.zero, fun c c0 c1 => ?_, fun c c0 c1 => ?_, fun c c0 c1 ca hc => ?_, fun y y0 y1 hy hS c hc => ?_⟩
  · by_cases e : c = x
    · subst e; rw [self]; omega
    · rw [other c c0 e]; exact h.lo c c0 c1
  · by_cases e : c = x
    · subst e; rw [self]; omega
    · rw [other c c0 e]; exact h.top c c0 c1
  · by_cases e : c = x
    · subst e
      refine ⟨k, k0, k1, ?_, ?_, hxk⟩
      · rw [keep k k0 (by omega)]; omega
      · rw [self, keep k k0 (by omega)]; omega
    · rw [other c c0 e] at hc ⊢
      obtain ⟨k', q0, q1, q2, q3, q4⟩ := h.dn c c0 c1 ca hc
      exact ⟨k', q0, q1, by rw [keep k' q0 q2]; exact q2, by rw [keep k' q0 q2]; exact q3, q4⟩
  · have e : y ≠ x := fun e => hS (.inr e)
    rw [other y y0 e] at hy ⊢
    have := h.up y y0 y1 hy (fun q => hS (.inl q)) c hc
    rw [keep c (hr y c hc).1 this.1]
    exact this
theorem BI.weak {S S' : Int → Prop} {o : List Int} (h : BI near m a n S o) (hs : ∀ k, S k → S' k) : BI near m a n S' o :=
  ⟨h.len, h.zero, h.lo, h.top, h.dn, fun k k0 k1 k2 k3 => h.up k k0 k1 k2 (fun q => k3 (hs k q))⟩
theorem BI.fold (hr : ∀ k c, c ∈ near k → 0 ≤ c ∧ c < m) (hn : 1 ≤ n) (a0 : 0 ≤ a) {S : Int → Prop} : ∀ {l : List Int} {s : List Int × List Int}, BI near m a n (fun k => S k ∨ k ∈ s.2) s.1 →
    (∀ x, x ∈ l → 0 ≤ x ∧ x < m ∧ ∃ k, 0 ≤ k ∧ k < m ∧ nth s.1 k = n - 1 ∧ x ∈ near k) →
    BI near m a n (fun k => S k ∨ k ∈ (l.foldl (bfs1 n) s).2) (l.foldl (bfs1 n) s).1 ∧ (∀ x, x ∈ l → 0 ≤ nth (l.foldl (bfs1 n) s).1 x) ∧ (∀ y, 0 ≤ y → 0 ≤ nth s.1 y → nth (l.foldl (bfs1 n) s).1 y = nth s.1 y) ∧
      ∃ t, (l.foldl (bfs1 n) s).2 = s.2 ++ t ∧ ∀ x, x ∈ t → 0 ≤ x ∧ x < m ∧ nth (l.foldl (bfs1 n) s).1 x = n
  | [], s, h, _ => ⟨h, by simp, fun _ _ _ => rfl, [], by simp, by simp⟩
  | x :: l, s, h, hl => by
    have hl' := h.len
    obtain ⟨x0, x1, k, k0, k1, hk, hxk⟩ := hl x (by simp)
    rw [List.foldl_cons]
    have keep1 : ∀ y, 0 ≤ y → 0 ≤ nth s.1 y → nth (bfs1 n s x).1 y = nth s.1 y := fun y y0 hy => bfs1_keep x0 y0 hy
    have hsx : 0 ≤ nth (bfs1 n s x).1 x := by
      unfold bfs1
      split
      · simp only; rw [nth_set_eq x0 (by omega)]; omega
      · omega
    have h1 : BI near m a n (fun k => S k ∨ k ∈ (bfs1 n s x).2) (bfs1 n s x).1 := by
      unfold bfs1
      split
      · rename_i hx
        refine (h.set hr hn a0 x0 x1 hx k0 k1 hk hxk).weak fun y hy => ?_
        simp only [List.mem_append, List.mem_singleton]
        rcases hy with (hy | hy) | hy
        · exact .inl hy
        · exact .inr (.inl hy)
        · exact .inr (.inr hy)
      · exact h
    have hl1 : ∀ y, y ∈ l → 0 ≤ y ∧ y < m ∧ ∃ k, 0 ≤ k ∧ k < m ∧ nth (bfs1 n s x).1 k = n - 1 ∧ y ∈ near k := fun y hy => by
      obtain ⟨y0, y1, k, k0, k1, hk, hyk⟩ := hl y (by simp [hy])
      exact ⟨y0, y1, k, k0, k1, by rw [keep1 k k0 (by omega)]; exact hk, hyk⟩
    obtain ⟨i1, i2, i3, t, i4, i5⟩ := BI.fold hr hn a0 h1 hl1
    refine ⟨i1, fun y hy => ?_, fun y y0 hy => ?_, ?_⟩
    · rcases List.mem_cons.1 hy with rfl | hy
      · rw [i3 y x0 hsx]; exact hsx
      · exact i2 y hy
    · have := keep1 y y0 hy
      rw [i3 y y0 (by omega), this]
    · by_cases hx : nth s.1 x < 0
      · have e2 : (bfs1 n s x).2 = s.2 ++ [x] := by unfold bfs1; rw [if_pos hx]
        have e1 : nth (bfs1 n s x).1 x = n := by unfold bfs1; rw [if_pos hx]; exact nth_set_eq x0 (by omega)
        refine ⟨x :: t, by rw [i4, e2]; simp, fun y hy => ?_⟩
        rcases List.mem_cons.1 hy with rfl | hy
        · exact ⟨x0, x1, by rw [i3 y x0 hsx, e1]⟩
        · exact i5 y hy
      · have e2 : (bfs1 n s x).2 = s.2 := by unfold bfs1; rw [if_neg hx]
        exact ⟨t, by rw [i4, e2], i5⟩
end
theorem from0_nth {b : Bd} {a c : Int} (a0 : 0 ≤ a) (a1 : a < b.cells) (c0 : 0 ≤ c) (c1 : c < b.cells) : nth (b.from0 a) c = if c = a then 0 else -1 := by
  unfold Bd.from0
  split
  · rename_i e
    subst e
    exact nth_set_eq c0 (by simp; omega)
  · rename_i e
    rw [nth_set_ne a0 c0 (fun h => e h.symm)]
    exact (List.mem_replicate.1 (nth_mem (l := List.replicate b.cells.toNat (-1 : Int)) c0 (by simp; omega))).2
theorem BI.zero' (b : Bd) (hb : b.ok) {a : Int} (a0 : 0 ≤ a) (a1 : a < b.cells) (n : Int) (hn : 0 ≤ n) : BI b.near b.cells a n (fun k => k = a) (b.from0 a) := by
  refine ⟨by unfold Bd.from0; simp; omega, ?_, fun c c0 c1 => ?_, fun c c0 c1 => ?_, fun c c0 c1 ca hc => ?_, fun k k0 k1 k2 k3 => ?_⟩
  · rw [from0_nth a0 a1 a0 a1, if_pos rfl]
  · rw [from0_nth a0 a1 c0 c1]; split <;> omega
  · rw [from0_nth a0 a1 c0 c1]; split <;> omega
  · rw [from0_nth a0 a1 c0 c1, if_neg ca] at hc; omega
  · rw [from0_nth a0 a1 k0 k1, if_neg k3] at k2; omega
theorem near_rg {b : Bd} : ∀ k c, c ∈ b.near k → 0 ≤ c ∧ c < b.cells := fun _ _ h => near_mem h

theorem bqR_dist {b : Bd} {a : Int} (a0 : 0 ≤ a) : ∀ (k : Nat) (out queue : List Int), QI b.cells k out queue →
    (∀ q r, queue = q :: r → BI b.near b.cells a (nth out q + 1) (fun k => k ∈ queue) out) → (queue = [] → Dist b.near b.cells a out) → queue.Pairwise (fun x y => nth out x ≤ nth out y) →
    Dist b.near b.cells a (bqR b.near (fun out q => nth out q + 1) k out queue)
  | 0, out, queue, hq, h1, h2, h3 => by
    have := hq.fuel
    exact h2 (List.length_eq_zero_iff.1 (by omega))
  | k + 1, out, [], hq, h1, h2, h3 => h2 rfl
  | k + 1, out, q :: r, hq, h1, h2, h3 => by
    simp only [bqR]
    have hqr := hq.rg q (by simp)
    have hI := h1 q r rfl
    have hrq : ∀ x, x ∈ r → nth out q ≤ nth out x := (List.pairwise_cons.1 h3).1
    have hf := BI.fold (near := b.near) (S := fun _ => False) (l := b.near q) (s := (out, q :: r)) near_rg (by omega) a0 (hI.weak fun k hk => .inr hk) fun x hx => ⟨(near_mem hx).1, (near_mem hx).2, q, hqr.1, hqr.2.1, by simp only; omega, hx⟩
    obtain ⟨i1, i2, i3, t, i4, i5⟩ := hf
    have hQ := QI.fold (s := (out, q :: r)) (n := nth out q + 1) (k := k + 1) (by omega) (fun x hx => near_mem (b := b) (c := q) hx) hq
    generalize (b.near q).foldl (bfs1 (nth out q + 1)) (out, q :: r) = s at *
    obtain ⟨o, qs⟩ := s
    simp only at *
    subst i4
    simp only [List.cons_append, List.tail_cons] at *
    obtain ⟨k', hk, hq'⟩ := hQ.pop
    obtain rfl : k' = k := by omega
    have hoq : nth o q = nth out q := i3 q hqr.1 hqr.2.2
    have hor : ∀ x, x ∈ r → nth o x = nth out x := fun x hx => i3 x (hq.rg x (by simp [hx])).1 (hq.rg x (by simp [hx])).2.2
    have htop := i1.top
    have hup : ∀ k, 0 ≤ k → k < b.cells → 0 ≤ nth o k → k ∉ r ++ t → ∀ c, c ∈ b.near k → 0 ≤ nth o c ∧ nth o c ≤ nth o k + 1 := fun y y0 y1 hy hn c hc => by
      by_cases e : y = q
      · subst e
        exact ⟨i2 c hc, by rw [hoq]; exact htop c (near_mem hc).1 (near_mem hc).2⟩
      · exact i1.up y y0 y1 hy (fun h => h.elim id fun h => (List.mem_cons.1 h).elim e hn) c hc
    have hsort : (r ++ t).Pairwise (fun x y => nth o x ≤ nth o y) := by
      rw [List.pairwise_append]
      refine ⟨?_, ?_, fun x hx y hy => ?_⟩
      · refine List.Pairwise.imp_of_mem ?_ (List.pairwise_cons.1 h3).2
        intro x y hx hy h
        rw [hor x hx, hor y hy]; exact h
      · refine List.pairwise_iff_getElem.2 fun i j hi hj _ => ?_
        rw [(i5 _ (List.getElem_mem hi)).2.2, (i5 _ (List.getElem_mem hj)).2.2]; exact Int.le_refl _
      · rw [(i5 y hy).2.2, hor x hx]
        exact hI.top x (hq.rg x (by simp [hx])).1 (hq.rg x (by simp [hx])).2.1
    refine bqR_dist a0 k' o (r ++ t) hq' (fun q' r' e => ?_) (fun e => ?_) hsort
    · have hge : nth out q + 1 ≤ nth o q' + 1 := by
        have hm : q' ∈ r ++ t := by rw [e]; simp
        rcases List.mem_append.1 hm with hm | hm
        · rw [hor q' hm]; have := hrq q' hm; omega
        · rw [(i5 q' hm).2.2]; omega
      exact ⟨i1.len, i1.zero, i1.lo, fun c c0 c1 => Int.le_trans (htop c c0 c1) hge, i1.dn, hup⟩
    · rw [e] at hup
      exact ⟨i1.len, i1.zero, i1.lo, fun k k0 k1 k2 => hup k k0 k1 k2 (by simp), i1.dn⟩
theorem farQ_dist (b : Bd) (hb : b.ok) {a : Int} (a0 : 0 ≤ a) (a1 : a < b.cells) : Dist b.near b.cells a (b.farQ a) := by
  unfold Bd.farQ
  refine bqR_dist a0 66 _ _ (QI.zero hb a0 a1) (fun q r e => ?_) (fun e => by cases e) (by simp)
  injection e with e1 e2
  subst e1
  rw [from0_nth a0 a1 a0 a1, if_pos rfl]
  exact (BI.zero' b hb a0 a1 _ (by omega)).weak fun k hk => by subst hk; simp
theorem fromR_dist {b : Bd} (hb : b.ok) {a : Int} (a0 : 0 ≤ a) (a1 : a < b.cells) : ∀ (k : Nat) (n : Int) (out last : List Int), FromI b a ⟨k, n, out, last⟩ →
    BI b.near b.cells a (n - 1) (fun k => k ∈ last) out → (∀ x, x ∈ last → nth out x = n - 1) → Dist b.near b.cells a (b.fromR k n out last)
  | 0, n, out, last, hI, h, hl => by
    have : last = [] := by
      refine Classical.byContradiction fun hne => ?_
      have := hI.ng hne
      simp only at this
      omega
    subst this
    exact h.dist (by simp)
  | k + 1, n, out, last, hI, h, hl => by
    simp only [Bd.fromR]
    split
    · rename_i e
      subst e
      exact h.dist (by simp)
    · rename_i hne
      obtain ⟨k', hk, hI'⟩ := hI.next hb hne
      simp only at hk hI'
      obtain rfl : k = k' := by omega
      have n1 := hI.n1
      simp only at n1
      have h' : BI b.near b.cells a n (fun k => k ∈ last ∨ k ∈ (([] : List Int))) out := ⟨h.len, h.zero, h.lo, fun c c0 c1 => by have := h.top c c0 c1; omega, h.dn, fun k k0 k1 k2 k3 => h.up k k0 k1 k2 (fun q => k3 (.inl q))⟩
      obtain ⟨i1, i2, i3, t, i4, i5⟩ := BI.fold (near := b.near) (S := fun k => k ∈ last) (l := last.flatMap b.near) (s := (out, [])) near_rg n1 a0 h' fun x hx => by
        obtain ⟨q, hq, hxq⟩ := List.mem_flatMap.1 hx
        have hr := hI.rg q hq
        exact ⟨(near_mem hxq).1, (near_mem hxq).2, q, hr.1, hr.2, hl q hq, hxq⟩
      rw [List.nil_append] at i4
      refine fromR_dist hb a0 a1 k (n + 1) _ _ hI' ?_ ?_
      · unfold Bd.round
        rw [show n + 1 - 1 = n by omega]
        refine ⟨i1.len, i1.zero, i1.lo, i1.top, i1.dn, fun y y0 y1 hy hn c hc => ?_⟩
        by_cases e : y ∈ last
        · have hy1 := hl y e
          have hy2 := i3 y y0 (by simp only; omega)
          rw [hy2]
          refine ⟨i2 c (List.mem_flatMap.2 ⟨y, e, hc⟩), ?_⟩
          have := i1.top c (near_mem hc).1 (near_mem hc).2
          simp only; omega
        · exact i1.up y y0 y1 hy (fun q => q.elim e hn) c hc
      · intro x hx
        unfold Bd.round at hx ⊢
        rw [i4] at hx
        have := (i5 x hx).2.2
        omega
theorem dists_dist (b : Bd) (hb : b.ok) {a : Int} (a0 : 0 ≤ a) (a1 : a < b.cells) : Dist b.near b.cells a (b.dists a) := by
  unfold Bd.dists
  refine fromR_dist hb a0 a1 66 1 _ _ (FromI.zero hb a0 a1) ((BI.zero' b hb a0 a1 _ (by omega)).weak fun k hk => by subst hk; simp) (fun x hx => ?_)
  simp at hx
  subst hx
  rw [from0_nth a0 a1 a0 a1, if_pos rfl]; rfl
theorem farQ_eq (b : Bd) (hb : b.ok) {a : Int} (a0 : 0 ≤ a) (a1 : a < b.cells) : b.farQ a = b.dists a := (farQ_dist b hb a0 a1).unique (dists_dist b hb a0 a1)
end Go.Proofs.Ytkecpgidolphfaa
