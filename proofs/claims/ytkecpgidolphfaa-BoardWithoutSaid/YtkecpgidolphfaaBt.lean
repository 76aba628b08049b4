/- Contracts of functions of the program, proved by the checker. -/
import Derived.Test.YtkecpgidolphfaaBr
import Derived.Test.YtkecpgidolphfaaBn
import Derived.Test.YtkecpgidolphfaaBq
namespace Go.Proofs.Ytkecpgidolphfaa
set_option linter.unusedVariables false
set_option linter.unusedSimpArgs false
open Go Go.Sk

/-! A queue of cells: those that are linked with the first one, and have no number yet, get one. -/
def bqR (lk : Int → List Int) (v : List Int → Int → Int) : Nat → List Int → List Int → List Int
  | 0, out, _ => out
  | k + 1, out, queue => match queue with
    | [] => out
    | q :: r => bqR lk v k ((lk q).foldl (bfs1 (v out q)) (out, q :: r)).1 ((lk q).foldl (bfs1 (v out q)) (out, q :: r)).2.tail
def Bd.farQ (b : Bd) (a : Int) : List Int := bqR b.near (fun out q => nth out q + 1) 66 (b.from0 a) [a]

structure QI (m : Int) (k : Nat) (out queue : List Int) : Prop where
  len : (out.length : Int) = m
  rg : ∀ x, x ∈ queue → 0 ≤ x ∧ x < m ∧ 0 ≤ nth out x
  fuel : neg out + queue.length ≤ k
theorem bfs1_app (n : Int) : ∀ (l : List Int) (s : List Int × List Int) (p : List Int), l.foldl (bfs1 n) (s.1, p ++ s.2) = ((l.foldl (bfs1 n) s).1, p ++ (l.foldl (bfs1 n) s).2)
  | [], _, _ => rfl
  | x :: l, s, p => by
    have : bfs1 n (s.1, p ++ s.2) x = ((bfs1 n s x).1, p ++ (bfs1 n s x).2) := by
      unfold bfs1
      simp only
      split <;> simp [List.append_assoc]
    rw [List.foldl_cons, List.foldl_cons, this]
    exact bfs1_app n l _ p
theorem bfs1_keep {n : Int} {s : List Int × List Int} {x y : Int} (hx : 0 ≤ x) (hy : 0 ≤ y) (h : 0 ≤ nth s.1 y) : nth (bfs1 n s x).1 y = nth s.1 y := by
  unfold bfs1
  split
  · rename_i hn
    exact nth_set_ne hx hy (fun e => by subst e; omega)
  · rfl
theorem fold_keep {n : Int} {y : Int} (hy : 0 ≤ y) : ∀ {l : List Int} {s : List Int × List Int}, (∀ x, x ∈ l → 0 ≤ x) → 0 ≤ nth s.1 y → nth (l.foldl (bfs1 n) s).1 y = nth s.1 y
  | [], _, _, _ => rfl
  | x :: l, s, hl, h => by
    have h1 := bfs1_keep (n := n) (hl x (by simp)) hy h
    rw [List.foldl_cons, fold_keep hy (fun z hz => hl z (by simp [hz])) (by rw [h1]; exact h), h1]
theorem QI.step {m n : Int} {k : Nat} {s : List Int × List Int} (h : QI m k s.1 s.2) (hn : 0 ≤ n) {x : Int} (h0 : 0 ≤ x) (h1 : x < m) : QI m k (bfs1 n s x).1 (bfs1 n s x).2 := by
  have hkeep := fun y hy hh => bfs1_keep (n := n) (s := s) (y := y) h0 hy hh
  unfold bfs1 at hkeep ⊢
  have hl := h.len
  split
  · rename_i hx
    rw [if_pos hx] at hkeep
    refine ⟨by simp [h.len], fun y hy => ?_, ?_⟩
    · rcases List.mem_append.1 hy with hy | hy
      · have := h.rg y hy
        exact ⟨this.1, this.2.1, by rw [hkeep y this.1 this.2.2]; exact this.2.2⟩
      · simp at hy; subst hy; exact ⟨h0, h1, by simp only; rw [nth_set_eq h0 (by omega)]; exact hn⟩
    · have := neg_set h0 (by rw [h.len]; exact h1) hx hn
      have := h.fuel
      simp only [List.length_append, List.length_cons, List.length_nil]
      omega
  · exact h
theorem QI.fold {m n : Int} {k : Nat} (hn : 0 ≤ n) : ∀ {l : List Int} {s : List Int × List Int}, (∀ x, x ∈ l → 0 ≤ x ∧ x < m) → QI m k s.1 s.2 → QI m k (l.foldl (bfs1 n) s).1 (l.foldl (bfs1 n) s).2
  | [], _, _, h => h
  | x :: l, s, hl, h => QI.fold (s := bfs1 n s x) hn (fun y hy => hl y (by simp [hy])) (h.step hn (hl x (by simp)).1 (hl x (by simp)).2)
theorem fold_head {n : Int} (l : List Int) (out : List Int) (q : Int) (r : List Int) : ∃ t, (l.foldl (bfs1 n) (out, q :: r)).2 = q :: t := by
  have := bfs1_app n l (out, []) (q :: r)
  simp only [List.append_nil] at this
  rw [this]
  exact ⟨_, rfl⟩
theorem QI.pop {m : Int} {k : Nat} {out queue : List Int} {q : Int} (h : QI m k out (q :: queue)) : ∃ k', k = k' + 1 ∧ QI m k' out queue := by
  have := h.fuel
  rw [List.length_cons] at this
  exact ⟨k - 1, by omega, h.len, fun x hx => h.rg x (by simp [hx]), by omega⟩
theorem setS {l : List (List Int)} {n : Nat} {a x : List Int} {K : List AV → Prop} (k : K ((l.set n x).map Is)) : CalcL ((l.map Is).set n (newElem (Is a) 0 (cellsA (Is x)) (Is x))) K :=
  .mk _ (by rw [List.map_set]; rfl) k
/-- Rows of which the first c are filled. -/
def rl (f : Int → List Int) (n c : Int) : List (List Int) := (ints c).map f ++ List.replicate (n - c).toNat []
theorem rl_len {f : Int → List Int} {n c : Int} (h0 : 0 ≤ c) (h1 : c ≤ n) : (rl f n c).length = n.toNat := by unfold rl; rw [List.length_append, List.length_map, ints_len, List.length_replicate]; omega
theorem rl_zero (f : Int → List Int) (n : Int) : rl f n 0 = List.replicate n.toNat [] := by unfold rl; simp [ints_zero]
theorem rl_succ {f : Int → List Int} {n c : Int} (h0 : 0 ≤ c) (h1 : c < n) : (rl f n c).set c.toNat (f c) = rl f n (c + 1) := by
  unfold rl
  have hl : ((ints c).map f).length = c.toNat := by rw [List.length_map, ints_len]
  rw [List.set_append_right _ _ (by omega), hl, Nat.sub_self, map_ints_succ h0, List.append_assoc]
  congr 1
  rw [show (n - c).toNat = (n - (c + 1)).toNat + 1 by omega, List.replicate_succ]
  rfl
theorem rl_all (f : Int → List Int) (n : Int) : rl f n n = (ints n).map f := by unfold rl; simp

theorem QI.zero {b : Bd} (hb : b.ok) {c : Int} (h0 : 0 ≤ c) (h1 : c < b.cells) : QI b.cells 66 (b.from0 c) [c] := by
  have c6 := hb.c64
  have hl : ((b.from0 c).length : Int) = b.cells := by unfold Bd.from0; simp; omega
  refine ⟨hl, fun x hx => ?_, ?_⟩
  · simp at hx
    subst hx
    exact ⟨h0, h1, by unfold Bd.from0; rw [nth_set_eq h0 (by simp; omega)]; exact Int.le_refl _⟩
  · have := neg_le (b.from0 c)
    simp only [List.length_cons, List.length_nil]
    omega
theorem inner {m n : Int} {k : Nat} {out queue L : List Int} {i : Int} (hq : QI m k out queue) (hl : 0 < queue.length) (hn : 0 ≤ n) (hL : ∀ x, x ∈ L → 0 ≤ x ∧ x < m) (i0 : 0 ≤ i) :
    QI m k ((L.take i.toNat).foldl (bfs1 n) (out, queue)).1 ((L.take i.toNat).foldl (bfs1 n) (out, queue)).2 ∧ nth ((L.take i.toNat).foldl (bfs1 n) (out, queue)).2 0 = nth queue 0 ∧ 0 < ((L.take i.toNat).foldl (bfs1 n) (out, queue)).2.length ∧
      nth ((L.take i.toNat).foldl (bfs1 n) (out, queue)).1 (nth queue 0) = nth out (nth queue 0) ∧
      (i < L.length → 0 ≤ nth L i ∧ nth L i < m ∧ (L.take (i + 1).toNat).foldl (bfs1 n) (out, queue) = bfs1 n ((L.take i.toNat).foldl (bfs1 n) (out, queue)) (nth L i)) := by
  have hm : ∀ x, x ∈ L.take i.toNat → 0 ≤ x ∧ x < m := fun x hx => hL x (List.mem_of_mem_take hx)
  have hrg := hq.rg (nth queue 0) (nth_mem (Int.le_refl 0) (by omega))
  obtain ⟨q, r, rfl⟩ : ∃ q r, queue = q :: r := by
    cases queue with
    | nil => simp at hl
    | cons q r => exact ⟨q, r, rfl⟩
  obtain ⟨t, ht⟩ := fold_head (n := n) (L.take i.toNat) out q r
  refine ⟨QI.fold (s := (out, q :: r)) hn hm hq, by rw [ht]; rfl, by rw [ht]; simp, fold_keep hrg.1 (fun x hx => (hm x hx).1) hrg.2.2, fun h => ⟨(hL _ (nth_mem i0 h)).1, (hL _ (nth_mem i0 h)).2, ?_⟩⟩
  rw [take_snoc i0 h, List.foldl_append]; rfl
structure IS where
  i : Int
  out : List Int
  queue : List Int
def UB (u : Int) (l : List Int) : Prop := ∀ x, x ∈ l → x ≤ u
theorem UB.step {u n x : Int} {s : List Int × List Int} (h : UB u s.1) (hn : n ≤ u) : UB u (bfs1 n s x).1 := by
  unfold bfs1
  split
  · intro y hy
    rcases List.mem_or_eq_of_mem_set hy with hy | rfl
    · exact h y hy
    · exact hn
  · exact h
structure InnerI (m n u : Int) (k : Nat) (out queue L : List Int) (s : IS) : Prop where
  ub : UB u s.out
  i0 : 0 ≤ s.i
  i1 : s.i ≤ L.length
  e1 : s.out = ((L.take s.i.toNat).foldl (bfs1 n) (out, queue)).1
  e2 : s.queue = ((L.take s.i.toNat).foldl (bfs1 n) (out, queue)).2
  q : QI m k s.out s.queue
  h0 : nth s.queue 0 = nth queue 0
  hl : 0 < s.queue.length
  hk : nth s.out (nth queue 0) = nth out (nth queue 0)
theorem InnerI.zero {m n u : Int} {k : Nat} {out queue L : List Int} (hu : UB u out) (hq : QI m k out queue) (hl : 0 < queue.length) : InnerI m n u k out queue L ⟨0, out, queue⟩ :=
  ⟨hu, Int.le_refl _, Int.natCast_nonneg _, rfl, rfl, hq, rfl, hl, rfl⟩
theorem InnerI.at {m n u : Int} {k : Nat} {out queue L : List Int} {s : IS} (h : InnerI m n u k out queue L s) (hL : ∀ x, x ∈ L → 0 ≤ x ∧ x < m) (hi : s.i < L.length) : 0 ≤ nth L s.i ∧ nth L s.i < m := hL _ (nth_mem h.i0 hi)
theorem InnerI.next {m n u : Int} {k : Nat} {out queue L : List Int} {s : IS} (hu : n ≤ u) (h : InnerI m n u k out queue L s) (hq : QI m k out queue) (hl : 0 < queue.length) (hn : 0 ≤ n) (hL : ∀ x, x ∈ L → 0 ≤ x ∧ x < m) (hi : s.i < L.length) :
    InnerI m n u k out queue L ⟨s.i + 1, (bfs1 n (s.out, s.queue) (nth L s.i)).1, (bfs1 n (s.out, s.queue) (nth L s.i)).2⟩ := by
  have h0 := h.i0
  have hs := (inner hq hl hn hL h0).2.2.2.2 hi
  have hin := inner (i := s.i + 1) hq hl hn hL (by omega)
  have e : (s.out, s.queue) = (L.take s.i.toNat).foldl (bfs1 n) (out, queue) := by rw [h.e1, h.e2]
  rw [← e] at hs
  rw [hs.2.2] at hin
  exact ⟨h.ub.step (s := (s.out, s.queue)) hu, by simp only; omega, by simp only; omega, by simp only; rw [hs.2.2], by simp only; rw [hs.2.2], hin.1, hin.2.1, hin.2.2.1, hin.2.2.2.1⟩
theorem InnerI.done {m n u : Int} {k : Nat} {out queue L : List Int} {s : IS} (h : InnerI m n u k out queue L s) (hi : s.i = L.length) : s.out = (L.foldl (bfs1 n) (out, queue)).1 ∧ s.queue = (L.foldl (bfs1 n) (out, queue)).2 := by
  rw [h.e1, h.e2, take_all (by omega)]; exact ⟨rfl, rfl⟩
theorem InnerI.fin {m n u : Int} {k : Nat} {out queue L : List Int} {s : IS} (h : InnerI m n u k out queue L s) (hi : s.i = L.length) (hl : 0 < queue.length) :
    ∃ k', k = k' + 1 ∧ QI m k' s.out s.queue.tail ∧ ∀ (lk : Int → List Int) (v : List Int → Int → Int), lk (nth queue 0) = L → v out (nth queue 0) = n → bqR lk v k' s.out s.queue.tail = bqR lk v k out queue := by
  have hd := h.done hi
  have hq := h.q
  have hsl := h.hl
  cases hc : s.queue with
  | nil => rw [hc] at hsl; simp at hsl
  | cons q t =>
    rw [hc] at hq
    obtain ⟨k', hk, hq'⟩ := hq.pop
    refine ⟨k', hk, hq', fun lk v e1 e2 => ?_⟩
    cases queue with
    | nil => simp at hl
    | cons q0 r =>
      have e1' : lk q0 = L := e1
      have e2' : v out q0 = n := e2
      rw [hk]
      simp only [bqR]
      rw [e1', e2', ← hd.1, ← hd.2, hc]
theorem UB_from0 (b : Bd) (c : Int) : UB (66 - (66 : Nat)) (b.from0 c) := fun x hx => by
  unfold Bd.from0 at hx
  rcases List.mem_or_eq_of_mem_set hx with hx | rfl
  · have := (List.mem_replicate.1 hx).2
    omega
  · decide
structure QS where
  k : Nat
  out : List Int
  queue : List Int

set_option maxHeartbeats 4000000 in
set_option maxRecDepth 10000 in
theorem Far29_p (b : Bd) (hb : b.ok) : Pure Try.prog 29 [b.av] (.ref 0) (some (.arr 1 ((ints b.cells).map fun a => Is (b.farQ a)))) := by
  refine fun_of tok D_ok Try.func29 rfl Try.ntmps29 Try.results29 (by kernel_rfl) (by simp) (by simp) ?_
  have c6 := hb.c64
  have c1 := hb.c1
  conv => whnf
  repeat' ((first
    | (refine ifD (fun _ => ?_) (fun _ => ?_))
    | (refine ifE (fun _ => ?_) (fun _ => ?_))
    | (refine ifN (fun _ => ?_) (fun _ => ?_))
    | ((with_reducible refine ifNot ?_))
    | ((with_reducible refine ifAndD (fun _ _ => ?_) (fun _ => ?_)))
    | ((with_reducible refine ifAnd (fun _ _ => ?_) (fun _ => ?_)))
    | (refine ixM (by omega) (by first | omega | (simp only [List.length_set, List.length_map, List.length_append, List.length_cons, List.length_nil, List.length_replicate]; omega)) rfl ?_)
    | (refine ixA (by omega) (by first | omega | (simp only [List.length_set, List.length_map, List.length_append, List.length_cons, List.length_nil, List.length_replicate]; omega)) ?_)
    | (refine ltM (by omega) (by first | omega | (simp only [List.length_set, List.length_map, List.length_append, List.length_cons, List.length_nil, List.length_replicate]; omega)) ?_)
    | (refine calI (by omega) ?_)
    | (refine cu8 (by omega) ?_)
    | (refine cu64 (by omega) ?_)
    | (refine And.intro (by omega) ?_; refine crem (by omega) ?_)
    | (refine And.intro (by omega) ?_; refine cquo (by omega) ?_)
    | (refine mkI (by decide) (by omega) (by omega) (.inl ?_); conv => whnf)
    | ((with_reducible refine preI ?_); (first | refine preNil ?_ | refine preOp rfl rfl ?_ | refine preT rfl rfl rfl rfl ?_ | refine preF rfl rfl rfl rfl ?_ | refine preTS rfl rfl rfl rfl ?_ | refine preFS rfl rfl rfl rfl ?_ | refine preSkip rfl rfl rfl rfl ?_ | refine preGT rfl rfl rfl rfl ?_ | refine preGF rfl rfl rfl rfl ?_))
    | ((first | refine drawA (by decide +kernel) ?_ | refine drawA2 (by kernel_rfl) ?_); conv => whnf; (try dsimp only [St.after, St.afterAt, initSt, initT, numO, cellsA, Option.map, ren, renL, renO, St.setObj, headSt, List.cons_append, List.nil_append, List.length_nil]); try (conv => enter [7, 3]; whnf))
    | (refine ap1 (by decide) (by omega) rfl rfl ?_)
    | (refine ap0 (by decide) rfl ?_)
    | (refine apL (by decide) (by omega) (fun _ => rfl) ?_)
    | (refine apM (by decide) (by omega) (fun _ => rfl) ?_)
    | (refine setI (z := _) rfl ?_)
    | (refine And.intro (by omega) (And.intro (by omega) ?_))
    | (refine ifB_intro (fun _ => ?_) (fun _ => ?_))) <;> (conv => whnf; try dsimp only [St.after, St.afterAt, initSt, initT, numO, cellsA, Option.map, ren, renL, renO, St.setObj, headSt, List.cons_append, List.nil_append, List.length_nil]))
  refine .of (fun c => [(16, I c)]) (fun c => [(1, .arr 1 ((rl b.near b.cells c).map Is))]) 2 (fun c => 0 ≤ c ∧ c ≤ b.cells) (fun c => (b.cells - c).toNat) 0 ?_
  conv => whnf
  refine ⟨⟨[], (by kernel_rfl), (by kernel_rfl), (by kernel_rfl), ?_, ?_⟩, ?_, fun c ⟨h0, h1⟩ => ?_⟩
  rotate_left 1
  focus
    conv => whnf
    repeat' (first
      | exact trivial
      | with_reducible rfl
      | (refine srcI ?_; kernel_rfl)
      | (refine nsI ?_; kernel_rfl)
      | (refine And.intro ?_ ?_ <;> conv => whnf; try dsimp only [St.after, St.afterAt, initSt, initT, numO, cellsA, Option.map, ren, renL, renO, St.setObj, headSt, List.cons_append, List.nil_append, List.length_nil])
      | rfl)
  rotate_right 1
  focus
    conv => whnf
    repeat' (first
      | exact trivial
      | with_reducible rfl
      | (refine srcI ?_; kernel_rfl)
      | (refine nsI ?_; kernel_rfl)
      | (refine And.intro ?_ ?_ <;> conv => whnf; try dsimp only [St.after, St.afterAt, initSt, initT, numO, cellsA, Option.map, ren, renL, renO, St.setObj, headSt, List.cons_append, List.nil_append, List.length_nil])
      | rfl)
  rotate_right 1
  focus
    conv => whnf
  rotate_left 1
  · rw [rl_zero, List.map_replicate]; rfl
  · exact ⟨by omega, by omega⟩
  have hrl := rl_len (f := b.near) h0 h1
  have hrm : ((rl b.near b.cells c).map Is).length = (rl b.near b.cells c).length := List.length_map _
  have hrep : (List.replicate b.cells.toNat (AV.sl [])).length = b.cells.toNat := List.length_replicate
  repeat' ((first
    | (refine ifD (fun _ => ?_) (fun _ => ?_))
    | (refine ifE (fun _ => ?_) (fun _ => ?_))
    | (refine ifN (fun _ => ?_) (fun _ => ?_))
    | ((with_reducible refine ifNot ?_))
    | ((with_reducible refine ifAndD (fun _ _ => ?_) (fun _ => ?_)))
    | ((with_reducible refine ifAnd (fun _ _ => ?_) (fun _ => ?_)))
    | (refine ixM (by omega) (by first | omega | (simp only [List.length_set, List.length_map, List.length_append, List.length_cons, List.length_nil, List.length_replicate]; omega)) rfl ?_)
    | (refine ixA (by omega) (by first | omega | (simp only [List.length_set, List.length_map, List.length_append, List.length_cons, List.length_nil, List.length_replicate]; omega)) ?_)
    | (refine ltM (by omega) (by first | omega | (simp only [List.length_set, List.length_map, List.length_append, List.length_cons, List.length_nil, List.length_replicate]; omega)) ?_)
    | (refine calI (by omega) ?_)
    | (refine cu8 (by omega) ?_)
    | (refine cu64 (by omega) ?_)
    | (refine And.intro (by omega) ?_; refine crem (by omega) ?_)
    | (refine And.intro (by omega) ?_; refine cquo (by omega) ?_)
    | (refine ⟨_, _, Near22_p b hb c, ?_⟩)
    | (refine .inl ?_; (conv => whnf); refine ⟨_, _, Near22_p b hb c, ?_⟩)
    | ((with_reducible refine preI ?_); (first | refine preNil ?_ | refine preOp rfl rfl ?_ | refine preT rfl rfl rfl rfl ?_ | refine preF rfl rfl rfl rfl ?_ | refine preTS rfl rfl rfl rfl ?_ | refine preFS rfl rfl rfl rfl ?_ | refine preSkip rfl rfl rfl rfl ?_ | refine preGT rfl rfl rfl rfl ?_ | refine preGF rfl rfl rfl rfl ?_))
    | ((first | refine drawA (by decide +kernel) ?_ | refine drawA2 (by kernel_rfl) ?_); conv => whnf; (try dsimp only [St.after, St.afterAt, initSt, initT, numO, cellsA, Option.map, ren, renL, renO, St.setObj, headSt, List.cons_append, List.nil_append, List.length_nil]); try (conv => enter [7, 3]; whnf))
    | (refine ap1 (by decide) (by omega) rfl rfl ?_)
    | (refine ap0 (by decide) rfl ?_)
    | (refine apL (by decide) (by omega) (fun _ => rfl) ?_)
    | (refine apM (by decide) (by omega) (fun _ => rfl) ?_)
    | (refine setI (z := _) rfl ?_)
    | (refine And.intro (by omega) (And.intro (by omega) ?_))
    | (refine ifB_intro (fun _ => ?_) (fun _ => ?_))) <;> (conv => whnf; try dsimp only [St.after, St.afterAt, initSt, initT, numO, cellsA, Option.map, ren, renL, renO, St.setObj, headSt, List.cons_append, List.nil_append, List.length_nil]))
  · refine setS ?_
    conv => whnf
    repeat' ((first
      | (refine ifD (fun _ => ?_) (fun _ => ?_))
      | (refine ifE (fun _ => ?_) (fun _ => ?_))
      | (refine ifN (fun _ => ?_) (fun _ => ?_))
      | ((with_reducible refine ifNot ?_))
      | ((with_reducible refine ifAndD (fun _ _ => ?_) (fun _ => ?_)))
      | ((with_reducible refine ifAnd (fun _ _ => ?_) (fun _ => ?_)))
      | (refine ixM (by omega) (by first | omega | (simp only [List.length_set, List.length_map, List.length_append, List.length_cons, List.length_nil, List.length_replicate]; omega)) rfl ?_)
      | (refine ixA (by omega) (by first | omega | (simp only [List.length_set, List.length_map, List.length_append, List.length_cons, List.length_nil, List.length_replicate]; omega)) ?_)
      | (refine ltM (by omega) (by first | omega | (simp only [List.length_set, List.length_map, List.length_append, List.length_cons, List.length_nil, List.length_replicate]; omega)) ?_)
      | (refine calI (by omega) ?_)
      | (refine cu8 (by omega) ?_)
      | (refine cu64 (by omega) ?_)
      | (refine And.intro (by omega) ?_; refine crem (by omega) ?_)
      | (refine And.intro (by omega) ?_; refine cquo (by omega) ?_)
      | ((with_reducible refine preI ?_); (first | refine preNil ?_ | refine preOp rfl rfl ?_ | refine preT rfl rfl rfl rfl ?_ | refine preF rfl rfl rfl rfl ?_ | refine preTS rfl rfl rfl rfl ?_ | refine preFS rfl rfl rfl rfl ?_ | refine preSkip rfl rfl rfl rfl ?_ | refine preGT rfl rfl rfl rfl ?_ | refine preGF rfl rfl rfl rfl ?_))
      | ((first | refine drawA (by decide +kernel) ?_ | refine drawA2 (by kernel_rfl) ?_); conv => whnf; (try dsimp only [St.after, St.afterAt, initSt, initT, numO, cellsA, Option.map, ren, renL, renO, St.setObj, headSt, List.cons_append, List.nil_append, List.length_nil]); try (conv => enter [7, 3]; whnf))
      | (refine ap1 (by decide) (by omega) rfl rfl ?_)
      | (refine ap0 (by decide) rfl ?_)
      | (refine apL (by decide) (by omega) (fun _ => rfl) ?_)
      | (refine apM (by decide) (by omega) (fun _ => rfl) ?_)
      | (refine setI (z := _) rfl ?_)
      | (refine And.intro (by omega) (And.intro (by omega) ?_))
      | (refine ifB_intro (fun _ => ?_) (fun _ => ?_))) <;> (conv => whnf; try dsimp only [St.after, St.afterAt, initSt, initT, numO, cellsA, Option.map, ren, renL, renO, St.setObj, headSt, List.cons_append, List.nil_append, List.length_nil]))
    refine ⟨c + 1, ⟨[], (by kernel_rfl), (by kernel_rfl), (by kernel_rfl), ?_, ?_⟩, ?_, by (try dsimp only); omega, rfl⟩
    rotate_left 1
    focus
      conv => whnf
      repeat' (first
        | exact trivial
        | with_reducible rfl
        | (refine srcI ?_; kernel_rfl)
        | (refine nsI ?_; kernel_rfl)
        | (refine And.intro ?_ ?_ <;> conv => whnf; try dsimp only [St.after, St.afterAt, initSt, initT, numO, cellsA, Option.map, ren, renL, renO, St.setObj, headSt, List.cons_append, List.nil_append, List.length_nil]))
    rotate_right 1
    focus
      conv => whnf
      repeat' (first
        | exact trivial
        | with_reducible rfl
        | (refine srcI ?_; kernel_rfl)
        | (refine nsI ?_; kernel_rfl)
        | (refine And.intro ?_ ?_ <;> conv => whnf; try dsimp only [St.after, St.afterAt, initSt, initT, numO, cellsA, Option.map, ren, renL, renO, St.setObj, headSt, List.cons_append, List.nil_append, List.length_nil]))
    · rw [rl_succ h0 (by omega)]
    · exact ⟨by omega, by omega⟩
  obtain rfl : c = b.cells := by omega
  refine ⟨by omega, (mkI (b := 24) (K := True) (by decide) (by omega) (by omega) trivial).2.2.2.1, .inl ?_⟩
  conv => whnf
  refine .of (fun c => [(31, I c)]) (fun c => [(2, .arr 1 ((rl b.farQ b.cells c).map Is))]) 3 (fun c => 0 ≤ c ∧ c ≤ b.cells) (fun c => (b.cells - c).toNat) 0 ?_
  conv => whnf
  refine ⟨⟨[], (by kernel_rfl), (by kernel_rfl), (by kernel_rfl), ?_, ?_⟩, ?_, fun c ⟨j0, j1⟩ => ?_⟩
  rotate_left 1
  focus
    conv => whnf
    repeat' (first
      | exact trivial
      | with_reducible rfl
      | (refine srcI ?_; kernel_rfl)
      | (refine nsI ?_; kernel_rfl)
      | (refine And.intro ?_ ?_ <;> conv => whnf; try dsimp only [St.after, St.afterAt, initSt, initT, numO, cellsA, Option.map, ren, renL, renO, St.setObj, headSt, List.cons_append, List.nil_append, List.length_nil])
      | rfl)
  rotate_right 1
  focus
    conv => whnf
    repeat' (first
      | exact trivial
      | with_reducible rfl
      | (refine srcI ?_; kernel_rfl)
      | (refine nsI ?_; kernel_rfl)
      | (refine And.intro ?_ ?_ <;> conv => whnf; try dsimp only [St.after, St.afterAt, initSt, initT, numO, cellsA, Option.map, ren, renL, renO, St.setObj, headSt, List.cons_append, List.nil_append, List.length_nil])
      | rfl)
  rotate_right 1
  focus
    conv => whnf
  rotate_left 1
  · rw [rl_zero, List.map_replicate]; rfl
  · exact ⟨by omega, by omega⟩
  have hrl2 := rl_len (f := b.farQ) j0 j1
  have hrm2 : ((rl b.farQ b.cells c).map Is).length = (rl b.farQ b.cells c).length := List.length_map _
  have hmo : (List.replicate b.cells.toNat (-1 : Int)).length = b.cells.toNat := List.length_replicate
  have hmm : ((List.replicate b.cells.toNat (-1 : Int)).map I).length = (List.replicate b.cells.toNat (-1 : Int)).length := List.length_map _
  repeat' ((first
    | (refine ifD (fun _ => ?_) (fun _ => ?_))
    | (refine ifE (fun _ => ?_) (fun _ => ?_))
    | (refine ifN (fun _ => ?_) (fun _ => ?_))
    | ((with_reducible refine ifNot ?_))
    | ((with_reducible refine ifAndD (fun _ _ => ?_) (fun _ => ?_)))
    | ((with_reducible refine ifAnd (fun _ _ => ?_) (fun _ => ?_)))
    | (refine ixM (by omega) (by first | omega | (simp only [List.length_set, List.length_map, List.length_append, List.length_cons, List.length_nil, List.length_replicate]; omega)) rfl ?_)
    | (refine ixA (by omega) (by first | omega | (simp only [List.length_set, List.length_map, List.length_append, List.length_cons, List.length_nil, List.length_replicate]; omega)) ?_)
    | (refine ltM (by omega) (by first | omega | (simp only [List.length_set, List.length_map, List.length_append, List.length_cons, List.length_nil, List.length_replicate]; omega)) ?_)
    | (refine calI (by omega) ?_)
    | (refine cu8 (by omega) ?_)
    | (refine cu64 (by omega) ?_)
    | (refine And.intro (by omega) ?_; refine crem (by omega) ?_)
    | (refine And.intro (by omega) ?_; refine cquo (by omega) ?_)
    | ((with_reducible refine preI ?_); (first | refine preNil ?_ | refine preOp rfl rfl ?_ | refine preT rfl rfl rfl rfl ?_ | refine preF rfl rfl rfl rfl ?_ | refine preTS rfl rfl rfl rfl ?_ | refine preFS rfl rfl rfl rfl ?_ | refine preSkip rfl rfl rfl rfl ?_ | refine preGT rfl rfl rfl rfl ?_ | refine preGF rfl rfl rfl rfl ?_))
    | ((first | refine drawA (by decide +kernel) ?_ | refine drawA2 (by kernel_rfl) ?_); conv => whnf; (try dsimp only [St.after, St.afterAt, initSt, initT, numO, cellsA, Option.map, ren, renL, renO, St.setObj, headSt, List.cons_append, List.nil_append, List.length_nil]); try (conv => enter [7, 3]; whnf))
    | (refine ap1 (by decide) (by omega) rfl rfl ?_)
    | (refine ap0 (by decide) rfl ?_)
    | (refine apL (by decide) (by omega) (fun _ => rfl) ?_)
    | (refine apM (by decide) (by omega) (fun _ => rfl) ?_)
    | (refine setI (z := _) rfl ?_)
    | (refine And.intro (by omega) (And.intro (by omega) ?_))
    | (refine ifB_intro (fun _ => ?_) (fun _ => ?_))) <;> (conv => whnf; try dsimp only [St.after, St.afterAt, initSt, initT, numO, cellsA, Option.map, ren, renL, renO, St.setObj, headSt, List.cons_append, List.nil_append, List.length_nil]))
  ·
    refine .inr (.inl ?_)
    conv => whnf
    refine ⟨_, _, Repeat_p (-1) b.cells (by omega) (by omega), ?_⟩
    conv => whnf
    repeat' ((first
      | (refine ifD (fun _ => ?_) (fun _ => ?_))
      | (refine ifE (fun _ => ?_) (fun _ => ?_))
      | (refine ifN (fun _ => ?_) (fun _ => ?_))
      | ((with_reducible refine ifNot ?_))
      | ((with_reducible refine ifAndD (fun _ _ => ?_) (fun _ => ?_)))
      | ((with_reducible refine ifAnd (fun _ _ => ?_) (fun _ => ?_)))
      | (refine ixM (by omega) (by first | omega | (simp only [List.length_set, List.length_map, List.length_append, List.length_cons, List.length_nil, List.length_replicate]; omega)) rfl ?_)
      | (refine ixA (by omega) (by first | omega | (simp only [List.length_set, List.length_map, List.length_append, List.length_cons, List.length_nil, List.length_replicate]; omega)) ?_)
      | (refine ltM (by omega) (by first | omega | (simp only [List.length_set, List.length_map, List.length_append, List.length_cons, List.length_nil, List.length_replicate]; omega)) ?_)
      | (refine calI (by omega) ?_)
      | (refine cu8 (by omega) ?_)
      | (refine cu64 (by omega) ?_)
      | (refine And.intro (by omega) ?_; refine crem (by omega) ?_)
      | (refine And.intro (by omega) ?_; refine cquo (by omega) ?_)
      | ((with_reducible refine preI ?_); (first | refine preNil ?_ | refine preOp rfl rfl ?_ | refine preT rfl rfl rfl rfl ?_ | refine preF rfl rfl rfl rfl ?_ | refine preTS rfl rfl rfl rfl ?_ | refine preFS rfl rfl rfl rfl ?_ | refine preSkip rfl rfl rfl rfl ?_ | refine preGT rfl rfl rfl rfl ?_ | refine preGF rfl rfl rfl rfl ?_))
      | ((first | refine drawA (by decide +kernel) ?_ | refine drawA2 (by kernel_rfl) ?_); conv => whnf; (try dsimp only [St.after, St.afterAt, initSt, initT, numO, cellsA, Option.map, ren, renL, renO, St.setObj, headSt, List.cons_append, List.nil_append, List.length_nil]); try (conv => enter [7, 3]; whnf))
      | (refine ap1 (by decide) (by omega) rfl rfl ?_)
      | (refine ap0 (by decide) rfl ?_)
      | (refine apL (by decide) (by omega) (fun _ => rfl) ?_)
      | (refine apM (by decide) (by omega) (fun _ => rfl) ?_)
      | (refine setI (z := _) rfl ?_)
      | (refine And.intro (by omega) (And.intro (by omega) ?_))
      | (refine ifB_intro (fun _ => ?_) (fun _ => ?_))) <;> (conv => whnf; try dsimp only [St.after, St.afterAt, initSt, initT, numO, cellsA, Option.map, ren, renL, renO, St.setObj, headSt, List.cons_append, List.nil_append, List.length_nil]))
    refine .of (fun p => [(8, .ref 5)]) (fun p => [(4, .arr 1 (p.out.map I)), (5, .arr 1 (p.queue.map I))]) 6 (fun p => UB (66 - p.k) p.out ∧ QI b.cells p.k p.out p.queue ∧ bqR b.near (fun out q => nth out q + 1) p.k p.out p.queue = b.farQ c) (fun p => p.k) (⟨66, b.from0 c, [c]⟩ : QS) ?_
    conv => whnf
    refine ⟨⟨[], (by kernel_rfl), (by kernel_rfl), (by kernel_rfl), ?_, ?_⟩, ?_, fun p ⟨hub, hq, hp⟩ => ?_⟩
    rotate_left 1
    focus
      conv => whnf
      repeat' (first
        | exact trivial
        | with_reducible rfl
        | (refine srcI ?_; kernel_rfl)
        | (refine nsI ?_; kernel_rfl)
        | (refine And.intro ?_ ?_ <;> conv => whnf; try dsimp only [St.after, St.afterAt, initSt, initT, numO, cellsA, Option.map, ren, renL, renO, St.setObj, headSt, List.cons_append, List.nil_append, List.length_nil])
        | rfl)
    rotate_right 1
    focus
      conv => whnf
      repeat' (first
        | exact trivial
        | with_reducible rfl
        | (refine srcI ?_; kernel_rfl)
        | (refine nsI ?_; kernel_rfl)
        | (refine And.intro ?_ ?_ <;> conv => whnf; try dsimp only [St.after, St.afterAt, initSt, initT, numO, cellsA, Option.map, ren, renL, renO, St.setObj, headSt, List.cons_append, List.nil_append, List.length_nil])
        | rfl)
    rotate_right 1
    focus
      conv => whnf
    rotate_left 1
    · exact ⟨UB_from0 b c, QI.zero hb j0 (by omega), rfl⟩
    have ho := hq.len
    have hom : (p.out.map I).length = p.out.length := List.length_map _
    have hqm : (p.queue.map I).length = p.queue.length := List.length_map _
    have hrg := fun (h : 0 < p.queue.length) => hq.rg (nth p.queue 0) (nth_mem (Int.le_refl 0) (by omega))
    repeat' ((first
      | (refine ifD (fun _ => ?_) (fun _ => ?_))
      | (refine ifE (fun _ => ?_) (fun _ => ?_))
      | (refine ifN (fun _ => ?_) (fun _ => ?_))
      | ((with_reducible refine ifNot ?_))
      | ((with_reducible refine ifAndD (fun _ _ => ?_) (fun _ => ?_)))
      | ((with_reducible refine ifAnd (fun _ _ => ?_) (fun _ => ?_)))
      | (refine ixM (by omega) (by first | omega | (simp only [List.length_set, List.length_map, List.length_append, List.length_cons, List.length_nil, List.length_replicate]; omega)) rfl ?_)
      | (refine ixA (by omega) (by first | omega | (simp only [List.length_set, List.length_map, List.length_append, List.length_cons, List.length_nil, List.length_replicate]; omega)) ?_)
      | (refine ltM (by omega) (by first | omega | (simp only [List.length_set, List.length_map, List.length_append, List.length_cons, List.length_nil, List.length_replicate]; omega)) ?_)
      | (refine calI (by omega) ?_)
      | (refine cu8 (by omega) ?_)
      | (refine cu64 (by omega) ?_)
      | (refine And.intro (by omega) ?_; refine crem (by omega) ?_)
      | (refine And.intro (by omega) ?_; refine cquo (by omega) ?_)
      | ((with_reducible refine preI ?_); (first | refine preNil ?_ | refine preOp rfl rfl ?_ | refine preT rfl rfl rfl rfl ?_ | refine preF rfl rfl rfl rfl ?_ | refine preTS rfl rfl rfl rfl ?_ | refine preFS rfl rfl rfl rfl ?_ | refine preSkip rfl rfl rfl rfl ?_ | refine preGT rfl rfl rfl rfl ?_ | refine preGF rfl rfl rfl rfl ?_))
      | ((first | refine drawA (by decide +kernel) ?_ | refine drawA2 (by kernel_rfl) ?_); conv => whnf; (try dsimp only [St.after, St.afterAt, initSt, initT, numO, cellsA, Option.map, ren, renL, renO, St.setObj, headSt, List.cons_append, List.nil_append, List.length_nil]); try (conv => enter [7, 3]; whnf))
      | (refine ap1 (by decide) (by omega) rfl rfl ?_)
      | (refine ap0 (by decide) rfl ?_)
      | (refine apL (by decide) (by omega) (fun _ => rfl) ?_)
      | (refine apM (by decide) (by omega) (fun _ => rfl) ?_)
      | (refine setI (z := _) rfl ?_)
      | (refine And.intro (by omega) (And.intro (by omega) ?_))
      | (refine ifB_intro (fun _ => ?_) (fun _ => ?_))) <;> (conv => whnf; try dsimp only [St.after, St.afterAt, initSt, initT, numO, cellsA, Option.map, ren, renL, renO, St.setObj, headSt, List.cons_append, List.nil_append, List.length_nil]))
    · rename_i hlen
      have hrq := hrg (by omega)
      have hfu := hq.fuel
      have hu0 := hub _ (nth_mem hrq.1 (by omega))
      have hnr : nth (rl b.near b.cells b.cells) (nth p.queue 0) = b.near (nth p.queue 0) := by rw [rl_all, nth_map_ints hrq.1 hrq.2.1]
      have hL6 : (nth (rl b.near b.cells b.cells) (nth p.queue 0)).length ≤ 64 := by rw [hnr]; have := near_len b (nth p.queue 0); omega
      have hmem : ∀ x, x ∈ nth (rl b.near b.cells b.cells) (nth p.queue 0) → 0 ≤ x ∧ x < b.cells := fun x hx => near_mem (by rw [hnr] at hx; exact hx)
      refine .of (fun s => [(55, I s.i), (8, .ref 5)]) (fun s => [(4, .arr 1 (s.out.map I)), (5, .arr 1 (s.queue.map I))]) 6 (fun s => InnerI b.cells (nth p.out (nth p.queue 0) + 1) (67 - p.k) p.k p.out p.queue (nth (rl b.near b.cells b.cells) (nth p.queue 0)) s) (fun s => ((nth (rl b.near b.cells b.cells) (nth p.queue 0)).length - s.i).toNat) (⟨0, p.out, p.queue⟩ : IS) ?_
      conv => whnf
      refine ⟨⟨[], (by kernel_rfl), (by kernel_rfl), (by kernel_rfl), ?_, ?_⟩, ?_, fun s hs => ?_⟩
      rotate_left 1
      focus
        conv => whnf
        repeat' (first
          | exact trivial
          | with_reducible rfl
          | (refine srcI ?_; kernel_rfl)
          | (refine nsI ?_; kernel_rfl)
          | (refine And.intro ?_ ?_ <;> conv => whnf; try dsimp only [St.after, St.afterAt, initSt, initT, numO, cellsA, Option.map, ren, renL, renO, St.setObj, headSt, List.cons_append, List.nil_append, List.length_nil])
          | rfl)
      rotate_right 1
      focus
        conv => whnf
        repeat' (first
          | exact trivial
          | with_reducible rfl
          | (refine srcI ?_; kernel_rfl)
          | (refine nsI ?_; kernel_rfl)
          | (refine And.intro ?_ ?_ <;> conv => whnf; try dsimp only [St.after, St.afterAt, initSt, initT, numO, cellsA, Option.map, ren, renL, renO, St.setObj, headSt, List.cons_append, List.nil_append, List.length_nil])
          | rfl)
      rotate_right 1
      focus
        conv => whnf
      rotate_left 1
      · exact InnerI.zero (fun x hx => by have := hub x hx; omega) hq (by omega)
      have s0 := hs.i0
      have s1 := hs.i1
      have so := hs.q.len
      have sh := hs.h0
      have sl := hs.hl
      have sk : nth s.out (nth s.queue 0) = nth p.out (nth p.queue 0) := by rw [sh]; exact hs.hk
      have som : (s.out.map I).length = s.out.length := List.length_map _
      have sqm : (s.queue.map I).length = s.queue.length := List.length_map _
      have sat := hs.at hmem
      have sql : s.queue.length ≤ 66 := by have := hs.q.fuel; have := hq.fuel; omega
      have slm : ((nth (rl b.near b.cells b.cells) (nth p.queue 0)).map I).length = (nth (rl b.near b.cells b.cells) (nth p.queue 0)).length := List.length_map _
      repeat' ((first
        | (refine ifD (fun _ => ?_) (fun _ => ?_))
        | (refine ifE (fun _ => ?_) (fun _ => ?_))
        | (refine ifN (fun _ => ?_) (fun _ => ?_))
        | ((with_reducible refine ifNot ?_))
        | ((with_reducible refine ifAndD (fun _ _ => ?_) (fun _ => ?_)))
        | ((with_reducible refine ifAnd (fun _ _ => ?_) (fun _ => ?_)))
        | (refine ixM (by omega) (by first | omega | (simp only [List.length_set, List.length_map, List.length_append, List.length_cons, List.length_nil, List.length_replicate]; omega)) rfl ?_)
        | (refine ixA (by omega) (by first | omega | (simp only [List.length_set, List.length_map, List.length_append, List.length_cons, List.length_nil, List.length_replicate]; omega)) ?_)
        | (refine ltM (by omega) (by first | omega | (simp only [List.length_set, List.length_map, List.length_append, List.length_cons, List.length_nil, List.length_replicate]; omega)) ?_)
        | (refine calI (by omega) ?_)
        | (refine cu8 (by omega) ?_)
        | (refine cu64 (by omega) ?_)
        | (refine And.intro (by omega) ?_; refine crem (by omega) ?_)
        | (refine And.intro (by omega) ?_; refine cquo (by omega) ?_)
        | ((with_reducible refine preI ?_); (first | refine preNil ?_ | refine preOp rfl rfl ?_ | refine preT rfl rfl rfl rfl ?_ | refine preF rfl rfl rfl rfl ?_ | refine preTS rfl rfl rfl rfl ?_ | refine preFS rfl rfl rfl rfl ?_ | refine preSkip rfl rfl rfl rfl ?_ | refine preGT rfl rfl rfl rfl ?_ | refine preGF rfl rfl rfl rfl ?_))
        | ((first | refine drawA (by decide +kernel) ?_ | refine drawA2 (by kernel_rfl) ?_); conv => whnf; (try dsimp only [St.after, St.afterAt, initSt, initT, numO, cellsA, Option.map, ren, renL, renO, St.setObj, headSt, List.cons_append, List.nil_append, List.length_nil]); try (conv => enter [7, 3]; whnf))
        | (refine ap1 (by decide) (by omega) rfl rfl ?_)
        | (refine ap0 (by decide) rfl ?_)
        | (refine apL (by decide) (by omega) (fun _ => rfl) ?_)
        | (refine apM (by decide) (by omega) (fun _ => rfl) ?_)
        | (refine setI (z := _) rfl ?_)
        | (refine And.intro (by omega) (And.intro (by omega) ?_))
        | (refine ifB_intro (fun _ => ?_) (fun _ => ?_))) <;> (conv => whnf; try dsimp only [St.after, St.afterAt, initSt, initT, numO, cellsA, Option.map, ren, renL, renO, St.setObj, headSt, List.cons_append, List.nil_append, List.length_nil]))
      · rename_i q1 q2
        have he : bfs1 (nth p.out (nth p.queue 0) + 1) (s.out, s.queue) (nth (nth (rl b.near b.cells b.cells) (nth p.queue 0)) s.i) = (s.out.set (nth (nth (rl b.near b.cells b.cells) (nth p.queue 0)) s.i).toNat (nth p.out (nth p.queue 0) + 1), s.queue ++ [nth (nth (rl b.near b.cells b.cells) (nth p.queue 0)) s.i]) := if_pos q2
        have hnx := hs.next (by omega) hq (by omega) (by omega) hmem (by omega)
        rw [he] at hnx
        refine ⟨(⟨s.i + 1, s.out.set (nth (nth (rl b.near b.cells b.cells) (nth p.queue 0)) s.i).toNat (nth p.out (nth p.queue 0) + 1), s.queue ++ [nth (nth (rl b.near b.cells b.cells) (nth p.queue 0)) s.i]⟩ : IS), ⟨[], (by kernel_rfl), (by kernel_rfl), (by kernel_rfl), ?_, ?_⟩, ?_, by (try dsimp only); omega, rfl⟩
        rotate_left 1
        focus
          conv => whnf
          repeat' (first
            | exact trivial
            | with_reducible rfl
            | (refine srcI ?_; kernel_rfl)
            | (refine nsI ?_; kernel_rfl)
            | (refine And.intro ?_ ?_ <;> conv => whnf; try dsimp only [St.after, St.afterAt, initSt, initT, numO, cellsA, Option.map, ren, renL, renO, St.setObj, headSt, List.cons_append, List.nil_append, List.length_nil]))
        rotate_right 1
        focus
          conv => whnf
          repeat' (first
            | exact trivial
            | with_reducible rfl
            | (refine srcI ?_; kernel_rfl)
            | (refine nsI ?_; kernel_rfl)
            | (refine And.intro ?_ ?_ <;> conv => whnf; try dsimp only [St.after, St.afterAt, initSt, initT, numO, cellsA, Option.map, ren, renL, renO, St.setObj, headSt, List.cons_append, List.nil_append, List.length_nil]))
        · rw [sk]
        · exact hnx
      · rename_i q1 q2
        have he : bfs1 (nth p.out (nth p.queue 0) + 1) (s.out, s.queue) (nth (nth (rl b.near b.cells b.cells) (nth p.queue 0)) s.i) = (s.out, s.queue) := if_neg q2
        have hnx := hs.next (by omega) hq (by omega) (by omega) hmem (by omega)
        rw [he] at hnx
        refine ⟨(⟨s.i + 1, s.out, s.queue⟩ : IS), ⟨[], (by kernel_rfl), (by kernel_rfl), (by kernel_rfl), ?_, ?_⟩, ?_, by (try dsimp only); omega, rfl⟩
        rotate_left 1
        focus
          conv => whnf
          repeat' (first
            | exact trivial
            | with_reducible rfl
            | (refine srcI ?_; kernel_rfl)
            | (refine nsI ?_; kernel_rfl)
            | (refine And.intro ?_ ?_ <;> conv => whnf; try dsimp only [St.after, St.afterAt, initSt, initT, numO, cellsA, Option.map, ren, renL, renO, St.setObj, headSt, List.cons_append, List.nil_append, List.length_nil]))
        rotate_right 1
        focus
          conv => whnf
          repeat' (first
            | exact trivial
            | with_reducible rfl
            | (refine srcI ?_; kernel_rfl)
            | (refine nsI ?_; kernel_rfl)
            | (refine And.intro ?_ ?_ <;> conv => whnf; try dsimp only [St.after, St.afterAt, initSt, initT, numO, cellsA, Option.map, ren, renL, renO, St.setObj, headSt, List.cons_append, List.nil_append, List.length_nil]))
        exact hnx
      · refine ⟨by omega, ?_⟩
        conv => whnf
        obtain ⟨k', hk, hq', hb⟩ := hs.fin (by omega) (by omega)
        have hub' := hs.ub
        refine ⟨(⟨k', s.out, s.queue.tail⟩ : QS), ⟨[], (by kernel_rfl), (by kernel_rfl), (by kernel_rfl), ?_, ?_⟩, ?_, by (try dsimp only); omega, rfl⟩
        rotate_left 1
        focus
          conv => whnf
          repeat' (first
            | exact trivial
            | with_reducible rfl
            | (refine srcI ?_; kernel_rfl)
            | (refine nsI ?_; kernel_rfl)
            | (refine And.intro ?_ ?_ <;> conv => whnf; try dsimp only [St.after, St.afterAt, initSt, initT, numO, cellsA, Option.map, ren, renL, renO, St.setObj, headSt, List.cons_append, List.nil_append, List.length_nil]))
        rotate_right 1
        focus
          conv => whnf
          repeat' (first
            | exact trivial
            | with_reducible rfl
            | (refine srcI ?_; kernel_rfl)
            | (refine nsI ?_; kernel_rfl)
            | (refine And.intro ?_ ?_ <;> conv => whnf; try dsimp only [St.after, St.afterAt, initSt, initT, numO, cellsA, Option.map, ren, renL, renO, St.setObj, headSt, List.cons_append, List.nil_append, List.length_nil]))
        · rw [List.map_tail, List.take_of_length_le (by omega)]; exact List.drop_one
        · exact ⟨fun x hx => by have := hub' x hx; simp only; omega, hq', by rw [← hp]; exact hb _ _ hnr.symm rfl⟩
    · have hout : p.out = b.farQ c := by
        rw [← hp, List.length_eq_zero_iff.1 (show p.queue.length = 0 by omega)]
        cases p.k <;> rfl
      rw [hout]
      refine setS ?_
      conv => whnf
      repeat' ((first
        | (refine ifD (fun _ => ?_) (fun _ => ?_))
        | (refine ifE (fun _ => ?_) (fun _ => ?_))
        | (refine ifN (fun _ => ?_) (fun _ => ?_))
        | ((with_reducible refine ifNot ?_))
        | ((with_reducible refine ifAndD (fun _ _ => ?_) (fun _ => ?_)))
        | ((with_reducible refine ifAnd (fun _ _ => ?_) (fun _ => ?_)))
        | (refine ixM (by omega) (by first | omega | (simp only [List.length_set, List.length_map, List.length_append, List.length_cons, List.length_nil, List.length_replicate]; omega)) rfl ?_)
        | (refine ixA (by omega) (by first | omega | (simp only [List.length_set, List.length_map, List.length_append, List.length_cons, List.length_nil, List.length_replicate]; omega)) ?_)
        | (refine ltM (by omega) (by first | omega | (simp only [List.length_set, List.length_map, List.length_append, List.length_cons, List.length_nil, List.length_replicate]; omega)) ?_)
        | (refine calI (by omega) ?_)
        | (refine cu8 (by omega) ?_)
        | (refine cu64 (by omega) ?_)
        | (refine And.intro (by omega) ?_; refine crem (by omega) ?_)
        | (refine And.intro (by omega) ?_; refine cquo (by omega) ?_)
        | ((with_reducible refine preI ?_); (first | refine preNil ?_ | refine preOp rfl rfl ?_ | refine preT rfl rfl rfl rfl ?_ | refine preF rfl rfl rfl rfl ?_ | refine preTS rfl rfl rfl rfl ?_ | refine preFS rfl rfl rfl rfl ?_ | refine preSkip rfl rfl rfl rfl ?_ | refine preGT rfl rfl rfl rfl ?_ | refine preGF rfl rfl rfl rfl ?_))
        | ((first | refine drawA (by decide +kernel) ?_ | refine drawA2 (by kernel_rfl) ?_); conv => whnf; (try dsimp only [St.after, St.afterAt, initSt, initT, numO, cellsA, Option.map, ren, renL, renO, St.setObj, headSt, List.cons_append, List.nil_append, List.length_nil]); try (conv => enter [7, 3]; whnf))
        | (refine ap1 (by decide) (by omega) rfl rfl ?_)
        | (refine ap0 (by decide) rfl ?_)
        | (refine apL (by decide) (by omega) (fun _ => rfl) ?_)
        | (refine apM (by decide) (by omega) (fun _ => rfl) ?_)
        | (refine setI (z := _) rfl ?_)
        | (refine And.intro (by omega) (And.intro (by omega) ?_))
        | (refine ifB_intro (fun _ => ?_) (fun _ => ?_))) <;> (conv => whnf; try dsimp only [St.after, St.afterAt, initSt, initT, numO, cellsA, Option.map, ren, renL, renO, St.setObj, headSt, List.cons_append, List.nil_append, List.length_nil]))
      refine ⟨c + 1, ⟨[], (by kernel_rfl), (by kernel_rfl), (by kernel_rfl), ?_, ?_⟩, ?_, by (try dsimp only); omega, rfl⟩
      rotate_left 1
      focus
        conv => whnf
        repeat' (first
          | exact trivial
          | with_reducible rfl
          | (refine srcI ?_; kernel_rfl)
          | (refine nsI ?_; kernel_rfl)
          | (refine And.intro ?_ ?_ <;> conv => whnf; try dsimp only [St.after, St.afterAt, initSt, initT, numO, cellsA, Option.map, ren, renL, renO, St.setObj, headSt, List.cons_append, List.nil_append, List.length_nil]))
      rotate_right 1
      focus
        conv => whnf
        repeat' (first
          | exact trivial
          | with_reducible rfl
          | (refine srcI ?_; kernel_rfl)
          | (refine nsI ?_; kernel_rfl)
          | (refine And.intro ?_ ?_ <;> conv => whnf; try dsimp only [St.after, St.afterAt, initSt, initT, numO, cellsA, Option.map, ren, renL, renO, St.setObj, headSt, List.cons_append, List.nil_append, List.length_nil]))
      · rw [rl_succ j0 (by omega)]
      · exact ⟨by omega, by omega⟩
  · obtain rfl : c = b.cells := by omega
    repeat' ((first
      | (refine ifD (fun _ => ?_) (fun _ => ?_))
      | (refine ifE (fun _ => ?_) (fun _ => ?_))
      | (refine ifN (fun _ => ?_) (fun _ => ?_))
      | ((with_reducible refine ifNot ?_))
      | ((with_reducible refine ifAndD (fun _ _ => ?_) (fun _ => ?_)))
      | ((with_reducible refine ifAnd (fun _ _ => ?_) (fun _ => ?_)))
      | (refine ixM (by omega) (by first | omega | (simp only [List.length_set, List.length_map, List.length_append, List.length_cons, List.length_nil, List.length_replicate]; omega)) rfl ?_)
      | (refine ixA (by omega) (by first | omega | (simp only [List.length_set, List.length_map, List.length_append, List.length_cons, List.length_nil, List.length_replicate]; omega)) ?_)
      | (refine ltM (by omega) (by first | omega | (simp only [List.length_set, List.length_map, List.length_append, List.length_cons, List.length_nil, List.length_replicate]; omega)) ?_)
      | (refine calI (by omega) ?_)
      | (refine cu8 (by omega) ?_)
      | (refine cu64 (by omega) ?_)
      | (refine And.intro (by omega) ?_; refine crem (by omega) ?_)
      | (refine And.intro (by omega) ?_; refine cquo (by omega) ?_)
      | ((with_reducible refine preI ?_); (first | refine preNil ?_ | refine preOp rfl rfl ?_ | refine preT rfl rfl rfl rfl ?_ | refine preF rfl rfl rfl rfl ?_ | refine preTS rfl rfl rfl rfl ?_ | refine preFS rfl rfl rfl rfl ?_ | refine preSkip rfl rfl rfl rfl ?_ | refine preGT rfl rfl rfl rfl ?_ | refine preGF rfl rfl rfl rfl ?_))
      | ((first | refine drawA (by decide +kernel) ?_ | refine drawA2 (by kernel_rfl) ?_); conv => whnf; (try dsimp only [St.after, St.afterAt, initSt, initT, numO, cellsA, Option.map, ren, renL, renO, St.setObj, headSt, List.cons_append, List.nil_append, List.length_nil]); try (conv => enter [7, 3]; whnf))
      | (refine ap1 (by decide) (by omega) rfl rfl ?_)
      | (refine ap0 (by decide) rfl ?_)
      | (refine apL (by decide) (by omega) (fun _ => rfl) ?_)
      | (refine apM (by decide) (by omega) (fun _ => rfl) ?_)
      | (refine setI (z := _) rfl ?_)
      | (refine And.intro (by omega) (And.intro (by omega) ?_))
      | (refine ifB_intro (fun _ => ?_) (fun _ => ?_))
      | (refine exitA (by kernel_rfl) (by kernel_rfl) ⟨?_, trivial⟩ ?_ <;> (conv => whnf) <;> repeat' (first | exact trivial | with_reducible rfl | (refine srcI ?_; kernel_rfl) | (refine nsI ?_; kernel_rfl) | (refine And.intro ?_ ?_ <;> conv => whnf; try dsimp only [St.after, St.afterAt, initSt, initT, numO, cellsA, Option.map, ren, renL, renO, St.setObj, headSt, List.cons_append, List.nil_append, List.length_nil])))) <;> (conv => whnf; try dsimp only [St.after, St.afterAt, initSt, initT, numO, cellsA, Option.map, ren, renL, renO, St.setObj, headSt, List.cons_append, List.nil_append, List.length_nil]))
    rw [rl_all, List.map_map]; rfl
end Go.Proofs.Ytkecpgidolphfaa
