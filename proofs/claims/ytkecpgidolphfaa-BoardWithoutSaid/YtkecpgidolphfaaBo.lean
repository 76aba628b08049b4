/- Contracts of functions of the program, proved by the checker. -/
import Derived.Test.YtkecpgidolphfaaBk
namespace Go.Proofs.Ytkecpgidolphfaa
set_option linter.unusedVariables false
set_option linter.unusedSimpArgs false
open Go Go.Sk

/-! The least linked cells, pass by pass. -/
def Bd.pstep (b : Bd) (s : List Int × Bool) (q : Int × Int) : List Int × Bool :=
  if b.nx q.1 q.2 < 0 ∨ nth s.1 (b.nx q.1 q.2) = nth s.1 q.2 then s
  else ((s.1.set (b.nx q.1 q.2).toNat (min (nth s.1 (b.nx q.1 q.2)) (nth s.1 q.2))).set q.2.toNat (min (nth s.1 (b.nx q.1 q.2)) (nth s.1 q.2)), true)
def Bd.prow (b : Bd) (d c : Int) : List (Int × Int) := (ints c).map fun c => (d, c)
def Bd.ppre (b : Bd) (d : Int) : List (Int × Int) := (ints d).flatMap fun d => b.prow d b.cells
def Bd.pass (b : Bd) (out : List Int) : List Int × Bool := (b.ppre b.next.length).foldl b.pstep (out, false)
def Bd.partsR (b : Bd) : Nat → List Int → Bool → List Int
  | 0, out, _ => out
  | k + 1, out, ch => if ch = true then b.partsR k (b.pass out).1 (b.pass out).2 else out
def Bd.parts (b : Bd) : List Int := b.partsR 5000 (ints b.cells) true

def sumN (l : List Int) : Nat := (l.map Int.toNat).sum
theorem sumN_set : ∀ {l : List Int} {i : Nat} {v : Int}, i < l.length → sumN (l.set i v) + (l.getD i 0).toNat = sumN l + v.toNat
  | [], i, v, h => by simp at h
  | x :: l, 0, v, h => by simp [sumN]; omega
  | x :: l, i + 1, v, h => by
    have := sumN_set (l := l) (i := i) (v := v) (by simpa using h)
    simp [sumN] at this ⊢
    omega
theorem sumN_set' {l : List Int} {i v : Int} (h0 : 0 ≤ i) (h : i < l.length) : sumN (l.set i.toNat v) + (nth l i).toNat = sumN l + v.toNat := sumN_set (by omega)

structure PI (b : Bd) (s0 : List Int) (s : List Int × Bool) : Prop where
  len : (s.1.length : Int) = b.cells
  nn : ∀ i : Int, 0 ≤ i → i < b.cells → 0 ≤ nth s.1 i
  sum : sumN s.1 + (if s.2 = true then 1 else 0) ≤ sumN s0
theorem PI.step {b : Bd} (hb : b.ok) {s0 : List Int} {s : List Int × Bool} (h : PI b s0 s) {q : Int × Int} (h0 : 0 ≤ q.1) (h1 : q.1 < b.next.length) (h2 : 0 ≤ q.2) (h3 : q.2 < b.cells) : PI b s0 (b.pstep s q) := by
  have hx := hb.lx q.1 q.2 h0 h1 h2 h3
  unfold Bd.pstep
  split
  · exact h
  · rename_i hn
    have hl := h.len
    have n1 := h.nn _ (show 0 ≤ b.nx q.1 q.2 by omega) hx.2
    have n2 := h.nn _ h2 h3
    generalize hm : min (nth s.1 (b.nx q.1 q.2)) (nth s.1 q.2) = m
    have hne : b.nx q.1 q.2 ≠ q.2 := fun e => hn (.inr (by rw [e]))
    refine ⟨by simp [hl], fun i i0 i1 => ?_, ?_⟩
    · have : 0 ≤ m := by omega
      by_cases e1 : q.2 = i
      · subst e1
        simp only
        rw [nth_set_eq h2 (by rw [List.length_set]; omega)]; exact this
      · simp only
        rw [nth_set_ne h2 i0 e1]
        by_cases e2 : b.nx q.1 q.2 = i
        · rw [← e2, nth_set_eq (by omega) (by omega)]; exact this
        · rw [nth_set_ne (by omega) i0 e2]; exact h.nn i i0 i1
    · have s1 := sumN_set' (l := s.1) (i := b.nx q.1 q.2) (v := m) (by omega) (by omega)
      have s2 := sumN_set' (l := s.1.set (b.nx q.1 q.2).toNat m) (i := q.2) (v := m) h2 (by rw [List.length_set]; omega)
      rw [nth_set_ne (by omega) h2 hne] at s2
      have := h.sum
      simp only [if_true]
      split at this <;> omega
theorem PI.fold {b : Bd} (hb : b.ok) {s0 : List Int} : ∀ {l : List (Int × Int)} {s : List Int × Bool}, (∀ q, q ∈ l → 0 ≤ q.1 ∧ q.1 < b.next.length ∧ 0 ≤ q.2 ∧ q.2 < b.cells) → PI b s0 s → PI b s0 (l.foldl b.pstep s)
  | [], _, _, h => h
  | q :: l, s, hl, h => PI.fold (s := b.pstep s q) hb (fun y hy => hl y (by simp [hy])) (h.step hb (hl q (by simp)).1 (hl q (by simp)).2.1 (hl q (by simp)).2.2.1 (hl q (by simp)).2.2.2)
theorem ppre_rg {b : Bd} {d : Int} (hd : d ≤ b.next.length) : ∀ q, q ∈ b.ppre d → 0 ≤ q.1 ∧ q.1 < b.next.length ∧ 0 ≤ q.2 ∧ q.2 < b.cells := fun q hq => by
  obtain ⟨e, he, h⟩ := List.mem_flatMap.1 hq
  obtain ⟨c, hc, rfl⟩ := List.mem_map.1 h
  have := mem_ints.1 he
  have := mem_ints.1 hc
  simp only; omega
theorem prow_rg {b : Bd} {d c : Int} (h0 : 0 ≤ d) (hd : d < b.next.length) (hc : c ≤ b.cells) : ∀ q, q ∈ b.prow d c → 0 ≤ q.1 ∧ q.1 < b.next.length ∧ 0 ≤ q.2 ∧ q.2 < b.cells := fun q hq => by
  obtain ⟨e, he, rfl⟩ := List.mem_map.1 hq
  have := mem_ints.1 he
  simp only; omega

structure PS where
  k : Nat
  out : List Int
  ch : Bool
structure PartsI (b : Bd) (p : PS) : Prop where
  len : (p.out.length : Int) = b.cells
  nn : ∀ i : Int, 0 ≤ i → i < b.cells → 0 ≤ nth p.out i
  fuel : p.ch = true → sumN p.out + 1 ≤ p.k
  eq : b.partsR p.k p.out p.ch = b.parts
theorem sumN_ints_le : ∀ n : Nat, n ≤ 64 → sumN (ints n) ≤ 4096 := by decide
theorem PartsI.zero {b : Bd} (hb : b.ok) : PartsI b ⟨5000, ints b.cells, true⟩ := by
  have c1 := hb.c1
  have c6 := hb.c64
  refine ⟨by simp only; rw [ints_len]; omega, fun i i0 i1 => by simp only; rw [nth_ints i0 i1]; exact i0, fun _ => ?_, rfl⟩
  have := sumN_ints_le b.cells.toNat (by omega)
  rw [show ((b.cells.toNat : Nat) : Int) = b.cells by omega] at this
  simp only; omega
theorem PartsI.next {b : Bd} (hb : b.ok) {p : PS} (h : PartsI b p) (hc : p.ch = true) : ∃ k', p.k = k' + 1 ∧ PartsI b ⟨k', (b.pass p.out).1, (b.pass p.out).2⟩ := by
  have hf := h.fuel hc
  obtain ⟨k', hk⟩ : ∃ k', p.k = k' + 1 := ⟨p.k - 1, by omega⟩
  have hI : PI b p.out (b.pass p.out) := PI.fold hb (ppre_rg (Int.le_refl _)) ⟨h.len, h.nn, by simp⟩
  refine ⟨k', hk, hI.len, hI.nn, fun hch => ?_, ?_⟩
  · have := hI.sum
    simp only at hch
    rw [if_pos hch] at this
    simp only; omega
  · rw [← h.eq, hk, hc]
    simp [Bd.partsR]
theorem PartsI.done {b : Bd} {p : PS} (h : PartsI b p) (hc : p.ch = false) : p.out = b.parts := by
  rw [← h.eq, hc]
  cases p.k with
  | zero => rfl
  | succ k => simp [Bd.partsR]

set_option maxHeartbeats 4000000 in
set_option maxRecDepth 10000 in
theorem Parts31_p (b : Bd) (hb : b.ok) : Pure Try.prog 31 [b.av] (.ref 0) (some (.arr 1 (b.parts.map I))) := by
  refine fun_of tok D_ok Try.func31 rfl Try.ntmps31 Try.results31 (by kernel_rfl) (by simp) (by simp) ?_
  have c6 := hb.c64
  have c1 := hb.c1
  have n8 := hb.n8
  have e1 : b.next.length = (b.next.map Is).length := by simp
  conv => whnf
  refine .of (fun c => [(4, I c), (3, .ref 1)]) (fun c => [(1, .arr 1 ((ints c).map I))]) 2 (fun c => 0 ≤ c ∧ c ≤ b.cells) (fun c => (b.cells - c).toNat) 0 ?_
  conv => whnf
  refine ⟨⟨[], (by kernel_rfl), (by kernel_rfl), (by kernel_rfl), ?_, ?_⟩, ?_, fun c ⟨h0, h1⟩ => ?_⟩
  rotate_left 1
  focus
    conv => whnf
    repeat' (first
      | exact trivial
      | with_reducible rfl
      | (refine srcI ?_; kernel_rfl)
      | (refine nsI ?_; kernel_rfl)
      | (refine And.intro ?_ ?_ <;> conv => whnf; try dsimp only [St.after, St.afterAt, initSt, initT, numO, cellsA, Option.map, ren, renL, renO, St.setObj, headSt, List.cons_append, List.nil_append, List.length_nil])
      | rfl)
  rotate_right 1
  focus
    conv => whnf
    repeat' (first
      | exact trivial
      | with_reducible rfl
      | (refine srcI ?_; kernel_rfl)
      | (refine nsI ?_; kernel_rfl)
      | (refine And.intro ?_ ?_ <;> conv => whnf; try dsimp only [St.after, St.afterAt, initSt, initT, numO, cellsA, Option.map, ren, renL, renO, St.setObj, headSt, List.cons_append, List.nil_append, List.length_nil])
      | rfl)
  rotate_right 1
  focus
    conv => whnf
  rotate_left 1
  · exact ⟨by omega, by omega⟩
  have hl := ints_len c
  repeat' ((first
    | (refine ifD (fun _ => ?_) (fun _ => ?_))
    | (refine ifE (fun _ => ?_) (fun _ => ?_))
    | (refine ifN (fun _ => ?_) (fun _ => ?_))
    | ((with_reducible refine ifNot ?_))
    | ((with_reducible refine ifAndD (fun _ _ => ?_) (fun _ => ?_)))
    | ((with_reducible refine ifAnd (fun _ _ => ?_) (fun _ => ?_)))
    | (refine ixM (by omega) (by first | omega | (simp only [List.length_set, List.length_map, List.length_append, List.length_cons, List.length_nil, List.length_replicate]; omega)) rfl ?_)
    | (refine ixA (by omega) (by first | omega | (simp only [List.length_set, List.length_map, List.length_append, List.length_cons, List.length_nil, List.length_replicate]; omega)) ?_)
    | (refine ltM (by omega) (by first | omega | (simp only [List.length_set, List.length_map, List.length_append, List.length_cons, List.length_nil, List.length_replicate]; omega)) ?_)
    | (refine calI (by omega) ?_)
    | (refine cu8 (by omega) ?_)
    | (refine cu64 (by omega) ?_)
    | (refine And.intro (by omega) ?_; refine crem (by omega) ?_)
    | (refine And.intro (by omega) ?_; refine cquo (by omega) ?_)
    | ((with_reducible refine preI ?_); (first | refine preNil ?_ | refine preOp rfl rfl ?_ | refine preT rfl rfl rfl rfl ?_ | refine preF rfl rfl rfl rfl ?_ | refine preTS rfl rfl rfl rfl ?_ | refine preFS rfl rfl rfl rfl ?_ | refine preSkip rfl rfl rfl rfl ?_ | refine preGT rfl rfl rfl rfl ?_ | refine preGF rfl rfl rfl rfl ?_))
    | ((first | refine drawA (by decide +kernel) ?_ | refine drawA2 (by kernel_rfl) ?_); conv => whnf; (try dsimp only [St.after, St.afterAt, initSt, initT, numO, cellsA, Option.map, ren, renL, renO, St.setObj, headSt, List.cons_append, List.nil_append, List.length_nil]); try (conv => enter [7, 3]; whnf))
    | (refine ap1 (by decide) (by omega) rfl rfl ?_)
    | (refine ap0 (by decide) rfl ?_)
    | (refine apL (by decide) (by omega) (fun _ => rfl) ?_)
    | (refine apM (by decide) (by omega) (fun _ => rfl) ?_)
    | (refine setI (z := _) rfl ?_)
    | (refine And.intro (by omega) (And.intro (by omega) ?_))
    | (refine ifB_intro (fun _ => ?_) (fun _ => ?_))) <;> (conv => whnf; try dsimp only [St.after, St.afterAt, initSt, initT, numO, cellsA, Option.map, ren, renL, renO, St.setObj, headSt, List.cons_append, List.nil_append, List.length_nil]))
  · refine ⟨c + 1, ⟨[], (by kernel_rfl), (by kernel_rfl), (by kernel_rfl), ?_, ?_⟩, ?_, by (try dsimp only); omega, rfl⟩
    rotate_left 1
    focus
      conv => whnf
      repeat' (first
        | exact trivial
        | with_reducible rfl
        | (refine srcI ?_; kernel_rfl)
        | (refine nsI ?_; kernel_rfl)
        | (refine And.intro ?_ ?_ <;> conv => whnf; try dsimp only [St.after, St.afterAt, initSt, initT, numO, cellsA, Option.map, ren, renL, renO, St.setObj, headSt, List.cons_append, List.nil_append, List.length_nil]))
    rotate_right 1
    focus
      conv => whnf
      repeat' (first
        | exact trivial
        | with_reducible rfl
        | (refine srcI ?_; kernel_rfl)
        | (refine nsI ?_; kernel_rfl)
        | (refine And.intro ?_ ?_ <;> conv => whnf; try dsimp only [St.after, St.afterAt, initSt, initT, numO, cellsA, Option.map, ren, renL, renO, St.setObj, headSt, List.cons_append, List.nil_append, List.length_nil]))
    · rw [ints_succ h0]
    · exact ⟨by omega, by omega⟩
  obtain rfl : c = b.cells := by omega
  refine .of (fun p => [(5, Bo p.ch)]) (fun p => [(1, .arr 1 (p.out.map I))]) 2 (fun p => PartsI b p) (fun p => p.k) (⟨5000, ints b.cells, true⟩ : PS) ?_
  conv => whnf
  refine ⟨⟨[], (by kernel_rfl), (by kernel_rfl), (by kernel_rfl), ?_, ?_⟩, ?_, fun p hp => ?_⟩
  rotate_left 1
  focus
    conv => whnf
    repeat' (first
      | exact trivial
      | with_reducible rfl
      | (refine srcI ?_; kernel_rfl)
      | (refine nsI ?_; kernel_rfl)
      | (refine And.intro ?_ ?_ <;> conv => whnf; try dsimp only [St.after, St.afterAt, initSt, initT, numO, cellsA, Option.map, ren, renL, renO, St.setObj, headSt, List.cons_append, List.nil_append, List.length_nil])
      | rfl)
  rotate_right 1
  focus
    conv => whnf
    repeat' (first
      | exact trivial
      | with_reducible rfl
      | (refine srcI ?_; kernel_rfl)
      | (refine nsI ?_; kernel_rfl)
      | (refine And.intro ?_ ?_ <;> conv => whnf; try dsimp only [St.after, St.afterAt, initSt, initT, numO, cellsA, Option.map, ren, renL, renO, St.setObj, headSt, List.cons_append, List.nil_append, List.length_nil])
      | rfl)
  rotate_right 1
  focus
    conv => whnf
  rotate_left 1
  · exact PartsI.zero hb
  have ol := hp.len
  repeat' ((first
    | (refine ifD (fun _ => ?_) (fun _ => ?_))
    | (refine ifE (fun _ => ?_) (fun _ => ?_))
    | (refine ifN (fun _ => ?_) (fun _ => ?_))
    | ((with_reducible refine ifNot ?_))
    | ((with_reducible refine ifAndD (fun _ _ => ?_) (fun _ => ?_)))
    | ((with_reducible refine ifAnd (fun _ _ => ?_) (fun _ => ?_)))
    | (refine ixM (by omega) (by first | omega | (simp only [List.length_set, List.length_map, List.length_append, List.length_cons, List.length_nil, List.length_replicate]; omega)) rfl ?_)
    | (refine ixA (by omega) (by first | omega | (simp only [List.length_set, List.length_map, List.length_append, List.length_cons, List.length_nil, List.length_replicate]; omega)) ?_)
    | (refine ltM (by omega) (by first | omega | (simp only [List.length_set, List.length_map, List.length_append, List.length_cons, List.length_nil, List.length_replicate]; omega)) ?_)
    | (refine calI (by omega) ?_)
    | (refine cu8 (by omega) ?_)
    | (refine cu64 (by omega) ?_)
    | (refine And.intro (by omega) ?_; refine crem (by omega) ?_)
    | (refine And.intro (by omega) ?_; refine cquo (by omega) ?_)
    | ((with_reducible refine preI ?_); (first | refine preNil ?_ | refine preOp rfl rfl ?_ | refine preT rfl rfl rfl rfl ?_ | refine preF rfl rfl rfl rfl ?_ | refine preTS rfl rfl rfl rfl ?_ | refine preFS rfl rfl rfl rfl ?_ | refine preSkip rfl rfl rfl rfl ?_ | refine preGT rfl rfl rfl rfl ?_ | refine preGF rfl rfl rfl rfl ?_))
    | ((first | refine drawA (by decide +kernel) ?_ | refine drawA2 (by kernel_rfl) ?_); conv => whnf; (try dsimp only [St.after, St.afterAt, initSt, initT, numO, cellsA, Option.map, ren, renL, renO, St.setObj, headSt, List.cons_append, List.nil_append, List.length_nil]); try (conv => enter [7, 3]; whnf))
    | (refine ap1 (by decide) (by omega) rfl rfl ?_)
    | (refine ap0 (by decide) rfl ?_)
    | (refine apL (by decide) (by omega) (fun _ => rfl) ?_)
    | (refine apM (by decide) (by omega) (fun _ => rfl) ?_)
    | (refine setI (z := _) rfl ?_)
    | (refine And.intro (by omega) (And.intro (by omega) ?_))
    | (refine ifB_intro (fun _ => ?_) (fun _ => ?_))) <;> (conv => whnf; try dsimp only [St.after, St.afterAt, initSt, initT, numO, cellsA, Option.map, ren, renL, renO, St.setObj, headSt, List.cons_append, List.nil_append, List.length_nil]))
  · rename_i hc
    obtain ⟨k', hk, hnx⟩ := hp.next hb hc
    refine .of (fun d => [(6, I d), (5, Bo ((b.ppre d).foldl b.pstep (p.out, false)).2)]) (fun d => [(1, .arr 1 (((b.ppre d).foldl b.pstep (p.out, false)).1.map I))]) 2 (fun d => 0 ≤ d ∧ d ≤ b.next.length) (fun d => (b.next.length - d).toNat) 0 ?_
    conv => whnf
    refine ⟨⟨[], (by kernel_rfl), (by kernel_rfl), (by kernel_rfl), ?_, ?_⟩, ?_, fun d ⟨d0, d1⟩ => ?_⟩
    rotate_left 1
    focus
      conv => whnf
      repeat' (first
        | exact trivial
        | with_reducible rfl
        | (refine srcI ?_; kernel_rfl)
        | (refine nsI ?_; kernel_rfl)
        | (refine And.intro ?_ ?_ <;> conv => whnf; try dsimp only [St.after, St.afterAt, initSt, initT, numO, cellsA, Option.map, ren, renL, renO, St.setObj, headSt, List.cons_append, List.nil_append, List.length_nil])
        | rfl)
    rotate_right 1
    focus
      conv => whnf
      repeat' (first
        | exact trivial
        | with_reducible rfl
        | (refine srcI ?_; kernel_rfl)
        | (refine nsI ?_; kernel_rfl)
        | (refine And.intro ?_ ?_ <;> conv => whnf; try dsimp only [St.after, St.afterAt, initSt, initT, numO, cellsA, Option.map, ren, renL, renO, St.setObj, headSt, List.cons_append, List.nil_append, List.length_nil])
        | rfl)
    rotate_right 1
    focus
      conv => whnf
    rotate_left 1
    · exact ⟨by omega, by omega⟩
    have hll := hb.ll d d0
    repeat' ((first
      | (refine ifD (fun _ => ?_) (fun _ => ?_))
      | (refine ifE (fun _ => ?_) (fun _ => ?_))
      | (refine ifN (fun _ => ?_) (fun _ => ?_))
      | ((with_reducible refine ifNot ?_))
      | ((with_reducible refine ifAndD (fun _ _ => ?_) (fun _ => ?_)))
      | ((with_reducible refine ifAnd (fun _ _ => ?_) (fun _ => ?_)))
      | (refine ixM (by omega) (by first | omega | (simp only [List.length_set, List.length_map, List.length_append, List.length_cons, List.length_nil, List.length_replicate]; omega)) rfl ?_)
      | (refine ixA (by omega) (by first | omega | (simp only [List.length_set, List.length_map, List.length_append, List.length_cons, List.length_nil, List.length_replicate]; omega)) ?_)
      | (refine ltM (by omega) (by first | omega | (simp only [List.length_set, List.length_map, List.length_append, List.length_cons, List.length_nil, List.length_replicate]; omega)) ?_)
      | (refine calI (by omega) ?_)
      | (refine cu8 (by omega) ?_)
      | (refine cu64 (by omega) ?_)
      | (refine And.intro (by omega) ?_; refine crem (by omega) ?_)
      | (refine And.intro (by omega) ?_; refine cquo (by omega) ?_)
      | ((with_reducible refine preI ?_); (first | refine preNil ?_ | refine preOp rfl rfl ?_ | refine preT rfl rfl rfl rfl ?_ | refine preF rfl rfl rfl rfl ?_ | refine preTS rfl rfl rfl rfl ?_ | refine preFS rfl rfl rfl rfl ?_ | refine preSkip rfl rfl rfl rfl ?_ | refine preGT rfl rfl rfl rfl ?_ | refine preGF rfl rfl rfl rfl ?_))
      | ((first | refine drawA (by decide +kernel) ?_ | refine drawA2 (by kernel_rfl) ?_); conv => whnf; (try dsimp only [St.after, St.afterAt, initSt, initT, numO, cellsA, Option.map, ren, renL, renO, St.setObj, headSt, List.cons_append, List.nil_append, List.length_nil]); try (conv => enter [7, 3]; whnf))
      | (refine ap1 (by decide) (by omega) rfl rfl ?_)
      | (refine ap0 (by decide) rfl ?_)
      | (refine apL (by decide) (by omega) (fun _ => rfl) ?_)
      | (refine apM (by decide) (by omega) (fun _ => rfl) ?_)
      | (refine setI (z := _) rfl ?_)
      | (refine And.intro (by omega) (And.intro (by omega) ?_))
      | (refine ifB_intro (fun _ => ?_) (fun _ => ?_))) <;> (conv => whnf; try dsimp only [St.after, St.afterAt, initSt, initT, numO, cellsA, Option.map, ren, renL, renO, St.setObj, headSt, List.cons_append, List.nil_append, List.length_nil]))
    ·
      refine .of (fun c => [(7, I c), (5, Bo ((b.ppre d ++ b.prow d c).foldl b.pstep (p.out, false)).2)]) (fun c => [(1, .arr 1 (((b.ppre d ++ b.prow d c).foldl b.pstep (p.out, false)).1.map I))]) 2 (fun c => 0 ≤ c ∧ c ≤ b.cells) (fun c => (b.cells - c).toNat) 0 ?_
      conv => whnf
      refine ⟨⟨[], (by kernel_rfl), (by kernel_rfl), (by kernel_rfl), ?_, ?_⟩, ?_, fun c ⟨j0, j1⟩ => ?_⟩
      rotate_left 1
      focus
        conv => whnf
        repeat' (first
          | exact trivial
          | with_reducible rfl
          | (refine srcI ?_; kernel_rfl)
          | (refine nsI ?_; kernel_rfl)
          | (refine And.intro ?_ ?_ <;> conv => whnf; try dsimp only [St.after, St.afterAt, initSt, initT, numO, cellsA, Option.map, ren, renL, renO, St.setObj, headSt, List.cons_append, List.nil_append, List.length_nil])
          | rfl)
      rotate_right 1
      focus
        conv => whnf
        repeat' (first
          | exact trivial
          | with_reducible rfl
          | (refine srcI ?_; kernel_rfl)
          | (refine nsI ?_; kernel_rfl)
          | (refine And.intro ?_ ?_ <;> conv => whnf; try dsimp only [St.after, St.afterAt, initSt, initT, numO, cellsA, Option.map, ren, renL, renO, St.setObj, headSt, List.cons_append, List.nil_append, List.length_nil])
          | rfl)
      rotate_right 1
      focus
        conv => whnf
      rotate_left 1
      iterate 2
        · rw [show b.prow d 0 = [] from rfl, List.append_nil]
      · exact ⟨by omega, by omega⟩
      rename_i hdl
      have hdl' : d < b.next.length := by omega
      have hI : PI b p.out ((b.ppre d ++ b.prow d c).foldl b.pstep (p.out, false)) := PI.fold hb (fun q hq => by
        rcases List.mem_append.1 hq with hq | hq
        · exact ppre_rg d1 q hq
        · exact prow_rg d0 hdl' j1 q hq) ⟨ol, hp.nn, by simp⟩
      have hlen := hI.len
      have hx := hb.lx d c d0 hdl' j0
      have hsucc : (b.ppre d ++ b.prow d (c + 1)).foldl b.pstep (p.out, false) = b.pstep ((b.ppre d ++ b.prow d c).foldl b.pstep (p.out, false)) (d, c) := by
        unfold Bd.prow
        rw [map_ints_succ j0, ← List.append_assoc, List.foldl_append]; rfl
      generalize hs : (b.ppre d ++ b.prow d c).foldl b.pstep (p.out, false) = s at *
      have hnx' : b.nx d c = nth (nth b.next d) c := rfl
      rw [hnx'] at hx
      repeat' ((first
        | (refine ifD (fun _ => ?_) (fun _ => ?_))
        | (refine ifE (fun _ => ?_) (fun _ => ?_))
        | (refine ifN (fun _ => ?_) (fun _ => ?_))
        | ((with_reducible refine ifNot ?_))
        | ((with_reducible refine ifAndD (fun _ _ => ?_) (fun _ => ?_)))
        | ((with_reducible refine ifAnd (fun _ _ => ?_) (fun _ => ?_)))
        | (refine ixM (by omega) (by first | omega | (simp only [List.length_set, List.length_map, List.length_append, List.length_cons, List.length_nil, List.length_replicate]; omega)) rfl ?_)
        | (refine ixA (by omega) (by first | omega | (simp only [List.length_set, List.length_map, List.length_append, List.length_cons, List.length_nil, List.length_replicate]; omega)) ?_)
        | (refine ltM (by omega) (by first | omega | (simp only [List.length_set, List.length_map, List.length_append, List.length_cons, List.length_nil, List.length_replicate]; omega)) ?_)
        | (refine calI (by omega) ?_)
        | (refine cu8 (by omega) ?_)
        | (refine cu64 (by omega) ?_)
        | (refine And.intro (by omega) ?_; refine crem (by omega) ?_)
        | (refine And.intro (by omega) ?_; refine cquo (by omega) ?_)
        | ((with_reducible refine preI ?_); (first | refine preNil ?_ | refine preOp rfl rfl ?_ | refine preT rfl rfl rfl rfl ?_ | refine preF rfl rfl rfl rfl ?_ | refine preTS rfl rfl rfl rfl ?_ | refine preFS rfl rfl rfl rfl ?_ | refine preSkip rfl rfl rfl rfl ?_ | refine preGT rfl rfl rfl rfl ?_ | refine preGF rfl rfl rfl rfl ?_))
        | ((first | refine drawA (by decide +kernel) ?_ | refine drawA2 (by kernel_rfl) ?_); conv => whnf; (try dsimp only [St.after, St.afterAt, initSt, initT, numO, cellsA, Option.map, ren, renL, renO, St.setObj, headSt, List.cons_append, List.nil_append, List.length_nil]); try (conv => enter [7, 3]; whnf))
        | (refine ap1 (by decide) (by omega) rfl rfl ?_)
        | (refine ap0 (by decide) rfl ?_)
        | (refine apL (by decide) (by omega) (fun _ => rfl) ?_)
        | (refine apM (by decide) (by omega) (fun _ => rfl) ?_)
        | (refine setI (z := _) rfl ?_)
        | (refine And.intro (by omega) (And.intro (by omega) ?_))
        | (refine ifB_intro (fun _ => ?_) (fun _ => ?_))) <;> (conv => whnf; try dsimp only [St.after, St.afterAt, initSt, initT, numO, cellsA, Option.map, ren, renL, renO, St.setObj, headSt, List.cons_append, List.nil_append, List.length_nil]))
      iterate 2
        · rename_i q2
          have he : b.pstep s (d, c) = s := if_pos (by rw [show b.nx (d, c).1 (d, c).2 = nth (nth b.next d) c from rfl]; first | exact .inl q2 | exact .inr q2)
          refine ⟨c + 1, ⟨[], (by kernel_rfl), (by kernel_rfl), (by kernel_rfl), ?_, ?_⟩, ?_, by (try dsimp only); omega, rfl⟩
          rotate_left 1
          focus
            conv => whnf
            repeat' (first
              | exact trivial
              | with_reducible rfl
              | (refine srcI ?_; kernel_rfl)
              | (refine nsI ?_; kernel_rfl)
              | (refine And.intro ?_ ?_ <;> conv => whnf; try dsimp only [St.after, St.afterAt, initSt, initT, numO, cellsA, Option.map, ren, renL, renO, St.setObj, headSt, List.cons_append, List.nil_append, List.length_nil]))
          rotate_right 1
          focus
            conv => whnf
            repeat' (first
              | exact trivial
              | with_reducible rfl
              | (refine srcI ?_; kernel_rfl)
              | (refine nsI ?_; kernel_rfl)
              | (refine And.intro ?_ ?_ <;> conv => whnf; try dsimp only [St.after, St.afterAt, initSt, initT, numO, cellsA, Option.map, ren, renL, renO, St.setObj, headSt, List.cons_append, List.nil_append, List.length_nil]))
          · rw [hsucc, he]
          · rw [hsucc, he]
          · exact ⟨by omega, by omega⟩
      · rename_i q1 q2 q3
        have hm : (if nth s.1 c < nth s.1 (nth (nth b.next d) c) then nth s.1 c else nth s.1 (nth (nth b.next d) c)) = min (nth s.1 (nth (nth b.next d) c)) (nth s.1 c) := by
          split <;> omega
        have he : b.pstep s (d, c) = ((s.1.set (nth (nth b.next d) c).toNat (min (nth s.1 (nth (nth b.next d) c)) (nth s.1 c))).set c.toNat (min (nth s.1 (nth (nth b.next d) c)) (nth s.1 c)), true) := if_neg (fun h => h.elim q2 q3)
        refine ⟨c + 1, ⟨[], (by kernel_rfl), (by kernel_rfl), (by kernel_rfl), ?_, ?_⟩, ?_, by (try dsimp only); omega, rfl⟩
        rotate_left 1
        focus
          conv => whnf
          repeat' (first
            | exact trivial
            | with_reducible rfl
            | (refine srcI ?_; kernel_rfl)
            | (refine nsI ?_; kernel_rfl)
            | (refine And.intro ?_ ?_ <;> conv => whnf; try dsimp only [St.after, St.afterAt, initSt, initT, numO, cellsA, Option.map, ren, renL, renO, St.setObj, headSt, List.cons_append, List.nil_append, List.length_nil]))
        rotate_right 1
        focus
          conv => whnf
          repeat' (first
            | exact trivial
            | with_reducible rfl
            | (refine srcI ?_; kernel_rfl)
            | (refine nsI ?_; kernel_rfl)
            | (refine And.intro ?_ ?_ <;> conv => whnf; try dsimp only [St.after, St.afterAt, initSt, initT, numO, cellsA, Option.map, ren, renL, renO, St.setObj, headSt, List.cons_append, List.nil_append, List.length_nil]))
        · rw [hsucc, he]
        · rw [hsucc, he, ← hm]
        · exact ⟨by omega, by omega⟩
      · have hs' : (b.ppre (d + 1)).foldl b.pstep (p.out, false) = s := by
          rw [← hs, show c = b.cells by omega]
          unfold Bd.ppre
          rw [ints_succ d0, List.flatMap_append]
          simp
        refine ⟨d + 1, ⟨[], (by kernel_rfl), (by kernel_rfl), (by kernel_rfl), ?_, ?_⟩, ?_, by (try dsimp only); omega, rfl⟩
        rotate_left 1
        focus
          conv => whnf
          repeat' (first
            | exact trivial
            | with_reducible rfl
            | (refine srcI ?_; kernel_rfl)
            | (refine nsI ?_; kernel_rfl)
            | (refine And.intro ?_ ?_ <;> conv => whnf; try dsimp only [St.after, St.afterAt, initSt, initT, numO, cellsA, Option.map, ren, renL, renO, St.setObj, headSt, List.cons_append, List.nil_append, List.length_nil]))
        rotate_right 1
        focus
          conv => whnf
          repeat' (first
            | exact trivial
            | with_reducible rfl
            | (refine srcI ?_; kernel_rfl)
            | (refine nsI ?_; kernel_rfl)
            | (refine And.intro ?_ ?_ <;> conv => whnf; try dsimp only [St.after, St.afterAt, initSt, initT, numO, cellsA, Option.map, ren, renL, renO, St.setObj, headSt, List.cons_append, List.nil_append, List.length_nil]))
        · rw [hs']
        · rw [hs']
        · exact ⟨by omega, by omega⟩
    · rw [show d = b.next.length by omega]
      refine ⟨(⟨k', (b.pass p.out).1, (b.pass p.out).2⟩ : PS), ⟨[], (by kernel_rfl), (by kernel_rfl), (by kernel_rfl), ?_, ?_⟩, ?_, by (try dsimp only); omega, rfl⟩
      rotate_left 1
      focus
        conv => whnf
        repeat' (first
          | exact trivial
          | with_reducible rfl
          | (refine srcI ?_; kernel_rfl)
          | (refine nsI ?_; kernel_rfl)
          | (refine And.intro ?_ ?_ <;> conv => whnf; try dsimp only [St.after, St.afterAt, initSt, initT, numO, cellsA, Option.map, ren, renL, renO, St.setObj, headSt, List.cons_append, List.nil_append, List.length_nil]))
      rotate_right 1
      focus
        conv => whnf
        repeat' (first
          | exact trivial
          | with_reducible rfl
          | (refine srcI ?_; kernel_rfl)
          | (refine nsI ?_; kernel_rfl)
          | (refine And.intro ?_ ?_ <;> conv => whnf; try dsimp only [St.after, St.afterAt, initSt, initT, numO, cellsA, Option.map, ren, renL, renO, St.setObj, headSt, List.cons_append, List.nil_append, List.length_nil]))
      · rfl
      · rfl
      · exact hnx
  · rename_i hc
    repeat' ((first
      | (refine ifD (fun _ => ?_) (fun _ => ?_))
      | (refine ifE (fun _ => ?_) (fun _ => ?_))
      | (refine ifN (fun _ => ?_) (fun _ => ?_))
      | ((with_reducible refine ifNot ?_))
      | ((with_reducible refine ifAndD (fun _ _ => ?_) (fun _ => ?_)))
      | ((with_reducible refine ifAnd (fun _ _ => ?_) (fun _ => ?_)))
      | (refine ixM (by omega) (by first | omega | (simp only [List.length_set, List.length_map, List.length_append, List.length_cons, List.length_nil, List.length_replicate]; omega)) rfl ?_)
      | (refine ixA (by omega) (by first | omega | (simp only [List.length_set, List.length_map, List.length_append, List.length_cons, List.length_nil, List.length_replicate]; omega)) ?_)
      | (refine ltM (by omega) (by first | omega | (simp only [List.length_set, List.length_map, List.length_append, List.length_cons, List.length_nil, List.length_replicate]; omega)) ?_)
      | (refine calI (by omega) ?_)
      | (refine cu8 (by omega) ?_)
      | (refine cu64 (by omega) ?_)
      | (refine And.intro (by omega) ?_; refine crem (by omega) ?_)
      | (refine And.intro (by omega) ?_; refine cquo (by omega) ?_)
      | ((with_reducible refine preI ?_); (first | refine preNil ?_ | refine preOp rfl rfl ?_ | refine preT rfl rfl rfl rfl ?_ | refine preF rfl rfl rfl rfl ?_ | refine preTS rfl rfl rfl rfl ?_ | refine preFS rfl rfl rfl rfl ?_ | refine preSkip rfl rfl rfl rfl ?_ | refine preGT rfl rfl rfl rfl ?_ | refine preGF rfl rfl rfl rfl ?_))
      | ((first | refine drawA (by decide +kernel) ?_ | refine drawA2 (by kernel_rfl) ?_); conv => whnf; (try dsimp only [St.after, St.afterAt, initSt, initT, numO, cellsA, Option.map, ren, renL, renO, St.setObj, headSt, List.cons_append, List.nil_append, List.length_nil]); try (conv => enter [7, 3]; whnf))
      | (refine ap1 (by decide) (by omega) rfl rfl ?_)
      | (refine ap0 (by decide) rfl ?_)
      | (refine apL (by decide) (by omega) (fun _ => rfl) ?_)
      | (refine apM (by decide) (by omega) (fun _ => rfl) ?_)
      | (refine setI (z := _) rfl ?_)
      | (refine And.intro (by omega) (And.intro (by omega) ?_))
      | (refine ifB_intro (fun _ => ?_) (fun _ => ?_))
      | (refine exitA (by kernel_rfl) (by kernel_rfl) ⟨?_, trivial⟩ ?_ <;> (conv => whnf) <;> repeat' (first | exact trivial | with_reducible rfl | (refine srcI ?_; kernel_rfl) | (refine nsI ?_; kernel_rfl) | (refine And.intro ?_ ?_ <;> conv => whnf; try dsimp only [St.after, St.afterAt, initSt, initT, numO, cellsA, Option.map, ren, renL, renO, St.setObj, headSt, List.cons_append, List.nil_append, List.length_nil])))) <;> (conv => whnf; try dsimp only [St.after, St.afterAt, initSt, initT, numO, cellsA, Option.map, ren, renL, renO, St.setObj, headSt, List.cons_append, List.nil_append, List.length_nil]))
    rw [hp.done hc]
end Go.Proofs.Ytkecpgidolphfaa
