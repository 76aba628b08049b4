/- Contracts of functions of the program, proved by the checker. -/
import Derived.Test.YtkecpgidolphfaaBsb
import Derived.Test.YtkecpgidolphfaaBi
namespace Go.Proofs.Ytkecpgidolphfaa
set_option linter.unusedVariables false
set_option linter.unusedSimpArgs false
open Go Go.Sk

theorem mem_compact {l : List Int} {x : Int} : x ∈ Lib.compact l ↔ x ∈ l := by
  unfold Lib.compact Lib.compactUpTo
  simp only [List.mem_map, List.mem_filter, List.mem_range]
  constructor
  · rintro ⟨j, ⟨h1, _⟩, rfl⟩
    have : l.toArray[j]! = l[j] := by simp [h1]
    rw [this]
    exact List.getElem_mem h1
  · intro hx
    obtain ⟨i, hi, he⟩ := List.mem_iff_getElem.1 hx
    have hex : ∃ j, j < l.length ∧ l.toArray[j]! = x := ⟨i, hi, by simp [hi, he]⟩
    obtain ⟨j, ⟨h1, h2⟩, hmin⟩ := exists_least hex
    refine ⟨j, ⟨h1, ?_⟩, h2⟩
    unfold Lib.keeps
    cases j with
    | zero => simp
    | succ j =>
      have : ¬ (l.toArray[j]! = x) := fun h => by have := hmin j ⟨by omega, h⟩; omega
      simp only [Bool.or_eq_true, decide_eq_true_eq, bne_iff_ne, ne_eq]
      right
      rw [h2]
      exact fun h => this h.symm
theorem compact_strict {l : List Int} (hl : l.Pairwise (· ≤ ·)) : (Lib.compact l).Pairwise (· < ·) := by
  unfold Lib.compact Lib.compactUpTo
  rw [List.pairwise_map, List.pairwise_filter]
  refine List.Pairwise.imp_of_mem ?_ (List.pairwise_lt_range (n := l.length))
  intro i j hi hj hij _ hk
  rw [List.mem_range] at hi hj
  have e : ∀ k, k < l.length → l.toArray[k]! = nth l k := fun k hk => by
    have := nth_some (l := l) (i := (k : Int)) (by omega) (by omega)
    rw [show ((k : Int)).toNat = k by omega, List.getElem?_eq_getElem hk] at this
    injection this with this
    simp [hk, this]
  unfold Lib.keeps at hk
  simp only [Bool.or_eq_true, decide_eq_true_eq, bne_iff_ne, ne_eq] at hk
  have h1 := sorted_nth hl (show (0 : Int) ≤ (i : Int) by omega) (show (i : Int) ≤ ((j - 1 : Nat) : Int) by omega) (by omega)
  have h2 := sorted_nth hl (show (0 : Int) ≤ ((j - 1 : Nat) : Int) by omega) (show ((j - 1 : Nat) : Int) ≤ (j : Int) by omega) (by omega)
  rcases hk with hk | hk
  · omega
  · rw [e j hj, e (j - 1) (by omega)] at hk
    rw [e i hi, e j hj]
    omega

set_option maxRecDepth 10000 in
theorem Sort_p (l : List Int) (hl : l.length ≤ 12) : Fun Try.prog 40 [.arr 1 (l.map I)] [.ref 0] (.tup []) [.arr 1 ((isort l).map I)] := by
  refine fun_of tok D_ok Try.func40 rfl Try.ntmps40 Try.results40 (by kernel_rfl) (by simp) (by simp) ?_
  have e : l.length = (l.map I).length := by simp
  conv => whnf
  repeat' ((first
    | (refine ifD (fun _ => ?_) (fun _ => ?_))
    | (refine ifE (fun _ => ?_) (fun _ => ?_))
    | (refine ifN (fun _ => ?_) (fun _ => ?_))
    | ((with_reducible refine ifNot ?_))
    | ((with_reducible refine ifAndD (fun _ _ => ?_) (fun _ => ?_)))
    | ((with_reducible refine ifAnd (fun _ _ => ?_) (fun _ => ?_)))
    | (refine ixM (by omega) (by first | omega | (simp only [List.length_set, List.length_map, List.length_append, List.length_cons, List.length_nil, List.length_replicate]; omega)) rfl ?_)
    | (refine ixA (by omega) (by first | omega | (simp only [List.length_set, List.length_map, List.length_append, List.length_cons, List.length_nil, List.length_replicate]; omega)) ?_)
    | (refine ltM (by omega) (by first | omega | (simp only [List.length_set, List.length_map, List.length_append, List.length_cons, List.length_nil, List.length_replicate]; omega)) ?_)
    | (refine calI (by omega) ?_)
    | (refine cu8 (by omega) ?_)
    | (refine cu64 (by omega) ?_)
    | (refine And.intro (by omega) ?_; refine crem (by omega) ?_)
    | (refine And.intro (by omega) ?_; refine cquo (by omega) ?_)
    | (refine ⟨_, _, Len_p _ (by omega) (by omega), ?_⟩)
    | (refine .inl ?_; (conv => whnf); refine ⟨_, _, Len_p _ (by omega) (by omega), ?_⟩)
    | ((with_reducible refine preI ?_); (first | refine preNil ?_ | refine preOp rfl rfl ?_ | refine preT rfl rfl rfl rfl ?_ | refine preF rfl rfl rfl rfl ?_ | refine preTS rfl rfl rfl rfl ?_ | refine preFS rfl rfl rfl rfl ?_ | refine preSkip rfl rfl rfl rfl ?_ | refine preGT rfl rfl rfl rfl ?_ | refine preGF rfl rfl rfl rfl ?_))
    | ((first | refine drawA (by decide +kernel) ?_ | refine drawA2 (by kernel_rfl) ?_); conv => whnf; (try dsimp only [St.after, St.afterAt, initSt, initT, numO, cellsA, Option.map, ren, renL, renO, St.setObj, headSt, List.cons_append, List.nil_append, List.length_nil]); try (conv => enter [7, 3]; whnf))
    | (refine ap1 (by decide) (by omega) rfl rfl ?_)
    | (refine ap0 (by decide) rfl ?_)
    | (refine apL (by decide) (by omega) (fun _ => rfl) ?_)
    | (refine apM (by decide) (by omega) (fun _ => rfl) ?_)
    | (refine setI (z := _) rfl ?_)
    | (refine And.intro (by omega) (And.intro (by omega) ?_))
    | (refine ifB_intro (fun _ => ?_) (fun _ => ?_))) <;> (conv => whnf; try dsimp only [St.after, St.afterAt, initSt, initT, numO, cellsA, Option.map, ren, renL, renO, St.setObj, headSt, List.cons_append, List.nil_append, List.length_nil]))
  refine .inr (.inr (.inl ?_))
  conv => whnf
  refine ⟨[0], _, [.ref 0, I 0, I ((l.map I).length), I _], _, _, ⟨rfl, rfl, rfl⟩, pdq_p l hl _ _ (by rw [List.length_map]), ?_⟩
  conv => whnf
  repeat' ((first
    | (refine ifD (fun _ => ?_) (fun _ => ?_))
    | (refine ifE (fun _ => ?_) (fun _ => ?_))
    | (refine ifN (fun _ => ?_) (fun _ => ?_))
    | ((with_reducible refine ifNot ?_))
    | ((with_reducible refine ifAndD (fun _ _ => ?_) (fun _ => ?_)))
    | ((with_reducible refine ifAnd (fun _ _ => ?_) (fun _ => ?_)))
    | (refine ixM (by omega) (by first | omega | (simp only [List.length_set, List.length_map, List.length_append, List.length_cons, List.length_nil, List.length_replicate]; omega)) rfl ?_)
    | (refine ixA (by omega) (by first | omega | (simp only [List.length_set, List.length_map, List.length_append, List.length_cons, List.length_nil, List.length_replicate]; omega)) ?_)
    | (refine ltM (by omega) (by first | omega | (simp only [List.length_set, List.length_map, List.length_append, List.length_cons, List.length_nil, List.length_replicate]; omega)) ?_)
    | (refine calI (by omega) ?_)
    | (refine cu8 (by omega) ?_)
    | (refine cu64 (by omega) ?_)
    | (refine And.intro (by omega) ?_; refine crem (by omega) ?_)
    | (refine And.intro (by omega) ?_; refine cquo (by omega) ?_)
    | ((with_reducible refine preI ?_); (first | refine preNil ?_ | refine preOp rfl rfl ?_ | refine preT rfl rfl rfl rfl ?_ | refine preF rfl rfl rfl rfl ?_ | refine preTS rfl rfl rfl rfl ?_ | refine preFS rfl rfl rfl rfl ?_ | refine preSkip rfl rfl rfl rfl ?_ | refine preGT rfl rfl rfl rfl ?_ | refine preGF rfl rfl rfl rfl ?_))
    | ((first | refine drawA (by decide +kernel) ?_ | refine drawA2 (by kernel_rfl) ?_); conv => whnf; (try dsimp only [St.after, St.afterAt, initSt, initT, numO, cellsA, Option.map, ren, renL, renO, St.setObj, headSt, List.cons_append, List.nil_append, List.length_nil]); try (conv => enter [7, 3]; whnf))
    | (refine ap1 (by decide) (by omega) rfl rfl ?_)
    | (refine ap0 (by decide) rfl ?_)
    | (refine apL (by decide) (by omega) (fun _ => rfl) ?_)
    | (refine apM (by decide) (by omega) (fun _ => rfl) ?_)
    | (refine setI (z := _) rfl ?_)
    | (refine And.intro (by omega) (And.intro (by omega) ?_))
    | (refine ifB_intro (fun _ => ?_) (fun _ => ?_))
    | (refine exitA (by kernel_rfl) (by kernel_rfl) ⟨?_, trivial⟩ ?_ <;> (conv => whnf) <;> repeat' (first | exact trivial | with_reducible rfl | (refine srcI ?_; kernel_rfl) | (refine nsI ?_; kernel_rfl) | (refine And.intro ?_ ?_ <;> conv => whnf; try dsimp only [St.after, St.afterAt, initSt, initT, numO, cellsA, Option.map, ren, renL, renO, St.setObj, headSt, List.cons_append, List.nil_append, List.length_nil])))) <;> (conv => whnf; try dsimp only [St.after, St.afterAt, initSt, initT, numO, cellsA, Option.map, ren, renL, renO, St.setObj, headSt, List.cons_append, List.nil_append, List.length_nil]))

/-- The cells one step away: sorted, each once. -/
def Bd.raw (b : Bd) (c k : Int) : List Int := (ints k).filterMap fun d => if 0 ≤ b.to 0 d c ∧ b.to 0 d c ≠ c then some (b.to 0 d c) else none
theorem Bd.raw_len (b : Bd) (c k : Int) : (b.raw c k).length ≤ k.toNat := by
  unfold Bd.raw
  exact Nat.le_trans (List.length_filterMap_le _ _) (by rw [ints_len]; omega)
theorem Bd.raw_succ (b : Bd) {c k : Int} (h : 0 ≤ k) : b.raw c (k + 1) = b.raw c k ++ (if 0 ≤ b.to 0 k c ∧ b.to 0 k c ≠ c then [b.to 0 k c] else []) := by
  unfold Bd.raw
  rw [ints_succ h, List.filterMap_append]
  congr 1
  simp only [List.filterMap_cons, List.filterMap_nil]
  by_cases h : 0 ≤ b.to 0 k c ∧ b.to 0 k c ≠ c
  · rw [if_pos h, if_pos h]
  · rw [if_neg h, if_neg h]
theorem Bd.to_lt {b : Bd} (hb : b.ok) (s d c : Int) : -1 ≤ b.to s d c ∧ b.to s d c < b.cells := by
  have := hb.c1
  unfold Bd.to
  split
  · omega
  · rename_i h
    split
    · have q := hb.t0 d (by omega) (by omega)
      exact hb.lx _ _ q.1 q.2.1 (by omega) (by omega)
    · exact hb.lx _ _ (by omega) (by omega) (by omega) (by omega)
theorem Bd.near_eq {b : Bd} (hb : b.ok) (c : Int) : Lib.compact (isort (b.raw c b.next.length)) = b.near c := by
  refine strict_eq (compact_strict (isort_sorted _)) ?_ fun x => ?_
  · exact (ints_sorted _).filter _
  · rw [mem_compact, mem_isort]
    unfold Bd.raw Bd.near Bd.step
    simp only [List.mem_filterMap, List.mem_filter, mem_ints, List.any_eq_true, Bool.and_eq_true, bne_iff_ne, beq_iff_eq]
    constructor
    · rintro ⟨d, hd, h⟩
      split at h
      · rename_i h'
        injection h with h
        subst h
        exact ⟨⟨h'.1, (b.to_lt hb 0 d c).2⟩, h'.2, d, hd, rfl⟩
      · cases h
    · rintro ⟨⟨h1, h2⟩, h3, d, hd, rfl⟩
      exact ⟨d, hd, if_pos ⟨h1, h3⟩⟩

set_option maxHeartbeats 4000000 in
set_option maxRecDepth 10000 in
theorem Near22_p (b : Bd) (hb : b.ok) (c : Int) : Pure Try.prog 22 [b.av, I c] (.ref 0) (some (.arr 1 ((b.near c).map I))) := by
  refine fun_of tok D_ok Try.func22 rfl Try.ntmps22 Try.results22 (by kernel_rfl) (by simp) (by simp) ?_
  have n8 := hb.n8
  have e1 : b.next.length = (b.next.map Is).length := by simp
  conv => whnf
  refine .of (fun d => [(11, I d), (5, .ref 1)]) (fun d => [(1, .arr 1 ((b.raw c d).map I))]) 2 (fun d => 0 ≤ d ∧ d ≤ b.next.length) (fun d => (b.next.length - d).toNat) 0 ?_
  conv => whnf
  refine ⟨⟨[], (by kernel_rfl), (by kernel_rfl), (by kernel_rfl), ?_, ?_⟩, ?_, fun d ⟨h0, h1⟩ => ?_⟩
  rotate_left 1
  focus
    conv => whnf
    repeat' (first
      | exact trivial
      | with_reducible rfl
      | (refine srcI ?_; kernel_rfl)
      | (refine nsI ?_; kernel_rfl)
      | (refine And.intro ?_ ?_ <;> conv => whnf; try dsimp only [St.after, St.afterAt, initSt, initT, numO, cellsA, Option.map, ren, renL, renO, St.setObj, headSt, List.cons_append, List.nil_append, List.length_nil])
      | rfl)
  rotate_right 1
  focus
    conv => whnf
    repeat' (first
      | exact trivial
      | with_reducible rfl
      | (refine srcI ?_; kernel_rfl)
      | (refine nsI ?_; kernel_rfl)
      | (refine And.intro ?_ ?_ <;> conv => whnf; try dsimp only [St.after, St.afterAt, initSt, initT, numO, cellsA, Option.map, ren, renL, renO, St.setObj, headSt, List.cons_append, List.nil_append, List.length_nil])
      | rfl)
  rotate_right 1
  focus
    conv => whnf
  rotate_left 1
  · exact ⟨by omega, by omega⟩
  have hrl := b.raw_len c d
  repeat' ((first
    | (refine ifD (fun _ => ?_) (fun _ => ?_))
    | (refine ifE (fun _ => ?_) (fun _ => ?_))
    | (refine ifN (fun _ => ?_) (fun _ => ?_))
    | ((with_reducible refine ifNot ?_))
    | ((with_reducible refine ifAndD (fun _ _ => ?_) (fun _ => ?_)))
    | ((with_reducible refine ifAnd (fun _ _ => ?_) (fun _ => ?_)))
    | (refine ixM (by omega) (by first | omega | (simp only [List.length_set, List.length_map, List.length_append, List.length_cons, List.length_nil, List.length_replicate]; omega)) rfl ?_)
    | (refine ixA (by omega) (by first | omega | (simp only [List.length_set, List.length_map, List.length_append, List.length_cons, List.length_nil, List.length_replicate]; omega)) ?_)
    | (refine ltM (by omega) (by first | omega | (simp only [List.length_set, List.length_map, List.length_append, List.length_cons, List.length_nil, List.length_replicate]; omega)) ?_)
    | (refine calI (by omega) ?_)
    | (refine cu8 (by omega) ?_)
    | (refine cu64 (by omega) ?_)
    | (refine And.intro (by omega) ?_; refine crem (by omega) ?_)
    | (refine And.intro (by omega) ?_; refine cquo (by omega) ?_)
    | (refine ⟨_, _, To15_p b hb _ _ _, ?_⟩)
    | (refine .inl ?_; (conv => whnf); refine ⟨_, _, To15_p b hb _ _ _, ?_⟩)
    | ((with_reducible refine preI ?_); (first | refine preNil ?_ | refine preOp rfl rfl ?_ | refine preT rfl rfl rfl rfl ?_ | refine preF rfl rfl rfl rfl ?_ | refine preTS rfl rfl rfl rfl ?_ | refine preFS rfl rfl rfl rfl ?_ | refine preSkip rfl rfl rfl rfl ?_ | refine preGT rfl rfl rfl rfl ?_ | refine preGF rfl rfl rfl rfl ?_))
    | ((first | refine drawA (by decide +kernel) ?_ | refine drawA2 (by kernel_rfl) ?_); conv => whnf; (try dsimp only [St.after, St.afterAt, initSt, initT, numO, cellsA, Option.map, ren, renL, renO, St.setObj, headSt, List.cons_append, List.nil_append, List.length_nil]); try (conv => enter [7, 3]; whnf))
    | (refine ap1 (by decide) (by omega) rfl rfl ?_)
    | (refine ap0 (by decide) rfl ?_)
    | (refine apL (by decide) (by omega) (fun _ => rfl) ?_)
    | (refine apM (by decide) (by omega) (fun _ => rfl) ?_)
    | (refine setI (z := _) rfl ?_)
    | (refine And.intro (by omega) (And.intro (by omega) ?_))
    | (refine ifB_intro (fun _ => ?_) (fun _ => ?_))) <;> (conv => whnf; try dsimp only [St.after, St.afterAt, initSt, initT, numO, cellsA, Option.map, ren, renL, renO, St.setObj, headSt, List.cons_append, List.nil_append, List.length_nil]))
  · rename_i q1 q2 q3
    refine ⟨d + 1, ⟨[], (by kernel_rfl), (by kernel_rfl), (by kernel_rfl), ?_, ?_⟩, ?_, by (try dsimp only); omega, rfl⟩
    rotate_left 1
    focus
      conv => whnf
      repeat' (first
        | exact trivial
        | with_reducible rfl
        | (refine srcI ?_; kernel_rfl)
        | (refine nsI ?_; kernel_rfl)
        | (refine And.intro ?_ ?_ <;> conv => whnf; try dsimp only [St.after, St.afterAt, initSt, initT, numO, cellsA, Option.map, ren, renL, renO, St.setObj, headSt, List.cons_append, List.nil_append, List.length_nil]))
    rotate_right 1
    focus
      conv => whnf
      repeat' (first
        | exact trivial
        | with_reducible rfl
        | (refine srcI ?_; kernel_rfl)
        | (refine nsI ?_; kernel_rfl)
        | (refine And.intro ?_ ?_ <;> conv => whnf; try dsimp only [St.after, St.afterAt, initSt, initT, numO, cellsA, Option.map, ren, renL, renO, St.setObj, headSt, List.cons_append, List.nil_append, List.length_nil]))
    · rw [b.raw_succ h0, if_pos ⟨by omega, q3⟩]
    · exact ⟨by omega, by omega⟩
  · rename_i q1 q2 q3
    refine ⟨d + 1, ⟨[], (by kernel_rfl), (by kernel_rfl), (by kernel_rfl), ?_, ?_⟩, ?_, by (try dsimp only); omega, rfl⟩
    rotate_left 1
    focus
      conv => whnf
      repeat' (first
        | exact trivial
        | with_reducible rfl
        | (refine srcI ?_; kernel_rfl)
        | (refine nsI ?_; kernel_rfl)
        | (refine And.intro ?_ ?_ <;> conv => whnf; try dsimp only [St.after, St.afterAt, initSt, initT, numO, cellsA, Option.map, ren, renL, renO, St.setObj, headSt, List.cons_append, List.nil_append, List.length_nil]))
    rotate_right 1
    focus
      conv => whnf
      repeat' (first
        | exact trivial
        | with_reducible rfl
        | (refine srcI ?_; kernel_rfl)
        | (refine nsI ?_; kernel_rfl)
        | (refine And.intro ?_ ?_ <;> conv => whnf; try dsimp only [St.after, St.afterAt, initSt, initT, numO, cellsA, Option.map, ren, renL, renO, St.setObj, headSt, List.cons_append, List.nil_append, List.length_nil]))
    · rw [b.raw_succ h0, if_neg (fun h => h.2 q3), List.append_nil]
    · exact ⟨by omega, by omega⟩
  · rename_i q1 q2
    refine ⟨d + 1, ⟨[], (by kernel_rfl), (by kernel_rfl), (by kernel_rfl), ?_, ?_⟩, ?_, by (try dsimp only); omega, rfl⟩
    rotate_left 1
    focus
      conv => whnf
      repeat' (first
        | exact trivial
        | with_reducible rfl
        | (refine srcI ?_; kernel_rfl)
        | (refine nsI ?_; kernel_rfl)
        | (refine And.intro ?_ ?_ <;> conv => whnf; try dsimp only [St.after, St.afterAt, initSt, initT, numO, cellsA, Option.map, ren, renL, renO, St.setObj, headSt, List.cons_append, List.nil_append, List.length_nil]))
    rotate_right 1
    focus
      conv => whnf
      repeat' (first
        | exact trivial
        | with_reducible rfl
        | (refine srcI ?_; kernel_rfl)
        | (refine nsI ?_; kernel_rfl)
        | (refine And.intro ?_ ?_ <;> conv => whnf; try dsimp only [St.after, St.afterAt, initSt, initT, numO, cellsA, Option.map, ren, renL, renO, St.setObj, headSt, List.cons_append, List.nil_append, List.length_nil]))
    · rw [b.raw_succ h0, if_neg (fun h => q2 h.1), List.append_nil]
    · exact ⟨by omega, by omega⟩
  · obtain rfl : d = b.next.length := by omega
    refine .inr (.inr (.inl ?_))
    conv => whnf
    refine ⟨[1], _, [.ref 0], _, _, ⟨rfl, rfl, rfl⟩, Sort_p _ (by omega), ?_⟩
    conv => whnf
    refine .inr (.inr (.inl ?_))
    conv => whnf
    refine ⟨[1], _, [.ref 0], _, _, ⟨rfl, rfl, rfl⟩, Compact_p _ (by rw [isort_len]; omega), ?_⟩
    conv => whnf
    repeat' ((first
      | (refine ifD (fun _ => ?_) (fun _ => ?_))
      | (refine ifE (fun _ => ?_) (fun _ => ?_))
      | (refine ifN (fun _ => ?_) (fun _ => ?_))
      | ((with_reducible refine ifNot ?_))
      | ((with_reducible refine ifAndD (fun _ _ => ?_) (fun _ => ?_)))
      | ((with_reducible refine ifAnd (fun _ _ => ?_) (fun _ => ?_)))
      | (refine ixM (by omega) (by first | omega | (simp only [List.length_set, List.length_map, List.length_append, List.length_cons, List.length_nil, List.length_replicate]; omega)) rfl ?_)
      | (refine ixA (by omega) (by first | omega | (simp only [List.length_set, List.length_map, List.length_append, List.length_cons, List.length_nil, List.length_replicate]; omega)) ?_)
      | (refine ltM (by omega) (by first | omega | (simp only [List.length_set, List.length_map, List.length_append, List.length_cons, List.length_nil, List.length_replicate]; omega)) ?_)
      | (refine calI (by omega) ?_)
      | (refine cu8 (by omega) ?_)
      | (refine cu64 (by omega) ?_)
      | (refine And.intro (by omega) ?_; refine crem (by omega) ?_)
      | (refine And.intro (by omega) ?_; refine cquo (by omega) ?_)
      | ((with_reducible refine preI ?_); (first | refine preNil ?_ | refine preOp rfl rfl ?_ | refine preT rfl rfl rfl rfl ?_ | refine preF rfl rfl rfl rfl ?_ | refine preTS rfl rfl rfl rfl ?_ | refine preFS rfl rfl rfl rfl ?_ | refine preSkip rfl rfl rfl rfl ?_ | refine preGT rfl rfl rfl rfl ?_ | refine preGF rfl rfl rfl rfl ?_))
      | ((first | refine drawA (by decide +kernel) ?_ | refine drawA2 (by kernel_rfl) ?_); conv => whnf; (try dsimp only [St.after, St.afterAt, initSt, initT, numO, cellsA, Option.map, ren, renL, renO, St.setObj, headSt, List.cons_append, List.nil_append, List.length_nil]); try (conv => enter [7, 3]; whnf))
      | (refine ap1 (by decide) (by omega) rfl rfl ?_)
      | (refine ap0 (by decide) rfl ?_)
      | (refine apL (by decide) (by omega) (fun _ => rfl) ?_)
      | (refine apM (by decide) (by omega) (fun _ => rfl) ?_)
      | (refine setI (z := _) rfl ?_)
      | (refine And.intro (by omega) (And.intro (by omega) ?_))
      | (refine ifB_intro (fun _ => ?_) (fun _ => ?_))
      | (refine exitA (by kernel_rfl) (by kernel_rfl) ⟨?_, trivial⟩ ?_ <;> (conv => whnf) <;> repeat' (first | exact trivial | with_reducible rfl | (refine srcI ?_; kernel_rfl) | (refine nsI ?_; kernel_rfl) | (refine And.intro ?_ ?_ <;> conv => whnf; try dsimp only [St.after, St.afterAt, initSt, initT, numO, cellsA, Option.map, ren, renL, renO, St.setObj, headSt, List.cons_append, List.nil_append, List.length_nil])))) <;> (conv => whnf; try dsimp only [St.after, St.afterAt, initSt, initT, numO, cellsA, Option.map, ren, renL, renO, St.setObj, headSt, List.cons_append, List.nil_append, List.length_nil]))
    rw [b.near_eq hb]
end Go.Proofs.Ytkecpgidolphfaa
