/- Contracts of functions of the program, proved by the checker; and plain laws. -/
import Derived.Test.YtkecpgidolphfaaZ01
set_option linter.unusedVariables false
set_option linter.unusedSimpArgs false
namespace Go.Proofs.Ytkecpgidolphfaa
open Go Go.Sk
set_option maxRecDepth 10000 in
theorem isNaN_p (x : Int) : Pure Try.prog 68 [I x] (Bo false) none := by
  refine fun_of tok D_ok Try.func68 rfl Try.ntmps68 Try.results68 (by kernel_rfl) (by simp) (by simp) ?_
  conv => whnf
  repeat' ((first
    | (refine Ck.mk ?_)
    | (refine ifD (fun _ => ?_) (fun _ => ?_))
    | (refine ifE (fun _ => ?_) (fun _ => ?_))
    | (refine ifN (fun _ => ?_) (fun _ => ?_))
    | ((with_reducible refine natI ?_))
    | ((with_reducible refine ifNot ?_))
    | ((with_reducible refine ifAndD (fun _ _ => ?_) (fun _ => ?_)))
    | ((with_reducible refine ifAnd (fun _ _ => ?_) (fun _ => ?_)))
    | (refine ixM (by omega) (by first | omega | (simp only [List.length_set, List.length_map, List.length_append, List.length_cons, List.length_nil, List.length_replicate]; omega)) rfl ?_)
    | (refine ixA (by omega) (by first | omega | (simp only [List.length_set, List.length_map, List.length_append, List.length_cons, List.length_nil, List.length_replicate]; omega)) ?_)
    | (refine ltM (by omega) (by first | omega | (simp only [List.length_set, List.length_map, List.length_append, List.length_cons, List.length_nil, List.length_replicate]; omega)) ?_)
    | (refine calI (by omega) ?_)
    | (refine cu8 (by omega) ?_)
    | (refine cu64 (by omega) ?_)
    | (refine And.intro (by omega) ?_; refine crem (by omega) ?_)
    | (refine And.intro (by omega) ?_; refine cquo (by omega) ?_)
    | ((with_reducible refine preI ?_); (first | refine preNil ?_ | refine preOp rfl rfl ?_ | refine preT rfl rfl rfl rfl ?_ | refine preF rfl rfl rfl rfl ?_ | refine preTS rfl rfl rfl rfl ?_ | refine preFS rfl rfl rfl rfl ?_ | refine preSkip rfl rfl rfl rfl ?_ | refine preGT rfl rfl rfl rfl ?_ | refine preGF rfl rfl rfl rfl ?_))
    | (refine AltS.own (by assumption) ?_)
    | (refine AltS.im ?_)
    | (refine AltT.own (by assumption) ?_)
    | (refine AltT.im ?_)
    | (refine NilK.mk (fun _ => ?_) ?_)
    | (refine AltV.own (by assumption) ?_)
    | (refine AltV.im ?_)
    | ((first | refine drawA2 (by decide +kernel) ?_ | refine drawA (by decide +kernel) ?_ | refine drawL (by decide +kernel) ?_); conv => whnf; (try dsimp only [St.after, St.afterAt, St.pin, St.unpin, initSt, initT, numO, cellsA, Option.map, ren, renL, renO, St.setObj, headSt, List.cons_append, List.nil_append, List.length_nil, Nat.reduceAdd]); try (conv => enter [7, 3]; whnf))
    | (refine ap1 (by decide) (by omega) rfl rfl ?_)
    | (refine ap0 (by decide) rfl ?_)
    | (refine apL (by decide) (by omega) (fun _ => rfl) ?_)
    | (refine apM (by decide) (by omega) (fun _ => rfl) ?_)
    | (refine setI (z := _) rfl ?_)
    | (refine And.intro (by omega) (And.intro (by omega) ?_))
    | (refine ifB_intro (fun _ => ?_) (fun _ => ?_))
    | (refine exitA (by kernel_rfl) (by kernel_rfl) ⟨?_, trivial⟩ ?_ <;> (conv => whnf) <;> repeat' (first | exact trivial | with_reducible rfl | (refine srcI ?_; kernel_rfl) | (refine nsI ?_; kernel_rfl) | (refine And.intro ?_ ?_ <;> conv => whnf; try dsimp only [St.after, St.afterAt, St.pin, St.unpin, initSt, initT, numO, cellsA, Option.map, ren, renL, renO, St.setObj, headSt, List.cons_append, List.nil_append, List.length_nil, Nat.reduceAdd])))) <;> (conv => whnf; try dsimp only [St.after, St.afterAt, St.pin, St.unpin, initSt, initT, numO, cellsA, Option.map, ren, renL, renO, St.setObj, headSt, List.cons_append, List.nil_append, List.length_nil, Nat.reduceAdd]))
  simp
set_option maxRecDepth 10000 in
theorem Less_p (x y : Int) : Pure Try.prog 58 [I x, I y] (Bo (decide (x < y))) none := by
  refine fun_of tok D_ok Try.func58 rfl Try.ntmps58 Try.results58 (by kernel_rfl) (by simp) (by simp) ?_
  conv => whnf
  repeat' ((first
    | (refine Ck.mk ?_)
    | (refine ifD (fun _ => ?_) (fun _ => ?_))
    | (refine ifE (fun _ => ?_) (fun _ => ?_))
    | (refine ifN (fun _ => ?_) (fun _ => ?_))
    | ((with_reducible refine natI ?_))
    | ((with_reducible refine ifNot ?_))
    | ((with_reducible refine ifAndD (fun _ _ => ?_) (fun _ => ?_)))
    | ((with_reducible refine ifAnd (fun _ _ => ?_) (fun _ => ?_)))
    | (refine ixM (by omega) (by first | omega | (simp only [List.length_set, List.length_map, List.length_append, List.length_cons, List.length_nil, List.length_replicate]; omega)) rfl ?_)
    | (refine ixA (by omega) (by first | omega | (simp only [List.length_set, List.length_map, List.length_append, List.length_cons, List.length_nil, List.length_replicate]; omega)) ?_)
    | (refine ltM (by omega) (by first | omega | (simp only [List.length_set, List.length_map, List.length_append, List.length_cons, List.length_nil, List.length_replicate]; omega)) ?_)
    | (refine calI (by omega) ?_)
    | (refine cu8 (by omega) ?_)
    | (refine cu64 (by omega) ?_)
    | (refine And.intro (by omega) ?_; refine crem (by omega) ?_)
    | (refine And.intro (by omega) ?_; refine cquo (by omega) ?_)
    | (refine ⟨_, _, isNaN_p _, ?_⟩)
    | (refine .inl ?_; (conv => whnf); refine ⟨_, _, isNaN_p _, ?_⟩)
    | ((with_reducible refine preI ?_); (first | refine preNil ?_ | refine preOp rfl rfl ?_ | refine preT rfl rfl rfl rfl ?_ | refine preF rfl rfl rfl rfl ?_ | refine preTS rfl rfl rfl rfl ?_ | refine preFS rfl rfl rfl rfl ?_ | refine preSkip rfl rfl rfl rfl ?_ | refine preGT rfl rfl rfl rfl ?_ | refine preGF rfl rfl rfl rfl ?_))
    | (refine AltS.own (by assumption) ?_)
    | (refine AltS.im ?_)
    | (refine AltT.own (by assumption) ?_)
    | (refine AltT.im ?_)
    | (refine NilK.mk (fun _ => ?_) ?_)
    | (refine AltV.own (by assumption) ?_)
    | (refine AltV.im ?_)
    | ((first | refine drawA2 (by decide +kernel) ?_ | refine drawA (by decide +kernel) ?_ | refine drawL (by decide +kernel) ?_); conv => whnf; (try dsimp only [St.after, St.afterAt, St.pin, St.unpin, initSt, initT, numO, cellsA, Option.map, ren, renL, renO, St.setObj, headSt, List.cons_append, List.nil_append, List.length_nil, Nat.reduceAdd]); try (conv => enter [7, 3]; whnf))
    | (refine ap1 (by decide) (by omega) rfl rfl ?_)
    | (refine ap0 (by decide) rfl ?_)
    | (refine apL (by decide) (by omega) (fun _ => rfl) ?_)
    | (refine apM (by decide) (by omega) (fun _ => rfl) ?_)
    | (refine setI (z := _) rfl ?_)
    | (refine And.intro (by omega) (And.intro (by omega) ?_))
    | (refine ifB_intro (fun _ => ?_) (fun _ => ?_))
    | (refine exitA (by kernel_rfl) (by kernel_rfl) ⟨?_, trivial⟩ ?_ <;> (conv => whnf) <;> repeat' (first | exact trivial | with_reducible rfl | (refine srcI ?_; kernel_rfl) | (refine nsI ?_; kernel_rfl) | (refine And.intro ?_ ?_ <;> conv => whnf; try dsimp only [St.after, St.afterAt, St.pin, St.unpin, initSt, initT, numO, cellsA, Option.map, ren, renL, renO, St.setObj, headSt, List.cons_append, List.nil_append, List.length_nil, Nat.reduceAdd])))) <;> (conv => whnf; try dsimp only [St.after, St.afterAt, St.pin, St.unpin, initSt, initT, numO, cellsA, Option.map, ren, renL, renO, St.setObj, headSt, List.cons_append, List.nil_append, List.length_nil, Nat.reduceAdd]))
theorem isort_take1 (l : List Int) : isort (l.take (Int.toNat 1)) = l.take (Int.toNat 1) := by
  cases l with
  | nil => rfl
  | cons x r => rfl
set_option maxHeartbeats 4000000 in
set_option maxRecDepth 10000 in
theorem insertion_p (l : List Int) (hl : l.length ≤ 4294967296) : Fun Try.prog 52 [.arr 1 (l.map I)] [.ref 0, I 0, I l.length] (.tup []) [.arr 1 ((isort l).map I)] := by
  refine fun_of tok D_ok Try.func52 rfl Try.ntmps52 Try.results52 (by kernel_rfl) (by simp) (by simp) ?_
  conv => whnf
  repeat' ((first
    | (refine Ck.mk ?_)
    | (refine ifD (fun _ => ?_) (fun _ => ?_))
    | (refine ifE (fun _ => ?_) (fun _ => ?_))
    | (refine ifN (fun _ => ?_) (fun _ => ?_))
    | ((with_reducible refine natI ?_))
    | ((with_reducible refine ifNot ?_))
    | ((with_reducible refine ifAndD (fun _ _ => ?_) (fun _ => ?_)))
    | ((with_reducible refine ifAnd (fun _ _ => ?_) (fun _ => ?_)))
    | (refine ixM (by omega) (by first | omega | (simp only [List.length_set, List.length_map, List.length_append, List.length_cons, List.length_nil, List.length_replicate]; omega)) rfl ?_)
    | (refine ixA (by omega) (by first | omega | (simp only [List.length_set, List.length_map, List.length_append, List.length_cons, List.length_nil, List.length_replicate]; omega)) ?_)
    | (refine ltM (by omega) (by first | omega | (simp only [List.length_set, List.length_map, List.length_append, List.length_cons, List.length_nil, List.length_replicate]; omega)) ?_)
    | (refine calI (by omega) ?_)
    | (refine cu8 (by omega) ?_)
    | (refine cu64 (by omega) ?_)
    | (refine And.intro (by omega) ?_; refine crem (by omega) ?_)
    | (refine And.intro (by omega) ?_; refine cquo (by omega) ?_)
    | ((with_reducible refine preI ?_); (first | refine preNil ?_ | refine preOp rfl rfl ?_ | refine preT rfl rfl rfl rfl ?_ | refine preF rfl rfl rfl rfl ?_ | refine preTS rfl rfl rfl rfl ?_ | refine preFS rfl rfl rfl rfl ?_ | refine preSkip rfl rfl rfl rfl ?_ | refine preGT rfl rfl rfl rfl ?_ | refine preGF rfl rfl rfl rfl ?_))
    | (refine AltS.own (by assumption) ?_)
    | (refine AltS.im ?_)
    | (refine AltT.own (by assumption) ?_)
    | (refine AltT.im ?_)
    | (refine NilK.mk (fun _ => ?_) ?_)
    | (refine AltV.own (by assumption) ?_)
    | (refine AltV.im ?_)
    | ((first | refine drawA2 (by decide +kernel) ?_ | refine drawA (by decide +kernel) ?_ | refine drawL (by decide +kernel) ?_); conv => whnf; (try dsimp only [St.after, St.afterAt, St.pin, St.unpin, initSt, initT, numO, cellsA, Option.map, ren, renL, renO, St.setObj, headSt, List.cons_append, List.nil_append, List.length_nil, Nat.reduceAdd]); try (conv => enter [7, 3]; whnf))
    | (refine ap1 (by decide) (by omega) rfl rfl ?_)
    | (refine ap0 (by decide) rfl ?_)
    | (refine apL (by decide) (by omega) (fun _ => rfl) ?_)
    | (refine apM (by decide) (by omega) (fun _ => rfl) ?_)
    | (refine setI (z := _) rfl ?_)
    | (refine And.intro (by omega) (And.intro (by omega) ?_))
    | (refine ifB_intro (fun _ => ?_) (fun _ => ?_))) <;> (conv => whnf; try dsimp only [St.after, St.afterAt, St.pin, St.unpin, initSt, initT, numO, cellsA, Option.map, ren, renL, renO, St.setObj, headSt, List.cons_append, List.nil_append, List.length_nil, Nat.reduceAdd]))
  refine .of (fun i => [(6, I i)]) (fun i => [(0, .arr 1 ((isort (l.take i.toNat) ++ l.drop i.toNat).map I))]) 1 (fun i => 1 ≤ i ∧ (i ≤ l.length ∨ i = 1)) (fun i => (l.length - i).toNat) 1 ?_
  conv => whnf
  refine ⟨⟨[], (by kernel_rfl), (by kernel_rfl), (by kernel_rfl), ?_, ?_⟩, ?_, fun i ⟨h0, h1⟩ => ?_⟩
  rotate_left 1
  focus
    conv => whnf
    repeat' (first
      | exact trivial
      | with_reducible rfl
      | (refine srcI ?_; kernel_rfl)
      | (refine nsI ?_; kernel_rfl)
      | (refine And.intro ?_ ?_ <;> conv => whnf; try dsimp only [St.after, St.afterAt, St.pin, St.unpin, initSt, initT, numO, cellsA, Option.map, ren, renL, renO, St.setObj, headSt, List.cons_append, List.nil_append, List.length_nil, Nat.reduceAdd])
      | rfl)
  rotate_right 1
  focus
    conv => whnf
    repeat' (first
      | exact trivial
      | with_reducible rfl
      | (refine srcI ?_; kernel_rfl)
      | (refine nsI ?_; kernel_rfl)
      | (refine And.intro ?_ ?_ <;> conv => whnf; try dsimp only [St.after, St.afterAt, St.pin, St.unpin, initSt, initT, numO, cellsA, Option.map, ren, renL, renO, St.setObj, headSt, List.cons_append, List.nil_append, List.length_nil, Nat.reduceAdd])
      | rfl)
  rotate_right 1
  focus
    conv => whnf
  rotate_left 1
  · rw [isort_take1, List.take_append_drop]
  · exact ⟨by omega, by omega⟩
  generalize hs : isort (l.take i.toNat) = s at *
  have hso : s.Pairwise (· ≤ ·) := by rw [← hs]; exact isort_sorted _
  have hsl : s.length = (l.take i.toNat).length := by rw [← hs]; exact isort_len _
  rw [List.length_take] at hsl
  repeat' ((first
    | (refine Ck.mk ?_)
    | (refine ifD (fun _ => ?_) (fun _ => ?_))
    | (refine ifE (fun _ => ?_) (fun _ => ?_))
    | (refine ifN (fun _ => ?_) (fun _ => ?_))
    | ((with_reducible refine natI ?_))
    | ((with_reducible refine ifNot ?_))
    | ((with_reducible refine ifAndD (fun _ _ => ?_) (fun _ => ?_)))
    | ((with_reducible refine ifAnd (fun _ _ => ?_) (fun _ => ?_)))
    | (refine ixM (by omega) (by first | omega | (simp only [List.length_set, List.length_map, List.length_append, List.length_cons, List.length_nil, List.length_replicate]; omega)) rfl ?_)
    | (refine ixA (by omega) (by first | omega | (simp only [List.length_set, List.length_map, List.length_append, List.length_cons, List.length_nil, List.length_replicate]; omega)) ?_)
    | (refine ltM (by omega) (by first | omega | (simp only [List.length_set, List.length_map, List.length_append, List.length_cons, List.length_nil, List.length_replicate]; omega)) ?_)
    | (refine calI (by omega) ?_)
    | (refine cu8 (by omega) ?_)
    | (refine cu64 (by omega) ?_)
    | (refine And.intro (by omega) ?_; refine crem (by omega) ?_)
    | (refine And.intro (by omega) ?_; refine cquo (by omega) ?_)
    | ((with_reducible refine preI ?_); (first | refine preNil ?_ | refine preOp rfl rfl ?_ | refine preT rfl rfl rfl rfl ?_ | refine preF rfl rfl rfl rfl ?_ | refine preTS rfl rfl rfl rfl ?_ | refine preFS rfl rfl rfl rfl ?_ | refine preSkip rfl rfl rfl rfl ?_ | refine preGT rfl rfl rfl rfl ?_ | refine preGF rfl rfl rfl rfl ?_))
    | (refine AltS.own (by assumption) ?_)
    | (refine AltS.im ?_)
    | (refine AltT.own (by assumption) ?_)
    | (refine AltT.im ?_)
    | (refine NilK.mk (fun _ => ?_) ?_)
    | (refine AltV.own (by assumption) ?_)
    | (refine AltV.im ?_)
    | ((first | refine drawA2 (by decide +kernel) ?_ | refine drawA (by decide +kernel) ?_ | refine drawL (by decide +kernel) ?_); conv => whnf; (try dsimp only [St.after, St.afterAt, St.pin, St.unpin, initSt, initT, numO, cellsA, Option.map, ren, renL, renO, St.setObj, headSt, List.cons_append, List.nil_append, List.length_nil, Nat.reduceAdd]); try (conv => enter [7, 3]; whnf))
    | (refine ap1 (by decide) (by omega) rfl rfl ?_)
    | (refine ap0 (by decide) rfl ?_)
    | (refine apL (by decide) (by omega) (fun _ => rfl) ?_)
    | (refine apM (by decide) (by omega) (fun _ => rfl) ?_)
    | (refine setI (z := _) rfl ?_)
    | (refine And.intro (by omega) (And.intro (by omega) ?_))
    | (refine ifB_intro (fun _ => ?_) (fun _ => ?_))) <;> (conv => whnf; try dsimp only [St.after, St.afterAt, St.pin, St.unpin, initSt, initT, numO, cellsA, Option.map, ren, renL, renO, St.setObj, headSt, List.cons_append, List.nil_append, List.length_nil, Nat.reduceAdd]))
  · rename_i hi
    have hdr : s ++ l.drop i.toNat = mid s i (nth l i) ++ l.drop (i + 1).toNat := by
      have hse : (s.length : Int) = i := by omega
      have := mid_top s (nth l i)
      rw [hse] at this
      rw [this, show (i + 1).toNat = i.toNat + 1 by omega, List.append_assoc]
      congr 1
      rw [List.drop_eq_getElem_cons (by omega)]
      have := nth_some (show 0 ≤ i by omega) hi
      rw [List.getElem?_eq_getElem (by omega)] at this
      injection this with this
      rw [this]; rfl
    refine .of (fun j => [(7, I j)]) (fun j => [(0, .arr 1 ((mid s j (nth l i) ++ l.drop (i + 1).toNat).map I))]) 1 (fun j => 0 ≤ j ∧ j ≤ i ∧ ∀ k : Int, j ≤ k → k < s.length → nth l i < nth s k) (fun j => j.toNat) i ?_
    conv => whnf
    refine ⟨⟨[], (by kernel_rfl), (by kernel_rfl), (by kernel_rfl), ?_, ?_⟩, ?_, fun j ⟨g0, g1, gu⟩ => ?_⟩
    rotate_left 1
    focus
      conv => whnf
      repeat' (first
        | exact trivial
        | with_reducible rfl
        | (refine srcI ?_; kernel_rfl)
        | (refine nsI ?_; kernel_rfl)
        | (refine And.intro ?_ ?_ <;> conv => whnf; try dsimp only [St.after, St.afterAt, St.pin, St.unpin, initSt, initT, numO, cellsA, Option.map, ren, renL, renO, St.setObj, headSt, List.cons_append, List.nil_append, List.length_nil, Nat.reduceAdd])
        | rfl)
    rotate_right 1
    focus
      conv => whnf
      repeat' (first
        | exact trivial
        | with_reducible rfl
        | (refine srcI ?_; kernel_rfl)
        | (refine nsI ?_; kernel_rfl)
        | (refine And.intro ?_ ?_ <;> conv => whnf; try dsimp only [St.after, St.afterAt, St.pin, St.unpin, initSt, initT, numO, cellsA, Option.map, ren, renL, renO, St.setObj, headSt, List.cons_append, List.nil_append, List.length_nil, Nat.reduceAdd])
        | rfl)
    rotate_right 1
    focus
      conv => whnf
    rotate_left 1
    · rw [hdr]
    · exact ⟨by omega, by omega, fun k _ _ => by omega⟩
    have hml := mid_len (s := s) (nth l i) g0 (by omega)
    have hdl : (mid s j (nth l i) ++ l.drop (i + 1).toNat).length = l.length := by rw [List.length_append, hml, List.length_drop]; omega
    have hat : nth (mid s j (nth l i) ++ l.drop (i + 1).toNat) j = nth l i := by rw [nth_append_left g0 (by omega), mid_at _ g0 (by omega)]
    have hbe : 1 ≤ j → nth (mid s j (nth l i) ++ l.drop (i + 1).toNat) (j - 1) = nth s (j - 1) := fun h => by rw [nth_append_left (by omega) (by omega), mid_below _ (by omega) (by omega) (by omega)]
    have hsw := fun h => mid_swap (s := s) (j := j) (x := nth l i) h (by omega) (l.drop (i + 1).toNat)
    refine drawA (by kernel_rfl) ?_
    conv => whnf
    try dsimp only [St.after, St.afterAt, St.pin, St.unpin, initSt, initT, numO, cellsA, Option.map, ren, renL, renO, St.setObj, headSt, List.cons_append, List.nil_append, List.length_nil, Nat.reduceAdd]
    try (conv => enter [7, 3]; whnf)
    repeat' ((first
      | (refine Ck.mk ?_)
      | (refine ifD (fun _ => ?_) (fun _ => ?_))
      | (refine ifE (fun _ => ?_) (fun _ => ?_))
      | (refine ifN (fun _ => ?_) (fun _ => ?_))
      | ((with_reducible refine natI ?_))
      | ((with_reducible refine ifNot ?_))
      | ((with_reducible refine ifAndD (fun _ _ => ?_) (fun _ => ?_)))
      | ((with_reducible refine ifAnd (fun _ _ => ?_) (fun _ => ?_)))
      | (refine ixM (by omega) (by first | omega | (simp only [List.length_set, List.length_map, List.length_append, List.length_cons, List.length_nil, List.length_replicate]; omega)) rfl ?_)
      | (refine ixA (by omega) (by first | omega | (simp only [List.length_set, List.length_map, List.length_append, List.length_cons, List.length_nil, List.length_replicate]; omega)) ?_)
      | (refine ltM (by omega) (by first | omega | (simp only [List.length_set, List.length_map, List.length_append, List.length_cons, List.length_nil, List.length_replicate]; omega)) ?_)
      | (refine calI (by omega) ?_)
      | (refine cu8 (by omega) ?_)
      | (refine cu64 (by omega) ?_)
      | (refine And.intro (by omega) ?_; refine crem (by omega) ?_)
      | (refine And.intro (by omega) ?_; refine cquo (by omega) ?_)
      | (refine ⟨_, _, Less_p _ _, ?_⟩)
      | (refine .inl ?_; (conv => whnf); refine ⟨_, _, Less_p _ _, ?_⟩)
      | ((with_reducible refine preI ?_); (first | refine preNil ?_ | refine preOp rfl rfl ?_ | refine preT rfl rfl rfl rfl ?_ | refine preF rfl rfl rfl rfl ?_ | refine preTS rfl rfl rfl rfl ?_ | refine preFS rfl rfl rfl rfl ?_ | refine preSkip rfl rfl rfl rfl ?_ | refine preGT rfl rfl rfl rfl ?_ | refine preGF rfl rfl rfl rfl ?_))
      | (refine AltS.im ?_)
      | (refine AltT.own (by assumption) ?_)
      | (refine AltT.im ?_)
      | (refine NilK.mk (fun _ => ?_) ?_)
      | (refine AltV.own (by assumption) ?_)
      | (refine AltV.im ?_)
      | ((first | refine drawA2 (by decide +kernel) ?_ | refine drawA (by decide +kernel) ?_ | refine drawL (by decide +kernel) ?_); conv => whnf; (try dsimp only [St.after, St.afterAt, St.pin, St.unpin, initSt, initT, numO, cellsA, Option.map, ren, renL, renO, St.setObj, headSt, List.cons_append, List.nil_append, List.length_nil, Nat.reduceAdd]); try (conv => enter [7, 3]; whnf))
      | (refine ap1 (by decide) (by omega) rfl rfl ?_)
      | (refine ap0 (by decide) rfl ?_)
      | (refine apL (by decide) (by omega) (fun _ => rfl) ?_)
      | (refine apM (by decide) (by omega) (fun _ => rfl) ?_)
      | (refine setI (z := _) rfl ?_)
      | (refine And.intro (by omega) (And.intro (by omega) ?_))
      | (refine ifB_intro (fun _ => ?_) (fun _ => ?_))) <;> (conv => whnf; try dsimp only [St.after, St.afterAt, St.pin, St.unpin, initSt, initT, numO, cellsA, Option.map, ren, renL, renO, St.setObj, headSt, List.cons_append, List.nil_append, List.length_nil, Nat.reduceAdd]))
    · refine drawE [2, 3, 4] (by kernel_rfl) ?_ ?_
      · conv => whnf
        repeat' ((first
          | (refine Ck.mk ?_)
          | (refine ifD (fun _ => ?_) (fun _ => ?_))
          | (refine ifE (fun _ => ?_) (fun _ => ?_))
          | (refine ifN (fun _ => ?_) (fun _ => ?_))
          | ((with_reducible refine natI ?_))
          | ((with_reducible refine ifNot ?_))
          | ((with_reducible refine ifAndD (fun _ _ => ?_) (fun _ => ?_)))
          | ((with_reducible refine ifAnd (fun _ _ => ?_) (fun _ => ?_)))
          | (refine ixM (by omega) (by first | omega | (simp only [List.length_set, List.length_map, List.length_append, List.length_cons, List.length_nil, List.length_replicate]; omega)) rfl ?_)
          | (refine ixA (by omega) (by first | omega | (simp only [List.length_set, List.length_map, List.length_append, List.length_cons, List.length_nil, List.length_replicate]; omega)) ?_)
          | (refine ltM (by omega) (by first | omega | (simp only [List.length_set, List.length_map, List.length_append, List.length_cons, List.length_nil, List.length_replicate]; omega)) ?_)
          | (refine calI (by omega) ?_)
          | (refine cu8 (by omega) ?_)
          | (refine cu64 (by omega) ?_)
          | (refine And.intro (by omega) ?_; refine crem (by omega) ?_)
          | (refine And.intro (by omega) ?_; refine cquo (by omega) ?_)
          | ((with_reducible refine preI ?_); (first | refine preNil ?_ | refine preOp rfl rfl ?_ | refine preT rfl rfl rfl rfl ?_ | refine preF rfl rfl rfl rfl ?_ | refine preTS rfl rfl rfl rfl ?_ | refine preFS rfl rfl rfl rfl ?_ | refine preSkip rfl rfl rfl rfl ?_ | refine preGT rfl rfl rfl rfl ?_ | refine preGF rfl rfl rfl rfl ?_))
          | (refine AltS.own (by assumption) ?_)
          | (refine AltS.im ?_)
          | (refine AltT.own (by assumption) ?_)
          | (refine AltT.im ?_)
          | (refine NilK.mk (fun _ => ?_) ?_)
          | (refine AltV.own (by assumption) ?_)
          | (refine AltV.im ?_)
          | ((first | refine drawA2 (by decide +kernel) ?_ | refine drawA (by decide +kernel) ?_ | refine drawL (by decide +kernel) ?_); conv => whnf; (try dsimp only [St.after, St.afterAt, St.pin, St.unpin, initSt, initT, numO, cellsA, Option.map, ren, renL, renO, St.setObj, headSt, List.cons_append, List.nil_append, List.length_nil, Nat.reduceAdd]); try (conv => enter [7, 3]; whnf))
          | (refine ap1 (by decide) (by omega) rfl rfl ?_)
          | (refine ap0 (by decide) rfl ?_)
          | (refine apL (by decide) (by omega) (fun _ => rfl) ?_)
          | (refine apM (by decide) (by omega) (fun _ => rfl) ?_)
          | (refine setI (z := _) rfl ?_)
          | (refine And.intro (by omega) (And.intro (by omega) ?_))
          | (refine ifB_intro (fun _ => ?_) (fun _ => ?_))) <;> (conv => whnf; try dsimp only [St.after, St.afterAt, St.pin, St.unpin, initSt, initT, numO, cellsA, Option.map, ren, renL, renO, St.setObj, headSt, List.cons_append, List.nil_append, List.length_nil, Nat.reduceAdd]))
        trivial
      refine drawK (by kernel_rfl) (preAll ?_)
      conv => whnf
      try dsimp only [St.after, St.pin, St.unpin, initSt, initT, numO, cellsA, Option.map, ren, renL, renO, St.setObj, headSt, List.cons_append, List.nil_append, List.length_nil, Nat.reduceAdd]
      repeat' ((first
        | (refine Ck.mk ?_)
        | (refine ifD (fun _ => ?_) (fun _ => ?_))
        | (refine ifE (fun _ => ?_) (fun _ => ?_))
        | (refine ifN (fun _ => ?_) (fun _ => ?_))
        | ((with_reducible refine natI ?_))
        | ((with_reducible refine ifNot ?_))
        | ((with_reducible refine ifAndD (fun _ _ => ?_) (fun _ => ?_)))
        | ((with_reducible refine ifAnd (fun _ _ => ?_) (fun _ => ?_)))
        | (refine ixM (by omega) (by first | omega | (simp only [List.length_set, List.length_map, List.length_append, List.length_cons, List.length_nil, List.length_replicate]; omega)) rfl ?_)
        | (refine ixA (by omega) (by first | omega | (simp only [List.length_set, List.length_map, List.length_append, List.length_cons, List.length_nil, List.length_replicate]; omega)) ?_)
        | (refine ltM (by omega) (by first | omega | (simp only [List.length_set, List.length_map, List.length_append, List.length_cons, List.length_nil, List.length_replicate]; omega)) ?_)
        | (refine calI (by omega) ?_)
        | (refine cu8 (by omega) ?_)
        | (refine cu64 (by omega) ?_)
        | (refine And.intro (by omega) ?_; refine crem (by omega) ?_)
        | (refine And.intro (by omega) ?_; refine cquo (by omega) ?_)
        | ((with_reducible refine preI ?_); (first | refine preNil ?_ | refine preOp rfl rfl ?_ | refine preT rfl rfl rfl rfl ?_ | refine preF rfl rfl rfl rfl ?_ | refine preTS rfl rfl rfl rfl ?_ | refine preFS rfl rfl rfl rfl ?_ | refine preSkip rfl rfl rfl rfl ?_ | refine preGT rfl rfl rfl rfl ?_ | refine preGF rfl rfl rfl rfl ?_))
        | (refine AltS.own (by assumption) ?_)
        | (refine AltS.im ?_)
        | (refine AltT.own (by assumption) ?_)
        | (refine AltT.im ?_)
        | (refine NilK.mk (fun _ => ?_) ?_)
        | (refine AltV.own (by assumption) ?_)
        | (refine AltV.im ?_)
        | ((first | refine drawA2 (by decide +kernel) ?_ | refine drawA (by decide +kernel) ?_ | refine drawL (by decide +kernel) ?_); conv => whnf; (try dsimp only [St.after, St.pin, St.unpin, initSt, initT, numO, cellsA, Option.map, ren, renL, renO, St.setObj, headSt, List.cons_append, List.nil_append, List.length_nil, Nat.reduceAdd]); try (conv => enter [7, 3]; whnf))
        | (refine ap1 (by decide) (by omega) rfl rfl ?_)
        | (refine ap0 (by decide) rfl ?_)
        | (refine apL (by decide) (by omega) (fun _ => rfl) ?_)
        | (refine apM (by decide) (by omega) (fun _ => rfl) ?_)
        | (refine setI (z := _) rfl ?_)
        | (refine And.intro (by omega) (And.intro (by omega) ?_))
        | (refine ifB_intro (fun _ => ?_) (fun _ => ?_))) <;> (conv => whnf; try dsimp only [St.after, St.pin, St.unpin, initSt, initT, numO, cellsA, Option.map, ren, renL, renO, St.setObj, headSt, List.cons_append, List.nil_append, List.length_nil, Nat.reduceAdd]))
      rw [hat, hbe (by omega), hsw (by omega)]
      repeat' ((first
        | (refine Ck.mk ?_)
        | (refine ifD (fun _ => ?_) (fun _ => ?_))
        | (refine ifE (fun _ => ?_) (fun _ => ?_))
        | (refine ifN (fun _ => ?_) (fun _ => ?_))
        | ((with_reducible refine natI ?_))
        | ((with_reducible refine ifNot ?_))
        | ((with_reducible refine ifAndD (fun _ _ => ?_) (fun _ => ?_)))
        | ((with_reducible refine ifAnd (fun _ _ => ?_) (fun _ => ?_)))
        | (refine ixM (by omega) (by first | omega | (simp only [List.length_set, List.length_map, List.length_append, List.length_cons, List.length_nil, List.length_replicate]; omega)) rfl ?_)
        | (refine ixA (by omega) (by first | omega | (simp only [List.length_set, List.length_map, List.length_append, List.length_cons, List.length_nil, List.length_replicate]; omega)) ?_)
        | (refine ltM (by omega) (by first | omega | (simp only [List.length_set, List.length_map, List.length_append, List.length_cons, List.length_nil, List.length_replicate]; omega)) ?_)
        | (refine calI (by omega) ?_)
        | (refine cu8 (by omega) ?_)
        | (refine cu64 (by omega) ?_)
        | (refine And.intro (by omega) ?_; refine crem (by omega) ?_)
        | (refine And.intro (by omega) ?_; refine cquo (by omega) ?_)
        | ((with_reducible refine preI ?_); (first | refine preNil ?_ | refine preOp rfl rfl ?_ | refine preT rfl rfl rfl rfl ?_ | refine preF rfl rfl rfl rfl ?_ | refine preTS rfl rfl rfl rfl ?_ | refine preFS rfl rfl rfl rfl ?_ | refine preSkip rfl rfl rfl rfl ?_ | refine preGT rfl rfl rfl rfl ?_ | refine preGF rfl rfl rfl rfl ?_))
        | (refine AltS.own (by assumption) ?_)
        | (refine AltS.im ?_)
        | (refine AltT.own (by assumption) ?_)
        | (refine AltT.im ?_)
        | (refine NilK.mk (fun _ => ?_) ?_)
        | (refine AltV.own (by assumption) ?_)
        | (refine AltV.im ?_)
        | ((first | refine drawA2 (by decide +kernel) ?_ | refine drawA (by decide +kernel) ?_ | refine drawL (by decide +kernel) ?_); conv => whnf; (try dsimp only [St.after, St.pin, St.unpin, initSt, initT, numO, cellsA, Option.map, ren, renL, renO, St.setObj, headSt, List.cons_append, List.nil_append, List.length_nil, Nat.reduceAdd]); try (conv => enter [7, 3]; whnf))
        | (refine ap1 (by decide) (by omega) rfl rfl ?_)
        | (refine ap0 (by decide) rfl ?_)
        | (refine apL (by decide) (by omega) (fun _ => rfl) ?_)
        | (refine apM (by decide) (by omega) (fun _ => rfl) ?_)
        | (refine setI (z := _) rfl ?_)
        | (refine And.intro (by omega) (And.intro (by omega) ?_))
        | (refine ifB_intro (fun _ => ?_) (fun _ => ?_))) <;> (conv => whnf; try dsimp only [St.after, St.pin, St.unpin, initSt, initT, numO, cellsA, Option.map, ren, renL, renO, St.setObj, headSt, List.cons_append, List.nil_append, List.length_nil, Nat.reduceAdd]))
      refine ⟨j - 1, ⟨[], (by kernel_rfl), (by kernel_rfl), (by kernel_rfl), ?_, ?_⟩, ?_, by (try dsimp only); omega, rfl⟩
      rotate_left 1
      focus
        conv => whnf
        repeat' (first
          | exact trivial
          | with_reducible rfl
          | (refine srcI ?_; kernel_rfl)
          | (refine nsI ?_; kernel_rfl)
          | (refine And.intro ?_ ?_ <;> conv => whnf; try dsimp only [St.after, St.afterAt, St.pin, St.unpin, initSt, initT, numO, cellsA, Option.map, ren, renL, renO, St.setObj, headSt, List.cons_append, List.nil_append, List.length_nil, Nat.reduceAdd]))
      rotate_right 1
      focus
        conv => whnf
        repeat' (first
          | exact trivial
          | with_reducible rfl
          | (refine srcI ?_; kernel_rfl)
          | (refine nsI ?_; kernel_rfl)
          | (refine And.intro ?_ ?_ <;> conv => whnf; try dsimp only [St.after, St.afterAt, St.pin, St.unpin, initSt, initT, numO, cellsA, Option.map, ren, renL, renO, St.setObj, headSt, List.cons_append, List.nil_append, List.length_nil, Nat.reduceAdd]))
      refine ⟨by omega, by omega, fun k k0 k1 => ?_⟩
      rcases Int.lt_or_le k j with h5 | h5
      · obtain rfl : k = j - 1 := by omega
        rename_i h6
        rw [hat, hbe (by omega)] at h6
        exact h6
      · exact gu k h5 k1
    iterate 2
      · rename_i h6
        have hmd : mid s j (nth l i) = isort (l.take (i + 1).toNat) := by
          rw [take_snoc (by omega) hi, isort_snoc, hs]
          refine mid_done hso g0 (by omega) gu ?_
          first
          | exact .inl (by omega)
          | exact .inr (by rw [hat, hbe (by omega)] at h6; omega)
        refine ⟨i + 1, ⟨[], (by kernel_rfl), (by kernel_rfl), (by kernel_rfl), ?_, ?_⟩, ?_, by (try dsimp only); omega, rfl⟩
        rotate_left 1
        focus
          conv => whnf
          repeat' (first
            | exact trivial
            | with_reducible rfl
            | (refine srcI ?_; kernel_rfl)
            | (refine nsI ?_; kernel_rfl)
            | (refine And.intro ?_ ?_ <;> conv => whnf; try dsimp only [St.after, St.afterAt, St.pin, St.unpin, initSt, initT, numO, cellsA, Option.map, ren, renL, renO, St.setObj, headSt, List.cons_append, List.nil_append, List.length_nil, Nat.reduceAdd]))
        rotate_right 1
        focus
          conv => whnf
          repeat' (first
            | exact trivial
            | with_reducible rfl
            | (refine srcI ?_; kernel_rfl)
            | (refine nsI ?_; kernel_rfl)
            | (refine And.intro ?_ ?_ <;> conv => whnf; try dsimp only [St.after, St.afterAt, St.pin, St.unpin, initSt, initT, numO, cellsA, Option.map, ren, renL, renO, St.setObj, headSt, List.cons_append, List.nil_append, List.length_nil, Nat.reduceAdd]))
        · rw [hmd]
        · exact ⟨by omega, by omega⟩
  ·
    repeat' ((first
      | (refine Ck.mk ?_)
      | (refine ifD (fun _ => ?_) (fun _ => ?_))
      | (refine ifE (fun _ => ?_) (fun _ => ?_))
      | (refine ifN (fun _ => ?_) (fun _ => ?_))
      | ((with_reducible refine natI ?_))
      | ((with_reducible refine ifNot ?_))
      | ((with_reducible refine ifAndD (fun _ _ => ?_) (fun _ => ?_)))
      | ((with_reducible refine ifAnd (fun _ _ => ?_) (fun _ => ?_)))
      | (refine ixM (by omega) (by first | omega | (simp only [List.length_set, List.length_map, List.length_append, List.length_cons, List.length_nil, List.length_replicate]; omega)) rfl ?_)
      | (refine ixA (by omega) (by first | omega | (simp only [List.length_set, List.length_map, List.length_append, List.length_cons, List.length_nil, List.length_replicate]; omega)) ?_)
      | (refine ltM (by omega) (by first | omega | (simp only [List.length_set, List.length_map, List.length_append, List.length_cons, List.length_nil, List.length_replicate]; omega)) ?_)
      | (refine calI (by omega) ?_)
      | (refine cu8 (by omega) ?_)
      | (refine cu64 (by omega) ?_)
      | (refine And.intro (by omega) ?_; refine crem (by omega) ?_)
      | (refine And.intro (by omega) ?_; refine cquo (by omega) ?_)
      | ((with_reducible refine preI ?_); (first | refine preNil ?_ | refine preOp rfl rfl ?_ | refine preT rfl rfl rfl rfl ?_ | refine preF rfl rfl rfl rfl ?_ | refine preTS rfl rfl rfl rfl ?_ | refine preFS rfl rfl rfl rfl ?_ | refine preSkip rfl rfl rfl rfl ?_ | refine preGT rfl rfl rfl rfl ?_ | refine preGF rfl rfl rfl rfl ?_))
      | (refine AltS.own (by assumption) ?_)
      | (refine AltS.im ?_)
      | (refine AltT.own (by assumption) ?_)
      | (refine AltT.im ?_)
      | (refine NilK.mk (fun _ => ?_) ?_)
      | (refine AltV.own (by assumption) ?_)
      | (refine AltV.im ?_)
      | ((first | refine drawA2 (by decide +kernel) ?_ | refine drawA (by decide +kernel) ?_ | refine drawL (by decide +kernel) ?_); conv => whnf; (try dsimp only [St.after, St.afterAt, St.pin, St.unpin, initSt, initT, numO, cellsA, Option.map, ren, renL, renO, St.setObj, headSt, List.cons_append, List.nil_append, List.length_nil, Nat.reduceAdd]); try (conv => enter [7, 3]; whnf))
      | (refine ap1 (by decide) (by omega) rfl rfl ?_)
      | (refine ap0 (by decide) rfl ?_)
      | (refine apL (by decide) (by omega) (fun _ => rfl) ?_)
      | (refine apM (by decide) (by omega) (fun _ => rfl) ?_)
      | (refine setI (z := _) rfl ?_)
      | (refine And.intro (by omega) (And.intro (by omega) ?_))
      | (refine ifB_intro (fun _ => ?_) (fun _ => ?_))
      | (refine exitA (by kernel_rfl) (by kernel_rfl) ⟨?_, trivial⟩ ?_ <;> (conv => whnf) <;> repeat' (first | exact trivial | with_reducible rfl | (refine srcI ?_; kernel_rfl) | (refine nsI ?_; kernel_rfl) | (refine And.intro ?_ ?_ <;> conv => whnf; try dsimp only [St.after, St.afterAt, St.pin, St.unpin, initSt, initT, numO, cellsA, Option.map, ren, renL, renO, St.setObj, headSt, List.cons_append, List.nil_append, List.length_nil, Nat.reduceAdd])))) <;> (conv => whnf; try dsimp only [St.after, St.afterAt, St.pin, St.unpin, initSt, initT, numO, cellsA, Option.map, ren, renL, renO, St.setObj, headSt, List.cons_append, List.nil_append, List.length_nil, Nat.reduceAdd]))
    rw [← hs, List.drop_eq_nil_of_le (by omega), List.append_nil, List.take_of_length_le (by omega)]
set_option maxHeartbeats 4000000 in
set_option maxRecDepth 10000 in
theorem pdq_p (l : List Int) (hl : l.length ≤ 12) (n lim : Int) (hn : n = l.length) : Fun Try.prog 48 [.arr 1 (l.map I)] [.ref 0, I 0, I n, I lim] (.tup []) [.arr 1 ((isort l).map I)] := by
  subst hn
  refine fun_of tok D_ok Try.func48 rfl Try.ntmps48 Try.results48 (by kernel_rfl) (by simp) (by simp) ?_
  conv => whnf
  refine .of (fun u => [(1, I 0), (2, I l.length), (3, I lim), (8, Bo true), (9, Bo true)]) (fun u => []) 1 (fun u => True) (fun u => 0) () ?_
  conv => whnf
  refine ⟨⟨[], (by kernel_rfl), (by kernel_rfl), (by kernel_rfl), ?_, ?_⟩, ?_, fun u _ => ?_⟩
  rotate_left 1
  focus
    conv => whnf
    repeat' (first
      | exact trivial
      | with_reducible rfl
      | (refine srcI ?_; kernel_rfl)
      | (refine nsI ?_; kernel_rfl)
      | (refine And.intro ?_ ?_ <;> conv => whnf; try dsimp only [St.after, St.afterAt, St.pin, St.unpin, initSt, initT, numO, cellsA, Option.map, ren, renL, renO, St.setObj, headSt, List.cons_append, List.nil_append, List.length_nil, Nat.reduceAdd])
      | rfl)
  rotate_right 1
  focus
    conv => whnf
    repeat' (first
      | exact trivial
      | with_reducible rfl
      | (refine srcI ?_; kernel_rfl)
      | (refine nsI ?_; kernel_rfl)
      | (refine And.intro ?_ ?_ <;> conv => whnf; try dsimp only [St.after, St.afterAt, St.pin, St.unpin, initSt, initT, numO, cellsA, Option.map, ren, renL, renO, St.setObj, headSt, List.cons_append, List.nil_append, List.length_nil, Nat.reduceAdd])
      | rfl)
  rotate_right 1
  focus
    conv => whnf
  rotate_left 1
  · trivial
  refine calI (by omega) ?_
  conv => whnf
  refine ifD (fun h => ?_) (fun h => absurd (show (l.length : Int) - 0 ≤ 12 by omega) h)
  conv => whnf
  refine .inr (.inr (.inl ?_))
  conv => whnf
  refine ⟨[0], _, [.ref 0, I 0, I l.length], _, _, ⟨rfl, rfl, rfl⟩, insertion_p l (by omega), ?_⟩
  conv => whnf
  repeat' ((first
    | (refine Ck.mk ?_)
    | (refine ifD (fun _ => ?_) (fun _ => ?_))
    | (refine ifE (fun _ => ?_) (fun _ => ?_))
    | (refine ifN (fun _ => ?_) (fun _ => ?_))
    | ((with_reducible refine natI ?_))
    | ((with_reducible refine ifNot ?_))
    | ((with_reducible refine ifAndD (fun _ _ => ?_) (fun _ => ?_)))
    | ((with_reducible refine ifAnd (fun _ _ => ?_) (fun _ => ?_)))
    | (refine ixM (by omega) (by first | omega | (simp only [List.length_set, List.length_map, List.length_append, List.length_cons, List.length_nil, List.length_replicate]; omega)) rfl ?_)
    | (refine ixA (by omega) (by first | omega | (simp only [List.length_set, List.length_map, List.length_append, List.length_cons, List.length_nil, List.length_replicate]; omega)) ?_)
    | (refine ltM (by omega) (by first | omega | (simp only [List.length_set, List.length_map, List.length_append, List.length_cons, List.length_nil, List.length_replicate]; omega)) ?_)
    | (refine calI (by omega) ?_)
    | (refine cu8 (by omega) ?_)
    | (refine cu64 (by omega) ?_)
    | (refine And.intro (by omega) ?_; refine crem (by omega) ?_)
    | (refine And.intro (by omega) ?_; refine cquo (by omega) ?_)
    | ((with_reducible refine preI ?_); (first | refine preNil ?_ | refine preOp rfl rfl ?_ | refine preT rfl rfl rfl rfl ?_ | refine preF rfl rfl rfl rfl ?_ | refine preTS rfl rfl rfl rfl ?_ | refine preFS rfl rfl rfl rfl ?_ | refine preSkip rfl rfl rfl rfl ?_ | refine preGT rfl rfl rfl rfl ?_ | refine preGF rfl rfl rfl rfl ?_))
    | (refine AltS.own (by assumption) ?_)
    | (refine AltS.im ?_)
    | (refine AltT.own (by assumption) ?_)
    | (refine AltT.im ?_)
    | (refine NilK.mk (fun _ => ?_) ?_)
    | (refine AltV.own (by assumption) ?_)
    | (refine AltV.im ?_)
    | ((first | refine drawA2 (by decide +kernel) ?_ | refine drawA (by decide +kernel) ?_ | refine drawL (by decide +kernel) ?_); conv => whnf; (try dsimp only [St.after, St.afterAt, St.pin, St.unpin, initSt, initT, numO, cellsA, Option.map, ren, renL, renO, St.setObj, headSt, List.cons_append, List.nil_append, List.length_nil, Nat.reduceAdd]); try (conv => enter [7, 3]; whnf))
    | (refine ap1 (by decide) (by omega) rfl rfl ?_)
    | (refine ap0 (by decide) rfl ?_)
    | (refine apL (by decide) (by omega) (fun _ => rfl) ?_)
    | (refine apM (by decide) (by omega) (fun _ => rfl) ?_)
    | (refine setI (z := _) rfl ?_)
    | (refine And.intro (by omega) (And.intro (by omega) ?_))
    | (refine ifB_intro (fun _ => ?_) (fun _ => ?_))
    | (refine exitA (by kernel_rfl) (by kernel_rfl) ⟨?_, trivial⟩ ?_ <;> (conv => whnf) <;> repeat' (first | exact trivial | with_reducible rfl | (refine srcI ?_; kernel_rfl) | (refine nsI ?_; kernel_rfl) | (refine And.intro ?_ ?_ <;> conv => whnf; try dsimp only [St.after, St.afterAt, St.pin, St.unpin, initSt, initT, numO, cellsA, Option.map, ren, renL, renO, St.setObj, headSt, List.cons_append, List.nil_append, List.length_nil, Nat.reduceAdd])))) <;> (conv => whnf; try dsimp only [St.after, St.afterAt, St.pin, St.unpin, initSt, initT, numO, cellsA, Option.map, ren, renL, renO, St.setObj, headSt, List.cons_append, List.nil_append, List.length_nil, Nat.reduceAdd]))
end Go.Proofs.Ytkecpgidolphfaa
namespace Go.Proofs.Ytkecpgidolphfaa
open Go Go.Sk
theorem mem_compact {l : List Int} {x : Int} : x ∈ Lib.compact l ↔ x ∈ l := by
  unfold Lib.compact Lib.compactUpTo
  simp only [List.mem_map, List.mem_filter, List.mem_range]
  constructor
  · rintro ⟨j, ⟨h1, _⟩, rfl⟩
    have : l.toArray[j]! = l[j] := by simp [h1]
    rw [this]
    exact List.getElem_mem h1
  · intro hx
    obtain ⟨i, hi, he⟩ := List.mem_iff_getElem.1 hx
    have hex : ∃ j, j < l.length ∧ l.toArray[j]! = x := ⟨i, hi, by simp [hi, he]⟩
    obtain ⟨j, ⟨h1, h2⟩, hmin⟩ := exists_least hex
    refine ⟨j, ⟨h1, ?_⟩, h2⟩
    unfold Lib.keeps
    cases j with
    | zero => simp
    | succ j =>
      have : ¬ (l.toArray[j]! = x) := fun h => by have := hmin j ⟨by omega, h⟩; omega
      simp only [Bool.or_eq_true, decide_eq_true_eq, bne_iff_ne, ne_eq]
      right
      rw [h2]
      exact fun h => this h.symm
theorem compact_strict {l : List Int} (hl : l.Pairwise (· ≤ ·)) : (Lib.compact l).Pairwise (· < ·) := by
  unfold Lib.compact Lib.compactUpTo
  rw [List.pairwise_map, List.pairwise_filter]
  refine List.Pairwise.imp_of_mem ?_ (List.pairwise_lt_range (n := l.length))
  intro i j hi hj hij _ hk
  rw [List.mem_range] at hi hj
  have e : ∀ k, k < l.length → l.toArray[k]! = nth l k := fun k hk => by
    have := nth_some (l := l) (i := (k : Int)) (by omega) (by omega)
    rw [show ((k : Int)).toNat = k by omega, List.getElem?_eq_getElem hk] at this
    injection this with this
    simp [hk, this]
  unfold Lib.keeps at hk
  simp only [Bool.or_eq_true, decide_eq_true_eq, bne_iff_ne, ne_eq] at hk
  have h1 := sorted_nth hl (show (0 : Int) ≤ (i : Int) by omega) (show (i : Int) ≤ ((j - 1 : Nat) : Int) by omega) (by omega)
  have h2 := sorted_nth hl (show (0 : Int) ≤ ((j - 1 : Nat) : Int) by omega) (show ((j - 1 : Nat) : Int) ≤ (j : Int) by omega) (by omega)
  rcases hk with hk | hk
  · omega
  · rw [e j hj, e (j - 1) (by omega)] at hk
    rw [e i hi, e j hj]
    omega
set_option maxRecDepth 10000 in
theorem Sort_p (l : List Int) (hl : l.length ≤ 12) : Fun Try.prog 40 [.arr 1 (l.map I)] [.ref 0] (.tup []) [.arr 1 ((isort l).map I)] := by
  refine fun_of tok D_ok Try.func40 rfl Try.ntmps40 Try.results40 (by kernel_rfl) (by simp) (by simp) ?_
  have e : l.length = (l.map I).length := by simp
  conv => whnf
  repeat' ((first
    | (refine Ck.mk ?_)
    | (refine ifD (fun _ => ?_) (fun _ => ?_))
    | (refine ifE (fun _ => ?_) (fun _ => ?_))
    | (refine ifN (fun _ => ?_) (fun _ => ?_))
    | ((with_reducible refine natI ?_))
    | ((with_reducible refine ifNot ?_))
    | ((with_reducible refine ifAndD (fun _ _ => ?_) (fun _ => ?_)))
    | ((with_reducible refine ifAnd (fun _ _ => ?_) (fun _ => ?_)))
    | (refine ixM (by omega) (by first | omega | (simp only [List.length_set, List.length_map, List.length_append, List.length_cons, List.length_nil, List.length_replicate]; omega)) rfl ?_)
    | (refine ixA (by omega) (by first | omega | (simp only [List.length_set, List.length_map, List.length_append, List.length_cons, List.length_nil, List.length_replicate]; omega)) ?_)
    | (refine ltM (by omega) (by first | omega | (simp only [List.length_set, List.length_map, List.length_append, List.length_cons, List.length_nil, List.length_replicate]; omega)) ?_)
    | (refine calI (by omega) ?_)
    | (refine cu8 (by omega) ?_)
    | (refine cu64 (by omega) ?_)
    | (refine And.intro (by omega) ?_; refine crem (by omega) ?_)
    | (refine And.intro (by omega) ?_; refine cquo (by omega) ?_)
    | (refine ⟨_, _, Len_p _ (by omega) (by omega), ?_⟩)
    | (refine .inl ?_; (conv => whnf); refine ⟨_, _, Len_p _ (by omega) (by omega), ?_⟩)
    | ((with_reducible refine preI ?_); (first | refine preNil ?_ | refine preOp rfl rfl ?_ | refine preT rfl rfl rfl rfl ?_ | refine preF rfl rfl rfl rfl ?_ | refine preTS rfl rfl rfl rfl ?_ | refine preFS rfl rfl rfl rfl ?_ | refine preSkip rfl rfl rfl rfl ?_ | refine preGT rfl rfl rfl rfl ?_ | refine preGF rfl rfl rfl rfl ?_))
    | (refine AltS.own (by assumption) ?_)
    | (refine AltS.im ?_)
    | (refine AltT.own (by assumption) ?_)
    | (refine AltT.im ?_)
    | (refine NilK.mk (fun _ => ?_) ?_)
    | (refine AltV.own (by assumption) ?_)
    | (refine AltV.im ?_)
    | ((first | refine drawA2 (by decide +kernel) ?_ | refine drawA (by decide +kernel) ?_ | refine drawL (by decide +kernel) ?_); conv => whnf; (try dsimp only [St.after, St.afterAt, St.pin, St.unpin, initSt, initT, numO, cellsA, Option.map, ren, renL, renO, St.setObj, headSt, List.cons_append, List.nil_append, List.length_nil, Nat.reduceAdd]); try (conv => enter [7, 3]; whnf))
    | (refine ap1 (by decide) (by omega) rfl rfl ?_)
    | (refine ap0 (by decide) rfl ?_)
    | (refine apL (by decide) (by omega) (fun _ => rfl) ?_)
    | (refine apM (by decide) (by omega) (fun _ => rfl) ?_)
    | (refine setI (z := _) rfl ?_)
    | (refine And.intro (by omega) (And.intro (by omega) ?_))
    | (refine ifB_intro (fun _ => ?_) (fun _ => ?_))) <;> (conv => whnf; try dsimp only [St.after, St.afterAt, St.pin, St.unpin, initSt, initT, numO, cellsA, Option.map, ren, renL, renO, St.setObj, headSt, List.cons_append, List.nil_append, List.length_nil, Nat.reduceAdd]))
  refine .inr (.inr (.inl ?_))
  conv => whnf
  refine ⟨[0], _, [.ref 0, I 0, I ((l.map I).length), I _], _, _, ⟨rfl, rfl, rfl⟩, pdq_p l hl _ _ (by rw [List.length_map]), ?_⟩
  conv => whnf
  repeat' ((first
    | (refine Ck.mk ?_)
    | (refine ifD (fun _ => ?_) (fun _ => ?_))
    | (refine ifE (fun _ => ?_) (fun _ => ?_))
    | (refine ifN (fun _ => ?_) (fun _ => ?_))
    | ((with_reducible refine natI ?_))
    | ((with_reducible refine ifNot ?_))
    | ((with_reducible refine ifAndD (fun _ _ => ?_) (fun _ => ?_)))
    | ((with_reducible refine ifAnd (fun _ _ => ?_) (fun _ => ?_)))
    | (refine ixM (by omega) (by first | omega | (simp only [List.length_set, List.length_map, List.length_append, List.length_cons, List.length_nil, List.length_replicate]; omega)) rfl ?_)
    | (refine ixA (by omega) (by first | omega | (simp only [List.length_set, List.length_map, List.length_append, List.length_cons, List.length_nil, List.length_replicate]; omega)) ?_)
    | (refine ltM (by omega) (by first | omega | (simp only [List.length_set, List.length_map, List.length_append, List.length_cons, List.length_nil, List.length_replicate]; omega)) ?_)
    | (refine calI (by omega) ?_)
    | (refine cu8 (by omega) ?_)
    | (refine cu64 (by omega) ?_)
    | (refine And.intro (by omega) ?_; refine crem (by omega) ?_)
    | (refine And.intro (by omega) ?_; refine cquo (by omega) ?_)
    | ((with_reducible refine preI ?_); (first | refine preNil ?_ | refine preOp rfl rfl ?_ | refine preT rfl rfl rfl rfl ?_ | refine preF rfl rfl rfl rfl ?_ | refine preTS rfl rfl rfl rfl ?_ | refine preFS rfl rfl rfl rfl ?_ | refine preSkip rfl rfl rfl rfl ?_ | refine preGT rfl rfl rfl rfl ?_ | refine preGF rfl rfl rfl rfl ?_))
    | (refine AltS.own (by assumption) ?_)
    | (refine AltS.im ?_)
    | (refine AltT.own (by assumption) ?_)
    | (refine AltT.im ?_)
    | (refine NilK.mk (fun _ => ?_) ?_)
    | (refine AltV.own (by assumption) ?_)
    | (refine AltV.im ?_)
    | ((first | refine drawA2 (by decide +kernel) ?_ | refine drawA (by decide +kernel) ?_ | refine drawL (by decide +kernel) ?_); conv => whnf; (try dsimp only [St.after, St.afterAt, St.pin, St.unpin, initSt, initT, numO, cellsA, Option.map, ren, renL, renO, St.setObj, headSt, List.cons_append, List.nil_append, List.length_nil, Nat.reduceAdd]); try (conv => enter [7, 3]; whnf))
    | (refine ap1 (by decide) (by omega) rfl rfl ?_)
    | (refine ap0 (by decide) rfl ?_)
    | (refine apL (by decide) (by omega) (fun _ => rfl) ?_)
    | (refine apM (by decide) (by omega) (fun _ => rfl) ?_)
    | (refine setI (z := _) rfl ?_)
    | (refine And.intro (by omega) (And.intro (by omega) ?_))
    | (refine ifB_intro (fun _ => ?_) (fun _ => ?_))
    | (refine exitA (by kernel_rfl) (by kernel_rfl) ⟨?_, trivial⟩ ?_ <;> (conv => whnf) <;> repeat' (first | exact trivial | with_reducible rfl | (refine srcI ?_; kernel_rfl) | (refine nsI ?_; kernel_rfl) | (refine And.intro ?_ ?_ <;> conv => whnf; try dsimp only [St.after, St.afterAt, St.pin, St.unpin, initSt, initT, numO, cellsA, Option.map, ren, renL, renO, St.setObj, headSt, List.cons_append, List.nil_append, List.length_nil, Nat.reduceAdd])))) <;> (conv => whnf; try dsimp only [St.after, St.afterAt, St.pin, St.unpin, initSt, initT, numO, cellsA, Option.map, ren, renL, renO, St.setObj, headSt, List.cons_append, List.nil_append, List.length_nil, Nat.reduceAdd]))
def Bd.raw (b : Bd) (c k : Int) : List Int := (ints k).filterMap fun d => if 0 ≤ b.to 0 d c ∧ b.to 0 d c ≠ c then some (b.to 0 d c) else none
theorem Bd.raw_len (b : Bd) (c k : Int) : (b.raw c k).length ≤ k.toNat := by
  unfold Bd.raw
  exact Nat.le_trans (List.length_filterMap_le _ _) (by rw [ints_len]; omega)
theorem Bd.raw_succ (b : Bd) {c k : Int} (h : 0 ≤ k) : b.raw c (k + 1) = b.raw c k ++ (if 0 ≤ b.to 0 k c ∧ b.to 0 k c ≠ c then [b.to 0 k c] else []) := by
  unfold Bd.raw
  rw [ints_succ h, List.filterMap_append]
  congr 1
  simp only [List.filterMap_cons, List.filterMap_nil]
  by_cases h : 0 ≤ b.to 0 k c ∧ b.to 0 k c ≠ c
  · rw [if_pos h, if_pos h]
  · rw [if_neg h, if_neg h]
theorem Bd.near_eq {b : Bd} (hb : b.ok) (c : Int) : Lib.compact (isort (b.raw c b.next.length)) = b.near c := by
  refine strict_eq (compact_strict (isort_sorted _)) ?_ fun x => ?_
  · exact (ints_sorted _).filter _
  · rw [mem_compact, mem_isort]
    unfold Bd.raw Bd.near Bd.step
    simp only [List.mem_filterMap, List.mem_filter, mem_ints, List.any_eq_true, Bool.and_eq_true, bne_iff_ne, beq_iff_eq]
    constructor
    · rintro ⟨d, hd, h⟩
      split at h
      · rename_i h'
        injection h with h
        subst h
        exact ⟨⟨h'.1, (b.to_lt hb 0 d c).2⟩, h'.2, d, hd, rfl⟩
      · cases h
    · rintro ⟨⟨h1, h2⟩, h3, d, hd, rfl⟩
      exact ⟨d, hd, if_pos ⟨h1, h3⟩⟩
set_option maxHeartbeats 4000000 in
set_option maxRecDepth 10000 in
theorem Near22_p (b : Bd) (hb : b.ok) (c : Int) : Pure Try.prog 22 [b.av, I c] (.ref 0) (some (.arr 1 ((b.near c).map I))) := by
  refine fun_of tok D_ok Try.func22 rfl Try.ntmps22 Try.results22 (by kernel_rfl) (by simp) (by simp) ?_
  have n8 := hb.n8
  have e1 : b.next.length = (b.next.map Is).length := by simp
  conv => whnf
  refine .of (fun d => [(11, I d), (5, .ref 1)]) (fun d => [(1, .arr 1 ((b.raw c d).map I))]) 2 (fun d => 0 ≤ d ∧ d ≤ b.next.length) (fun d => (b.next.length - d).toNat) 0 ?_
  conv => whnf
  refine ⟨⟨[], (by kernel_rfl), (by kernel_rfl), (by kernel_rfl), ?_, ?_⟩, ?_, fun d ⟨h0, h1⟩ => ?_⟩
  rotate_left 1
  focus
    conv => whnf
    repeat' (first
      | exact trivial
      | with_reducible rfl
      | (refine srcI ?_; kernel_rfl)
      | (refine nsI ?_; kernel_rfl)
      | (refine And.intro ?_ ?_ <;> conv => whnf; try dsimp only [St.after, St.afterAt, St.pin, St.unpin, initSt, initT, numO, cellsA, Option.map, ren, renL, renO, St.setObj, headSt, List.cons_append, List.nil_append, List.length_nil, Nat.reduceAdd])
      | rfl)
  rotate_right 1
  focus
    conv => whnf
    repeat' (first
      | exact trivial
      | with_reducible rfl
      | (refine srcI ?_; kernel_rfl)
      | (refine nsI ?_; kernel_rfl)
      | (refine And.intro ?_ ?_ <;> conv => whnf; try dsimp only [St.after, St.afterAt, St.pin, St.unpin, initSt, initT, numO, cellsA, Option.map, ren, renL, renO, St.setObj, headSt, List.cons_append, List.nil_append, List.length_nil, Nat.reduceAdd])
      | rfl)
  rotate_right 1
  focus
    conv => whnf
  rotate_left 1
  · exact ⟨by omega, by omega⟩
  have hrl := b.raw_len c d
  repeat' ((first
    | (refine Ck.mk ?_)
    | (refine ifD (fun _ => ?_) (fun _ => ?_))
    | (refine ifE (fun _ => ?_) (fun _ => ?_))
    | (refine ifN (fun _ => ?_) (fun _ => ?_))
    | ((with_reducible refine natI ?_))
    | ((with_reducible refine ifNot ?_))
    | ((with_reducible refine ifAndD (fun _ _ => ?_) (fun _ => ?_)))
    | ((with_reducible refine ifAnd (fun _ _ => ?_) (fun _ => ?_)))
    | (refine ixM (by omega) (by first | omega | (simp only [List.length_set, List.length_map, List.length_append, List.length_cons, List.length_nil, List.length_replicate]; omega)) rfl ?_)
    | (refine ixA (by omega) (by first | omega | (simp only [List.length_set, List.length_map, List.length_append, List.length_cons, List.length_nil, List.length_replicate]; omega)) ?_)
    | (refine ltM (by omega) (by first | omega | (simp only [List.length_set, List.length_map, List.length_append, List.length_cons, List.length_nil, List.length_replicate]; omega)) ?_)
    | (refine calI (by omega) ?_)
    | (refine cu8 (by omega) ?_)
    | (refine cu64 (by omega) ?_)
    | (refine And.intro (by omega) ?_; refine crem (by omega) ?_)
    | (refine And.intro (by omega) ?_; refine cquo (by omega) ?_)
    | (refine ⟨_, _, To15_p b hb _ _ _, ?_⟩)
    | (refine .inl ?_; (conv => whnf); refine ⟨_, _, To15_p b hb _ _ _, ?_⟩)
    | ((with_reducible refine preI ?_); (first | refine preNil ?_ | refine preOp rfl rfl ?_ | refine preT rfl rfl rfl rfl ?_ | refine preF rfl rfl rfl rfl ?_ | refine preTS rfl rfl rfl rfl ?_ | refine preFS rfl rfl rfl rfl ?_ | refine preSkip rfl rfl rfl rfl ?_ | refine preGT rfl rfl rfl rfl ?_ | refine preGF rfl rfl rfl rfl ?_))
    | (refine AltS.own (by assumption) ?_)
    | (refine AltS.im ?_)
    | (refine AltT.own (by assumption) ?_)
    | (refine AltT.im ?_)
    | (refine NilK.mk (fun _ => ?_) ?_)
    | (refine AltV.own (by assumption) ?_)
    | (refine AltV.im ?_)
    | ((first | refine drawA2 (by decide +kernel) ?_ | refine drawA (by decide +kernel) ?_ | refine drawL (by decide +kernel) ?_); conv => whnf; (try dsimp only [St.after, St.afterAt, St.pin, St.unpin, initSt, initT, numO, cellsA, Option.map, ren, renL, renO, St.setObj, headSt, List.cons_append, List.nil_append, List.length_nil, Nat.reduceAdd]); try (conv => enter [7, 3]; whnf))
    | (refine ap1 (by decide) (by omega) rfl rfl ?_)
    | (refine ap0 (by decide) rfl ?_)
    | (refine apL (by decide) (by omega) (fun _ => rfl) ?_)
    | (refine apM (by decide) (by omega) (fun _ => rfl) ?_)
    | (refine setI (z := _) rfl ?_)
    | (refine And.intro (by omega) (And.intro (by omega) ?_))
    | (refine ifB_intro (fun _ => ?_) (fun _ => ?_))) <;> (conv => whnf; try dsimp only [St.after, St.afterAt, St.pin, St.unpin, initSt, initT, numO, cellsA, Option.map, ren, renL, renO, St.setObj, headSt, List.cons_append, List.nil_append, List.length_nil, Nat.reduceAdd]))
  · rename_i q1 q2 q3
    refine ⟨d + 1, ⟨[], (by kernel_rfl), (by kernel_rfl), (by kernel_rfl), ?_, ?_⟩, ?_, by (try dsimp only); omega, rfl⟩
    rotate_left 1
    focus
      conv => whnf
      repeat' (first
        | exact trivial
        | with_reducible rfl
        | (refine srcI ?_; kernel_rfl)
        | (refine nsI ?_; kernel_rfl)
        | (refine And.intro ?_ ?_ <;> conv => whnf; try dsimp only [St.after, St.afterAt, St.pin, St.unpin, initSt, initT, numO, cellsA, Option.map, ren, renL, renO, St.setObj, headSt, List.cons_append, List.nil_append, List.length_nil, Nat.reduceAdd]))
    rotate_right 1
    focus
      conv => whnf
      repeat' (first
        | exact trivial
        | with_reducible rfl
        | (refine srcI ?_; kernel_rfl)
        | (refine nsI ?_; kernel_rfl)
        | (refine And.intro ?_ ?_ <;> conv => whnf; try dsimp only [St.after, St.afterAt, St.pin, St.unpin, initSt, initT, numO, cellsA, Option.map, ren, renL, renO, St.setObj, headSt, List.cons_append, List.nil_append, List.length_nil, Nat.reduceAdd]))
    · rw [b.raw_succ h0, if_pos ⟨by omega, q3⟩]
    · exact ⟨by omega, by omega⟩
  · rename_i q1 q2 q3
    refine ⟨d + 1, ⟨[], (by kernel_rfl), (by kernel_rfl), (by kernel_rfl), ?_, ?_⟩, ?_, by (try dsimp only); omega, rfl⟩
    rotate_left 1
    focus
      conv => whnf
      repeat' (first
        | exact trivial
        | with_reducible rfl
        | (refine srcI ?_; kernel_rfl)
        | (refine nsI ?_; kernel_rfl)
        | (refine And.intro ?_ ?_ <;> conv => whnf; try dsimp only [St.after, St.afterAt, St.pin, St.unpin, initSt, initT, numO, cellsA, Option.map, ren, renL, renO, St.setObj, headSt, List.cons_append, List.nil_append, List.length_nil, Nat.reduceAdd]))
    rotate_right 1
    focus
      conv => whnf
      repeat' (first
        | exact trivial
        | with_reducible rfl
        | (refine srcI ?_; kernel_rfl)
        | (refine nsI ?_; kernel_rfl)
        | (refine And.intro ?_ ?_ <;> conv => whnf; try dsimp only [St.after, St.afterAt, St.pin, St.unpin, initSt, initT, numO, cellsA, Option.map, ren, renL, renO, St.setObj, headSt, List.cons_append, List.nil_append, List.length_nil, Nat.reduceAdd]))
    · rw [b.raw_succ h0, if_neg (fun h => h.2 q3), List.append_nil]
    · exact ⟨by omega, by omega⟩
  · rename_i q1 q2
    refine ⟨d + 1, ⟨[], (by kernel_rfl), (by kernel_rfl), (by kernel_rfl), ?_, ?_⟩, ?_, by (try dsimp only); omega, rfl⟩
    rotate_left 1
    focus
      conv => whnf
      repeat' (first
        | exact trivial
        | with_reducible rfl
        | (refine srcI ?_; kernel_rfl)
        | (refine nsI ?_; kernel_rfl)
        | (refine And.intro ?_ ?_ <;> conv => whnf; try dsimp only [St.after, St.afterAt, St.pin, St.unpin, initSt, initT, numO, cellsA, Option.map, ren, renL, renO, St.setObj, headSt, List.cons_append, List.nil_append, List.length_nil, Nat.reduceAdd]))
    rotate_right 1
    focus
      conv => whnf
      repeat' (first
        | exact trivial
        | with_reducible rfl
        | (refine srcI ?_; kernel_rfl)
        | (refine nsI ?_; kernel_rfl)
        | (refine And.intro ?_ ?_ <;> conv => whnf; try dsimp only [St.after, St.afterAt, St.pin, St.unpin, initSt, initT, numO, cellsA, Option.map, ren, renL, renO, St.setObj, headSt, List.cons_append, List.nil_append, List.length_nil, Nat.reduceAdd]))
    · rw [b.raw_succ h0, if_neg (fun h => q2 h.1), List.append_nil]
    · exact ⟨by omega, by omega⟩
  · obtain rfl : d = b.next.length := by omega
    refine .inr (.inr (.inl ?_))
    conv => whnf
    refine ⟨[1], _, [.ref 0], _, _, ⟨rfl, rfl, rfl⟩, Sort_p _ (by omega), ?_⟩
    conv => whnf
    refine .inr (.inr (.inl ?_))
    conv => whnf
    refine ⟨[1], _, [.ref 0], _, _, ⟨rfl, rfl, rfl⟩, Compact_p _ (by rw [isort_len]; omega), ?_⟩
    conv => whnf
    repeat' ((first
      | (refine Ck.mk ?_)
      | (refine ifD (fun _ => ?_) (fun _ => ?_))
      | (refine ifE (fun _ => ?_) (fun _ => ?_))
      | (refine ifN (fun _ => ?_) (fun _ => ?_))
      | ((with_reducible refine natI ?_))
      | ((with_reducible refine ifNot ?_))
      | ((with_reducible refine ifAndD (fun _ _ => ?_) (fun _ => ?_)))
      | ((with_reducible refine ifAnd (fun _ _ => ?_) (fun _ => ?_)))
      | (refine ixM (by omega) (by first | omega | (simp only [List.length_set, List.length_map, List.length_append, List.length_cons, List.length_nil, List.length_replicate]; omega)) rfl ?_)
      | (refine ixA (by omega) (by first | omega | (simp only [List.length_set, List.length_map, List.length_append, List.length_cons, List.length_nil, List.length_replicate]; omega)) ?_)
      | (refine ltM (by omega) (by first | omega | (simp only [List.length_set, List.length_map, List.length_append, List.length_cons, List.length_nil, List.length_replicate]; omega)) ?_)
      | (refine calI (by omega) ?_)
      | (refine cu8 (by omega) ?_)
      | (refine cu64 (by omega) ?_)
      | (refine And.intro (by omega) ?_; refine crem (by omega) ?_)
      | (refine And.intro (by omega) ?_; refine cquo (by omega) ?_)
      | ((with_reducible refine preI ?_); (first | refine preNil ?_ | refine preOp rfl rfl ?_ | refine preT rfl rfl rfl rfl ?_ | refine preF rfl rfl rfl rfl ?_ | refine preTS rfl rfl rfl rfl ?_ | refine preFS rfl rfl rfl rfl ?_ | refine preSkip rfl rfl rfl rfl ?_ | refine preGT rfl rfl rfl rfl ?_ | refine preGF rfl rfl rfl rfl ?_))
      | (refine AltS.own (by assumption) ?_)
      | (refine AltS.im ?_)
      | (refine AltT.own (by assumption) ?_)
      | (refine AltT.im ?_)
      | (refine NilK.mk (fun _ => ?_) ?_)
      | (refine AltV.own (by assumption) ?_)
      | (refine AltV.im ?_)
      | ((first | refine drawA2 (by decide +kernel) ?_ | refine drawA (by decide +kernel) ?_ | refine drawL (by decide +kernel) ?_); conv => whnf; (try dsimp only [St.after, St.afterAt, St.pin, St.unpin, initSt, initT, numO, cellsA, Option.map, ren, renL, renO, St.setObj, headSt, List.cons_append, List.nil_append, List.length_nil, Nat.reduceAdd]); try (conv => enter [7, 3]; whnf))
      | (refine ap1 (by decide) (by omega) rfl rfl ?_)
      | (refine ap0 (by decide) rfl ?_)
      | (refine apL (by decide) (by omega) (fun _ => rfl) ?_)
      | (refine apM (by decide) (by omega) (fun _ => rfl) ?_)
      | (refine setI (z := _) rfl ?_)
      | (refine And.intro (by omega) (And.intro (by omega) ?_))
      | (refine ifB_intro (fun _ => ?_) (fun _ => ?_))
      | (refine exitA (by kernel_rfl) (by kernel_rfl) ⟨?_, trivial⟩ ?_ <;> (conv => whnf) <;> repeat' (first | exact trivial | with_reducible rfl | (refine srcI ?_; kernel_rfl) | (refine nsI ?_; kernel_rfl) | (refine And.intro ?_ ?_ <;> conv => whnf; try dsimp only [St.after, St.afterAt, St.pin, St.unpin, initSt, initT, numO, cellsA, Option.map, ren, renL, renO, St.setObj, headSt, List.cons_append, List.nil_append, List.length_nil, Nat.reduceAdd])))) <;> (conv => whnf; try dsimp only [St.after, St.afterAt, St.pin, St.unpin, initSt, initT, numO, cellsA, Option.map, ren, renL, renO, St.setObj, headSt, List.cons_append, List.nil_append, List.length_nil, Nat.reduceAdd]))
    rw [b.near_eq hb]
end Go.Proofs.Ytkecpgidolphfaa
namespace Go.Proofs.Ytkecpgidolphfaa
open Go Go.Sk
def FIn : AV := .v (.func (.func 33) #[] #[])
def Bd.bx (b : Bd) : AO := .box [I b.cells, Iss b.next, Is b.turn]
def Bd.odd (b : Bd) (c : Int) : Bool := !(decide (-1 ≤ c) && decide (c ≤ b.cells - 1))
set_option maxRecDepth 10000 in
theorem In_p (n l m : Int) : Pure Try.prog 33 [I n, I l, I m] (Bo (decide (l ≤ n) && decide (n ≤ m))) none := by
  refine fun_of tok D_ok Try.func33 rfl Try.ntmps33 Try.results33 (by kernel_rfl) (by simp) (by simp) ?_
  conv => whnf
  repeat' ((first
    | (refine Ck.mk ?_)
    | (refine ifD (fun _ => ?_) (fun _ => ?_))
    | (refine ifE (fun _ => ?_) (fun _ => ?_))
    | (refine ifN (fun _ => ?_) (fun _ => ?_))
    | ((with_reducible refine natI ?_))
    | ((with_reducible refine ifNot ?_))
    | ((with_reducible refine ifAndD (fun _ _ => ?_) (fun _ => ?_)))
    | ((with_reducible refine ifAnd (fun _ _ => ?_) (fun _ => ?_)))
    | (refine ixM (by omega) (by first | omega | (simp only [List.length_set, List.length_map, List.length_append, List.length_cons, List.length_nil, List.length_replicate]; omega)) rfl ?_)
    | (refine ixA (by omega) (by first | omega | (simp only [List.length_set, List.length_map, List.length_append, List.length_cons, List.length_nil, List.length_replicate]; omega)) ?_)
    | (refine ltM (by omega) (by first | omega | (simp only [List.length_set, List.length_map, List.length_append, List.length_cons, List.length_nil, List.length_replicate]; omega)) ?_)
    | (refine calI (by omega) ?_)
    | (refine cu8 (by omega) ?_)
    | (refine cu64 (by omega) ?_)
    | (refine And.intro (by omega) ?_; refine crem (by omega) ?_)
    | (refine And.intro (by omega) ?_; refine cquo (by omega) ?_)
    | ((with_reducible refine preI ?_); (first | refine preNil ?_ | refine preOp rfl rfl ?_ | refine preT rfl rfl rfl rfl ?_ | refine preF rfl rfl rfl rfl ?_ | refine preTS rfl rfl rfl rfl ?_ | refine preFS rfl rfl rfl rfl ?_ | refine preSkip rfl rfl rfl rfl ?_ | refine preGT rfl rfl rfl rfl ?_ | refine preGF rfl rfl rfl rfl ?_))
    | (refine AltS.own (by assumption) ?_)
    | (refine AltS.im ?_)
    | (refine AltT.own (by assumption) ?_)
    | (refine AltT.im ?_)
    | (refine NilK.mk (fun _ => ?_) ?_)
    | (refine AltV.own (by assumption) ?_)
    | (refine AltV.im ?_)
    | ((first | refine drawA2 (by decide +kernel) ?_ | refine drawA (by decide +kernel) ?_ | refine drawL (by decide +kernel) ?_); conv => whnf; (try dsimp only [St.after, St.afterAt, St.pin, St.unpin, initSt, initT, numO, cellsA, Option.map, ren, renL, renO, St.setObj, headSt, List.cons_append, List.nil_append, List.length_nil, Nat.reduceAdd]); try (conv => enter [7, 3]; whnf))
    | (refine ap1 (by decide) (by omega) rfl rfl ?_)
    | (refine ap0 (by decide) rfl ?_)
    | (refine apL (by decide) (by omega) (fun _ => rfl) ?_)
    | (refine apM (by decide) (by omega) (fun _ => rfl) ?_)
    | (refine setI (z := _) rfl ?_)
    | (refine And.intro (by omega) (And.intro (by omega) ?_))
    | (refine ifB_intro (fun _ => ?_) (fun _ => ?_))
    | (refine exitA (by kernel_rfl) (by kernel_rfl) ⟨?_, trivial⟩ ?_ <;> (conv => whnf) <;> repeat' (first | exact trivial | with_reducible rfl | (refine srcI ?_; kernel_rfl) | (refine nsI ?_; kernel_rfl) | (refine And.intro ?_ ?_ <;> conv => whnf; try dsimp only [St.after, St.afterAt, St.pin, St.unpin, initSt, initT, numO, cellsA, Option.map, ren, renL, renO, St.setObj, headSt, List.cons_append, List.nil_append, List.length_nil, Nat.reduceAdd])))) <;> (conv => whnf; try dsimp only [St.after, St.afterAt, St.pin, St.unpin, initSt, initT, numO, cellsA, Option.map, ren, renL, renO, St.setObj, headSt, List.cons_append, List.nil_append, List.length_nil, Nat.reduceAdd]))
  all_goals simp [*]
set_option maxRecDepth 10000 in
theorem Odd_p (b : Bd) (hb : -9223372036854775807 ≤ b.cells ∧ b.cells ≤ 9223372036854775807) (c : Int) : Fun Try.prog 35 [.box [FIn], b.bx] [I c, .ptr 0 0, .ptr 1 0] (Bo (b.odd c)) [.box [FIn], b.bx] := by
  refine fun_of tok D_ok Try.func35 rfl Try.ntmps35 Try.results35 (by kernel_rfl) (by simp) (by simp) ?_
  conv => whnf
  repeat' ((first
    | (refine Ck.mk ?_)
    | (refine ifD (fun _ => ?_) (fun _ => ?_))
    | (refine ifE (fun _ => ?_) (fun _ => ?_))
    | (refine ifN (fun _ => ?_) (fun _ => ?_))
    | ((with_reducible refine natI ?_))
    | ((with_reducible refine ifNot ?_))
    | ((with_reducible refine ifAndD (fun _ _ => ?_) (fun _ => ?_)))
    | ((with_reducible refine ifAnd (fun _ _ => ?_) (fun _ => ?_)))
    | (refine ixM (by omega) (by first | omega | (simp only [List.length_set, List.length_map, List.length_append, List.length_cons, List.length_nil, List.length_replicate]; omega)) rfl ?_)
    | (refine ixA (by omega) (by first | omega | (simp only [List.length_set, List.length_map, List.length_append, List.length_cons, List.length_nil, List.length_replicate]; omega)) ?_)
    | (refine ltM (by omega) (by first | omega | (simp only [List.length_set, List.length_map, List.length_append, List.length_cons, List.length_nil, List.length_replicate]; omega)) ?_)
    | (refine calI (by omega) ?_)
    | (refine cu8 (by omega) ?_)
    | (refine cu64 (by omega) ?_)
    | (refine And.intro (by omega) ?_; refine crem (by omega) ?_)
    | (refine And.intro (by omega) ?_; refine cquo (by omega) ?_)
    | (refine ⟨_, _, In_p _ _ _, ?_⟩)
    | (refine .inl ?_; (conv => whnf); refine ⟨_, _, In_p _ _ _, ?_⟩)
    | ((with_reducible refine preI ?_); (first | refine preNil ?_ | refine preOp rfl rfl ?_ | refine preT rfl rfl rfl rfl ?_ | refine preF rfl rfl rfl rfl ?_ | refine preTS rfl rfl rfl rfl ?_ | refine preFS rfl rfl rfl rfl ?_ | refine preSkip rfl rfl rfl rfl ?_ | refine preGT rfl rfl rfl rfl ?_ | refine preGF rfl rfl rfl rfl ?_))
    | (refine AltS.own (by assumption) ?_)
    | (refine AltS.im ?_)
    | (refine AltT.own (by assumption) ?_)
    | (refine AltT.im ?_)
    | (refine NilK.mk (fun _ => ?_) ?_)
    | (refine AltV.own (by assumption) ?_)
    | (refine AltV.im ?_)
    | ((first | refine drawA2 (by decide +kernel) ?_ | refine drawA (by decide +kernel) ?_ | refine drawL (by decide +kernel) ?_); conv => whnf; (try dsimp only [St.after, St.afterAt, St.pin, St.unpin, initSt, initT, numO, cellsA, Option.map, ren, renL, renO, St.setObj, headSt, List.cons_append, List.nil_append, List.length_nil, Nat.reduceAdd]); try (conv => enter [7, 3]; whnf))
    | (refine ap1 (by decide) (by omega) rfl rfl ?_)
    | (refine ap0 (by decide) rfl ?_)
    | (refine apL (by decide) (by omega) (fun _ => rfl) ?_)
    | (refine apM (by decide) (by omega) (fun _ => rfl) ?_)
    | (refine setI (z := _) rfl ?_)
    | (refine And.intro (by omega) (And.intro (by omega) ?_))
    | (refine ifB_intro (fun _ => ?_) (fun _ => ?_))
    | (refine exitA (by kernel_rfl) (by kernel_rfl) ⟨?_, trivial⟩ ?_ <;> (conv => whnf) <;> repeat' (first | exact trivial | with_reducible rfl | (refine srcI ?_; kernel_rfl) | (refine nsI ?_; kernel_rfl) | (refine And.intro ?_ ?_ <;> conv => whnf; try dsimp only [St.after, St.afterAt, St.pin, St.unpin, initSt, initT, numO, cellsA, Option.map, ren, renL, renO, St.setObj, headSt, List.cons_append, List.nil_append, List.length_nil, Nat.reduceAdd])))) <;> (conv => whnf; try dsimp only [St.after, St.afterAt, St.pin, St.unpin, initSt, initT, numO, cellsA, Option.map, ren, renL, renO, St.setObj, headSt, List.cons_append, List.nil_append, List.length_nil, Nat.reduceAdd]))
  rfl
set_option maxRecDepth 10000 in
theorem IndexOdd_p (b : Bd) (hb : -9223372036854775807 ≤ b.cells ∧ b.cells ≤ 9223372036854775807) (l : List Int) (hl : l.length ≤ 9223372036854775807) :
    Fun Try.prog 44 [.box [FIn], b.bx] [Is l, .fn (.func 35) [] [.ptr 0 0, .ptr 1 0]] (I (match l.findIdx? b.odd with | some i => (i : Int) | none => -1)) [.box [FIn], b.bx] := by
  refine fun_of tok D_ok Try.func44 rfl Try.ntmps44 Try.results44 (by kernel_rfl) (by simp) (by simp) ?_
  have e : l.length = (l.map I).length := by simp
  conv => whnf
  refine .of (fun i => [(8, I i)]) (fun i => []) 2 (fun i => 0 ≤ i ∧ i ≤ l.length ∧ ∀ c, c ∈ l.take i.toNat → b.odd c = false) (fun i => (l.length - i).toNat) 0 ?_
  conv => whnf
  refine ⟨⟨[], (by kernel_rfl), (by kernel_rfl), (by kernel_rfl), ?_, ?_⟩, ?_, fun i ⟨h0, h1, ht⟩ => ?_⟩
  rotate_left 1
  focus
    conv => whnf
    repeat' (first
      | exact trivial
      | with_reducible rfl
      | (refine srcI ?_; kernel_rfl)
      | (refine nsI ?_; kernel_rfl)
      | (refine And.intro ?_ ?_ <;> conv => whnf; try dsimp only [St.after, St.afterAt, St.pin, St.unpin, initSt, initT, numO, cellsA, Option.map, ren, renL, renO, St.setObj, headSt, List.cons_append, List.nil_append, List.length_nil, Nat.reduceAdd])
      | rfl)
  rotate_right 1
  focus
    conv => whnf
    repeat' (first
      | exact trivial
      | with_reducible rfl
      | (refine srcI ?_; kernel_rfl)
      | (refine nsI ?_; kernel_rfl)
      | (refine And.intro ?_ ?_ <;> conv => whnf; try dsimp only [St.after, St.afterAt, St.pin, St.unpin, initSt, initT, numO, cellsA, Option.map, ren, renL, renO, St.setObj, headSt, List.cons_append, List.nil_append, List.length_nil, Nat.reduceAdd])
      | rfl)
  rotate_right 1
  focus
    conv => whnf
  rotate_left 1
  · exact ⟨by omega, by omega, by simp⟩
  repeat' ((first
    | (refine Ck.mk ?_)
    | (refine ifD (fun _ => ?_) (fun _ => ?_))
    | (refine ifE (fun _ => ?_) (fun _ => ?_))
    | (refine ifN (fun _ => ?_) (fun _ => ?_))
    | ((with_reducible refine natI ?_))
    | ((with_reducible refine ifNot ?_))
    | ((with_reducible refine ifAndD (fun _ _ => ?_) (fun _ => ?_)))
    | ((with_reducible refine ifAnd (fun _ _ => ?_) (fun _ => ?_)))
    | (refine ixM (by omega) (by first | omega | (simp only [List.length_set, List.length_map, List.length_append, List.length_cons, List.length_nil, List.length_replicate]; omega)) rfl ?_)
    | (refine ixA (by omega) (by first | omega | (simp only [List.length_set, List.length_map, List.length_append, List.length_cons, List.length_nil, List.length_replicate]; omega)) ?_)
    | (refine ltM (by omega) (by first | omega | (simp only [List.length_set, List.length_map, List.length_append, List.length_cons, List.length_nil, List.length_replicate]; omega)) ?_)
    | (refine calI (by omega) ?_)
    | (refine cu8 (by omega) ?_)
    | (refine cu64 (by omega) ?_)
    | (refine And.intro (by omega) ?_; refine crem (by omega) ?_)
    | (refine And.intro (by omega) ?_; refine cquo (by omega) ?_)
    | ((with_reducible refine preI ?_); (first | refine preNil ?_ | refine preOp rfl rfl ?_ | refine preT rfl rfl rfl rfl ?_ | refine preF rfl rfl rfl rfl ?_ | refine preTS rfl rfl rfl rfl ?_ | refine preFS rfl rfl rfl rfl ?_ | refine preSkip rfl rfl rfl rfl ?_ | refine preGT rfl rfl rfl rfl ?_ | refine preGF rfl rfl rfl rfl ?_))
    | (refine AltS.own (by assumption) ?_)
    | (refine AltS.im ?_)
    | (refine AltT.own (by assumption) ?_)
    | (refine AltT.im ?_)
    | (refine NilK.mk (fun _ => ?_) ?_)
    | (refine AltV.own (by assumption) ?_)
    | (refine AltV.im ?_)
    | ((first | refine drawA2 (by decide +kernel) ?_ | refine drawA (by decide +kernel) ?_ | refine drawL (by decide +kernel) ?_); conv => whnf; (try dsimp only [St.after, St.afterAt, St.pin, St.unpin, initSt, initT, numO, cellsA, Option.map, ren, renL, renO, St.setObj, headSt, List.cons_append, List.nil_append, List.length_nil, Nat.reduceAdd]); try (conv => enter [7, 3]; whnf))
    | (refine ap1 (by decide) (by omega) rfl rfl ?_)
    | (refine ap0 (by decide) rfl ?_)
    | (refine apL (by decide) (by omega) (fun _ => rfl) ?_)
    | (refine apM (by decide) (by omega) (fun _ => rfl) ?_)
    | (refine setI (z := _) rfl ?_)
    | (refine And.intro (by omega) (And.intro (by omega) ?_))
    | (refine ifB_intro (fun _ => ?_) (fun _ => ?_))) <;> (conv => whnf; try dsimp only [St.after, St.afterAt, St.pin, St.unpin, initSt, initT, numO, cellsA, Option.map, ren, renL, renO, St.setObj, headSt, List.cons_append, List.nil_append, List.length_nil, Nat.reduceAdd]))
  ·
    refine .inl ?_
    conv => whnf
    refine ⟨[0, 1], [.box [FIn], b.bx], [I (nth l i), .ptr 0 0, .ptr 1 0], _, _, ⟨rfl, rfl, rfl⟩, Odd_p b hb _, ?_⟩
    conv => whnf
    repeat' ((first
      | (refine Ck.mk ?_)
      | (refine ifD (fun _ => ?_) (fun _ => ?_))
      | (refine ifE (fun _ => ?_) (fun _ => ?_))
      | (refine ifN (fun _ => ?_) (fun _ => ?_))
      | ((with_reducible refine natI ?_))
      | ((with_reducible refine ifNot ?_))
      | ((with_reducible refine ifAndD (fun _ _ => ?_) (fun _ => ?_)))
      | ((with_reducible refine ifAnd (fun _ _ => ?_) (fun _ => ?_)))
      | (refine ixM (by omega) (by first | omega | (simp only [List.length_set, List.length_map, List.length_append, List.length_cons, List.length_nil, List.length_replicate]; omega)) rfl ?_)
      | (refine ixA (by omega) (by first | omega | (simp only [List.length_set, List.length_map, List.length_append, List.length_cons, List.length_nil, List.length_replicate]; omega)) ?_)
      | (refine ltM (by omega) (by first | omega | (simp only [List.length_set, List.length_map, List.length_append, List.length_cons, List.length_nil, List.length_replicate]; omega)) ?_)
      | (refine calI (by omega) ?_)
      | (refine cu8 (by omega) ?_)
      | (refine cu64 (by omega) ?_)
      | (refine And.intro (by omega) ?_; refine crem (by omega) ?_)
      | (refine And.intro (by omega) ?_; refine cquo (by omega) ?_)
      | ((with_reducible refine preI ?_); (first | refine preNil ?_ | refine preOp rfl rfl ?_ | refine preT rfl rfl rfl rfl ?_ | refine preF rfl rfl rfl rfl ?_ | refine preTS rfl rfl rfl rfl ?_ | refine preFS rfl rfl rfl rfl ?_ | refine preSkip rfl rfl rfl rfl ?_ | refine preGT rfl rfl rfl rfl ?_ | refine preGF rfl rfl rfl rfl ?_))
      | (refine AltS.own (by assumption) ?_)
      | (refine AltS.im ?_)
      | (refine AltT.own (by assumption) ?_)
      | (refine AltT.im ?_)
      | (refine NilK.mk (fun _ => ?_) ?_)
      | (refine AltV.own (by assumption) ?_)
      | (refine AltV.im ?_)
      | ((first | refine drawA2 (by decide +kernel) ?_ | refine drawA (by decide +kernel) ?_ | refine drawL (by decide +kernel) ?_); conv => whnf; (try dsimp only [St.after, St.afterAt, St.pin, St.unpin, initSt, initT, numO, cellsA, Option.map, ren, renL, renO, St.setObj, headSt, List.cons_append, List.nil_append, List.length_nil, Nat.reduceAdd]); try (conv => enter [7, 3]; whnf))
      | (refine ap1 (by decide) (by omega) rfl rfl ?_)
      | (refine ap0 (by decide) rfl ?_)
      | (refine apL (by decide) (by omega) (fun _ => rfl) ?_)
      | (refine apM (by decide) (by omega) (fun _ => rfl) ?_)
      | (refine setI (z := _) rfl ?_)
      | (refine And.intro (by omega) (And.intro (by omega) ?_))
      | (refine ifB_intro (fun _ => ?_) (fun _ => ?_))
      | (refine exitA (by kernel_rfl) (by kernel_rfl) ⟨?_, trivial⟩ ?_ <;> (conv => whnf) <;> repeat' (first | exact trivial | with_reducible rfl | (refine srcI ?_; kernel_rfl) | (refine nsI ?_; kernel_rfl) | (refine And.intro ?_ ?_ <;> conv => whnf; try dsimp only [St.after, St.afterAt, St.pin, St.unpin, initSt, initT, numO, cellsA, Option.map, ren, renL, renO, St.setObj, headSt, List.cons_append, List.nil_append, List.length_nil, Nat.reduceAdd])))) <;> (conv => whnf; try dsimp only [St.after, St.afterAt, St.pin, St.unpin, initSt, initT, numO, cellsA, Option.map, ren, renL, renO, St.setObj, headSt, List.cons_append, List.nil_append, List.length_nil, Nat.reduceAdd]))
    · rename_i h
      have hf : l.findIdx? b.odd = some i.toNat := by
        rw [List.findIdx?_eq_some_iff_getElem]
        refine ⟨by omega, ?_, fun j hj => ?_⟩
        · have := nth_some h0 (show i < l.length by omega)
          rw [List.getElem?_eq_getElem (by omega)] at this
          injection this with this
          rw [this]; exact h
        · have := ht l[j] (List.mem_take_iff_getElem.2 ⟨j, by omega, rfl⟩)
          simp [this]
      rw [hf]
      show Value.int .i64 i = Value.int .i64 ((i.toNat : Int))
      rw [Int.toNat_of_nonneg h0]
    · rename_i h
      refine ⟨i + 1, ⟨[], (by kernel_rfl), (by kernel_rfl), (by kernel_rfl), ?_, ?_⟩, ?_, by (try dsimp only); omega, rfl⟩
      rotate_left 1
      focus
        conv => whnf
        repeat' (first
          | exact trivial
          | with_reducible rfl
          | (refine srcI ?_; kernel_rfl)
          | (refine nsI ?_; kernel_rfl)
          | (refine And.intro ?_ ?_ <;> conv => whnf; try dsimp only [St.after, St.afterAt, St.pin, St.unpin, initSt, initT, numO, cellsA, Option.map, ren, renL, renO, St.setObj, headSt, List.cons_append, List.nil_append, List.length_nil, Nat.reduceAdd]))
      rotate_right 1
      focus
        conv => whnf
        repeat' (first
          | exact trivial
          | with_reducible rfl
          | (refine srcI ?_; kernel_rfl)
          | (refine nsI ?_; kernel_rfl)
          | (refine And.intro ?_ ?_ <;> conv => whnf; try dsimp only [St.after, St.afterAt, St.pin, St.unpin, initSt, initT, numO, cellsA, Option.map, ren, renL, renO, St.setObj, headSt, List.cons_append, List.nil_append, List.length_nil, Nat.reduceAdd]))
      refine ⟨by omega, by omega, fun c hc => ?_⟩
      rw [take_snoc h0 (by omega)] at hc
      rcases List.mem_append.1 hc with hc | hc
      · exact ht c hc
      · simp at hc; subst hc; exact h
  ·
    repeat' ((first
      | (refine Ck.mk ?_)
      | (refine ifD (fun _ => ?_) (fun _ => ?_))
      | (refine ifE (fun _ => ?_) (fun _ => ?_))
      | (refine ifN (fun _ => ?_) (fun _ => ?_))
      | ((with_reducible refine natI ?_))
      | ((with_reducible refine ifNot ?_))
      | ((with_reducible refine ifAndD (fun _ _ => ?_) (fun _ => ?_)))
      | ((with_reducible refine ifAnd (fun _ _ => ?_) (fun _ => ?_)))
      | (refine ixM (by omega) (by first | omega | (simp only [List.length_set, List.length_map, List.length_append, List.length_cons, List.length_nil, List.length_replicate]; omega)) rfl ?_)
      | (refine ixA (by omega) (by first | omega | (simp only [List.length_set, List.length_map, List.length_append, List.length_cons, List.length_nil, List.length_replicate]; omega)) ?_)
      | (refine ltM (by omega) (by first | omega | (simp only [List.length_set, List.length_map, List.length_append, List.length_cons, List.length_nil, List.length_replicate]; omega)) ?_)
      | (refine calI (by omega) ?_)
      | (refine cu8 (by omega) ?_)
      | (refine cu64 (by omega) ?_)
      | (refine And.intro (by omega) ?_; refine crem (by omega) ?_)
      | (refine And.intro (by omega) ?_; refine cquo (by omega) ?_)
      | ((with_reducible refine preI ?_); (first | refine preNil ?_ | refine preOp rfl rfl ?_ | refine preT rfl rfl rfl rfl ?_ | refine preF rfl rfl rfl rfl ?_ | refine preTS rfl rfl rfl rfl ?_ | refine preFS rfl rfl rfl rfl ?_ | refine preSkip rfl rfl rfl rfl ?_ | refine preGT rfl rfl rfl rfl ?_ | refine preGF rfl rfl rfl rfl ?_))
      | (refine AltS.own (by assumption) ?_)
      | (refine AltS.im ?_)
      | (refine AltT.own (by assumption) ?_)
      | (refine AltT.im ?_)
      | (refine NilK.mk (fun _ => ?_) ?_)
      | (refine AltV.own (by assumption) ?_)
      | (refine AltV.im ?_)
      | ((first | refine drawA2 (by decide +kernel) ?_ | refine drawA (by decide +kernel) ?_ | refine drawL (by decide +kernel) ?_); conv => whnf; (try dsimp only [St.after, St.afterAt, St.pin, St.unpin, initSt, initT, numO, cellsA, Option.map, ren, renL, renO, St.setObj, headSt, List.cons_append, List.nil_append, List.length_nil, Nat.reduceAdd]); try (conv => enter [7, 3]; whnf))
      | (refine ap1 (by decide) (by omega) rfl rfl ?_)
      | (refine ap0 (by decide) rfl ?_)
      | (refine apL (by decide) (by omega) (fun _ => rfl) ?_)
      | (refine apM (by decide) (by omega) (fun _ => rfl) ?_)
      | (refine setI (z := _) rfl ?_)
      | (refine And.intro (by omega) (And.intro (by omega) ?_))
      | (refine ifB_intro (fun _ => ?_) (fun _ => ?_))
      | (refine exitA (by kernel_rfl) (by kernel_rfl) ⟨?_, trivial⟩ ?_ <;> (conv => whnf) <;> repeat' (first | exact trivial | with_reducible rfl | (refine srcI ?_; kernel_rfl) | (refine nsI ?_; kernel_rfl) | (refine And.intro ?_ ?_ <;> conv => whnf; try dsimp only [St.after, St.afterAt, St.pin, St.unpin, initSt, initT, numO, cellsA, Option.map, ren, renL, renO, St.setObj, headSt, List.cons_append, List.nil_append, List.length_nil, Nat.reduceAdd])))) <;> (conv => whnf; try dsimp only [St.after, St.afterAt, St.pin, St.unpin, initSt, initT, numO, cellsA, Option.map, ren, renL, renO, St.setObj, headSt, List.cons_append, List.nil_append, List.length_nil, Nat.reduceAdd]))
    have hf : l.findIdx? b.odd = none := by
      rw [List.findIdx?_eq_none_iff]
      intro c hc
      exact ht c (by rw [take_all (by omega)]; exact hc)
    rw [hf]
set_option maxRecDepth 10000 in
theorem ContainsOdd_p (b : Bd) (hb : -9223372036854775807 ≤ b.cells ∧ b.cells ≤ 9223372036854775807) (l : List Int) (hl : l.length ≤ 9223372036854775807) :
    Fun Try.prog 34 [.box [FIn], b.bx] [Is l, .fn (.func 35) [] [.ptr 0 0, .ptr 1 0]] (Bo (l.any b.odd)) [.box [FIn], b.bx] := by
  refine fun_of tok D_ok Try.func34 rfl Try.ntmps34 Try.results34 (by kernel_rfl) (by simp) (by simp) ?_
  conv => whnf
  refine .inl ?_
  conv => whnf
  refine ⟨[0, 1], [.box [FIn], b.bx], [Is l, .fn (.func 35) [] [.ptr 0 0, .ptr 1 0]], _, _, ⟨rfl, rfl, rfl⟩, IndexOdd_p b hb l hl, ?_⟩
  conv => whnf
  repeat' ((first
    | (refine Ck.mk ?_)
    | (refine ifD (fun _ => ?_) (fun _ => ?_))
    | (refine ifE (fun _ => ?_) (fun _ => ?_))
    | (refine ifN (fun _ => ?_) (fun _ => ?_))
    | ((with_reducible refine natI ?_))
    | ((with_reducible refine ifNot ?_))
    | ((with_reducible refine ifAndD (fun _ _ => ?_) (fun _ => ?_)))
    | ((with_reducible refine ifAnd (fun _ _ => ?_) (fun _ => ?_)))
    | (refine ixM (by omega) (by first | omega | (simp only [List.length_set, List.length_map, List.length_append, List.length_cons, List.length_nil, List.length_replicate]; omega)) rfl ?_)
    | (refine ixA (by omega) (by first | omega | (simp only [List.length_set, List.length_map, List.length_append, List.length_cons, List.length_nil, List.length_replicate]; omega)) ?_)
    | (refine ltM (by omega) (by first | omega | (simp only [List.length_set, List.length_map, List.length_append, List.length_cons, List.length_nil, List.length_replicate]; omega)) ?_)
    | (refine calI (by omega) ?_)
    | (refine cu8 (by omega) ?_)
    | (refine cu64 (by omega) ?_)
    | (refine And.intro (by omega) ?_; refine crem (by omega) ?_)
    | (refine And.intro (by omega) ?_; refine cquo (by omega) ?_)
    | ((with_reducible refine preI ?_); (first | refine preNil ?_ | refine preOp rfl rfl ?_ | refine preT rfl rfl rfl rfl ?_ | refine preF rfl rfl rfl rfl ?_ | refine preTS rfl rfl rfl rfl ?_ | refine preFS rfl rfl rfl rfl ?_ | refine preSkip rfl rfl rfl rfl ?_ | refine preGT rfl rfl rfl rfl ?_ | refine preGF rfl rfl rfl rfl ?_))
    | (refine AltS.own (by assumption) ?_)
    | (refine AltS.im ?_)
    | (refine AltT.own (by assumption) ?_)
    | (refine AltT.im ?_)
    | (refine NilK.mk (fun _ => ?_) ?_)
    | (refine AltV.own (by assumption) ?_)
    | (refine AltV.im ?_)
    | ((first | refine drawA2 (by decide +kernel) ?_ | refine drawA (by decide +kernel) ?_ | refine drawL (by decide +kernel) ?_); conv => whnf; (try dsimp only [St.after, St.afterAt, St.pin, St.unpin, initSt, initT, numO, cellsA, Option.map, ren, renL, renO, St.setObj, headSt, List.cons_append, List.nil_append, List.length_nil, Nat.reduceAdd]); try (conv => enter [7, 3]; whnf))
    | (refine ap1 (by decide) (by omega) rfl rfl ?_)
    | (refine ap0 (by decide) rfl ?_)
    | (refine apL (by decide) (by omega) (fun _ => rfl) ?_)
    | (refine apM (by decide) (by omega) (fun _ => rfl) ?_)
    | (refine setI (z := _) rfl ?_)
    | (refine And.intro (by omega) (And.intro (by omega) ?_))
    | (refine ifB_intro (fun _ => ?_) (fun _ => ?_))
    | (refine exitA (by kernel_rfl) (by kernel_rfl) ⟨?_, trivial⟩ ?_ <;> (conv => whnf) <;> repeat' (first | exact trivial | with_reducible rfl | (refine srcI ?_; kernel_rfl) | (refine nsI ?_; kernel_rfl) | (refine And.intro ?_ ?_ <;> conv => whnf; try dsimp only [St.after, St.afterAt, St.pin, St.unpin, initSt, initT, numO, cellsA, Option.map, ren, renL, renO, St.setObj, headSt, List.cons_append, List.nil_append, List.length_nil, Nat.reduceAdd])))) <;> (conv => whnf; try dsimp only [St.after, St.afterAt, St.pin, St.unpin, initSt, initT, numO, cellsA, Option.map, ren, renL, renO, St.setObj, headSt, List.cons_append, List.nil_append, List.length_nil, Nat.reduceAdd]))
  have : (decide ((match l.findIdx? b.odd with | some i => (i : Int) | none => -1) ≥ 0)) = l.any b.odd := by
    cases hf : l.findIdx? b.odd with
    | none =>
      rw [List.findIdx?_eq_none_iff] at hf
      have h2 : l.any b.odd = false := List.any_eq_false.2 fun x hx => by rw [hf x hx]; simp
      rw [h2]; rfl
    | some i =>
      obtain ⟨h1, h2, _⟩ := List.findIdx?_eq_some_iff_getElem.1 hf
      have h3 : l.any b.odd = true := List.any_eq_true.2 ⟨l[i], List.getElem_mem _, h2⟩
      rw [h3]
      exact decide_eq_true (show (i : Int) ≥ 0 by omega)
  rw [← this]
end Go.Proofs.Ytkecpgidolphfaa
namespace Go.Proofs.Ytkecpgidolphfaa
open Go Go.Sk
theorem Bd.ok_iff (b : Bd) : b.ok ↔ 1 ≤ b.cells ∧ b.cells ≤ 64 ∧ 1 ≤ b.next.length ∧ b.next.length ≤ 8 ∧ b.turn.length = b.next.length ∧ ∀ d, d ∈ ints b.next.length →
    ((nth b.next d).length : Int) = b.cells ∧ (∀ c, c ∈ ints b.cells → -1 ≤ b.nx d c ∧ b.nx d c < b.cells) ∧ 0 ≤ b.tn d ∧ b.tn d < b.next.length ∧ b.tn (b.tn d) = d :=
  ⟨fun h => ⟨h.c1, h.c64, h.n1, h.n8, h.tl, fun d hd => by
    obtain ⟨h0, h1⟩ := mem_ints.1 hd
    exact ⟨h.ll d h0 h1, fun c hc => h.lx d c h0 h1 (mem_ints.1 hc).1 (mem_ints.1 hc).2, h.t0 d h0 h1⟩⟩,
  fun ⟨h1, h2, h3, h4, h5, h6⟩ => ⟨h1, h2, h3, h4, h5, fun d q0 q1 => (h6 d (mem_ints.2 ⟨q0, q1⟩)).1, fun d c q0 q1 q2 q3 => (h6 d (mem_ints.2 ⟨q0, q1⟩)).2.1 c (mem_ints.2 ⟨q2, q3⟩), fun d q0 q1 => (h6 d (mem_ints.2 ⟨q0, q1⟩)).2.2⟩⟩
instance (b : Bd) : Decidable b.ok := decidable_of_iff _ b.ok_iff.symm
def Bd.good (b : Bd) (d : Int) : Prop := ∀ e : Int, 0 ≤ e → e < d → ((nth b.next e).length : Int) = b.cells ∧ (∀ c : Int, 0 ≤ c → c < b.cells → -1 ≤ b.nx e c ∧ b.nx e c < b.cells) ∧ 0 ≤ b.tn e ∧ b.tn e < b.next.length ∧ b.tn (b.tn e) = e
theorem Bd.good_zero (b : Bd) : b.good 0 := fun e h0 h1 => by omega
theorem Bd.good_succ {b : Bd} {d : Int} (h : b.good d) (h1 : ((nth b.next d).length : Int) = b.cells) (h2 : ∀ c : Int, 0 ≤ c → c < b.cells → -1 ≤ b.nx d c ∧ b.nx d c < b.cells) (h3 : 0 ≤ b.tn d ∧ b.tn d < b.next.length ∧ b.tn (b.tn d) = d) : b.good (d + 1) := fun e h0 h4 => by
  rcases Int.lt_or_le e d with h5 | h5
  · exact h e h0 h5
  · obtain rfl : e = d := by omega
    exact ⟨h1, h2, h3⟩
theorem Bd.ok_of_good {b : Bd} {d : Int} (h1 : 1 ≤ b.cells) (h2 : b.cells ≤ 64) (h3 : 1 ≤ b.next.length) (h4 : b.next.length ≤ 8) (h5 : b.turn.length = b.next.length) (h : b.good d) (hd : b.next.length ≤ d) : b.ok :=
  ⟨h1, h2, h3, h4, h5, fun e q0 q1 => (h e q0 (by omega)).1, fun e c q0 q1 q2 q3 => (h e q0 (by omega)).2.1 c q2 q3, fun e q0 q1 => (h e q0 (by omega)).2.2⟩
set_option maxHeartbeats 4000000 in
set_option maxRecDepth 10000 in
theorem Valid14_p (b : Bd) (hn : b.next.length ≤ 9223372036854775807) (hl : ∀ d : Int, 0 ≤ d → d < b.next.length → (nth b.next d).length ≤ 9223372036854775807) (ht : b.turn.length ≤ 9223372036854775807) :
    Pure Try.prog 14 [b.av] (Bo (decide b.ok)) none := by
  refine fun_of tok D_ok Try.func14 rfl Try.ntmps14 Try.results14 (by kernel_rfl) (by simp) (by simp) ?_
  have e1 : b.next.length = (b.next.map Is).length := by simp
  have e2 : b.turn.length = (b.turn.map I).length := by simp
  have no : ¬ b.ok → Value.bool false = Value.bool (decide b.ok) := fun h => by rw [decide_eq_false h]
  conv => whnf
  repeat' ((first
    | (refine Ck.mk ?_)
    | (refine ifD (fun _ => ?_) (fun _ => ?_))
    | (refine ifE (fun _ => ?_) (fun _ => ?_))
    | (refine ifN (fun _ => ?_) (fun _ => ?_))
    | ((with_reducible refine natI ?_))
    | ((with_reducible refine ifNot ?_))
    | ((with_reducible refine ifAndD (fun _ _ => ?_) (fun _ => ?_)))
    | ((with_reducible refine ifAnd (fun _ _ => ?_) (fun _ => ?_)))
    | (refine ixM (by omega) (by first | omega | (simp only [List.length_set, List.length_map, List.length_append, List.length_cons, List.length_nil, List.length_replicate]; omega)) rfl ?_)
    | (refine ixA (by omega) (by first | omega | (simp only [List.length_set, List.length_map, List.length_append, List.length_cons, List.length_nil, List.length_replicate]; omega)) ?_)
    | (refine ltM (by omega) (by first | omega | (simp only [List.length_set, List.length_map, List.length_append, List.length_cons, List.length_nil, List.length_replicate]; omega)) ?_)
    | (refine calI (by omega) ?_)
    | (refine cu8 (by omega) ?_)
    | (refine cu64 (by omega) ?_)
    | (refine And.intro (by omega) ?_; refine crem (by omega) ?_)
    | (refine And.intro (by omega) ?_; refine cquo (by omega) ?_)
    | ((with_reducible refine preI ?_); (first | refine preNil ?_ | refine preOp rfl rfl ?_ | refine preT rfl rfl rfl rfl ?_ | refine preF rfl rfl rfl rfl ?_ | refine preTS rfl rfl rfl rfl ?_ | refine preFS rfl rfl rfl rfl ?_ | refine preSkip rfl rfl rfl rfl ?_ | refine preGT rfl rfl rfl rfl ?_ | refine preGF rfl rfl rfl rfl ?_))
    | (refine AltS.own (by assumption) ?_)
    | (refine AltS.im ?_)
    | (refine AltT.own (by assumption) ?_)
    | (refine AltT.im ?_)
    | (refine NilK.mk (fun _ => ?_) ?_)
    | (refine AltV.own (by assumption) ?_)
    | (refine AltV.im ?_)
    | ((first | refine drawA2 (by decide +kernel) ?_ | refine drawA (by decide +kernel) ?_ | refine drawL (by decide +kernel) ?_); conv => whnf; (try dsimp only [St.after, St.afterAt, St.pin, St.unpin, initSt, initT, numO, cellsA, Option.map, ren, renL, renO, St.setObj, headSt, List.cons_append, List.nil_append, List.length_nil, Nat.reduceAdd]); try (conv => enter [7, 3]; whnf))
    | (refine ap1 (by decide) (by omega) rfl rfl ?_)
    | (refine ap0 (by decide) rfl ?_)
    | (refine apL (by decide) (by omega) (fun _ => rfl) ?_)
    | (refine apM (by decide) (by omega) (fun _ => rfl) ?_)
    | (refine setI (z := _) rfl ?_)
    | (refine And.intro (by omega) (And.intro (by omega) ?_))
    | (refine ifB_intro (fun _ => ?_) (fun _ => ?_))) <;> (conv => whnf; try dsimp only [St.after, St.afterAt, St.pin, St.unpin, initSt, initT, numO, cellsA, Option.map, ren, renL, renO, St.setObj, headSt, List.cons_append, List.nil_append, List.length_nil, Nat.reduceAdd]))
  iterate 5
    ·
      repeat' ((first
        | (refine Ck.mk ?_)
        | (refine ifD (fun _ => ?_) (fun _ => ?_))
        | (refine ifE (fun _ => ?_) (fun _ => ?_))
        | (refine ifN (fun _ => ?_) (fun _ => ?_))
        | ((with_reducible refine natI ?_))
        | ((with_reducible refine ifNot ?_))
        | ((with_reducible refine ifAndD (fun _ _ => ?_) (fun _ => ?_)))
        | ((with_reducible refine ifAnd (fun _ _ => ?_) (fun _ => ?_)))
        | (refine ixM (by omega) (by first | omega | (simp only [List.length_set, List.length_map, List.length_append, List.length_cons, List.length_nil, List.length_replicate]; omega)) rfl ?_)
        | (refine ixA (by omega) (by first | omega | (simp only [List.length_set, List.length_map, List.length_append, List.length_cons, List.length_nil, List.length_replicate]; omega)) ?_)
        | (refine ltM (by omega) (by first | omega | (simp only [List.length_set, List.length_map, List.length_append, List.length_cons, List.length_nil, List.length_replicate]; omega)) ?_)
        | (refine calI (by omega) ?_)
        | (refine cu8 (by omega) ?_)
        | (refine cu64 (by omega) ?_)
        | (refine And.intro (by omega) ?_; refine crem (by omega) ?_)
        | (refine And.intro (by omega) ?_; refine cquo (by omega) ?_)
        | ((with_reducible refine preI ?_); (first | refine preNil ?_ | refine preOp rfl rfl ?_ | refine preT rfl rfl rfl rfl ?_ | refine preF rfl rfl rfl rfl ?_ | refine preTS rfl rfl rfl rfl ?_ | refine preFS rfl rfl rfl rfl ?_ | refine preSkip rfl rfl rfl rfl ?_ | refine preGT rfl rfl rfl rfl ?_ | refine preGF rfl rfl rfl rfl ?_))
        | (refine AltS.own (by assumption) ?_)
        | (refine AltS.im ?_)
        | (refine AltT.own (by assumption) ?_)
        | (refine AltT.im ?_)
        | (refine NilK.mk (fun _ => ?_) ?_)
        | (refine AltV.own (by assumption) ?_)
        | (refine AltV.im ?_)
        | ((first | refine drawA2 (by decide +kernel) ?_ | refine drawA (by decide +kernel) ?_ | refine drawL (by decide +kernel) ?_); conv => whnf; (try dsimp only [St.after, St.afterAt, St.pin, St.unpin, initSt, initT, numO, cellsA, Option.map, ren, renL, renO, St.setObj, headSt, List.cons_append, List.nil_append, List.length_nil, Nat.reduceAdd]); try (conv => enter [7, 3]; whnf))
        | (refine ap1 (by decide) (by omega) rfl rfl ?_)
        | (refine ap0 (by decide) rfl ?_)
        | (refine apL (by decide) (by omega) (fun _ => rfl) ?_)
        | (refine apM (by decide) (by omega) (fun _ => rfl) ?_)
        | (refine setI (z := _) rfl ?_)
        | (refine And.intro (by omega) (And.intro (by omega) ?_))
        | (refine ifB_intro (fun _ => ?_) (fun _ => ?_))
        | (refine exitA (by kernel_rfl) (by kernel_rfl) ⟨?_, trivial⟩ ?_ <;> (conv => whnf) <;> repeat' (first | exact trivial | with_reducible rfl | (refine srcI ?_; kernel_rfl) | (refine nsI ?_; kernel_rfl) | (refine And.intro ?_ ?_ <;> conv => whnf; try dsimp only [St.after, St.afterAt, St.pin, St.unpin, initSt, initT, numO, cellsA, Option.map, ren, renL, renO, St.setObj, headSt, List.cons_append, List.nil_append, List.length_nil, Nat.reduceAdd])))) <;> (conv => whnf; try dsimp only [St.after, St.afterAt, St.pin, St.unpin, initSt, initT, numO, cellsA, Option.map, ren, renL, renO, St.setObj, headSt, List.cons_append, List.nil_append, List.length_nil, Nat.reduceAdd]))
      refine no fun hb => ?_
      have := hb.c1; have := hb.c64; have := hb.n1; have := hb.n8; have := hb.tl
      omega
  refine .of (fun d => [(4, I d)]) (fun d => []) 1 (fun d => 0 ≤ d ∧ d ≤ b.next.length ∧ b.good d) (fun d => (b.next.length - d).toNat) 0 ?_
  conv => whnf
  refine ⟨⟨[], (by kernel_rfl), (by kernel_rfl), (by kernel_rfl), ?_, ?_⟩, ?_, fun d ⟨h0, h1, hg⟩ => ?_⟩
  rotate_left 1
  focus
    conv => whnf
    repeat' (first
      | exact trivial
      | with_reducible rfl
      | (refine srcI ?_; kernel_rfl)
      | (refine nsI ?_; kernel_rfl)
      | (refine And.intro ?_ ?_ <;> conv => whnf; try dsimp only [St.after, St.afterAt, St.pin, St.unpin, initSt, initT, numO, cellsA, Option.map, ren, renL, renO, St.setObj, headSt, List.cons_append, List.nil_append, List.length_nil, Nat.reduceAdd])
      | rfl)
  rotate_right 1
  focus
    conv => whnf
    repeat' (first
      | exact trivial
      | with_reducible rfl
      | (refine srcI ?_; kernel_rfl)
      | (refine nsI ?_; kernel_rfl)
      | (refine And.intro ?_ ?_ <;> conv => whnf; try dsimp only [St.after, St.afterAt, St.pin, St.unpin, initSt, initT, numO, cellsA, Option.map, ren, renL, renO, St.setObj, headSt, List.cons_append, List.nil_append, List.length_nil, Nat.reduceAdd])
      | rfl)
  rotate_right 1
  focus
    conv => whnf
  rotate_left 1
  · exact ⟨by omega, by omega, b.good_zero⟩
  have e3 : (nth b.next d).length = ((nth b.next d).map I).length := by simp
  repeat' ((first
    | (refine Ck.mk ?_)
    | (refine ifD (fun _ => ?_) (fun _ => ?_))
    | (refine ifE (fun _ => ?_) (fun _ => ?_))
    | (refine ifN (fun _ => ?_) (fun _ => ?_))
    | ((with_reducible refine natI ?_))
    | ((with_reducible refine ifNot ?_))
    | ((with_reducible refine ifAndD (fun _ _ => ?_) (fun _ => ?_)))
    | ((with_reducible refine ifAnd (fun _ _ => ?_) (fun _ => ?_)))
    | (refine ixM (by omega) (by first | omega | (simp only [List.length_set, List.length_map, List.length_append, List.length_cons, List.length_nil, List.length_replicate]; omega)) rfl ?_)
    | (refine ixA (by omega) (by first | omega | (simp only [List.length_set, List.length_map, List.length_append, List.length_cons, List.length_nil, List.length_replicate]; omega)) ?_)
    | (refine ltM (by omega) (by first | omega | (simp only [List.length_set, List.length_map, List.length_append, List.length_cons, List.length_nil, List.length_replicate]; omega)) ?_)
    | (refine calI (by omega) ?_)
    | (refine cu8 (by omega) ?_)
    | (refine cu64 (by omega) ?_)
    | (refine And.intro (by omega) ?_; refine crem (by omega) ?_)
    | (refine And.intro (by omega) ?_; refine cquo (by omega) ?_)
    | ((with_reducible refine preI ?_); (first | refine preNil ?_ | refine preOp rfl rfl ?_ | refine preT rfl rfl rfl rfl ?_ | refine preF rfl rfl rfl rfl ?_ | refine preTS rfl rfl rfl rfl ?_ | refine preFS rfl rfl rfl rfl ?_ | refine preSkip rfl rfl rfl rfl ?_ | refine preGT rfl rfl rfl rfl ?_ | refine preGF rfl rfl rfl rfl ?_))
    | (refine AltS.own (by assumption) ?_)
    | (refine AltS.im ?_)
    | (refine AltT.own (by assumption) ?_)
    | (refine AltT.im ?_)
    | (refine NilK.mk (fun _ => ?_) ?_)
    | (refine AltV.own (by assumption) ?_)
    | (refine AltV.im ?_)
    | ((first | refine drawA2 (by decide +kernel) ?_ | refine drawA (by decide +kernel) ?_ | refine drawL (by decide +kernel) ?_); conv => whnf; (try dsimp only [St.after, St.afterAt, St.pin, St.unpin, initSt, initT, numO, cellsA, Option.map, ren, renL, renO, St.setObj, headSt, List.cons_append, List.nil_append, List.length_nil, Nat.reduceAdd]); try (conv => enter [7, 3]; whnf))
    | (refine ap1 (by decide) (by omega) rfl rfl ?_)
    | (refine ap0 (by decide) rfl ?_)
    | (refine apL (by decide) (by omega) (fun _ => rfl) ?_)
    | (refine apM (by decide) (by omega) (fun _ => rfl) ?_)
    | (refine setI (z := _) rfl ?_)
    | (refine And.intro (by omega) (And.intro (by omega) ?_))
    | (refine ifB_intro (fun _ => ?_) (fun _ => ?_))) <;> (conv => whnf; try dsimp only [St.after, St.afterAt, St.pin, St.unpin, initSt, initT, numO, cellsA, Option.map, ren, renL, renO, St.setObj, headSt, List.cons_append, List.nil_append, List.length_nil, Nat.reduceAdd]))
  iterate 4
    ·
      repeat' ((first
        | (refine Ck.mk ?_)
        | (refine ifD (fun _ => ?_) (fun _ => ?_))
        | (refine ifE (fun _ => ?_) (fun _ => ?_))
        | (refine ifN (fun _ => ?_) (fun _ => ?_))
        | ((with_reducible refine natI ?_))
        | ((with_reducible refine ifNot ?_))
        | ((with_reducible refine ifAndD (fun _ _ => ?_) (fun _ => ?_)))
        | ((with_reducible refine ifAnd (fun _ _ => ?_) (fun _ => ?_)))
        | (refine ixM (by omega) (by first | omega | (simp only [List.length_set, List.length_map, List.length_append, List.length_cons, List.length_nil, List.length_replicate]; omega)) rfl ?_)
        | (refine ixA (by omega) (by first | omega | (simp only [List.length_set, List.length_map, List.length_append, List.length_cons, List.length_nil, List.length_replicate]; omega)) ?_)
        | (refine ltM (by omega) (by first | omega | (simp only [List.length_set, List.length_map, List.length_append, List.length_cons, List.length_nil, List.length_replicate]; omega)) ?_)
        | (refine calI (by omega) ?_)
        | (refine cu8 (by omega) ?_)
        | (refine cu64 (by omega) ?_)
        | (refine And.intro (by omega) ?_; refine crem (by omega) ?_)
        | (refine And.intro (by omega) ?_; refine cquo (by omega) ?_)
        | ((with_reducible refine preI ?_); (first | refine preNil ?_ | refine preOp rfl rfl ?_ | refine preT rfl rfl rfl rfl ?_ | refine preF rfl rfl rfl rfl ?_ | refine preTS rfl rfl rfl rfl ?_ | refine preFS rfl rfl rfl rfl ?_ | refine preSkip rfl rfl rfl rfl ?_ | refine preGT rfl rfl rfl rfl ?_ | refine preGF rfl rfl rfl rfl ?_))
        | (refine AltS.own (by assumption) ?_)
        | (refine AltS.im ?_)
        | (refine AltT.own (by assumption) ?_)
        | (refine AltT.im ?_)
        | (refine NilK.mk (fun _ => ?_) ?_)
        | (refine AltV.own (by assumption) ?_)
        | (refine AltV.im ?_)
        | ((first | refine drawA2 (by decide +kernel) ?_ | refine drawA (by decide +kernel) ?_ | refine drawL (by decide +kernel) ?_); conv => whnf; (try dsimp only [St.after, St.afterAt, St.pin, St.unpin, initSt, initT, numO, cellsA, Option.map, ren, renL, renO, St.setObj, headSt, List.cons_append, List.nil_append, List.length_nil, Nat.reduceAdd]); try (conv => enter [7, 3]; whnf))
        | (refine ap1 (by decide) (by omega) rfl rfl ?_)
        | (refine ap0 (by decide) rfl ?_)
        | (refine apL (by decide) (by omega) (fun _ => rfl) ?_)
        | (refine apM (by decide) (by omega) (fun _ => rfl) ?_)
        | (refine setI (z := _) rfl ?_)
        | (refine And.intro (by omega) (And.intro (by omega) ?_))
        | (refine ifB_intro (fun _ => ?_) (fun _ => ?_))
        | (refine exitA (by kernel_rfl) (by kernel_rfl) ⟨?_, trivial⟩ ?_ <;> (conv => whnf) <;> repeat' (first | exact trivial | with_reducible rfl | (refine srcI ?_; kernel_rfl) | (refine nsI ?_; kernel_rfl) | (refine And.intro ?_ ?_ <;> conv => whnf; try dsimp only [St.after, St.afterAt, St.pin, St.unpin, initSt, initT, numO, cellsA, Option.map, ren, renL, renO, St.setObj, headSt, List.cons_append, List.nil_append, List.length_nil, Nat.reduceAdd])))) <;> (conv => whnf; try dsimp only [St.after, St.afterAt, St.pin, St.unpin, initSt, initT, numO, cellsA, Option.map, ren, renL, renO, St.setObj, headSt, List.cons_append, List.nil_append, List.length_nil, Nat.reduceAdd]))
      refine no fun hb => ?_
      have q1 := hb.ll d h0 (by omega); have q2 := hb.t0 d h0 (by omega)
      unfold Bd.tn at q2
      omega
  · rename_i r1 r2 r3 r4 r5
    have g1 : 0 ≤ b.tn d ∧ b.tn d < b.next.length ∧ b.tn (b.tn d) = d := ⟨by unfold Bd.tn; omega, by unfold Bd.tn; omega, r5⟩
    have g2 : ((nth b.next d).length : Int) = b.cells := by omega
    refine .of (fun x => [(5, I x)]) (fun x => []) 1 (fun x => 0 ≤ x ∧ x ≤ b.cells ∧ ∀ c : Int, 0 ≤ c → c < x → -1 ≤ b.nx d c ∧ b.nx d c < b.cells) (fun x => (b.cells - x).toNat) 0 ?_
    conv => whnf
    refine ⟨⟨[], (by kernel_rfl), (by kernel_rfl), (by kernel_rfl), ?_, ?_⟩, ?_, fun x ⟨k0, k1, kx⟩ => ?_⟩
    rotate_left 1
    focus
      conv => whnf
      repeat' (first
        | exact trivial
        | with_reducible rfl
        | (refine srcI ?_; kernel_rfl)
        | (refine nsI ?_; kernel_rfl)
        | (refine And.intro ?_ ?_ <;> conv => whnf; try dsimp only [St.after, St.afterAt, St.pin, St.unpin, initSt, initT, numO, cellsA, Option.map, ren, renL, renO, St.setObj, headSt, List.cons_append, List.nil_append, List.length_nil, Nat.reduceAdd])
        | rfl)
    rotate_right 1
    focus
      conv => whnf
      repeat' (first
        | exact trivial
        | with_reducible rfl
        | (refine srcI ?_; kernel_rfl)
        | (refine nsI ?_; kernel_rfl)
        | (refine And.intro ?_ ?_ <;> conv => whnf; try dsimp only [St.after, St.afterAt, St.pin, St.unpin, initSt, initT, numO, cellsA, Option.map, ren, renL, renO, St.setObj, headSt, List.cons_append, List.nil_append, List.length_nil, Nat.reduceAdd])
        | rfl)
    rotate_right 1
    focus
      conv => whnf
    rotate_left 1
    · exact ⟨by omega, by omega, fun c _ _ => by omega⟩
    repeat' ((first
      | (refine Ck.mk ?_)
      | (refine ifD (fun _ => ?_) (fun _ => ?_))
      | (refine ifE (fun _ => ?_) (fun _ => ?_))
      | (refine ifN (fun _ => ?_) (fun _ => ?_))
      | ((with_reducible refine natI ?_))
      | ((with_reducible refine ifNot ?_))
      | ((with_reducible refine ifAndD (fun _ _ => ?_) (fun _ => ?_)))
      | ((with_reducible refine ifAnd (fun _ _ => ?_) (fun _ => ?_)))
      | (refine ixM (by omega) (by first | omega | (simp only [List.length_set, List.length_map, List.length_append, List.length_cons, List.length_nil, List.length_replicate]; omega)) rfl ?_)
      | (refine ixA (by omega) (by first | omega | (simp only [List.length_set, List.length_map, List.length_append, List.length_cons, List.length_nil, List.length_replicate]; omega)) ?_)
      | (refine ltM (by omega) (by first | omega | (simp only [List.length_set, List.length_map, List.length_append, List.length_cons, List.length_nil, List.length_replicate]; omega)) ?_)
      | (refine calI (by omega) ?_)
      | (refine cu8 (by omega) ?_)
      | (refine cu64 (by omega) ?_)
      | (refine And.intro (by omega) ?_; refine crem (by omega) ?_)
      | (refine And.intro (by omega) ?_; refine cquo (by omega) ?_)
      | ((with_reducible refine preI ?_); (first | refine preNil ?_ | refine preOp rfl rfl ?_ | refine preT rfl rfl rfl rfl ?_ | refine preF rfl rfl rfl rfl ?_ | refine preTS rfl rfl rfl rfl ?_ | refine preFS rfl rfl rfl rfl ?_ | refine preSkip rfl rfl rfl rfl ?_ | refine preGT rfl rfl rfl rfl ?_ | refine preGF rfl rfl rfl rfl ?_))
      | (refine AltS.own (by assumption) ?_)
      | (refine AltS.im ?_)
      | (refine AltT.own (by assumption) ?_)
      | (refine AltT.im ?_)
      | (refine NilK.mk (fun _ => ?_) ?_)
      | (refine AltV.own (by assumption) ?_)
      | (refine AltV.im ?_)
      | ((first | refine drawA2 (by decide +kernel) ?_ | refine drawA (by decide +kernel) ?_ | refine drawL (by decide +kernel) ?_); conv => whnf; (try dsimp only [St.after, St.afterAt, St.pin, St.unpin, initSt, initT, numO, cellsA, Option.map, ren, renL, renO, St.setObj, headSt, List.cons_append, List.nil_append, List.length_nil, Nat.reduceAdd]); try (conv => enter [7, 3]; whnf))
      | (refine ap1 (by decide) (by omega) rfl rfl ?_)
      | (refine ap0 (by decide) rfl ?_)
      | (refine apL (by decide) (by omega) (fun _ => rfl) ?_)
      | (refine apM (by decide) (by omega) (fun _ => rfl) ?_)
      | (refine setI (z := _) rfl ?_)
      | (refine And.intro (by omega) (And.intro (by omega) ?_))
      | (refine ifB_intro (fun _ => ?_) (fun _ => ?_))) <;> (conv => whnf; try dsimp only [St.after, St.afterAt, St.pin, St.unpin, initSt, initT, numO, cellsA, Option.map, ren, renL, renO, St.setObj, headSt, List.cons_append, List.nil_append, List.length_nil, Nat.reduceAdd]))
    iterate 2
      ·
        repeat' ((first
          | (refine Ck.mk ?_)
          | (refine ifD (fun _ => ?_) (fun _ => ?_))
          | (refine ifE (fun _ => ?_) (fun _ => ?_))
          | (refine ifN (fun _ => ?_) (fun _ => ?_))
          | ((with_reducible refine natI ?_))
          | ((with_reducible refine ifNot ?_))
          | ((with_reducible refine ifAndD (fun _ _ => ?_) (fun _ => ?_)))
          | ((with_reducible refine ifAnd (fun _ _ => ?_) (fun _ => ?_)))
          | (refine ixM (by omega) (by first | omega | (simp only [List.length_set, List.length_map, List.length_append, List.length_cons, List.length_nil, List.length_replicate]; omega)) rfl ?_)
          | (refine ixA (by omega) (by first | omega | (simp only [List.length_set, List.length_map, List.length_append, List.length_cons, List.length_nil, List.length_replicate]; omega)) ?_)
          | (refine ltM (by omega) (by first | omega | (simp only [List.length_set, List.length_map, List.length_append, List.length_cons, List.length_nil, List.length_replicate]; omega)) ?_)
          | (refine calI (by omega) ?_)
          | (refine cu8 (by omega) ?_)
          | (refine cu64 (by omega) ?_)
          | (refine And.intro (by omega) ?_; refine crem (by omega) ?_)
          | (refine And.intro (by omega) ?_; refine cquo (by omega) ?_)
          | ((with_reducible refine preI ?_); (first | refine preNil ?_ | refine preOp rfl rfl ?_ | refine preT rfl rfl rfl rfl ?_ | refine preF rfl rfl rfl rfl ?_ | refine preTS rfl rfl rfl rfl ?_ | refine preFS rfl rfl rfl rfl ?_ | refine preSkip rfl rfl rfl rfl ?_ | refine preGT rfl rfl rfl rfl ?_ | refine preGF rfl rfl rfl rfl ?_))
          | (refine AltS.own (by assumption) ?_)
          | (refine AltS.im ?_)
          | (refine AltT.own (by assumption) ?_)
          | (refine AltT.im ?_)
          | (refine NilK.mk (fun _ => ?_) ?_)
          | (refine AltV.own (by assumption) ?_)
          | (refine AltV.im ?_)
          | ((first | refine drawA2 (by decide +kernel) ?_ | refine drawA (by decide +kernel) ?_ | refine drawL (by decide +kernel) ?_); conv => whnf; (try dsimp only [St.after, St.afterAt, St.pin, St.unpin, initSt, initT, numO, cellsA, Option.map, ren, renL, renO, St.setObj, headSt, List.cons_append, List.nil_append, List.length_nil, Nat.reduceAdd]); try (conv => enter [7, 3]; whnf))
          | (refine ap1 (by decide) (by omega) rfl rfl ?_)
          | (refine ap0 (by decide) rfl ?_)
          | (refine apL (by decide) (by omega) (fun _ => rfl) ?_)
          | (refine apM (by decide) (by omega) (fun _ => rfl) ?_)
          | (refine setI (z := _) rfl ?_)
          | (refine And.intro (by omega) (And.intro (by omega) ?_))
          | (refine ifB_intro (fun _ => ?_) (fun _ => ?_))
          | (refine exitA (by kernel_rfl) (by kernel_rfl) ⟨?_, trivial⟩ ?_ <;> (conv => whnf) <;> repeat' (first | exact trivial | with_reducible rfl | (refine srcI ?_; kernel_rfl) | (refine nsI ?_; kernel_rfl) | (refine And.intro ?_ ?_ <;> conv => whnf; try dsimp only [St.after, St.afterAt, St.pin, St.unpin, initSt, initT, numO, cellsA, Option.map, ren, renL, renO, St.setObj, headSt, List.cons_append, List.nil_append, List.length_nil, Nat.reduceAdd])))) <;> (conv => whnf; try dsimp only [St.after, St.afterAt, St.pin, St.unpin, initSt, initT, numO, cellsA, Option.map, ren, renL, renO, St.setObj, headSt, List.cons_append, List.nil_append, List.length_nil, Nat.reduceAdd]))
        refine no fun hb => ?_
        have q1 := hb.lx d x h0 (by omega) k0 (by omega)
        unfold Bd.nx at q1
        omega
    · rename_i s1 s2 s3
      refine ⟨x + 1, ⟨[], (by kernel_rfl), (by kernel_rfl), (by kernel_rfl), ?_, ?_⟩, ?_, by (try dsimp only); omega, rfl⟩
      rotate_left 1
      focus
        conv => whnf
        repeat' (first
          | exact trivial
          | with_reducible rfl
          | (refine srcI ?_; kernel_rfl)
          | (refine nsI ?_; kernel_rfl)
          | (refine And.intro ?_ ?_ <;> conv => whnf; try dsimp only [St.after, St.afterAt, St.pin, St.unpin, initSt, initT, numO, cellsA, Option.map, ren, renL, renO, St.setObj, headSt, List.cons_append, List.nil_append, List.length_nil, Nat.reduceAdd]))
      rotate_right 1
      focus
        conv => whnf
        repeat' (first
          | exact trivial
          | with_reducible rfl
          | (refine srcI ?_; kernel_rfl)
          | (refine nsI ?_; kernel_rfl)
          | (refine And.intro ?_ ?_ <;> conv => whnf; try dsimp only [St.after, St.afterAt, St.pin, St.unpin, initSt, initT, numO, cellsA, Option.map, ren, renL, renO, St.setObj, headSt, List.cons_append, List.nil_append, List.length_nil, Nat.reduceAdd]))
      refine ⟨by omega, by omega, fun c c0 c1 => ?_⟩
      rcases Int.lt_or_le c x with h5 | h5
      · exact kx c c0 h5
      · obtain rfl : c = x := by omega
        unfold Bd.nx; omega
    · obtain rfl : x = b.cells := by omega
      refine ⟨d + 1, ⟨[], (by kernel_rfl), (by kernel_rfl), (by kernel_rfl), ?_, ?_⟩, ?_, by (try dsimp only); omega, rfl⟩
      rotate_left 1
      focus
        conv => whnf
        repeat' (first
          | exact trivial
          | with_reducible rfl
          | (refine srcI ?_; kernel_rfl)
          | (refine nsI ?_; kernel_rfl)
          | (refine And.intro ?_ ?_ <;> conv => whnf; try dsimp only [St.after, St.afterAt, St.pin, St.unpin, initSt, initT, numO, cellsA, Option.map, ren, renL, renO, St.setObj, headSt, List.cons_append, List.nil_append, List.length_nil, Nat.reduceAdd]))
      rotate_right 1
      focus
        conv => whnf
        repeat' (first
          | exact trivial
          | with_reducible rfl
          | (refine srcI ?_; kernel_rfl)
          | (refine nsI ?_; kernel_rfl)
          | (refine And.intro ?_ ?_ <;> conv => whnf; try dsimp only [St.after, St.afterAt, St.pin, St.unpin, initSt, initT, numO, cellsA, Option.map, ren, renL, renO, St.setObj, headSt, List.cons_append, List.nil_append, List.length_nil, Nat.reduceAdd]))
      exact ⟨by omega, by omega, b.good_succ hg g2 kx g1⟩
  ·
    repeat' ((first
      | (refine Ck.mk ?_)
      | (refine ifD (fun _ => ?_) (fun _ => ?_))
      | (refine ifE (fun _ => ?_) (fun _ => ?_))
      | (refine ifN (fun _ => ?_) (fun _ => ?_))
      | ((with_reducible refine natI ?_))
      | ((with_reducible refine ifNot ?_))
      | ((with_reducible refine ifAndD (fun _ _ => ?_) (fun _ => ?_)))
      | ((with_reducible refine ifAnd (fun _ _ => ?_) (fun _ => ?_)))
      | (refine ixM (by omega) (by first | omega | (simp only [List.length_set, List.length_map, List.length_append, List.length_cons, List.length_nil, List.length_replicate]; omega)) rfl ?_)
      | (refine ixA (by omega) (by first | omega | (simp only [List.length_set, List.length_map, List.length_append, List.length_cons, List.length_nil, List.length_replicate]; omega)) ?_)
      | (refine ltM (by omega) (by first | omega | (simp only [List.length_set, List.length_map, List.length_append, List.length_cons, List.length_nil, List.length_replicate]; omega)) ?_)
      | (refine calI (by omega) ?_)
      | (refine cu8 (by omega) ?_)
      | (refine cu64 (by omega) ?_)
      | (refine And.intro (by omega) ?_; refine crem (by omega) ?_)
      | (refine And.intro (by omega) ?_; refine cquo (by omega) ?_)
      | ((with_reducible refine preI ?_); (first | refine preNil ?_ | refine preOp rfl rfl ?_ | refine preT rfl rfl rfl rfl ?_ | refine preF rfl rfl rfl rfl ?_ | refine preTS rfl rfl rfl rfl ?_ | refine preFS rfl rfl rfl rfl ?_ | refine preSkip rfl rfl rfl rfl ?_ | refine preGT rfl rfl rfl rfl ?_ | refine preGF rfl rfl rfl rfl ?_))
      | (refine AltS.own (by assumption) ?_)
      | (refine AltS.im ?_)
      | (refine AltT.own (by assumption) ?_)
      | (refine AltT.im ?_)
      | (refine NilK.mk (fun _ => ?_) ?_)
      | (refine AltV.own (by assumption) ?_)
      | (refine AltV.im ?_)
      | ((first | refine drawA2 (by decide +kernel) ?_ | refine drawA (by decide +kernel) ?_ | refine drawL (by decide +kernel) ?_); conv => whnf; (try dsimp only [St.after, St.afterAt, St.pin, St.unpin, initSt, initT, numO, cellsA, Option.map, ren, renL, renO, St.setObj, headSt, List.cons_append, List.nil_append, List.length_nil, Nat.reduceAdd]); try (conv => enter [7, 3]; whnf))
      | (refine ap1 (by decide) (by omega) rfl rfl ?_)
      | (refine ap0 (by decide) rfl ?_)
      | (refine apL (by decide) (by omega) (fun _ => rfl) ?_)
      | (refine apM (by decide) (by omega) (fun _ => rfl) ?_)
      | (refine setI (z := _) rfl ?_)
      | (refine And.intro (by omega) (And.intro (by omega) ?_))
      | (refine ifB_intro (fun _ => ?_) (fun _ => ?_))
      | (refine exitA (by kernel_rfl) (by kernel_rfl) ⟨?_, trivial⟩ ?_ <;> (conv => whnf) <;> repeat' (first | exact trivial | with_reducible rfl | (refine srcI ?_; kernel_rfl) | (refine nsI ?_; kernel_rfl) | (refine And.intro ?_ ?_ <;> conv => whnf; try dsimp only [St.after, St.afterAt, St.pin, St.unpin, initSt, initT, numO, cellsA, Option.map, ren, renL, renO, St.setObj, headSt, List.cons_append, List.nil_append, List.length_nil, Nat.reduceAdd])))) <;> (conv => whnf; try dsimp only [St.after, St.afterAt, St.pin, St.unpin, initSt, initT, numO, cellsA, Option.map, ren, renL, renO, St.setObj, headSt, List.cons_append, List.nil_append, List.length_nil, Nat.reduceAdd]))
    rw [decide_eq_true (b.ok_of_good (by omega) (by omega) (by omega) (by omega) (by omega) hg (by omega))]
end Go.Proofs.Ytkecpgidolphfaa
namespace Go.Proofs.Ytkecpgidolphfaa
open Go Go.Sk
set_option maxHeartbeats 4000000 in
set_option maxRecDepth 10000 in
theorem Valid13_p (b : Bd) (hc : -9223372036854775807 ≤ b.cells ∧ b.cells ≤ 9223372036854775807) (hn : b.next.length ≤ 9223372036854775807) (hl : ∀ d : Int, 0 ≤ d → d < b.next.length → (nth b.next d).length ≤ 9223372036854775807) (ht : b.turn.length ≤ 9223372036854775807) :
    Pure Try.prog 13 [b.av] (Bo (decide b.ok)) none := by
  refine fun_of tok D_ok Try.func13 rfl Try.ntmps13 Try.results13 (by kernel_rfl) (by simp) (by simp) ?_
  have e1 : b.next.length = (b.next.map Is).length := by simp
  have e2 : b.turn.length = (b.turn.map I).length := by simp
  have no : ¬ b.ok → Value.bool false = Value.bool (decide b.ok) := fun h => by rw [decide_eq_false h]
  conv => whnf
  repeat' ((first
    | (refine Ck.mk ?_)
    | (refine ifD (fun _ => ?_) (fun _ => ?_))
    | (refine ifE (fun _ => ?_) (fun _ => ?_))
    | (refine ifN (fun _ => ?_) (fun _ => ?_))
    | ((with_reducible refine natI ?_))
    | ((with_reducible refine ifNot ?_))
    | ((with_reducible refine ifAndD (fun _ _ => ?_) (fun _ => ?_)))
    | ((with_reducible refine ifAnd (fun _ _ => ?_) (fun _ => ?_)))
    | (refine ixM (by omega) (by first | omega | (simp only [List.length_set, List.length_map, List.length_append, List.length_cons, List.length_nil, List.length_replicate]; omega)) rfl ?_)
    | (refine ixA (by omega) (by first | omega | (simp only [List.length_set, List.length_map, List.length_append, List.length_cons, List.length_nil, List.length_replicate]; omega)) ?_)
    | (refine ltM (by omega) (by first | omega | (simp only [List.length_set, List.length_map, List.length_append, List.length_cons, List.length_nil, List.length_replicate]; omega)) ?_)
    | (refine calI (by omega) ?_)
    | (refine cu8 (by omega) ?_)
    | (refine cu64 (by omega) ?_)
    | (refine And.intro (by omega) ?_; refine crem (by omega) ?_)
    | (refine And.intro (by omega) ?_; refine cquo (by omega) ?_)
    | (refine ⟨_, _, In_p _ _ _, ?_⟩)
    | (refine .inl ?_; (conv => whnf); refine ⟨_, _, In_p _ _ _, ?_⟩)
    | ((with_reducible refine preI ?_); (first | refine preNil ?_ | refine preOp rfl rfl ?_ | refine preT rfl rfl rfl rfl ?_ | refine preF rfl rfl rfl rfl ?_ | refine preTS rfl rfl rfl rfl ?_ | refine preFS rfl rfl rfl rfl ?_ | refine preSkip rfl rfl rfl rfl ?_ | refine preGT rfl rfl rfl rfl ?_ | refine preGF rfl rfl rfl rfl ?_))
    | (refine AltS.own (by assumption) ?_)
    | (refine AltS.im ?_)
    | (refine AltT.own (by assumption) ?_)
    | (refine AltT.im ?_)
    | (refine NilK.mk (fun _ => ?_) ?_)
    | (refine AltV.own (by assumption) ?_)
    | (refine AltV.im ?_)
    | ((first | refine drawA2 (by decide +kernel) ?_ | refine drawA (by decide +kernel) ?_ | refine drawL (by decide +kernel) ?_); conv => whnf; (try dsimp only [St.after, St.afterAt, St.pin, St.unpin, initSt, initT, numO, cellsA, Option.map, ren, renL, renO, St.setObj, headSt, List.cons_append, List.nil_append, List.length_nil, Nat.reduceAdd]); try (conv => enter [7, 3]; whnf))
    | (refine ap1 (by decide) (by omega) rfl rfl ?_)
    | (refine ap0 (by decide) rfl ?_)
    | (refine apL (by decide) (by omega) (fun _ => rfl) ?_)
    | (refine apM (by decide) (by omega) (fun _ => rfl) ?_)
    | (refine setI (z := _) rfl ?_)
    | (refine And.intro (by omega) (And.intro (by omega) ?_))
    | (refine ifB_intro (fun _ => ?_) (fun _ => ?_))) <;> (conv => whnf; try dsimp only [St.after, St.afterAt, St.pin, St.unpin, initSt, initT, numO, cellsA, Option.map, ren, renL, renO, St.setObj, headSt, List.cons_append, List.nil_append, List.length_nil, Nat.reduceAdd]))
  rotate_right 2
  iterate 3
    ·
      repeat' ((first
        | (refine Ck.mk ?_)
        | (refine ifD (fun _ => ?_) (fun _ => ?_))
        | (refine ifE (fun _ => ?_) (fun _ => ?_))
        | (refine ifN (fun _ => ?_) (fun _ => ?_))
        | ((with_reducible refine natI ?_))
        | ((with_reducible refine ifNot ?_))
        | ((with_reducible refine ifAndD (fun _ _ => ?_) (fun _ => ?_)))
        | ((with_reducible refine ifAnd (fun _ _ => ?_) (fun _ => ?_)))
        | (refine ixM (by omega) (by first | omega | (simp only [List.length_set, List.length_map, List.length_append, List.length_cons, List.length_nil, List.length_replicate]; omega)) rfl ?_)
        | (refine ixA (by omega) (by first | omega | (simp only [List.length_set, List.length_map, List.length_append, List.length_cons, List.length_nil, List.length_replicate]; omega)) ?_)
        | (refine ltM (by omega) (by first | omega | (simp only [List.length_set, List.length_map, List.length_append, List.length_cons, List.length_nil, List.length_replicate]; omega)) ?_)
        | (refine calI (by omega) ?_)
        | (refine cu8 (by omega) ?_)
        | (refine cu64 (by omega) ?_)
        | (refine And.intro (by omega) ?_; refine crem (by omega) ?_)
        | (refine And.intro (by omega) ?_; refine cquo (by omega) ?_)
        | ((with_reducible refine preI ?_); (first | refine preNil ?_ | refine preOp rfl rfl ?_ | refine preT rfl rfl rfl rfl ?_ | refine preF rfl rfl rfl rfl ?_ | refine preTS rfl rfl rfl rfl ?_ | refine preFS rfl rfl rfl rfl ?_ | refine preSkip rfl rfl rfl rfl ?_ | refine preGT rfl rfl rfl rfl ?_ | refine preGF rfl rfl rfl rfl ?_))
        | (refine AltS.own (by assumption) ?_)
        | (refine AltS.im ?_)
        | (refine AltT.own (by assumption) ?_)
        | (refine AltT.im ?_)
        | (refine NilK.mk (fun _ => ?_) ?_)
        | (refine AltV.own (by assumption) ?_)
        | (refine AltV.im ?_)
        | ((first | refine drawA2 (by decide +kernel) ?_ | refine drawA (by decide +kernel) ?_ | refine drawL (by decide +kernel) ?_); conv => whnf; (try dsimp only [St.after, St.afterAt, St.pin, St.unpin, initSt, initT, numO, cellsA, Option.map, ren, renL, renO, St.setObj, headSt, List.cons_append, List.nil_append, List.length_nil, Nat.reduceAdd]); try (conv => enter [7, 3]; whnf))
        | (refine ap1 (by decide) (by omega) rfl rfl ?_)
        | (refine ap0 (by decide) rfl ?_)
        | (refine apL (by decide) (by omega) (fun _ => rfl) ?_)
        | (refine apM (by decide) (by omega) (fun _ => rfl) ?_)
        | (refine setI (z := _) rfl ?_)
        | (refine And.intro (by omega) (And.intro (by omega) ?_))
        | (refine ifB_intro (fun _ => ?_) (fun _ => ?_))
        | (refine exitA (by kernel_rfl) (by kernel_rfl) ⟨?_, trivial⟩ ?_ <;> (conv => whnf) <;> repeat' (first | exact trivial | with_reducible rfl | (refine srcI ?_; kernel_rfl) | (refine nsI ?_; kernel_rfl) | (refine And.intro ?_ ?_ <;> conv => whnf; try dsimp only [St.after, St.afterAt, St.pin, St.unpin, initSt, initT, numO, cellsA, Option.map, ren, renL, renO, St.setObj, headSt, List.cons_append, List.nil_append, List.length_nil, Nat.reduceAdd])))) <;> (conv => whnf; try dsimp only [St.after, St.afterAt, St.pin, St.unpin, initSt, initT, numO, cellsA, Option.map, ren, renL, renO, St.setObj, headSt, List.cons_append, List.nil_append, List.length_nil, Nat.reduceAdd]))
      refine no fun hb => ?_
      have := hb.c1; have := hb.c64; have := hb.n1; have := hb.n8; have := hb.tl
      omega
  refine .of (fun d => [(31, I d)]) (fun d => []) 2 (fun d => 0 ≤ d ∧ d ≤ b.next.length ∧ b.good d) (fun d => (b.next.length - d).toNat) 0 ?_
  conv => whnf
  refine ⟨⟨[], (by kernel_rfl), (by kernel_rfl), (by kernel_rfl), ?_, ?_⟩, ?_, fun d ⟨h0, h1, hg⟩ => ?_⟩
  rotate_left 1
  focus
    conv => whnf
    repeat' (first
      | exact trivial
      | with_reducible rfl
      | (refine srcI ?_; kernel_rfl)
      | (refine nsI ?_; kernel_rfl)
      | (refine And.intro ?_ ?_ <;> conv => whnf; try dsimp only [St.after, St.afterAt, St.pin, St.unpin, initSt, initT, numO, cellsA, Option.map, ren, renL, renO, St.setObj, headSt, List.cons_append, List.nil_append, List.length_nil, Nat.reduceAdd])
      | rfl)
  rotate_right 1
  focus
    conv => whnf
    repeat' (first
      | exact trivial
      | with_reducible rfl
      | (refine srcI ?_; kernel_rfl)
      | (refine nsI ?_; kernel_rfl)
      | (refine And.intro ?_ ?_ <;> conv => whnf; try dsimp only [St.after, St.afterAt, St.pin, St.unpin, initSt, initT, numO, cellsA, Option.map, ren, renL, renO, St.setObj, headSt, List.cons_append, List.nil_append, List.length_nil, Nat.reduceAdd])
      | rfl)
  rotate_right 1
  focus
    conv => whnf
  rotate_left 1
  · exact ⟨by omega, by omega, b.good_zero⟩
  have e3 : (nth b.next d).length = ((nth b.next d).map I).length := by simp
  have hld := hl d h0
  repeat' ((first
    | (refine Ck.mk ?_)
    | (refine ifD (fun _ => ?_) (fun _ => ?_))
    | (refine ifE (fun _ => ?_) (fun _ => ?_))
    | (refine ifN (fun _ => ?_) (fun _ => ?_))
    | ((with_reducible refine natI ?_))
    | ((with_reducible refine ifNot ?_))
    | ((with_reducible refine ifAndD (fun _ _ => ?_) (fun _ => ?_)))
    | ((with_reducible refine ifAnd (fun _ _ => ?_) (fun _ => ?_)))
    | (refine ixM (by omega) (by first | omega | (simp only [List.length_set, List.length_map, List.length_append, List.length_cons, List.length_nil, List.length_replicate]; omega)) rfl ?_)
    | (refine ixA (by omega) (by first | omega | (simp only [List.length_set, List.length_map, List.length_append, List.length_cons, List.length_nil, List.length_replicate]; omega)) ?_)
    | (refine ltM (by omega) (by first | omega | (simp only [List.length_set, List.length_map, List.length_append, List.length_cons, List.length_nil, List.length_replicate]; omega)) ?_)
    | (refine calI (by omega) ?_)
    | (refine cu8 (by omega) ?_)
    | (refine cu64 (by omega) ?_)
    | (refine And.intro (by omega) ?_; refine crem (by omega) ?_)
    | (refine And.intro (by omega) ?_; refine cquo (by omega) ?_)
    | (refine ⟨_, _, In_p _ _ _, ?_⟩)
    | (refine .inl ?_; (conv => whnf); refine ⟨_, _, In_p _ _ _, ?_⟩)
    | (refine .inl ?_; (conv => whnf); refine ⟨[1, 0], [.box [FIn], b.bx], [Is (nth b.next d), .fn (.func 35) [] [.ptr 0 0, .ptr 1 0]], _, _, ⟨rfl, rfl, rfl⟩, ContainsOdd_p b hc _ (by omega), ?_⟩; conv => whnf)
    | ((with_reducible refine preI ?_); (first | refine preNil ?_ | refine preOp rfl rfl ?_ | refine preT rfl rfl rfl rfl ?_ | refine preF rfl rfl rfl rfl ?_ | refine preTS rfl rfl rfl rfl ?_ | refine preFS rfl rfl rfl rfl ?_ | refine preSkip rfl rfl rfl rfl ?_ | refine preGT rfl rfl rfl rfl ?_ | refine preGF rfl rfl rfl rfl ?_))
    | (refine AltS.own (by assumption) ?_)
    | (refine AltS.im ?_)
    | (refine AltT.own (by assumption) ?_)
    | (refine AltT.im ?_)
    | (refine NilK.mk (fun _ => ?_) ?_)
    | (refine AltV.own (by assumption) ?_)
    | (refine AltV.im ?_)
    | ((first | refine drawA2 (by decide +kernel) ?_ | refine drawA (by decide +kernel) ?_ | refine drawL (by decide +kernel) ?_); conv => whnf; (try dsimp only [St.after, St.afterAt, St.pin, St.unpin, initSt, initT, numO, cellsA, Option.map, ren, renL, renO, St.setObj, headSt, List.cons_append, List.nil_append, List.length_nil, Nat.reduceAdd]); try (conv => enter [7, 3]; whnf))
    | (refine ap1 (by decide) (by omega) rfl rfl ?_)
    | (refine ap0 (by decide) rfl ?_)
    | (refine apL (by decide) (by omega) (fun _ => rfl) ?_)
    | (refine apM (by decide) (by omega) (fun _ => rfl) ?_)
    | (refine setI (z := _) rfl ?_)
    | (refine And.intro (by omega) (And.intro (by omega) ?_))
    | (refine ifB_intro (fun _ => ?_) (fun _ => ?_))) <;> (conv => whnf; try dsimp only [St.after, St.afterAt, St.pin, St.unpin, initSt, initT, numO, cellsA, Option.map, ren, renL, renO, St.setObj, headSt, List.cons_append, List.nil_append, List.length_nil, Nat.reduceAdd]))
  ·
    repeat' ((first
      | (refine Ck.mk ?_)
      | (refine ifD (fun _ => ?_) (fun _ => ?_))
      | (refine ifE (fun _ => ?_) (fun _ => ?_))
      | (refine ifN (fun _ => ?_) (fun _ => ?_))
      | ((with_reducible refine natI ?_))
      | ((with_reducible refine ifNot ?_))
      | ((with_reducible refine ifAndD (fun _ _ => ?_) (fun _ => ?_)))
      | ((with_reducible refine ifAnd (fun _ _ => ?_) (fun _ => ?_)))
      | (refine ixM (by omega) (by first | omega | (simp only [List.length_set, List.length_map, List.length_append, List.length_cons, List.length_nil, List.length_replicate]; omega)) rfl ?_)
      | (refine ixA (by omega) (by first | omega | (simp only [List.length_set, List.length_map, List.length_append, List.length_cons, List.length_nil, List.length_replicate]; omega)) ?_)
      | (refine ltM (by omega) (by first | omega | (simp only [List.length_set, List.length_map, List.length_append, List.length_cons, List.length_nil, List.length_replicate]; omega)) ?_)
      | (refine calI (by omega) ?_)
      | (refine cu8 (by omega) ?_)
      | (refine cu64 (by omega) ?_)
      | (refine And.intro (by omega) ?_; refine crem (by omega) ?_)
      | (refine And.intro (by omega) ?_; refine cquo (by omega) ?_)
      | ((with_reducible refine preI ?_); (first | refine preNil ?_ | refine preOp rfl rfl ?_ | refine preT rfl rfl rfl rfl ?_ | refine preF rfl rfl rfl rfl ?_ | refine preTS rfl rfl rfl rfl ?_ | refine preFS rfl rfl rfl rfl ?_ | refine preSkip rfl rfl rfl rfl ?_ | refine preGT rfl rfl rfl rfl ?_ | refine preGF rfl rfl rfl rfl ?_))
      | (refine AltS.own (by assumption) ?_)
      | (refine AltS.im ?_)
      | (refine AltT.own (by assumption) ?_)
      | (refine AltT.im ?_)
      | (refine NilK.mk (fun _ => ?_) ?_)
      | (refine AltV.own (by assumption) ?_)
      | (refine AltV.im ?_)
      | ((first | refine drawA2 (by decide +kernel) ?_ | refine drawA (by decide +kernel) ?_ | refine drawL (by decide +kernel) ?_); conv => whnf; (try dsimp only [St.after, St.afterAt, St.pin, St.unpin, initSt, initT, numO, cellsA, Option.map, ren, renL, renO, St.setObj, headSt, List.cons_append, List.nil_append, List.length_nil, Nat.reduceAdd]); try (conv => enter [7, 3]; whnf))
      | (refine ap1 (by decide) (by omega) rfl rfl ?_)
      | (refine ap0 (by decide) rfl ?_)
      | (refine apL (by decide) (by omega) (fun _ => rfl) ?_)
      | (refine apM (by decide) (by omega) (fun _ => rfl) ?_)
      | (refine setI (z := _) rfl ?_)
      | (refine And.intro (by omega) (And.intro (by omega) ?_))
      | (refine ifB_intro (fun _ => ?_) (fun _ => ?_))
      | (refine exitA (by kernel_rfl) (by kernel_rfl) ⟨?_, trivial⟩ ?_ <;> (conv => whnf) <;> repeat' (first | exact trivial | with_reducible rfl | (refine srcI ?_; kernel_rfl) | (refine nsI ?_; kernel_rfl) | (refine And.intro ?_ ?_ <;> conv => whnf; try dsimp only [St.after, St.afterAt, St.pin, St.unpin, initSt, initT, numO, cellsA, Option.map, ren, renL, renO, St.setObj, headSt, List.cons_append, List.nil_append, List.length_nil, Nat.reduceAdd])))) <;> (conv => whnf; try dsimp only [St.after, St.afterAt, St.pin, St.unpin, initSt, initT, numO, cellsA, Option.map, ren, renL, renO, St.setObj, headSt, List.cons_append, List.nil_append, List.length_nil, Nat.reduceAdd]))
    refine no fun hb => ?_
    have q := hb.ll d h0 (by omega)
    omega
  · rename_i h
    repeat' ((first
      | (refine Ck.mk ?_)
      | (refine ifD (fun _ => ?_) (fun _ => ?_))
      | (refine ifE (fun _ => ?_) (fun _ => ?_))
      | (refine ifN (fun _ => ?_) (fun _ => ?_))
      | ((with_reducible refine natI ?_))
      | ((with_reducible refine ifNot ?_))
      | ((with_reducible refine ifAndD (fun _ _ => ?_) (fun _ => ?_)))
      | ((with_reducible refine ifAnd (fun _ _ => ?_) (fun _ => ?_)))
      | (refine ixM (by omega) (by first | omega | (simp only [List.length_set, List.length_map, List.length_append, List.length_cons, List.length_nil, List.length_replicate]; omega)) rfl ?_)
      | (refine ixA (by omega) (by first | omega | (simp only [List.length_set, List.length_map, List.length_append, List.length_cons, List.length_nil, List.length_replicate]; omega)) ?_)
      | (refine ltM (by omega) (by first | omega | (simp only [List.length_set, List.length_map, List.length_append, List.length_cons, List.length_nil, List.length_replicate]; omega)) ?_)
      | (refine calI (by omega) ?_)
      | (refine cu8 (by omega) ?_)
      | (refine cu64 (by omega) ?_)
      | (refine And.intro (by omega) ?_; refine crem (by omega) ?_)
      | (refine And.intro (by omega) ?_; refine cquo (by omega) ?_)
      | ((with_reducible refine preI ?_); (first | refine preNil ?_ | refine preOp rfl rfl ?_ | refine preT rfl rfl rfl rfl ?_ | refine preF rfl rfl rfl rfl ?_ | refine preTS rfl rfl rfl rfl ?_ | refine preFS rfl rfl rfl rfl ?_ | refine preSkip rfl rfl rfl rfl ?_ | refine preGT rfl rfl rfl rfl ?_ | refine preGF rfl rfl rfl rfl ?_))
      | (refine AltS.own (by assumption) ?_)
      | (refine AltS.im ?_)
      | (refine AltT.own (by assumption) ?_)
      | (refine AltT.im ?_)
      | (refine NilK.mk (fun _ => ?_) ?_)
      | (refine AltV.own (by assumption) ?_)
      | (refine AltV.im ?_)
      | ((first | refine drawA2 (by decide +kernel) ?_ | refine drawA (by decide +kernel) ?_ | refine drawL (by decide +kernel) ?_); conv => whnf; (try dsimp only [St.after, St.afterAt, St.pin, St.unpin, initSt, initT, numO, cellsA, Option.map, ren, renL, renO, St.setObj, headSt, List.cons_append, List.nil_append, List.length_nil, Nat.reduceAdd]); try (conv => enter [7, 3]; whnf))
      | (refine ap1 (by decide) (by omega) rfl rfl ?_)
      | (refine ap0 (by decide) rfl ?_)
      | (refine apL (by decide) (by omega) (fun _ => rfl) ?_)
      | (refine apM (by decide) (by omega) (fun _ => rfl) ?_)
      | (refine setI (z := _) rfl ?_)
      | (refine And.intro (by omega) (And.intro (by omega) ?_))
      | (refine ifB_intro (fun _ => ?_) (fun _ => ?_))
      | (refine exitA (by kernel_rfl) (by kernel_rfl) ⟨?_, trivial⟩ ?_ <;> (conv => whnf) <;> repeat' (first | exact trivial | with_reducible rfl | (refine srcI ?_; kernel_rfl) | (refine nsI ?_; kernel_rfl) | (refine And.intro ?_ ?_ <;> conv => whnf; try dsimp only [St.after, St.afterAt, St.pin, St.unpin, initSt, initT, numO, cellsA, Option.map, ren, renL, renO, St.setObj, headSt, List.cons_append, List.nil_append, List.length_nil, Nat.reduceAdd])))) <;> (conv => whnf; try dsimp only [St.after, St.afterAt, St.pin, St.unpin, initSt, initT, numO, cellsA, Option.map, ren, renL, renO, St.setObj, headSt, List.cons_append, List.nil_append, List.length_nil, Nat.reduceAdd]))
    refine no fun hb => ?_
    obtain ⟨x, hx, hx'⟩ := List.any_eq_true.1 h
    obtain ⟨c, c0, c1, rfl⟩ := mem_nth hx
    have q := hb.ll d h0 (by omega)
    have q2 := hb.lx d c h0 (by omega) c0 (by omega)
    unfold Bd.nx at q2
    unfold Bd.odd at hx'
    simp at hx'
    omega
  · rename_i h
    repeat' ((first
      | (refine Ck.mk ?_)
      | (refine ifD (fun _ => ?_) (fun _ => ?_))
      | (refine ifE (fun _ => ?_) (fun _ => ?_))
      | (refine ifN (fun _ => ?_) (fun _ => ?_))
      | ((with_reducible refine natI ?_))
      | ((with_reducible refine ifNot ?_))
      | ((with_reducible refine ifAndD (fun _ _ => ?_) (fun _ => ?_)))
      | ((with_reducible refine ifAnd (fun _ _ => ?_) (fun _ => ?_)))
      | (refine ixM (by omega) (by first | omega | (simp only [List.length_set, List.length_map, List.length_append, List.length_cons, List.length_nil, List.length_replicate]; omega)) rfl ?_)
      | (refine ixA (by omega) (by first | omega | (simp only [List.length_set, List.length_map, List.length_append, List.length_cons, List.length_nil, List.length_replicate]; omega)) ?_)
      | (refine ltM (by omega) (by first | omega | (simp only [List.length_set, List.length_map, List.length_append, List.length_cons, List.length_nil, List.length_replicate]; omega)) ?_)
      | (refine calI (by omega) ?_)
      | (refine cu8 (by omega) ?_)
      | (refine cu64 (by omega) ?_)
      | (refine And.intro (by omega) ?_; refine crem (by omega) ?_)
      | (refine And.intro (by omega) ?_; refine cquo (by omega) ?_)
      | ((with_reducible refine preI ?_); (first | refine preNil ?_ | refine preOp rfl rfl ?_ | refine preT rfl rfl rfl rfl ?_ | refine preF rfl rfl rfl rfl ?_ | refine preTS rfl rfl rfl rfl ?_ | refine preFS rfl rfl rfl rfl ?_ | refine preSkip rfl rfl rfl rfl ?_ | refine preGT rfl rfl rfl rfl ?_ | refine preGF rfl rfl rfl rfl ?_))
      | (refine AltS.own (by assumption) ?_)
      | (refine AltS.im ?_)
      | (refine AltT.own (by assumption) ?_)
      | (refine AltT.im ?_)
      | (refine NilK.mk (fun _ => ?_) ?_)
      | (refine AltV.own (by assumption) ?_)
      | (refine AltV.im ?_)
      | ((first | refine drawA2 (by decide +kernel) ?_ | refine drawA (by decide +kernel) ?_ | refine drawL (by decide +kernel) ?_); conv => whnf; (try dsimp only [St.after, St.afterAt, St.pin, St.unpin, initSt, initT, numO, cellsA, Option.map, ren, renL, renO, St.setObj, headSt, List.cons_append, List.nil_append, List.length_nil, Nat.reduceAdd]); try (conv => enter [7, 3]; whnf))
      | (refine ap1 (by decide) (by omega) rfl rfl ?_)
      | (refine ap0 (by decide) rfl ?_)
      | (refine apL (by decide) (by omega) (fun _ => rfl) ?_)
      | (refine apM (by decide) (by omega) (fun _ => rfl) ?_)
      | (refine setI (z := _) rfl ?_)
      | (refine And.intro (by omega) (And.intro (by omega) ?_))
      | (refine ifB_intro (fun _ => ?_) (fun _ => ?_))
      | (refine exitA (by kernel_rfl) (by kernel_rfl) ⟨?_, trivial⟩ ?_ <;> (conv => whnf) <;> repeat' (first | exact trivial | with_reducible rfl | (refine srcI ?_; kernel_rfl) | (refine nsI ?_; kernel_rfl) | (refine And.intro ?_ ?_ <;> conv => whnf; try dsimp only [St.after, St.afterAt, St.pin, St.unpin, initSt, initT, numO, cellsA, Option.map, ren, renL, renO, St.setObj, headSt, List.cons_append, List.nil_append, List.length_nil, Nat.reduceAdd])))) <;> (conv => whnf; try dsimp only [St.after, St.afterAt, St.pin, St.unpin, initSt, initT, numO, cellsA, Option.map, ren, renL, renO, St.setObj, headSt, List.cons_append, List.nil_append, List.length_nil, Nat.reduceAdd]))
    refine no fun hb => ?_
    have q := hb.t0 d h0 (by omega)
    unfold Bd.tn at q
    omega
  · rename_i s1 s2 s3 s4 s5 s6
    refine ⟨d + 1, ⟨[], (by kernel_rfl), (by kernel_rfl), (by kernel_rfl), ?_, ?_⟩, ?_, by (try dsimp only); omega, rfl⟩
    rotate_left 1
    focus
      conv => whnf
      repeat' (first
        | exact trivial
        | with_reducible rfl
        | (refine srcI ?_; kernel_rfl)
        | (refine nsI ?_; kernel_rfl)
        | (refine And.intro ?_ ?_ <;> conv => whnf; try dsimp only [St.after, St.afterAt, St.pin, St.unpin, initSt, initT, numO, cellsA, Option.map, ren, renL, renO, St.setObj, headSt, List.cons_append, List.nil_append, List.length_nil, Nat.reduceAdd]))
    rotate_right 1
    focus
      conv => whnf
      repeat' (first
        | exact trivial
        | with_reducible rfl
        | (refine srcI ?_; kernel_rfl)
        | (refine nsI ?_; kernel_rfl)
        | (refine And.intro ?_ ?_ <;> conv => whnf; try dsimp only [St.after, St.afterAt, St.pin, St.unpin, initSt, initT, numO, cellsA, Option.map, ren, renL, renO, St.setObj, headSt, List.cons_append, List.nil_append, List.length_nil, Nat.reduceAdd]))
    refine ⟨by omega, by omega, b.good_succ hg (by omega) (fun c c0 c1 => ?_) ⟨by unfold Bd.tn; omega, by unfold Bd.tn; omega, s6⟩⟩
    have := List.any_eq_false.1 s3 _ (nth_mem c0 (by omega))
    unfold Bd.odd at this
    simp at this
    unfold Bd.nx; omega
  ·
    repeat' ((first
      | (refine Ck.mk ?_)
      | (refine ifD (fun _ => ?_) (fun _ => ?_))
      | (refine ifE (fun _ => ?_) (fun _ => ?_))
      | (refine ifN (fun _ => ?_) (fun _ => ?_))
      | ((with_reducible refine natI ?_))
      | ((with_reducible refine ifNot ?_))
      | ((with_reducible refine ifAndD (fun _ _ => ?_) (fun _ => ?_)))
      | ((with_reducible refine ifAnd (fun _ _ => ?_) (fun _ => ?_)))
      | (refine ixM (by omega) (by first | omega | (simp only [List.length_set, List.length_map, List.length_append, List.length_cons, List.length_nil, List.length_replicate]; omega)) rfl ?_)
      | (refine ixA (by omega) (by first | omega | (simp only [List.length_set, List.length_map, List.length_append, List.length_cons, List.length_nil, List.length_replicate]; omega)) ?_)
      | (refine ltM (by omega) (by first | omega | (simp only [List.length_set, List.length_map, List.length_append, List.length_cons, List.length_nil, List.length_replicate]; omega)) ?_)
      | (refine calI (by omega) ?_)
      | (refine cu8 (by omega) ?_)
      | (refine cu64 (by omega) ?_)
      | (refine And.intro (by omega) ?_; refine crem (by omega) ?_)
      | (refine And.intro (by omega) ?_; refine cquo (by omega) ?_)
      | ((with_reducible refine preI ?_); (first | refine preNil ?_ | refine preOp rfl rfl ?_ | refine preT rfl rfl rfl rfl ?_ | refine preF rfl rfl rfl rfl ?_ | refine preTS rfl rfl rfl rfl ?_ | refine preFS rfl rfl rfl rfl ?_ | refine preSkip rfl rfl rfl rfl ?_ | refine preGT rfl rfl rfl rfl ?_ | refine preGF rfl rfl rfl rfl ?_))
      | (refine AltS.own (by assumption) ?_)
      | (refine AltS.im ?_)
      | (refine AltT.own (by assumption) ?_)
      | (refine AltT.im ?_)
      | (refine NilK.mk (fun _ => ?_) ?_)
      | (refine AltV.own (by assumption) ?_)
      | (refine AltV.im ?_)
      | ((first | refine drawA2 (by decide +kernel) ?_ | refine drawA (by decide +kernel) ?_ | refine drawL (by decide +kernel) ?_); conv => whnf; (try dsimp only [St.after, St.afterAt, St.pin, St.unpin, initSt, initT, numO, cellsA, Option.map, ren, renL, renO, St.setObj, headSt, List.cons_append, List.nil_append, List.length_nil, Nat.reduceAdd]); try (conv => enter [7, 3]; whnf))
      | (refine ap1 (by decide) (by omega) rfl rfl ?_)
      | (refine ap0 (by decide) rfl ?_)
      | (refine apL (by decide) (by omega) (fun _ => rfl) ?_)
      | (refine apM (by decide) (by omega) (fun _ => rfl) ?_)
      | (refine setI (z := _) rfl ?_)
      | (refine And.intro (by omega) (And.intro (by omega) ?_))
      | (refine ifB_intro (fun _ => ?_) (fun _ => ?_))
      | (refine exitA (by kernel_rfl) (by kernel_rfl) ⟨?_, trivial⟩ ?_ <;> (conv => whnf) <;> repeat' (first | exact trivial | with_reducible rfl | (refine srcI ?_; kernel_rfl) | (refine nsI ?_; kernel_rfl) | (refine And.intro ?_ ?_ <;> conv => whnf; try dsimp only [St.after, St.afterAt, St.pin, St.unpin, initSt, initT, numO, cellsA, Option.map, ren, renL, renO, St.setObj, headSt, List.cons_append, List.nil_append, List.length_nil, Nat.reduceAdd])))) <;> (conv => whnf; try dsimp only [St.after, St.afterAt, St.pin, St.unpin, initSt, initT, numO, cellsA, Option.map, ren, renL, renO, St.setObj, headSt, List.cons_append, List.nil_append, List.length_nil, Nat.reduceAdd]))
    refine no fun hb => ?_
    have q := hb.t0 d h0 (by omega)
    unfold Bd.tn at q
    omega
  ·
    repeat' ((first
      | (refine Ck.mk ?_)
      | (refine ifD (fun _ => ?_) (fun _ => ?_))
      | (refine ifE (fun _ => ?_) (fun _ => ?_))
      | (refine ifN (fun _ => ?_) (fun _ => ?_))
      | ((with_reducible refine natI ?_))
      | ((with_reducible refine ifNot ?_))
      | ((with_reducible refine ifAndD (fun _ _ => ?_) (fun _ => ?_)))
      | ((with_reducible refine ifAnd (fun _ _ => ?_) (fun _ => ?_)))
      | (refine ixM (by omega) (by first | omega | (simp only [List.length_set, List.length_map, List.length_append, List.length_cons, List.length_nil, List.length_replicate]; omega)) rfl ?_)
      | (refine ixA (by omega) (by first | omega | (simp only [List.length_set, List.length_map, List.length_append, List.length_cons, List.length_nil, List.length_replicate]; omega)) ?_)
      | (refine ltM (by omega) (by first | omega | (simp only [List.length_set, List.length_map, List.length_append, List.length_cons, List.length_nil, List.length_replicate]; omega)) ?_)
      | (refine calI (by omega) ?_)
      | (refine cu8 (by omega) ?_)
      | (refine cu64 (by omega) ?_)
      | (refine And.intro (by omega) ?_; refine crem (by omega) ?_)
      | (refine And.intro (by omega) ?_; refine cquo (by omega) ?_)
      | ((with_reducible refine preI ?_); (first | refine preNil ?_ | refine preOp rfl rfl ?_ | refine preT rfl rfl rfl rfl ?_ | refine preF rfl rfl rfl rfl ?_ | refine preTS rfl rfl rfl rfl ?_ | refine preFS rfl rfl rfl rfl ?_ | refine preSkip rfl rfl rfl rfl ?_ | refine preGT rfl rfl rfl rfl ?_ | refine preGF rfl rfl rfl rfl ?_))
      | (refine AltS.own (by assumption) ?_)
      | (refine AltS.im ?_)
      | (refine AltT.own (by assumption) ?_)
      | (refine AltT.im ?_)
      | (refine NilK.mk (fun _ => ?_) ?_)
      | (refine AltV.own (by assumption) ?_)
      | (refine AltV.im ?_)
      | ((first | refine drawA2 (by decide +kernel) ?_ | refine drawA (by decide +kernel) ?_ | refine drawL (by decide +kernel) ?_); conv => whnf; (try dsimp only [St.after, St.afterAt, St.pin, St.unpin, initSt, initT, numO, cellsA, Option.map, ren, renL, renO, St.setObj, headSt, List.cons_append, List.nil_append, List.length_nil, Nat.reduceAdd]); try (conv => enter [7, 3]; whnf))
      | (refine ap1 (by decide) (by omega) rfl rfl ?_)
      | (refine ap0 (by decide) rfl ?_)
      | (refine apL (by decide) (by omega) (fun _ => rfl) ?_)
      | (refine apM (by decide) (by omega) (fun _ => rfl) ?_)
      | (refine setI (z := _) rfl ?_)
      | (refine And.intro (by omega) (And.intro (by omega) ?_))
      | (refine ifB_intro (fun _ => ?_) (fun _ => ?_))
      | (refine exitA (by kernel_rfl) (by kernel_rfl) ⟨?_, trivial⟩ ?_ <;> (conv => whnf) <;> repeat' (first | exact trivial | with_reducible rfl | (refine srcI ?_; kernel_rfl) | (refine nsI ?_; kernel_rfl) | (refine And.intro ?_ ?_ <;> conv => whnf; try dsimp only [St.after, St.afterAt, St.pin, St.unpin, initSt, initT, numO, cellsA, Option.map, ren, renL, renO, St.setObj, headSt, List.cons_append, List.nil_append, List.length_nil, Nat.reduceAdd])))) <;> (conv => whnf; try dsimp only [St.after, St.afterAt, St.pin, St.unpin, initSt, initT, numO, cellsA, Option.map, ren, renL, renO, St.setObj, headSt, List.cons_append, List.nil_append, List.length_nil, Nat.reduceAdd]))
    rw [decide_eq_true (b.ok_of_good (by omega) (by omega) (by omega) (by omega) (by omega) hg (by omega))]
end Go.Proofs.Ytkecpgidolphfaa
namespace Go.Proofs.Ytkecpgidolphfaa
open Go Go.Sk
theorem Mul1_p (n : Int) (h0 : 0 ≤ n) (h1 : n ≤ 4096) : Pure Try.prog 47 [.v (.int .u64 1), .v (.int .u64 n)] (.tup [.v (.int .u64 0), .v (.int .u64 n)]) none := by
  refine fun_pair enters_Mul rfl rfl fun N w V vs hs hrep => ?_
  have hvs : vs = #[.int .u64 1, .int .u64 n] := by
    have hs1 : vs.size = 2 := hs
    apply Array.ext (by simp [hs1])
    intro i g1 g2
    have : i = 0 ∨ i = 1 := by omega
    rcases this with rfl | rfl
    · exact eval_v (hrep 0 (by simp) g1)
    · exact eval_v (hrep 1 (by simp) g1)
  rw [hvs]
  obtain ⟨m, rfl⟩ : ∃ m : Nat, n = m := ⟨n.toNat, by omega⟩
  have h := Try.bits_Mul 1 m (by omega) (by omega) w
  rw [Nat.div_eq_of_lt (by omega : 1 * m < 18446744073709551616), Nat.mod_eq_of_lt (by omega : 1 * m < 18446744073709551616), Nat.one_mul] at h
  refine h.mono ?_
  rintro e w' ⟨rfl, rfl⟩
  exact ⟨rfl, Blw.refl _ _⟩
def repI (z n k : Int) : List AV := (List.replicate k.toNat z ++ List.replicate (n - k).toNat 0).map I
theorem repI_len {z n k : Int} (h0 : 0 ≤ k) (h1 : k ≤ n) : (repI z n k).length = n.toNat := by
  unfold repI; simp; omega
theorem repI_c {z n k : Int} {y : AV} (h : y ∈ repI z n k) : (cellsA y).length = 1 := by
  obtain ⟨x, _, rfl⟩ := List.mem_map.1 h
  rfl
theorem repI_one {z n : Int} (h1 : 1 ≤ n) : (List.replicate n.toNat (I 0)).take 0 ++ [I z].take 1 ++ (List.replicate n.toNat (I 0)).drop (0 + 1) = repI z n 1 := by
  unfold repI
  rw [List.take_zero, List.drop_replicate, List.map_append, List.map_replicate, List.map_replicate, show (1 : Int).toNat = 1 from rfl, show (n - 1).toNat = n.toNat - (0 + 1) by omega]
  rfl
theorem repI_more {z n k : Int} {m : Nat} (h1 : 1 ≤ k) (hm : m = min k.toNat (n - k).toNat) (hk : k ≤ n) : (repI z n k).take k.toNat ++ (((repI z n k).drop 0).take k.toNat).take m ++ (repI z n k).drop (k.toNat + m) = repI z n (k + m) := by
  unfold repI
  rw [List.map_append, List.map_replicate, List.map_replicate, List.map_append, List.map_replicate, List.map_replicate, List.drop_zero, List.take_left' (by simp), List.take_replicate, List.drop_append, List.drop_replicate, List.drop_replicate, List.length_replicate, ← List.append_assoc]
  rw [show (k + m).toNat = k.toNat + m by omega, show min m k.toNat = m by omega, show k.toNat - (k.toNat + m) = 0 by omega, List.replicate_zero, List.append_nil, List.replicate_append_replicate, show (n - k).toNat - (k.toNat + m - k.toNat) = (n - (k + m)).toNat by omega]
set_option maxRecDepth 10000 in
theorem Repeat_p (z : Int) (n : Int) (h1 : 1 ≤ n) (hn : n ≤ 4096) : Pure Try.prog 38 [.sl [I z], I n] (.ref 0) (some (.arr 1 ((List.replicate n.toNat z).map I))) := by
  have hint : OwnHint := ⟨⟩
  have sint : SubHint := ⟨⟩
  have e1 : ([I z] : List AV).length = 1 := rfl
  refine fun_of tok D_ok Try.func38 rfl Try.ntmps38 Try.results38 (by kernel_rfl) (by simp) (by simp) ?_
  conv => whnf
  have m1 : Pure Try.prog 47 [.v (.int .u64 (([I z] : List AV).length : Int)), .v (.int .u64 n)] (.tup [.v (.int .u64 0), .v (.int .u64 n)]) none := Mul1_p n (by omega) hn
  repeat' (first
    | (refine lvK (k := ?_); apply Cj.mk <;> first | exact trivial | intros)
    | (refine ⟨_, _, m1, lvN (k := ?_)⟩; apply Cj.mk <;> first | exact trivial | intros)
    | (refine .inl ?_; (conv => whnf); refine ⟨_, _, m1, lvN (k := ?_)⟩; apply Cj.mk <;> first | exact trivial | intros)
    | (refine ⟨fun y hy => by simp at hy; subst hy; rfl, by simp, trivial, .mk 1 (by simp; omega) (.mk _ (repI_one h1) (lvN (k := ?_)))⟩; apply Cj.mk <;> first | exact trivial | intros)
    | (refine lvE (k := ?_); apply Cj.mk <;> first | exact trivial | intros)
    | fail)
  refine .of (fun k => [(8, I k)]) (fun k => [(0, .arr 1 (repI z n k))]) 1 (fun k => 1 ≤ k ∧ k ≤ n) (fun k => (n - k).toNat) 1 ?_
  conv => whnf
  refine ⟨⟨[], (by kernel_rfl), (by kernel_rfl), (by kernel_rfl), lvL (k := ?_), lvL (k := ?_)⟩, ?_, fun k ⟨k1, kn⟩ => lvN (k := ?_)⟩ <;> (first | (apply Cj.mk <;> first | exact trivial | intros) | skip)
  · exact ⟨by omega, by omega⟩
  have hl := repI_len (z := z) (show 0 ≤ k by omega) kn
  by_cases hk : k < n
  · obtain ⟨m, hm⟩ : ∃ m, m = min k.toNat (n - k).toNat := ⟨_, rfl⟩
    have hmo := repI_more (z := z) k1 hm kn
    have hm0 : 1 ≤ m := by omega
    have hm1 : k + m ≤ n := by omega
    repeat' (first
      | (refine lvD (k := ?_); apply Cj.mk <;> first | exact trivial | intros)
      | (refine ShowsJ.mk (by kernel_rfl) (by kernel_rfl) (by kernel_rfl) (lvL (k := ?_)) (lvL (k := ?_)) rfl <;> (first | (apply Cj.mk <;> first | exact trivial | intros) | skip))
      | (refine lvE (k := ?_); apply Cj.mk <;> first | exact trivial | intros)
      | fail)
    refine drawJ [0, 1, 2, 4, 5] [] [(8, I (k + m))] [(0, .arr 1 (repI z n (k + m)))] 1 (by decide +kernel) ?_
    conv => whnf
    refine And.intro ?_ ?_
    · conv => whnf
      have hys : (((repI z n k).drop 0).take k.toNat).length = k.toNat := by rw [List.length_take, List.length_drop, hl]; omega
      repeat' (first
        | (refine lvD (k := ?_); apply Cj.mk <;> first | exact trivial | intros)
        | (refine ⟨⟨by omega, by omega, by omega, by omega⟩, ?_⟩; conv => whnf)
        | (refine ⟨fun y hy => repI_c (List.mem_of_mem_drop (List.mem_of_mem_take hy)), by omega, (by show 0 + (k.toNat - 0) ≤ (repI z n k).length; omega), .mk m (by show m = min _ (((repI z n k).drop 0).take k.toNat).length; rw [hys]; omega) (.mk (repI z n (k + m)) hmo ?_)⟩; conv => whnf)
        | (refine ShowsJ.mk (by kernel_rfl) (by kernel_rfl) (by kernel_rfl) (lvL (k := ?_)) (lvL (k := ?_)) rfl <;> (first | (apply Cj.mk <;> first | exact trivial | intros) | skip))
        | (refine lvE (k := ?_); apply Cj.mk <;> first | exact trivial | intros)
        | fail)
    · refine ⟨k + m, ⟨[], (by kernel_rfl), (by kernel_rfl), (by kernel_rfl), lvL (k := ?_), lvL (k := ?_)⟩, ?_, by (try dsimp only); omega, rfl⟩ <;> (first | (apply Cj.mk <;> first | exact trivial | intros) | skip)
      exact ⟨by omega, by omega⟩
  · obtain rfl : k = n := by omega
    repeat' (first
      | (refine lvK (k := ?_); apply Cj.mk <;> first | exact trivial | intros)
      | (refine lvE (k := ?_); apply Cj.mk <;> first | exact trivial | intros)
      | fail)
    unfold repI
    rw [show k - k = 0 by omega]; simp
end Go.Proofs.Ytkecpgidolphfaa
