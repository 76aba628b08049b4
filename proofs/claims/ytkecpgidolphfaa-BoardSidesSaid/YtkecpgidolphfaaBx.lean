/- Contracts of functions of the program, proved by the checker. -/
import Derived.Test.YtkecpgidolphfaaBw
import Derived.Test.YtkecpgidolphfaaBp
namespace Go.Proofs.Ytkecpgidolphfaa
set_option linter.unusedVariables false
set_option linter.unusedSimpArgs false
open Go Go.Sk

theorem Bd.to_zero {b : Bd} {d c : Int} (d0 : 0 ≤ d) (d1 : d < b.next.length) (c0 : 0 ≤ c) (c1 : c < b.cells) : b.to 0 d c = nth (nth b.next d) c := by
  unfold Bd.to Bd.nx; rw [if_neg (by omega), if_neg (by omega)]
theorem Bd.to_one {b : Bd} {d c : Int} (d0 : 0 ≤ d) (d1 : d < b.next.length) (c0 : 0 ≤ c) (c1 : c < b.cells) : b.to 1 d c = nth (nth b.next (nth b.turn d)) c := by
  unfold Bd.to Bd.nx Bd.tn; rw [if_neg (by omega), if_pos rfl]
theorem Bd.to_none {b : Bd} {s d c : Int} (h : s < 0 ∨ s > 1 ∨ d < 0 ∨ d ≥ b.next.length ∨ c < 0 ∨ c ≥ b.cells) : b.to s d c = -1 := by
  unfold Bd.to; rw [if_pos h]
theorem Bd.line_none {b : Bd} {s d c : Int} (h : b.to s d c < 0) : b.line s d c = [] := by
  unfold Bd.line
  exact b.lineFrom_end fun q => by omega

set_option maxHeartbeats 4000000 in
set_option maxRecDepth 10000 in
theorem BoardSides_p (x : Rw) (hx : x.ok) (n : Int) (hn : -32768 ≤ n ∧ n ≤ 32767) : Pure Try.prog 4 [x.av, .v (.int .i16 n)] (Bo true) none := by
  have hb := Rw.wild_ok hx
  have hw := Wild12_p x hx
  obtain ⟨b, hbe⟩ : ∃ b, b = x.wild := ⟨_, rfl⟩
  have b8 : b.cells ≤ 8 := by rw [hbe]; show 1 + x.cells % 8 ≤ 8; omega
  rw [← hbe] at hb hw
  obtain ⟨n0, n1, n2, n3, n4, n5, n6, n7, n8, n9, n10, n11, n12, n13, n14, n15, n16, n17, n18, n19, n20, n21, n22, n23, n24, n25, n26, n27, n28, n29, n30, n31, hns⟩ := list32 hx.l
  have hav : x.av = .ag [U x.cells, U x.dirs, U x.turn, U n0, U n1, U n2, U n3, U n4, U n5, U n6, U n7, U n8, U n9, U n10, U n11, U n12, U n13, U n14, U n15, U n16, U n17, U n18, U n19, U n20, U n21, U n22, U n23, U n24, U n25, U n26, U n27, U n28, U n29, U n30, U n31] := by unfold Rw.av; rw [hns]; rfl
  rw [hav] at hw ⊢
  clear hav hns 
  have c6 := hb.c64
  have n8 := hb.n8
  have tl := hb.tl
  have en : (b.next.map Is).length = b.next.length := List.length_map _
  have et : (b.turn.map I).length = b.turn.length := List.length_map _
  refine fun_of tok D_ok Try.func4 rfl Try.ntmps4 Try.results4 (by kernel_rfl) (by simp) (by simp) ?_
  conv => whnf
  repeat' ((first
    | (refine ifD (fun _ => ?_) (fun _ => ?_))
    | (refine ifE (fun _ => ?_) (fun _ => ?_))
    | (refine ifN (fun _ => ?_) (fun _ => ?_))
    | ((with_reducible refine ifNot ?_))
    | ((with_reducible refine ifAndD (fun _ _ => ?_) (fun _ => ?_)))
    | ((with_reducible refine ifAnd (fun _ _ => ?_) (fun _ => ?_)))
    | (refine ixM (by omega) (by first | omega | (simp only [List.length_set, List.length_map, List.length_append, List.length_cons, List.length_nil, List.length_replicate]; omega)) rfl ?_)
    | (refine ixA (by omega) (by first | omega | (simp only [List.length_set, List.length_map, List.length_append, List.length_cons, List.length_nil, List.length_replicate]; omega)) ?_)
    | (refine ltM (by omega) (by first | omega | (simp only [List.length_set, List.length_map, List.length_append, List.length_cons, List.length_nil, List.length_replicate]; omega)) ?_)
    | (refine calI (by omega) ?_)
    | (refine cu8 (by omega) ?_)
    | (refine cu64 (by omega) ?_)
    | (refine And.intro (by omega) ?_; refine crem (by omega) ?_)
    | (refine And.intro (by omega) ?_; refine cquo (by omega) ?_)
    | (refine ⟨_, _, sanity_p, ?_⟩)
    | (refine .inl ?_; (conv => whnf); refine ⟨_, _, sanity_p, ?_⟩)
    | (refine ⟨_, _, hw, ?_⟩)
    | (refine .inl ?_; (conv => whnf); refine ⟨_, _, hw, ?_⟩)
    | ((with_reducible refine preI ?_); (first | refine preNil ?_ | refine preOp rfl rfl ?_ | refine preT rfl rfl rfl rfl ?_ | refine preF rfl rfl rfl rfl ?_ | refine preTS rfl rfl rfl rfl ?_ | refine preFS rfl rfl rfl rfl ?_ | refine preSkip rfl rfl rfl rfl ?_ | refine preGT rfl rfl rfl rfl ?_ | refine preGF rfl rfl rfl rfl ?_))
    | ((first | refine drawA (by decide +kernel) ?_ | refine drawA2 (by kernel_rfl) ?_); conv => whnf; (try dsimp only [St.after, St.afterAt, initSt, initT, numO, cellsA, Option.map, ren, renL, renO, St.setObj, headSt, List.cons_append, List.nil_append, List.length_nil]); try (conv => enter [7, 3]; whnf))
    | (refine ap1 (by decide) (by omega) rfl rfl ?_)
    | (refine ap0 (by decide) rfl ?_)
    | (refine apL (by decide) (by omega) (fun _ => rfl) ?_)
    | (refine apM (by decide) (by omega) (fun _ => rfl) ?_)
    | (refine setI (z := _) rfl ?_)
    | (refine And.intro (by omega) (And.intro (by omega) ?_))
    | (refine ifB_intro (fun _ => ?_) (fun _ => ?_))) <;> (conv => whnf; try dsimp only [St.after, St.afterAt, initSt, initT, numO, cellsA, Option.map, ren, renL, renO, St.setObj, headSt, List.cons_append, List.nil_append, List.length_nil]))
  refine .of (fun d => [(7, I d)]) (fun d => []) 2 (fun d => 0 ≤ d ∧ d ≤ b.next.length) (fun d => (b.next.length - d).toNat) 0 ?_
  conv => whnf
  refine ⟨⟨[], (by kernel_rfl), (by kernel_rfl), (by kernel_rfl), ?_, ?_⟩, ?_, fun d ⟨d0, d1⟩ => ?_⟩
  rotate_left 1
  focus
    conv => whnf
    repeat' (first
      | exact trivial
      | with_reducible rfl
      | (refine srcI ?_; kernel_rfl)
      | (refine nsI ?_; kernel_rfl)
      | (refine And.intro ?_ ?_ <;> conv => whnf; try dsimp only [St.after, St.afterAt, initSt, initT, numO, cellsA, Option.map, ren, renL, renO, St.setObj, headSt, List.cons_append, List.nil_append, List.length_nil])
      | rfl)
  rotate_right 1
  focus
    conv => whnf
    repeat' (first
      | exact trivial
      | with_reducible rfl
      | (refine srcI ?_; kernel_rfl)
      | (refine nsI ?_; kernel_rfl)
      | (refine And.intro ?_ ?_ <;> conv => whnf; try dsimp only [St.after, St.afterAt, initSt, initT, numO, cellsA, Option.map, ren, renL, renO, St.setObj, headSt, List.cons_append, List.nil_append, List.length_nil])
      | rfl)
  rotate_right 1
  focus
    conv => whnf
  rotate_left 1
  · exact ⟨by omega, by omega⟩
  repeat' ((first
    | (refine ifD (fun _ => ?_) (fun _ => ?_))
    | (refine ifE (fun _ => ?_) (fun _ => ?_))
    | (refine ifN (fun _ => ?_) (fun _ => ?_))
    | ((with_reducible refine ifNot ?_))
    | ((with_reducible refine ifAndD (fun _ _ => ?_) (fun _ => ?_)))
    | ((with_reducible refine ifAnd (fun _ _ => ?_) (fun _ => ?_)))
    | (refine ixM (by omega) (by first | omega | (simp only [List.length_set, List.length_map, List.length_append, List.length_cons, List.length_nil, List.length_replicate]; omega)) rfl ?_)
    | (refine ixA (by omega) (by first | omega | (simp only [List.length_set, List.length_map, List.length_append, List.length_cons, List.length_nil, List.length_replicate]; omega)) ?_)
    | (refine ltM (by omega) (by first | omega | (simp only [List.length_set, List.length_map, List.length_append, List.length_cons, List.length_nil, List.length_replicate]; omega)) ?_)
    | (refine calI (by omega) ?_)
    | (refine cu8 (by omega) ?_)
    | (refine cu64 (by omega) ?_)
    | (refine And.intro (by omega) ?_; refine crem (by omega) ?_)
    | (refine And.intro (by omega) ?_; refine cquo (by omega) ?_)
    | ((with_reducible refine preI ?_); (first | refine preNil ?_ | refine preOp rfl rfl ?_ | refine preT rfl rfl rfl rfl ?_ | refine preF rfl rfl rfl rfl ?_ | refine preTS rfl rfl rfl rfl ?_ | refine preFS rfl rfl rfl rfl ?_ | refine preSkip rfl rfl rfl rfl ?_ | refine preGT rfl rfl rfl rfl ?_ | refine preGF rfl rfl rfl rfl ?_))
    | ((first | refine drawA (by decide +kernel) ?_ | refine drawA2 (by kernel_rfl) ?_); conv => whnf; (try dsimp only [St.after, St.afterAt, initSt, initT, numO, cellsA, Option.map, ren, renL, renO, St.setObj, headSt, List.cons_append, List.nil_append, List.length_nil]); try (conv => enter [7, 3]; whnf))
    | (refine ap1 (by decide) (by omega) rfl rfl ?_)
    | (refine ap0 (by decide) rfl ?_)
    | (refine apL (by decide) (by omega) (fun _ => rfl) ?_)
    | (refine apM (by decide) (by omega) (fun _ => rfl) ?_)
    | (refine setI (z := _) rfl ?_)
    | (refine And.intro (by omega) (And.intro (by omega) ?_))
    | (refine ifB_intro (fun _ => ?_) (fun _ => ?_))) <;> (conv => whnf; try dsimp only [St.after, St.afterAt, initSt, initT, numO, cellsA, Option.map, ren, renL, renO, St.setObj, headSt, List.cons_append, List.nil_append, List.length_nil]))
  ·
    have hll := hb.ll d d0 (by omega)
    have eln : ((nth b.next d).map I).length = (nth b.next d).length := List.length_map _
    have htn := hb.t0 d d0 (by omega)
    unfold Bd.tn at htn
    refine .of (fun c => [(8, I c)]) (fun c => []) 2 (fun c => 0 ≤ c ∧ c ≤ b.cells) (fun c => (b.cells - c).toNat) 0 ?_
    conv => whnf
    refine ⟨⟨[], (by kernel_rfl), (by kernel_rfl), (by kernel_rfl), ?_, ?_⟩, ?_, fun c ⟨c0, c1⟩ => ?_⟩
    rotate_left 1
    focus
      conv => whnf
      repeat' (first
        | exact trivial
        | with_reducible rfl
        | (refine srcI ?_; kernel_rfl)
        | (refine nsI ?_; kernel_rfl)
        | (refine And.intro ?_ ?_ <;> conv => whnf; try dsimp only [St.after, St.afterAt, initSt, initT, numO, cellsA, Option.map, ren, renL, renO, St.setObj, headSt, List.cons_append, List.nil_append, List.length_nil])
        | rfl)
    rotate_right 1
    focus
      conv => whnf
      repeat' (first
        | exact trivial
        | with_reducible rfl
        | (refine srcI ?_; kernel_rfl)
        | (refine nsI ?_; kernel_rfl)
        | (refine And.intro ?_ ?_ <;> conv => whnf; try dsimp only [St.after, St.afterAt, initSt, initT, numO, cellsA, Option.map, ren, renL, renO, St.setObj, headSt, List.cons_append, List.nil_append, List.length_nil])
        | rfl)
    rotate_right 1
    focus
      conv => whnf
    rotate_left 1
    · exact ⟨by omega, by omega⟩
    have f1 := fun (h : c < b.cells) => b.to_zero d0 (by omega) c0 h
    have f2 := fun (h : c < b.cells) => b.to_one d0 (by omega) c0 h
    have f3 := fun (h : c < b.cells) => b.to_zero (d := nth b.turn d) htn.1 htn.2.1 c0 h
    have f4 := fun (h : c < b.cells) => b.to_one (d := nth b.turn d) htn.1 htn.2.1 c0 h
    rw [htn.2.2] at f4
    have e0 : ¬ (n ≥ 0) → b.line 0 n c = [] := fun h => Bd.line_none (by rw [Bd.to_none (by omega)]; omega)
    have e1 : n ≥ 0 → b.line 0 (n + 8) c = [] := fun h => Bd.line_none (by rw [Bd.to_none (by omega)]; omega)
    repeat' ((first
      | (refine ifNF (by omega) ?_)
      | (refine ifNT (by omega) ?_)
      | (refine ifET (by omega) ?_)
      | (refine ifEF (by omega) ?_)
      | (refine ifDT (by omega) ?_)
      | (refine ifDF (by omega) ?_)
      | (refine ifD (fun _ => ?_) (fun _ => ?_))
      | (refine ifE (fun _ => ?_) (fun _ => ?_))
      | (refine ifN (fun _ => ?_) (fun _ => ?_))
      | ((with_reducible refine ifNot ?_))
      | ((with_reducible refine ifAndD (fun _ _ => ?_) (fun _ => ?_)))
      | ((with_reducible refine ifAnd (fun _ _ => ?_) (fun _ => ?_)))
      | (refine ixM (by omega) (by first | omega | (simp only [List.length_set, List.length_map, List.length_append, List.length_cons, List.length_nil, List.length_replicate]; omega)) rfl ?_)
      | (refine ixA (by omega) (by first | omega | (simp only [List.length_set, List.length_map, List.length_append, List.length_cons, List.length_nil, List.length_replicate]; omega)) ?_)
      | (refine ltM (by omega) (by first | omega | (simp only [List.length_set, List.length_map, List.length_append, List.length_cons, List.length_nil, List.length_replicate]; omega)) ?_)
      | (refine calI (by omega) ?_)
      | (refine cu8 (by omega) ?_)
      | (refine cu64 (by omega) ?_)
      | (refine And.intro (by omega) ?_; refine crem (by omega) ?_)
      | (refine And.intro (by omega) ?_; refine cquo (by omega) ?_)
      | (refine ⟨_, _, To15_p b hb _ _ _, ?_⟩)
      | (refine .inl ?_; (conv => whnf); refine ⟨_, _, To15_p b hb _ _ _, ?_⟩)
      | (refine ⟨_, _, Line16_p b hb _ _ _, ?_⟩)
      | (refine .inl ?_; (conv => whnf); refine ⟨_, _, Line16_p b hb _ _ _, ?_⟩)
      | ((with_reducible refine preI ?_); (first | refine preNil ?_ | refine preOp rfl rfl ?_ | refine preT rfl rfl rfl rfl ?_ | refine preF rfl rfl rfl rfl ?_ | refine preTS rfl rfl rfl rfl ?_ | refine preFS rfl rfl rfl rfl ?_ | refine preSkip rfl rfl rfl rfl ?_ | refine preGT rfl rfl rfl rfl ?_ | refine preGF rfl rfl rfl rfl ?_))
      | ((first | refine drawA (by decide +kernel) ?_ | refine drawA2 (by kernel_rfl) ?_); conv => whnf; (try dsimp only [St.after, St.afterAt, initSt, initT, numO, cellsA, Option.map, ren, renL, renO, St.setObj, headSt, List.cons_append, List.nil_append, List.length_nil]); try (conv => enter [7, 3]; whnf))
      | (refine ap1 (by decide) (by omega) rfl rfl ?_)
      | (refine ap0 (by decide) rfl ?_)
      | (refine apL (by decide) (by omega) (fun _ => rfl) ?_)
      | (refine apM (by decide) (by omega) (fun _ => rfl) ?_)
      | (refine setI (z := _) rfl ?_)
      | (refine And.intro (by omega) (And.intro (by omega) ?_))
      | (refine ifB_intro (fun _ => ?_) (fun _ => ?_))) <;> (conv => whnf; try dsimp only [St.after, St.afterAt, initSt, initT, numO, cellsA, Option.map, ren, renL, renO, St.setObj, headSt, List.cons_append, List.nil_append, List.length_nil]))
    all_goals try (rename_i q; exact absurd (Bd.to_none (by omega)) q)
    all_goals try (rename_i q; exact absurd (by rw [e1 (by omega)]; rfl) q)
    all_goals try (rename_i q; exact absurd (by rw [e0 (by omega)]; rfl) q)
    iterate 2
      · refine ⟨c + 1, ⟨[], (by kernel_rfl), (by kernel_rfl), (by kernel_rfl), ?_, ?_⟩, ?_, by (try dsimp only); omega, rfl⟩
        rotate_left 1
        focus
          conv => whnf
          repeat' (first
            | exact trivial
            | with_reducible rfl
            | (refine srcI ?_; kernel_rfl)
            | (refine nsI ?_; kernel_rfl)
            | (refine And.intro ?_ ?_ <;> conv => whnf; try dsimp only [St.after, St.afterAt, initSt, initT, numO, cellsA, Option.map, ren, renL, renO, St.setObj, headSt, List.cons_append, List.nil_append, List.length_nil]))
        rotate_right 1
        focus
          conv => whnf
          repeat' (first
            | exact trivial
            | with_reducible rfl
            | (refine srcI ?_; kernel_rfl)
            | (refine nsI ?_; kernel_rfl)
            | (refine And.intro ?_ ?_ <;> conv => whnf; try dsimp only [St.after, St.afterAt, initSt, initT, numO, cellsA, Option.map, ren, renL, renO, St.setObj, headSt, List.cons_append, List.nil_append, List.length_nil]))
        exact ⟨by omega, by omega⟩
    refine ⟨d + 1, ⟨[], (by kernel_rfl), (by kernel_rfl), (by kernel_rfl), ?_, ?_⟩, ?_, by (try dsimp only); omega, rfl⟩
    rotate_left 1
    focus
      conv => whnf
      repeat' (first
        | exact trivial
        | with_reducible rfl
        | (refine srcI ?_; kernel_rfl)
        | (refine nsI ?_; kernel_rfl)
        | (refine And.intro ?_ ?_ <;> conv => whnf; try dsimp only [St.after, St.afterAt, initSt, initT, numO, cellsA, Option.map, ren, renL, renO, St.setObj, headSt, List.cons_append, List.nil_append, List.length_nil]))
    rotate_right 1
    focus
      conv => whnf
      repeat' (first
        | exact trivial
        | with_reducible rfl
        | (refine srcI ?_; kernel_rfl)
        | (refine nsI ?_; kernel_rfl)
        | (refine And.intro ?_ ?_ <;> conv => whnf; try dsimp only [St.after, St.afterAt, initSt, initT, numO, cellsA, Option.map, ren, renL, renO, St.setObj, headSt, List.cons_append, List.nil_append, List.length_nil]))
    exact ⟨by omega, by omega⟩
  repeat' ((first
    | (refine ifD (fun _ => ?_) (fun _ => ?_))
    | (refine ifE (fun _ => ?_) (fun _ => ?_))
    | (refine ifN (fun _ => ?_) (fun _ => ?_))
    | ((with_reducible refine ifNot ?_))
    | ((with_reducible refine ifAndD (fun _ _ => ?_) (fun _ => ?_)))
    | ((with_reducible refine ifAnd (fun _ _ => ?_) (fun _ => ?_)))
    | (refine ixM (by omega) (by first | omega | (simp only [List.length_set, List.length_map, List.length_append, List.length_cons, List.length_nil, List.length_replicate]; omega)) rfl ?_)
    | (refine ixA (by omega) (by first | omega | (simp only [List.length_set, List.length_map, List.length_append, List.length_cons, List.length_nil, List.length_replicate]; omega)) ?_)
    | (refine ltM (by omega) (by first | omega | (simp only [List.length_set, List.length_map, List.length_append, List.length_cons, List.length_nil, List.length_replicate]; omega)) ?_)
    | (refine calI (by omega) ?_)
    | (refine cu8 (by omega) ?_)
    | (refine cu64 (by omega) ?_)
    | (refine And.intro (by omega) ?_; refine crem (by omega) ?_)
    | (refine And.intro (by omega) ?_; refine cquo (by omega) ?_)
    | ((with_reducible refine preI ?_); (first | refine preNil ?_ | refine preOp rfl rfl ?_ | refine preT rfl rfl rfl rfl ?_ | refine preF rfl rfl rfl rfl ?_ | refine preTS rfl rfl rfl rfl ?_ | refine preFS rfl rfl rfl rfl ?_ | refine preSkip rfl rfl rfl rfl ?_ | refine preGT rfl rfl rfl rfl ?_ | refine preGF rfl rfl rfl rfl ?_))
    | ((first | refine drawA (by decide +kernel) ?_ | refine drawA2 (by kernel_rfl) ?_); conv => whnf; (try dsimp only [St.after, St.afterAt, initSt, initT, numO, cellsA, Option.map, ren, renL, renO, St.setObj, headSt, List.cons_append, List.nil_append, List.length_nil]); try (conv => enter [7, 3]; whnf))
    | (refine ap1 (by decide) (by omega) rfl rfl ?_)
    | (refine ap0 (by decide) rfl ?_)
    | (refine apL (by decide) (by omega) (fun _ => rfl) ?_)
    | (refine apM (by decide) (by omega) (fun _ => rfl) ?_)
    | (refine setI (z := _) rfl ?_)
    | (refine And.intro (by omega) (And.intro (by omega) ?_))
    | (refine ifB_intro (fun _ => ?_) (fun _ => ?_))
    | (refine exitA (by kernel_rfl) (by kernel_rfl) ⟨?_, trivial⟩ ?_ <;> (conv => whnf) <;> repeat' (first | exact trivial | with_reducible rfl | (refine srcI ?_; kernel_rfl) | (refine nsI ?_; kernel_rfl) | (refine And.intro ?_ ?_ <;> conv => whnf; try dsimp only [St.after, St.afterAt, initSt, initT, numO, cellsA, Option.map, ren, renL, renO, St.setObj, headSt, List.cons_append, List.nil_append, List.length_nil])))) <;> (conv => whnf; try dsimp only [St.after, St.afterAt, initSt, initT, numO, cellsA, Option.map, ren, renL, renO, St.setObj, headSt, List.cons_append, List.nil_append, List.length_nil]))
end Go.Proofs.Ytkecpgidolphfaa
