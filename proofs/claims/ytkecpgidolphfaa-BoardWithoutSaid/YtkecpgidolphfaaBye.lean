/- Contracts of functions of the program, proved by the checker. -/
import Derived.Test.YtkecpgidolphfaaBw
import Derived.Test.YtkecpgidolphfaaByb
import Derived.Test.YtkecpgidolphfaaBp
namespace Go.Proofs.Ytkecpgidolphfaa
set_option linter.unusedVariables false
set_option linter.unusedSimpArgs false
open Go Go.Sk

/-! A board without the steps of a cell. -/
def Bd.wo (b : Bd) (c : Int) : Bd := ⟨b.cells, b.next.map fun l => cutRow l c b.cells, b.turn⟩
theorem without_eq {b : Bd} {c : Int} (c0 : 0 ≤ c) (c1 : c < b.cells) : b.without c = (b.wo c, 0) := if_neg (by omega)
theorem wo_len (b : Bd) (c : Int) : (b.wo c).next.length = b.next.length := List.length_map _
theorem wo_row {b : Bd} {c d : Int} (d0 : 0 ≤ d) (d1 : d < b.next.length) : nth (b.wo c).next d = cutRow (nth b.next d) c b.cells := nth_map d0 d1
theorem wo_nx {b : Bd} {c d k : Int} (d0 : 0 ≤ d) (d1 : d < b.next.length) (k0 : 0 ≤ k) (k1 : k < b.cells) : (b.wo c).nx d k = if k = c ∨ b.nx d k = c then -1 else b.nx d k := by
  unfold Bd.nx
  rw [wo_row d0 d1]
  exact nth_map_ints k0 k1
theorem wo_ok {b : Bd} (hb : b.ok) (c : Int) : (b.wo c).ok := by
  have c1 := hb.c1
  refine ⟨hb.c1, hb.c64, by rw [wo_len]; exact hb.n1, by rw [wo_len]; exact hb.n8, by rw [wo_len]; exact hb.tl, fun d d0 d1 => ?_, fun d k d0 d1 k0 k1 => ?_, fun d d0 d1 => ?_⟩
  · rw [wo_len] at d1
    rw [wo_row d0 d1, cutRow_len]
    show ((b.cells.toNat : Nat) : Int) = b.cells
    omega
  · rw [wo_len] at d1
    have k1' : k < b.cells := k1
    rw [wo_nx d0 d1 k0 k1']
    have := hb.lx d k d0 d1 k0 k1'
    show _ ∧ _ < b.cells
    split <;> omega
  · rw [wo_len] at d1 ⊢
    exact hb.t0 d d0 d1
theorem wo_to {b : Bd} {c d k : Int} (d0 : 0 ≤ d) (d1 : d < b.next.length) (k0 : 0 ≤ k) (k1 : k < b.cells) : (b.wo c).to 0 d k = if k = c ∨ b.to 0 d k = c then -1 else b.to 0 d k := by
  have e1 : (b.wo c).to 0 d k = (b.wo c).nx d k := by
    unfold Bd.to
    rw [wo_len, show (b.wo c).cells = b.cells from rfl, if_neg (by omega), if_neg (by omega)]
  have e2 : b.to 0 d k = b.nx d k := by unfold Bd.to; rw [if_neg (by omega), if_neg (by omega)]
  rw [e1, e2, wo_nx d0 d1 k0 k1]
theorem wo_near {b : Bd} {c : Int} (c0 : 0 ≤ c) (c1 : c < b.cells) : (b.wo c).near c = [] := by
  refine List.eq_nil_iff_forall_not_mem.2 fun x hx => ?_
  obtain ⟨x0, x1, xc, d, d0, d1, e⟩ := mem_near.1 hx
  rw [wo_len] at d1
  rw [wo_to d0 d1 c0 c1, if_pos (.inl rfl)] at e
  omega
theorem wo_adj {b : Bd} {c y : Int} (c0 : 0 ≤ c) (c1 : c < b.cells) : ¬ (b.wo c).adj c y := by
  rintro (h | h)
  · rw [wo_near c0 c1] at h; cases h
  · have hy := near_src h
    obtain ⟨x0, x1, xc, d, d0, d1, e⟩ := mem_near.1 h
    rw [wo_len] at d1
    rw [wo_to d0 d1 hy.1 hy.2] at e
    split at e
    · omega
    · rename_i hn; exact hn (.inr e)
theorem wo_con {b : Bd} {c y : Int} (c0 : 0 ≤ c) (c1 : c < b.cells) (h : Con (b.wo c).adj c y) : y = c := by
  induction h with
  | refl => rfl
  | step _ r ih => rw [ih] at r; exact absurd r (wo_adj c0 c1)
theorem wo_wo {b : Bd} (hb : b.ok) {c : Int} : (b.wo c).wo c = b.wo c := by
  have hw := wo_ok hb c
  refine Bd.ext.2 ⟨rfl, ?_, rfl⟩
  refine ext_nth (by rw [wo_len]) fun d d0 d1 => ?_
  rw [wo_len] at d1
  have d1' := d1
  rw [wo_len] at d1'
  rw [wo_row d0 d1]
  have hl := hw.ll d d0 d1
  refine ext_nth (by rw [cutRow_len]; omega) fun k k0 k1 => ?_
  rw [cutRow_len] at k1
  have k1' : k < b.cells := by have : (b.wo c).cells = b.cells := rfl; omega
  rw [show nth (cutRow (nth (b.wo c).next d) c (b.wo c).cells) k = if k = c ∨ nth (nth (b.wo c).next d) k = c then -1 else nth (nth (b.wo c).next d) k from nth_map_ints k0 k1']
  have := wo_nx (c := c) d0 d1' k0 k1'
  unfold Bd.nx at this
  rw [this]
  by_cases h : k = c ∨ nth (nth b.next d) k = c
  · rw [if_pos h]; split <;> rfl
  · rw [if_neg h, if_neg h]

set_option maxHeartbeats 4000000 in
set_option maxRecDepth 10000 in
theorem BoardWithout_p (x : Rw) (hx : x.ok) (n : Int) (hn : 0 ≤ n ∧ n ≤ 255) : Pure Try.prog 7 [x.av, .v (.int .u8 n)] (Bo true) none := by
  have hb := Rw.wild_ok hx
  have hw := Wild12_p x hx
  obtain ⟨b, hbe⟩ : ∃ b, b = x.wild := ⟨_, rfl⟩
  rw [← hbe] at hb hw
  obtain ⟨n0, n1, n2, n3, n4, n5, n6, n7, n8, n9, n10, n11, n12, n13, n14, n15, n16, n17, n18, n19, n20, n21, n22, n23, n24, n25, n26, n27, n28, n29, n30, n31, hns⟩ := list32 hx.l
  have hav : x.av = .ag [U x.cells, U x.dirs, U x.turn, U n0, U n1, U n2, U n3, U n4, U n5, U n6, U n7, U n8, U n9, U n10, U n11, U n12, U n13, U n14, U n15, U n16, U n17, U n18, U n19, U n20, U n21, U n22, U n23, U n24, U n25, U n26, U n27, U n28, U n29, U n30, U n31] := by unfold Rw.av; rw [hns]; rfl
  rw [hav] at hw ⊢
  clear hav hns 
  have c6 := hb.c64
  have b1 := hb.c1
  have n8 := hb.n8
  have tl := hb.tl
  have en : (b.next.map Is).length = b.next.length := List.length_map _
  have et : (b.turn.map I).length = b.turn.length := List.length_map _
  have c0 : 0 ≤ n % b.cells := Int.emod_nonneg _ (by omega)
  have c1 : n % b.cells < b.cells := Int.emod_lt_of_pos _ (by omega)
  have w1 := Without20_p b hb (n % b.cells)
  have hwo := wo_ok hb (n % b.cells)
  have w2 := Without20_p (b.wo (n % b.cells)) hwo (n % b.cells)
  rw [without_eq c0 c1] at w1
  rw [without_eq (b := b.wo (n % b.cells)) c0 c1, wo_wo hb] at w2
  have vw := valid13 _ hwo
  have vr := valid14 _ hwo
  have pq := Parts18_p _ hwo
  have hp := partsQ_part _ hwo
  have nr := Near22_p _ hwo (n % b.cells)
  rw [wo_near c0 c1] at nr
  have sm := Same_p (b.wo (n % b.cells)) (b.wo (n % b.cells)) hwo.small
  rw [decide_eq_true rfl] at sm
  have hto := fun d k d0 d1 k0 k1 => wo_to (b := b) (c := n % b.cells) (d := d) (k := k) d0 d1 k0 k1
  have hc := fun y h => wo_con (b := b) (c := n % b.cells) (y := y) c0 c1 h
  have e1 : (b.wo (n % b.cells)).cells = b.cells := rfl
  have e2 : (b.wo (n % b.cells)).turn = b.turn := rfl
  have e3 : (b.wo (n % b.cells)).next.length = b.next.length := wo_len _ _
  have tw := fun d k => To15_p _ hwo 0 d k
  generalize b.wo (n % b.cells) = w at *
  obtain ⟨p, hpe⟩ : ∃ p, p = w.partsQ := ⟨_, rfl⟩
  rw [← hpe] at pq hp
  have pl := hp.len
  have pm : (p.map I).length = p.length := List.length_map _
  have ew : (w.next.map Is).length = w.next.length := List.length_map _
  have ewt : (w.turn.map I).length = w.turn.length := List.length_map _
  have pc : nth p (n % b.cells) = n % b.cells := hc _ ((hp.con _ c0 (by omega)).symm fun _ _ h => w.adj_symm h)
  have pk : ∀ k, 0 ≤ k → k < b.cells → nth p k = n % b.cells → k = n % b.cells := fun k k0 k1 h => hc k (by have := hp.con k k0 (by omega); rwa [h] at this)
  have ewt2 : w.turn.length = b.turn.length := by rw [e2]
  refine fun_of tok D_ok Try.func7 rfl Try.ntmps7 Try.results7 (by kernel_rfl) (by simp) (by simp) ?_
  conv => whnf
  repeat' ((first
    | (refine ifD (fun _ => ?_) (fun _ => ?_))
    | (refine ifE (fun _ => ?_) (fun _ => ?_))
    | (refine ifN (fun _ => ?_) (fun _ => ?_))
    | ((with_reducible refine ifNot ?_))
    | ((with_reducible refine ifAndD (fun _ _ => ?_) (fun _ => ?_)))
    | ((with_reducible refine ifAnd (fun _ _ => ?_) (fun _ => ?_)))
    | (refine ixM (by omega) (by first | omega | (simp only [List.length_set, List.length_map, List.length_append, List.length_cons, List.length_nil, List.length_replicate]; omega)) rfl ?_)
    | (refine ixA (by omega) (by first | omega | (simp only [List.length_set, List.length_map, List.length_append, List.length_cons, List.length_nil, List.length_replicate]; omega)) ?_)
    | (refine ltM (by omega) (by first | omega | (simp only [List.length_set, List.length_map, List.length_append, List.length_cons, List.length_nil, List.length_replicate]; omega)) ?_)
    | (refine calI (by omega) ?_)
    | (refine cu8 (by omega) ?_)
    | (refine cu64 (by omega) ?_)
    | (refine And.intro (by omega) ?_; refine crem (by omega) ?_)
    | (refine And.intro (by omega) ?_; refine cquo (by omega) ?_)
    | (refine ⟨_, _, sanity_p, ?_⟩)
    | (refine .inl ?_; (conv => whnf); refine ⟨_, _, sanity_p, ?_⟩)
    | (refine ⟨_, _, hw, ?_⟩)
    | (refine .inl ?_; (conv => whnf); refine ⟨_, _, hw, ?_⟩)
    | (refine ⟨_, _, w1, ?_⟩)
    | (refine .inl ?_; (conv => whnf); refine ⟨_, _, w1, ?_⟩)
    | (refine ⟨_, _, vw, ?_⟩)
    | (refine .inl ?_; (conv => whnf); refine ⟨_, _, vw, ?_⟩)
    | (refine ⟨_, _, vr, ?_⟩)
    | (refine .inl ?_; (conv => whnf); refine ⟨_, _, vr, ?_⟩)
    | (refine ⟨_, _, w2, ?_⟩)
    | (refine .inl ?_; (conv => whnf); refine ⟨_, _, w2, ?_⟩)
    | (refine ⟨_, _, pq, ?_⟩)
    | (refine .inl ?_; (conv => whnf); refine ⟨_, _, pq, ?_⟩)
    | (refine ⟨_, _, nr, ?_⟩)
    | (refine .inl ?_; (conv => whnf); refine ⟨_, _, nr, ?_⟩)
    | (refine ⟨_, _, sm, ?_⟩)
    | (refine .inl ?_; (conv => whnf); refine ⟨_, _, sm, ?_⟩)
    | ((with_reducible refine preI ?_); (first | refine preNil ?_ | refine preOp rfl rfl ?_ | refine preT rfl rfl rfl rfl ?_ | refine preF rfl rfl rfl rfl ?_ | refine preTS rfl rfl rfl rfl ?_ | refine preFS rfl rfl rfl rfl ?_ | refine preSkip rfl rfl rfl rfl ?_ | refine preGT rfl rfl rfl rfl ?_ | refine preGF rfl rfl rfl rfl ?_))
    | ((first | refine drawA (by decide +kernel) ?_ | refine drawA2 (by kernel_rfl) ?_); conv => whnf; (try dsimp only [St.after, initSt, initT, numO, cellsA, Option.map, ren, renL, renO, St.setObj, headSt, List.cons_append, List.nil_append, List.length_nil]); try (conv => enter [7, 3]; whnf))
    | (refine ap1 (by decide) (by omega) rfl rfl ?_)
    | (refine ap0 (by decide) rfl ?_)
    | (refine apL (by decide) (by omega) (fun _ => rfl) ?_)
    | (refine apM (by decide) (by omega) (fun _ => rfl) ?_)
    | (refine setI (z := _) rfl ?_)
    | (refine And.intro (by omega) (And.intro (by omega) ?_))
    | (refine ifB_intro (fun _ => ?_) (fun _ => ?_))) <;> (conv => whnf; try dsimp only [St.after, initSt, initT, numO, cellsA, Option.map, ren, renL, renO, St.setObj, headSt, List.cons_append, List.nil_append, List.length_nil]))
  all_goals try (exfalso; omega)
  all_goals try (rename_i q; first | exact absurd pc q | exact absurd rfl q)
  refine .of (fun k => [(13, I k)]) (fun k => []) 6 (fun k => 0 ≤ k ∧ k ≤ b.cells) (fun k => (b.cells - k).toNat) 0 ?_
  conv => whnf
  refine ⟨⟨[], (by kernel_rfl), (by kernel_rfl), (by kernel_rfl), ?_, ?_⟩, ?_, fun k ⟨k0, k1⟩ => ?_⟩
  rotate_left 1
  focus
    conv => whnf
    repeat' (first
      | exact trivial
      | with_reducible rfl
      | (refine srcI ?_; kernel_rfl)
      | (refine nsI ?_; kernel_rfl)
      | (refine And.intro ?_ ?_ <;> conv => whnf; try dsimp only [St.after, St.afterAt, initSt, initT, numO, cellsA, Option.map, ren, renL, renO, St.setObj, headSt, List.cons_append, List.nil_append, List.length_nil])
      | rfl)
  rotate_right 1
  focus
    conv => whnf
    repeat' (first
      | exact trivial
      | with_reducible rfl
      | (refine srcI ?_; kernel_rfl)
      | (refine nsI ?_; kernel_rfl)
      | (refine And.intro ?_ ?_ <;> conv => whnf; try dsimp only [St.after, St.afterAt, initSt, initT, numO, cellsA, Option.map, ren, renL, renO, St.setObj, headSt, List.cons_append, List.nil_append, List.length_nil])
      | rfl)
  rotate_right 1
  focus
    conv => whnf
  rotate_left 1
  · exact ⟨by omega, by omega⟩
  have pk' := pk k k0
  repeat' ((first
    | (refine ifD (fun _ => ?_) (fun _ => ?_))
    | (refine ifE (fun _ => ?_) (fun _ => ?_))
    | (refine ifN (fun _ => ?_) (fun _ => ?_))
    | ((with_reducible refine ifNot ?_))
    | ((with_reducible refine ifAndD (fun _ _ => ?_) (fun _ => ?_)))
    | ((with_reducible refine ifAnd (fun _ _ => ?_) (fun _ => ?_)))
    | (refine ixM (by omega) (by first | omega | (simp only [List.length_set, List.length_map, List.length_append, List.length_cons, List.length_nil, List.length_replicate]; omega)) rfl ?_)
    | (refine ixA (by omega) (by first | omega | (simp only [List.length_set, List.length_map, List.length_append, List.length_cons, List.length_nil, List.length_replicate]; omega)) ?_)
    | (refine ltM (by omega) (by first | omega | (simp only [List.length_set, List.length_map, List.length_append, List.length_cons, List.length_nil, List.length_replicate]; omega)) ?_)
    | (refine calI (by omega) ?_)
    | (refine cu8 (by omega) ?_)
    | (refine cu64 (by omega) ?_)
    | (refine And.intro (by omega) ?_; refine crem (by omega) ?_)
    | (refine And.intro (by omega) ?_; refine cquo (by omega) ?_)
    | ((with_reducible refine preI ?_); (first | refine preNil ?_ | refine preOp rfl rfl ?_ | refine preT rfl rfl rfl rfl ?_ | refine preF rfl rfl rfl rfl ?_ | refine preTS rfl rfl rfl rfl ?_ | refine preFS rfl rfl rfl rfl ?_ | refine preSkip rfl rfl rfl rfl ?_ | refine preGT rfl rfl rfl rfl ?_ | refine preGF rfl rfl rfl rfl ?_))
    | ((first | refine drawA (by decide +kernel) ?_ | refine drawA2 (by kernel_rfl) ?_); conv => whnf; (try dsimp only [St.after, St.afterAt, initSt, initT, numO, cellsA, Option.map, ren, renL, renO, St.setObj, headSt, List.cons_append, List.nil_append, List.length_nil]); try (conv => enter [7, 3]; whnf))
    | (refine ap1 (by decide) (by omega) rfl rfl ?_)
    | (refine ap0 (by decide) rfl ?_)
    | (refine apL (by decide) (by omega) (fun _ => rfl) ?_)
    | (refine apM (by decide) (by omega) (fun _ => rfl) ?_)
    | (refine setI (z := _) rfl ?_)
    | (refine And.intro (by omega) (And.intro (by omega) ?_))
    | (refine ifB_intro (fun _ => ?_) (fun _ => ?_))) <;> (conv => whnf; try dsimp only [St.after, St.afterAt, initSt, initT, numO, cellsA, Option.map, ren, renL, renO, St.setObj, headSt, List.cons_append, List.nil_append, List.length_nil]))
  · rename_i q1 q2; exact absurd (pk' (by omega) q2) q1
  iterate 2
    ·
      refine .of (fun d => [(14, I d)]) (fun d => []) 6 (fun d => 0 ≤ d ∧ d ≤ b.next.length) (fun d => (b.next.length - d).toNat) 0 ?_
      conv => whnf
      refine ⟨⟨[], (by kernel_rfl), (by kernel_rfl), (by kernel_rfl), ?_, ?_⟩, ?_, fun d ⟨d0, d1⟩ => ?_⟩
      rotate_left 1
      focus
        conv => whnf
        repeat' (first
          | exact trivial
          | with_reducible rfl
          | (refine srcI ?_; kernel_rfl)
          | (refine nsI ?_; kernel_rfl)
          | (refine And.intro ?_ ?_ <;> conv => whnf; try dsimp only [St.after, St.afterAt, initSt, initT, numO, cellsA, Option.map, ren, renL, renO, St.setObj, headSt, List.cons_append, List.nil_append, List.length_nil])
          | rfl)
      rotate_right 1
      focus
        conv => whnf
        repeat' (first
          | exact trivial
          | with_reducible rfl
          | (refine srcI ?_; kernel_rfl)
          | (refine nsI ?_; kernel_rfl)
          | (refine And.intro ?_ ?_ <;> conv => whnf; try dsimp only [St.after, St.afterAt, initSt, initT, numO, cellsA, Option.map, ren, renL, renO, St.setObj, headSt, List.cons_append, List.nil_append, List.length_nil])
          | rfl)
      rotate_right 1
      focus
        conv => whnf
      rotate_left 1
      · exact ⟨by omega, by omega⟩
      have hto' := fun h1 h2 => hto d k d0 h1 k0 h2
      repeat' ((first
        | (refine ifD (fun _ => ?_) (fun _ => ?_))
        | (refine ifE (fun _ => ?_) (fun _ => ?_))
        | (refine ifN (fun _ => ?_) (fun _ => ?_))
        | ((with_reducible refine ifNot ?_))
        | ((with_reducible refine ifAndD (fun _ _ => ?_) (fun _ => ?_)))
        | ((with_reducible refine ifAnd (fun _ _ => ?_) (fun _ => ?_)))
        | (refine ixM (by omega) (by first | omega | (simp only [List.length_set, List.length_map, List.length_append, List.length_cons, List.length_nil, List.length_replicate]; omega)) rfl ?_)
        | (refine ixA (by omega) (by first | omega | (simp only [List.length_set, List.length_map, List.length_append, List.length_cons, List.length_nil, List.length_replicate]; omega)) ?_)
        | (refine ltM (by omega) (by first | omega | (simp only [List.length_set, List.length_map, List.length_append, List.length_cons, List.length_nil, List.length_replicate]; omega)) ?_)
        | (refine calI (by omega) ?_)
        | (refine cu8 (by omega) ?_)
        | (refine cu64 (by omega) ?_)
        | (refine And.intro (by omega) ?_; refine crem (by omega) ?_)
        | (refine And.intro (by omega) ?_; refine cquo (by omega) ?_)
        | (refine ⟨_, _, To15_p b hb _ _ _, ?_⟩)
        | (refine .inl ?_; (conv => whnf); refine ⟨_, _, To15_p b hb _ _ _, ?_⟩)
        | (refine ⟨_, _, tw d k, ?_⟩)
        | (refine .inl ?_; (conv => whnf); refine ⟨_, _, tw d k, ?_⟩)
        | ((with_reducible refine preI ?_); (first | refine preNil ?_ | refine preOp rfl rfl ?_ | refine preT rfl rfl rfl rfl ?_ | refine preF rfl rfl rfl rfl ?_ | refine preTS rfl rfl rfl rfl ?_ | refine preFS rfl rfl rfl rfl ?_ | refine preSkip rfl rfl rfl rfl ?_ | refine preGT rfl rfl rfl rfl ?_ | refine preGF rfl rfl rfl rfl ?_))
        | ((first | refine drawA (by decide +kernel) ?_ | refine drawA2 (by kernel_rfl) ?_); conv => whnf; (try dsimp only [St.after, St.afterAt, initSt, initT, numO, cellsA, Option.map, ren, renL, renO, St.setObj, headSt, List.cons_append, List.nil_append, List.length_nil]); try (conv => enter [7, 3]; whnf))
        | (refine ap1 (by decide) (by omega) rfl rfl ?_)
        | (refine ap0 (by decide) rfl ?_)
        | (refine apL (by decide) (by omega) (fun _ => rfl) ?_)
        | (refine apM (by decide) (by omega) (fun _ => rfl) ?_)
        | (refine setI (z := _) rfl ?_)
        | (refine And.intro (by omega) (And.intro (by omega) ?_))
        | (refine ifB_intro (fun _ => ?_) (fun _ => ?_))) <;> (conv => whnf; try dsimp only [St.after, St.afterAt, initSt, initT, numO, cellsA, Option.map, ren, renL, renO, St.setObj, headSt, List.cons_append, List.nil_append, List.length_nil]))
      all_goals try (exfalso; have h9 := hto' (by omega) (by omega); split at h9 <;> omega)
      all_goals try (rename_i q; rw [e2] at q; exact absurd rfl q)
      iterate 3
        all_goals try
          refine ⟨d + 1, ⟨[], (by kernel_rfl), (by kernel_rfl), (by kernel_rfl), ?_, ?_⟩, ?_, by (try dsimp only); omega, rfl⟩
          rotate_left 1
          focus
            conv => whnf
            repeat' (first
              | exact trivial
              | with_reducible rfl
              | (refine srcI ?_; kernel_rfl)
              | (refine nsI ?_; kernel_rfl)
              | (refine And.intro ?_ ?_ <;> conv => whnf; try dsimp only [St.after, St.afterAt, initSt, initT, numO, cellsA, Option.map, ren, renL, renO, St.setObj, headSt, List.cons_append, List.nil_append, List.length_nil]))
          rotate_right 1
          focus
            conv => whnf
            repeat' (first
              | exact trivial
              | with_reducible rfl
              | (refine srcI ?_; kernel_rfl)
              | (refine nsI ?_; kernel_rfl)
              | (refine And.intro ?_ ?_ <;> conv => whnf; try dsimp only [St.after, St.afterAt, initSt, initT, numO, cellsA, Option.map, ren, renL, renO, St.setObj, headSt, List.cons_append, List.nil_append, List.length_nil]))
          exact ⟨by omega, by omega⟩
      refine ⟨k + 1, ⟨[], (by kernel_rfl), (by kernel_rfl), (by kernel_rfl), ?_, ?_⟩, ?_, by (try dsimp only); omega, rfl⟩
      rotate_left 1
      focus
        conv => whnf
        repeat' (first
          | exact trivial
          | with_reducible rfl
          | (refine srcI ?_; kernel_rfl)
          | (refine nsI ?_; kernel_rfl)
          | (refine And.intro ?_ ?_ <;> conv => whnf; try dsimp only [St.after, St.afterAt, initSt, initT, numO, cellsA, Option.map, ren, renL, renO, St.setObj, headSt, List.cons_append, List.nil_append, List.length_nil]))
      rotate_right 1
      focus
        conv => whnf
        repeat' (first
          | exact trivial
          | with_reducible rfl
          | (refine srcI ?_; kernel_rfl)
          | (refine nsI ?_; kernel_rfl)
          | (refine And.intro ?_ ?_ <;> conv => whnf; try dsimp only [St.after, St.afterAt, initSt, initT, numO, cellsA, Option.map, ren, renL, renO, St.setObj, headSt, List.cons_append, List.nil_append, List.length_nil]))
      exact ⟨by omega, by omega⟩
  repeat' ((first
    | (refine ifD (fun _ => ?_) (fun _ => ?_))
    | (refine ifE (fun _ => ?_) (fun _ => ?_))
    | (refine ifN (fun _ => ?_) (fun _ => ?_))
    | ((with_reducible refine ifNot ?_))
    | ((with_reducible refine ifAndD (fun _ _ => ?_) (fun _ => ?_)))
    | ((with_reducible refine ifAnd (fun _ _ => ?_) (fun _ => ?_)))
    | (refine ixM (by omega) (by first | omega | (simp only [List.length_set, List.length_map, List.length_append, List.length_cons, List.length_nil, List.length_replicate]; omega)) rfl ?_)
    | (refine ixA (by omega) (by first | omega | (simp only [List.length_set, List.length_map, List.length_append, List.length_cons, List.length_nil, List.length_replicate]; omega)) ?_)
    | (refine ltM (by omega) (by first | omega | (simp only [List.length_set, List.length_map, List.length_append, List.length_cons, List.length_nil, List.length_replicate]; omega)) ?_)
    | (refine calI (by omega) ?_)
    | (refine cu8 (by omega) ?_)
    | (refine cu64 (by omega) ?_)
    | (refine And.intro (by omega) ?_; refine crem (by omega) ?_)
    | (refine And.intro (by omega) ?_; refine cquo (by omega) ?_)
    | ((with_reducible refine preI ?_); (first | refine preNil ?_ | refine preOp rfl rfl ?_ | refine preT rfl rfl rfl rfl ?_ | refine preF rfl rfl rfl rfl ?_ | refine preTS rfl rfl rfl rfl ?_ | refine preFS rfl rfl rfl rfl ?_ | refine preSkip rfl rfl rfl rfl ?_ | refine preGT rfl rfl rfl rfl ?_ | refine preGF rfl rfl rfl rfl ?_))
    | ((first | refine drawA (by decide +kernel) ?_ | refine drawA2 (by kernel_rfl) ?_); conv => whnf; (try dsimp only [St.after, St.afterAt, initSt, initT, numO, cellsA, Option.map, ren, renL, renO, St.setObj, headSt, List.cons_append, List.nil_append, List.length_nil]); try (conv => enter [7, 3]; whnf))
    | (refine ap1 (by decide) (by omega) rfl rfl ?_)
    | (refine ap0 (by decide) rfl ?_)
    | (refine apL (by decide) (by omega) (fun _ => rfl) ?_)
    | (refine apM (by decide) (by omega) (fun _ => rfl) ?_)
    | (refine setI (z := _) rfl ?_)
    | (refine And.intro (by omega) (And.intro (by omega) ?_))
    | (refine ifB_intro (fun _ => ?_) (fun _ => ?_))
    | (refine exitA (by kernel_rfl) (by kernel_rfl) ⟨?_, trivial⟩ ?_ <;> (conv => whnf) <;> repeat' (first | exact trivial | with_reducible rfl | (refine srcI ?_; kernel_rfl) | (refine nsI ?_; kernel_rfl) | (refine And.intro ?_ ?_ <;> conv => whnf; try dsimp only [St.after, St.afterAt, initSt, initT, numO, cellsA, Option.map, ren, renL, renO, St.setObj, headSt, List.cons_append, List.nil_append, List.length_nil])))) <;> (conv => whnf; try dsimp only [St.after, St.afterAt, initSt, initT, numO, cellsA, Option.map, ren, renL, renO, St.setObj, headSt, List.cons_append, List.nil_append, List.length_nil]))
end Go.Proofs.Ytkecpgidolphfaa
