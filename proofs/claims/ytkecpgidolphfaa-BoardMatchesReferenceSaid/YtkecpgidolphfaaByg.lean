/- Contracts of functions of the program, proved by the checker. -/
import Derived.Test.YtkecpgidolphfaaBw
import Derived.Test.YtkecpgidolphfaaByb
import Derived.Test.YtkecpgidolphfaaBye
import Derived.Test.YtkecpgidolphfaaBp
namespace Go.Proofs.Ytkecpgidolphfaa
set_option linter.unusedVariables false
set_option linter.unusedSimpArgs false
open Go Go.Sk

theorem without_small {b : Bd} (hb : b.ok) (c : Int) : (b.without c).1.small := by
  by_cases h : 0 ≤ c ∧ c < b.cells
  · rw [without_eq h.1 h.2]; exact (wo_ok hb c).small
  · unfold Bd.without
    rw [if_pos (by omega)]
    exact ⟨by simp, by simp, fun i _ h => by simp at h; omega⟩
theorem line_len {b : Bd} (hb : b.ok) (s d c : Int) : (b.line s d c).length ≤ 65 := by
  have : ∀ (n : Nat) (out : List Int) (x : Int), (b.lineFrom s d c n out x).length ≤ out.length + n := fun n => by
    induction n with
    | zero => intro out x; exact Nat.le_refl _
    | succ n ih =>
      intro out x
      unfold Bd.lineFrom
      split
      · have := ih (out ++ [x]) (b.to s d x)
        rw [List.length_append, List.length_singleton] at this
        omega
      · omega
  have := this 65 [] (b.to s d c)
  unfold Bd.line
  simpa using this
set_option maxHeartbeats 4000000 in
set_option maxRecDepth 10000 in
theorem BoardMatchesReference_p (x : Rw) (hx : x.ok) (v1 v2 v3 v4 : Int) (hv : (-32768 ≤ v1 ∧ v1 ≤ 32767) ∧ (-32768 ≤ v2 ∧ v2 ≤ 32767) ∧ (-32768 ≤ v3 ∧ v3 ≤ 32767) ∧ -32768 ≤ v4 ∧ v4 ≤ 32767) :
    Pure Try.prog 8 [x.av, .ag [.v (.int .i16 v1), .v (.int .i16 v2), .v (.int .i16 v3), .v (.int .i16 v4)]] (Bo true) none := by
  have hb := Rw.wild_ok hx
  have hw := Wild12_p x hx
  obtain ⟨b, hbe⟩ : ∃ b, b = x.wild := ⟨_, rfl⟩
  rw [← hbe] at hb hw
  obtain ⟨n0, n1, n2, n3, n4, n5, n6, n7, n8, n9, n10, n11, n12, n13, n14, n15, n16, n17, n18, n19, n20, n21, n22, n23, n24, n25, n26, n27, n28, n29, n30, n31, hns⟩ := list32 hx.l
  have hav : x.av = .ag [U x.cells, U x.dirs, U x.turn, U n0, U n1, U n2, U n3, U n4, U n5, U n6, U n7, U n8, U n9, U n10, U n11, U n12, U n13, U n14, U n15, U n16, U n17, U n18, U n19, U n20, U n21, U n22, U n23, U n24, U n25, U n26, U n27, U n28, U n29, U n30, U n31] := by unfold Rw.av; rw [hns]; rfl
  rw [hav] at hw ⊢
  clear hav hns 
  have c6 := hb.c64
  have b1 := hb.c1
  have ft := To15_p b hb v1 v2 v3
  have rt := To23_p b hb v1 v2 v3
  have fl := Line16_p b hb v1 v2 v3
  have rl := Line25_p b hb v1 v2 v3
  have ll := line_len hb v1 v2 v3
  have fn := Near22_p b hb v3
  have rn := Near26_p b hb v3
  have nl := near_len b v3
  have fw := Without20_p b hb v4
  have rw' := Without27_p b hb v4
  have ws := without_small hb v4
  have ff := Far29_p b hb
  have rf := Far30_p b hb
  have fp := Parts18_p b hb
  have rp := Parts31_p b hb
  rw [show ((ints b.cells).map fun a => Is (b.farQ a)) = b.far.map Is by
    unfold Bd.far
    rw [List.map_map]
    exact List.map_congr_left fun a ha => by rw [farQ_eq b hb (mem_ints.1 ha).1 (mem_ints.1 ha).2]; rfl] at ff
  rw [partsQ_eq b hb] at fp
  have pl := (parts_part b hb).len
  have fln : b.far.length = b.cells.toNat := by unfold Bd.far; rw [List.length_map, ints_len]
  have flr : ∀ i : Int, 0 ≤ i → i < b.far.length → (nth b.far i).length ≤ 4611686018427387904 := fun i i0 i1 => by
    have i2 : i < b.cells := by omega
    have := (dists_dist b hb i0 i2).len
    unfold Bd.far
    rw [nth_map_ints i0 i2]
    omega
  have i1 := Ints_p (b.line v1 v2 v3) (b.line v1 v2 v3) (by omega)
  have i2 := Ints_p (b.near v3) (b.near v3) (by omega)
  have i3 := Ints_p b.parts b.parts (by omega)
  have i4 := Lists_p b.far b.far (by omega) flr
  have i5 := Same_p (b.without v4).1 (b.without v4).1 ws
  rw [decide_eq_true rfl] at i1 i2 i3 i4 i5
  generalize b.without v4 = w at *
  refine fun_of tok D_ok Try.func8 rfl Try.ntmps8 Try.results8 (by kernel_rfl) (by simp) (by simp) ?_
  conv => whnf
  repeat' ((first
    | (refine ifD (fun _ => ?_) (fun _ => ?_))
    | (refine ifE (fun _ => ?_) (fun _ => ?_))
    | (refine ifN (fun _ => ?_) (fun _ => ?_))
    | ((with_reducible refine ifNot ?_))
    | ((with_reducible refine ifAndD (fun _ _ => ?_) (fun _ => ?_)))
    | ((with_reducible refine ifAnd (fun _ _ => ?_) (fun _ => ?_)))
    | (refine ixM (by omega) (by first | omega | (simp only [List.length_set, List.length_map, List.length_append, List.length_cons, List.length_nil, List.length_replicate]; omega)) rfl ?_)
    | (refine ixA (by omega) (by first | omega | (simp only [List.length_set, List.length_map, List.length_append, List.length_cons, List.length_nil, List.length_replicate]; omega)) ?_)
    | (refine ltM (by omega) (by first | omega | (simp only [List.length_set, List.length_map, List.length_append, List.length_cons, List.length_nil, List.length_replicate]; omega)) ?_)
    | (refine calI (by omega) ?_)
    | (refine cu8 (by omega) ?_)
    | (refine cu64 (by omega) ?_)
    | (refine And.intro (by omega) ?_; refine crem (by omega) ?_)
    | (refine And.intro (by omega) ?_; refine cquo (by omega) ?_)
    | (refine ⟨_, _, sanity_p, ?_⟩)
    | (refine .inl ?_; (conv => whnf); refine ⟨_, _, sanity_p, ?_⟩)
    | (refine ⟨_, _, hw, ?_⟩)
    | (refine .inl ?_; (conv => whnf); refine ⟨_, _, hw, ?_⟩)
    | (refine ⟨_, _, ft, ?_⟩)
    | (refine .inl ?_; (conv => whnf); refine ⟨_, _, ft, ?_⟩)
    | (refine ⟨_, _, rt, ?_⟩)
    | (refine .inl ?_; (conv => whnf); refine ⟨_, _, rt, ?_⟩)
    | (refine ⟨_, _, fl, ?_⟩)
    | (refine .inl ?_; (conv => whnf); refine ⟨_, _, fl, ?_⟩)
    | (refine ⟨_, _, rl, ?_⟩)
    | (refine .inl ?_; (conv => whnf); refine ⟨_, _, rl, ?_⟩)
    | (refine .inl ?_; (conv => whnf); refine ⟨_, i1, rfl, ?_⟩)
    | (refine ⟨_, i1, rfl, ?_⟩)
    | (refine ⟨_, _, fn, ?_⟩)
    | (refine .inl ?_; (conv => whnf); refine ⟨_, _, fn, ?_⟩)
    | (refine ⟨_, _, rn, ?_⟩)
    | (refine .inl ?_; (conv => whnf); refine ⟨_, _, rn, ?_⟩)
    | (refine .inl ?_; (conv => whnf); refine ⟨_, i2, rfl, ?_⟩)
    | (refine ⟨_, i2, rfl, ?_⟩)
    | (refine ⟨_, _, fw, ?_⟩)
    | (refine .inl ?_; (conv => whnf); refine ⟨_, _, fw, ?_⟩)
    | (refine ⟨_, _, rw', ?_⟩)
    | (refine .inl ?_; (conv => whnf); refine ⟨_, _, rw', ?_⟩)
    | (refine ⟨_, _, ff, ?_⟩)
    | (refine .inl ?_; (conv => whnf); refine ⟨_, _, ff, ?_⟩)
    | (refine ⟨_, _, rf, ?_⟩)
    | (refine .inl ?_; (conv => whnf); refine ⟨_, _, rf, ?_⟩)
    | (refine .inl ?_; (conv => whnf); refine ⟨_, i4, rfl, ?_⟩)
    | (refine ⟨_, i4, rfl, ?_⟩)
    | (refine ⟨_, _, fp, ?_⟩)
    | (refine .inl ?_; (conv => whnf); refine ⟨_, _, fp, ?_⟩)
    | (refine ⟨_, _, rp, ?_⟩)
    | (refine .inl ?_; (conv => whnf); refine ⟨_, _, rp, ?_⟩)
    | (refine .inl ?_; (conv => whnf); refine ⟨_, i3, rfl, ?_⟩)
    | (refine ⟨_, i3, rfl, ?_⟩)
    | (refine ⟨_, _, i5, ?_⟩)
    | (refine .inl ?_; (conv => whnf); refine ⟨_, _, i5, ?_⟩)
    | ((with_reducible refine preI ?_); (first | refine preNil ?_ | refine preOp rfl rfl ?_ | refine preT rfl rfl rfl rfl ?_ | refine preF rfl rfl rfl rfl ?_ | refine preTS rfl rfl rfl rfl ?_ | refine preFS rfl rfl rfl rfl ?_ | refine preSkip rfl rfl rfl rfl ?_ | refine preGT rfl rfl rfl rfl ?_ | refine preGF rfl rfl rfl rfl ?_))
    | ((first | refine drawA (by decide +kernel) ?_ | refine drawA2 (by kernel_rfl) ?_); conv => whnf; (try dsimp only [St.after, St.afterAt, initSt, initT, numO, cellsA, Option.map, ren, renL, renO, St.setObj, headSt, List.cons_append, List.nil_append, List.length_nil]); try (conv => enter [7, 3]; whnf))
    | (refine ap1 (by decide) (by omega) rfl rfl ?_)
    | (refine ap0 (by decide) rfl ?_)
    | (refine apL (by decide) (by omega) (fun _ => rfl) ?_)
    | (refine apM (by decide) (by omega) (fun _ => rfl) ?_)
    | (refine setI (z := _) rfl ?_)
    | (refine And.intro (by omega) (And.intro (by omega) ?_))
    | (refine ifB_intro (fun _ => ?_) (fun _ => ?_))) <;> (conv => whnf; try dsimp only [St.after, St.afterAt, initSt, initT, numO, cellsA, Option.map, ren, renL, renO, St.setObj, headSt, List.cons_append, List.nil_append, List.length_nil]))
  · rename_i q; exact absurd rfl q
  · rw [beq_self_eq_true]
    refine exitS [] (by kernel_rfl) (by kernel_rfl) (by kernel_rfl) ?_ ?_
    rotate_left 1
    focus
      conv => whnf
      repeat' (first
        | exact trivial
        | with_reducible rfl
        | (refine srcI ?_; kernel_rfl)
        | (refine nsI ?_; kernel_rfl)
        | (refine And.intro ?_ ?_ <;> conv => whnf; try dsimp only [St.after, St.afterAt, initSt, initT, numO, cellsA, Option.map, ren, renL, renO, St.setObj, headSt, List.cons_append, List.nil_append, List.length_nil])
        | rfl)
    rotate_right 1
    focus
      conv => whnf
      repeat' (first
        | exact trivial
        | with_reducible rfl
        | (refine srcI ?_; kernel_rfl)
        | (refine nsI ?_; kernel_rfl)
        | (refine And.intro ?_ ?_ <;> conv => whnf; try dsimp only [St.after, St.afterAt, initSt, initT, numO, cellsA, Option.map, ren, renL, renO, St.setObj, headSt, List.cons_append, List.nil_append, List.length_nil])
        | rfl)
end Go.Proofs.Ytkecpgidolphfaa
