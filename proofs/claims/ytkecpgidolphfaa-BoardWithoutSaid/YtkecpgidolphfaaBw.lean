/- Contracts of functions of the program, proved by the checker. -/
import Derived.Test.YtkecpgidolphfaaBv
import Derived.Test.YtkecpgidolphfaaBu
import Derived.Test.YtkecpgidolphfaaBm
import Derived.Test.YtkecpgidolphfaaBg
namespace Go.Proofs.Ytkecpgidolphfaa
set_option linter.unusedVariables false
set_option linter.unusedSimpArgs false
open Go Go.Sk

/-! The fixed examples. -/
structure San (G A B : Bd) : Prop where
  g : Pure Try.prog 32 [I 3, I 2] (.tup [G.av, I 0]) none
  a : Pure Try.prog 20 [G.av, I 1] (.tup [A.av, I 0]) none
  b : Pure Try.prog 20 [A.av, I 4] (.tup [B.av, I 0]) none
  x : Pure Try.prog 20 [G.av, I 6] (.tup [(⟨0, [], []⟩ : Bd).av, I 1]) none
  og : G.ok
  oa : A.ok
  ob : B.ok
  t1 : G.to 0 0 4 = 1
  t2 : G.to 1 0 4 = -1
  t3 : G.to 2 0 4 = -1
  n : G.near 4 = [0, 1, 2, 3, 5]
  p : B.partsQ = [0, 1, 2, 0, 4, 2]
  l : G.line 0 2 0 = [1, 2]
theorem grid_one (w h : Int) (hf : ¬ fits w h) : Pure Try.prog 32 [I w, I h] (.tup [(⟨0, [], []⟩ : Bd).av, I 1]) none := by
  have := Grid32_p w h
  unfold grid at this
  rwa [if_neg hf] at this
theorem San.mk' : ∃ G A B, San G A B := by
  have og : (gridB 3 2).ok := by decide +kernel
  have oa : ((gridB 3 2).without 1).1.ok := by decide +kernel
  refine ⟨gridB 3 2, ((gridB 3 2).without 1).1, (((gridB 3 2).without 1).1.without 4).1, ?_, ?_, ?_, ?_, og, oa, by decide +kernel, by decide +kernel, by decide +kernel, by decide +kernel, by decide +kernel, by decide +kernel, by decide +kernel⟩
  · have := Grid32_p 3 2
    unfold grid at this
    rwa [if_pos (by decide +kernel)] at this
  · have := Without20_p _ og 1
    rwa [show ((gridB 3 2).without 1).2 = 0 by decide +kernel] at this
  · have := Without20_p _ oa 4
    rwa [show (((gridB 3 2).without 1).1.without 4).2 = 0 by decide +kernel] at this
  · have := Without20_p _ og 6
    unfold Bd.without at this
    rwa [if_pos (by decide +kernel)] at this
theorem valid14 (b : Bd) (hb : b.ok) : Pure Try.prog 14 [b.av] (Bo true) none := by
  have h1 := hb.n8; have h2 := hb.tl; have h3 := hb.c64
  have := Valid14_p b (by omega) (fun d h0 h1 => by have := hb.ll d h0 h1; omega) (by omega)
  rwa [decide_eq_true hb] at this
theorem valid13 (b : Bd) (hb : b.ok) : Pure Try.prog 13 [b.av] (Bo true) none := by
  have h1 := hb.n8; have h2 := hb.tl; have h3 := hb.c64; have h4 := hb.c1
  have := Valid13_p b (by omega) (by omega) (fun d h0 h1 => by have := hb.ll d h0 h1; omega) (by omega)
  rwa [decide_eq_true hb] at this
theorem valid13_nil : Pure Try.prog 13 [(⟨0, [], []⟩ : Bd).av] (Bo false) none := by
  have := Valid13_p ⟨0, [], []⟩ (by decide) (by decide) (fun d h0 h1 => by simp at h1; omega) (by decide)
  rwa [decide_eq_false (fun h : (⟨0, [], []⟩ : Bd).ok => absurd h.c1 (by decide))] at this

set_option maxHeartbeats 2000000 in
set_option maxRecDepth 10000 in
theorem sanity_p : Pure Try.prog 11 [] (Bo true) none := by
  obtain ⟨G, A, B, h⟩ := San.mk'
  have hg := h.g
  have h05 := grid_one 0 5 (by decide +kernel)
  have h98 := grid_one 9 8 (by decide +kernel)
  have ha := h.a
  have hb := h.b
  have hx := h.x
  have vg := valid14 G h.og
  have va := valid14 A h.oa
  have vb := valid14 B h.ob
  have wg := valid13 G h.og
  have t1 := To15_p G h.og 0 0 4
  have t2 := To15_p G h.og 1 0 4
  have t3 := To15_p G h.og 2 0 4
  rw [h.t1] at t1
  rw [h.t2] at t2
  rw [h.t3] at t3
  have nr := Near22_p G h.og 4
  rw [h.n] at nr
  have pr := Parts18_p B h.ob
  rw [h.p] at pr
  have ln := Line16_p G h.og 0 2 0
  rw [h.l] at ln
  have i1 := Ints_p [0, 1, 2, 3, 5] [0, 1, 2, 3, 5] (by decide)
  have i2 := Ints_p [0, 1, 2, 0, 4, 2] [0, 1, 2, 0, 4, 2] (by decide)
  have i3 := Ints_p [1, 2] [1, 2] (by decide)
  refine fun_of tok D_ok Try.func11 rfl Try.ntmps11 Try.results11 (by kernel_rfl) (by simp) (by simp) ?_
  conv => whnf
  repeat' ((first
    | (refine ifD (fun _ => ?_) (fun _ => ?_))
    | (refine ifE (fun _ => ?_) (fun _ => ?_))
    | (refine ifN (fun _ => ?_) (fun _ => ?_))
    | ((with_reducible refine ifNot ?_))
    | ((with_reducible refine ifAndD (fun _ _ => ?_) (fun _ => ?_)))
    | ((with_reducible refine ifAnd (fun _ _ => ?_) (fun _ => ?_)))
    | (refine ixM (by omega) (by first | omega | (simp only [List.length_set, List.length_map, List.length_append, List.length_cons, List.length_nil, List.length_replicate]; omega)) rfl ?_)
    | (refine ixA (by omega) (by first | omega | (simp only [List.length_set, List.length_map, List.length_append, List.length_cons, List.length_nil, List.length_replicate]; omega)) ?_)
    | (refine ltM (by omega) (by first | omega | (simp only [List.length_set, List.length_map, List.length_append, List.length_cons, List.length_nil, List.length_replicate]; omega)) ?_)
    | (refine calI (by omega) ?_)
    | (refine cu8 (by omega) ?_)
    | (refine cu64 (by omega) ?_)
    | (refine And.intro (by omega) ?_; refine crem (by omega) ?_)
    | (refine And.intro (by omega) ?_; refine cquo (by omega) ?_)
    | (refine ⟨_, _, hg, ?_⟩)
    | (refine .inl ?_; (conv => whnf); refine ⟨_, _, hg, ?_⟩)
    | (refine ⟨_, _, h05, ?_⟩)
    | (refine .inl ?_; (conv => whnf); refine ⟨_, _, h05, ?_⟩)
    | (refine ⟨_, _, h98, ?_⟩)
    | (refine .inl ?_; (conv => whnf); refine ⟨_, _, h98, ?_⟩)
    | (refine ⟨_, _, ha, ?_⟩)
    | (refine .inl ?_; (conv => whnf); refine ⟨_, _, ha, ?_⟩)
    | (refine ⟨_, _, hb, ?_⟩)
    | (refine .inl ?_; (conv => whnf); refine ⟨_, _, hb, ?_⟩)
    | (refine ⟨_, _, hx, ?_⟩)
    | (refine .inl ?_; (conv => whnf); refine ⟨_, _, hx, ?_⟩)
    | (refine ⟨_, _, vg, ?_⟩)
    | (refine .inl ?_; (conv => whnf); refine ⟨_, _, vg, ?_⟩)
    | (refine ⟨_, _, va, ?_⟩)
    | (refine .inl ?_; (conv => whnf); refine ⟨_, _, va, ?_⟩)
    | (refine ⟨_, _, vb, ?_⟩)
    | (refine .inl ?_; (conv => whnf); refine ⟨_, _, vb, ?_⟩)
    | (refine ⟨_, _, wg, ?_⟩)
    | (refine .inl ?_; (conv => whnf); refine ⟨_, _, wg, ?_⟩)
    | (refine ⟨_, _, valid13_nil, ?_⟩)
    | (refine .inl ?_; (conv => whnf); refine ⟨_, _, valid13_nil, ?_⟩)
    | (refine ⟨_, _, t1, ?_⟩)
    | (refine .inl ?_; (conv => whnf); refine ⟨_, _, t1, ?_⟩)
    | (refine ⟨_, _, t2, ?_⟩)
    | (refine .inl ?_; (conv => whnf); refine ⟨_, _, t2, ?_⟩)
    | (refine ⟨_, _, t3, ?_⟩)
    | (refine .inl ?_; (conv => whnf); refine ⟨_, _, t3, ?_⟩)
    | (refine ⟨_, _, nr, ?_⟩)
    | (refine .inl ?_; (conv => whnf); refine ⟨_, _, nr, ?_⟩)
    | (refine ⟨_, _, pr, ?_⟩)
    | (refine .inl ?_; (conv => whnf); refine ⟨_, _, pr, ?_⟩)
    | (refine ⟨_, _, ln, ?_⟩)
    | (refine .inl ?_; (conv => whnf); refine ⟨_, _, ln, ?_⟩)
    | (refine .inl ?_; (conv => whnf); refine ⟨_, i1, rfl, ?_⟩)
    | (refine .inl ?_; (conv => whnf); refine ⟨_, i2, rfl, ?_⟩)
    | (refine .inl ?_; (conv => whnf); refine ⟨_, i3, rfl, ?_⟩)
    | ((with_reducible refine preI ?_); (first | refine preNil ?_ | refine preOp rfl rfl ?_ | refine preT rfl rfl rfl rfl ?_ | refine preF rfl rfl rfl rfl ?_ | refine preTS rfl rfl rfl rfl ?_ | refine preFS rfl rfl rfl rfl ?_ | refine preSkip rfl rfl rfl rfl ?_ | refine preGT rfl rfl rfl rfl ?_ | refine preGF rfl rfl rfl rfl ?_))
    | ((first | refine drawA (by decide +kernel) ?_ | refine drawA2 (by kernel_rfl) ?_); conv => whnf; (try dsimp only [St.after, St.afterAt, initSt, initT, numO, cellsA, Option.map, ren, renL, renO, St.setObj, headSt, List.cons_append, List.nil_append, List.length_nil]); try (conv => enter [7, 3]; whnf))
    | (refine ap1 (by decide) (by omega) rfl rfl ?_)
    | (refine ap0 (by decide) rfl ?_)
    | (refine apL (by decide) (by omega) (fun _ => rfl) ?_)
    | (refine apM (by decide) (by omega) (fun _ => rfl) ?_)
    | (refine setI (z := _) rfl ?_)
    | (refine And.intro (by omega) (And.intro (by omega) ?_))
    | (refine ifB_intro (fun _ => ?_) (fun _ => ?_))) <;> (conv => whnf; try dsimp only [St.after, St.afterAt, initSt, initT, numO, cellsA, Option.map, ren, renL, renO, St.setObj, headSt, List.cons_append, List.nil_append, List.length_nil]))
  refine exitS [] (by kernel_rfl) (by kernel_rfl) (by kernel_rfl) ?_ ?_
  rotate_left 1
  focus
    conv => whnf
    repeat' (first
      | exact trivial
      | with_reducible rfl
      | (refine srcI ?_; kernel_rfl)
      | (refine nsI ?_; kernel_rfl)
      | (refine And.intro ?_ ?_ <;> conv => whnf; try dsimp only [St.after, St.afterAt, initSt, initT, numO, cellsA, Option.map, ren, renL, renO, St.setObj, headSt, List.cons_append, List.nil_append, List.length_nil])
      | rfl)
  rotate_right 1
  focus
    conv => whnf
    repeat' (first
      | exact trivial
      | with_reducible rfl
      | (refine srcI ?_; kernel_rfl)
      | (refine nsI ?_; kernel_rfl)
      | (refine And.intro ?_ ?_ <;> conv => whnf; try dsimp only [St.after, St.afterAt, initSt, initT, numO, cellsA, Option.map, ren, renL, renO, St.setObj, headSt, List.cons_append, List.nil_append, List.length_nil])
      | rfl)
end Go.Proofs.Ytkecpgidolphfaa
