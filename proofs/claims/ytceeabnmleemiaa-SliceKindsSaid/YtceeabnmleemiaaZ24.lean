/- Contracts of functions of the program, proved by the checker; and plain laws. -/
import Derived.Test.YtceeabnmleemiaaZ21
set_option linter.unusedVariables false
set_option linter.unusedSimpArgs false
namespace Go.Proofs.Ytceeabnmleemiaa
open Go Go.Sk
set_option maxHeartbeats 8000000 in
set_option maxRecDepth 10000 in
theorem Of_1 (g : Gm) (hg : g.ok) (hn : g.nk = 1) : Pure Try.prog 18 [g.av] (msAv g.ofR) none := by
  have ek : (g.kinds.map Kn).length = g.kinds.length := List.length_map _
  have hnk : (g.kinds.length : Int) = g.nk := rfl
  have hbc := Bec_p g hg (by omega)
  have h01 : g.becR 0 1 = b01 g := rfl
  have hb0 : b01 g = false := becR_far hg (by omega) (by omega) (by omega)
  unfold msAv
  refine fun_of tok D_ok Try.func18 rfl Try.ntmps18 Try.results18 (by kernel_rfl) (by simp) (by simp) ?_
  conv => whnf
  repeat' (first
    | (refine lvK (k := ?_); apply Cj.mk <;> first | exact trivial | intros)
    | (refine lvE (k := ?_); apply Cj.mk <;> first | exact trivial | intros)
    | fail)
  refine .of (fun i => [(18, I i)]) (fun i => [(2, .box [Bo (decide (0 < i)), Bo (decide (0 < i) && b01 g), Bo false, Bo false, Bo false, Bo false, Bo false, Bo false, Bo false, Bo false, Bo false, Bo false, Bo false, Bo false, Bo false, Bo false, Bo false, Bo false, Bo false, Bo false, Bo false, Bo false, Bo false, Bo false, Bo false, Bo false, Bo false, Bo false, Bo false, Bo false, Bo false, Bo false, Bo false, Bo false, Bo false, Bo false])]) 3 (fun i => 0 ≤ i ∧ i ≤ 1) (fun i => (1 - i).toNat) 0 ?_
  conv => whnf
  refine ⟨⟨[], (by kernel_rfl), (by kernel_rfl), (by kernel_rfl), lvL (k := ?_), lvL (k := ?_)⟩, ?_, fun i ⟨i0, i1⟩ => lvN (k := ?_)⟩ <;> (first | (apply Cj.mk <;> first | exact trivial | intros) | skip)
  · exact ⟨by omega, by omega⟩
  by_cases hi : i < 1
  · have hbi := hbc i i0 (by omega)
    have hii : i = 0 ∨ i = 1 := by omega
    rcases hii with rfl | rfl
    all_goals (try (exfalso; omega))
    all_goals
      repeat' (first
        | (refine lvK (k := ?_); apply Cj.mk <;> first | exact trivial | intros)
        | (refine ⟨_, _, hbi, lvN (k := ?_)⟩; apply Cj.mk <;> first | exact trivial | intros)
        | (refine .inl ?_; (conv => whnf); refine ⟨_, _, hbi, lvN (k := ?_)⟩; apply Cj.mk <;> first | exact trivial | intros)
        | (refine lvE (k := ?_); apply Cj.mk <;> first | exact trivial | intros)
        | fail)
      refine ⟨_ + 1, ⟨[], (by kernel_rfl), (by kernel_rfl), (by kernel_rfl), lvL (k := ?_), lvL (k := ?_)⟩, ?_, by (try dsimp only); omega, rfl⟩ <;> (first | (apply Cj.mk <;> first | exact trivial | intros) | skip)
      all_goals first | exact ⟨by omega, by omega⟩ | rfl | (simp [h01]; done) | (simp [h10]; done)
  · obtain rfl : i = 1 := by omega
    repeat' (first
      | (refine lvK (k := ?_); apply Cj.mk <;> first | exact trivial | intros)
      | (refine lvE (k := ?_); apply Cj.mk <;> first | exact trivial | intros)
      | fail)
    refine .of (fun r => [(35, I r)]) (fun r => [(2, .box (lmx1))]) 3 (fun r => 0 ≤ r ∧ r ≤ 1) (fun r => (1 - r).toNat) 0 ?_
    conv => whnf
    refine ⟨⟨[], (by kernel_rfl), (by kernel_rfl), (by kernel_rfl), lvL (k := ?_), lvL (k := ?_)⟩, ?_, fun r ⟨r0, r1⟩ => lvN (k := ?_)⟩ <;> (first | (apply Cj.mk <;> first | exact trivial | intros) | skip)
    all_goals (try first | exact ⟨by omega, by omega⟩ | (show (_ : Value) = _; first | rfl | simp [hb0]) | (show (_ : AV) = _; first | rfl | simp [hb0]))
    by_cases hr : r < 1
    · repeat' (first
        | (refine lvK (k := ?_); apply Cj.mk <;> first | exact trivial | intros)
        | (refine lvE (k := ?_); apply Cj.mk <;> first | exact trivial | intros)
        | fail)
      refine .of (fun i => [(40, I i)]) (fun i => [(2, .box (lmx1))]) 3 (fun i => 0 ≤ i ∧ i ≤ 1) (fun i => (1 - i).toNat) 0 ?_
      conv => whnf
      refine ⟨⟨[], (by kernel_rfl), (by kernel_rfl), (by kernel_rfl), lvL (k := ?_), lvL (k := ?_)⟩, ?_, fun i ⟨i0, i1⟩ => lvN (k := ?_)⟩ <;> (first | (apply Cj.mk <;> first | exact trivial | intros) | skip)
      · exact ⟨by omega, by omega⟩
      by_cases hi : i < 1
      · have hii : i = 0 := by omega
        rcases hii with rfl
        · repeat' (first
            | (refine lvK (k := ?_); apply Cj.mk <;> first | exact trivial | intros)
            | (refine lvE (k := ?_); apply Cj.mk <;> first | exact trivial | intros)
            | fail)
          refine .of (fun k => [(46, I k)]) (fun k => [(2, .box (lmx1))]) 3 (fun k => 0 ≤ k ∧ k ≤ 6) (fun k => (6 - k).toNat) 0 ?_
          conv => whnf
          refine ⟨⟨[], (by kernel_rfl), (by kernel_rfl), (by kernel_rfl), lvL (k := ?_), lvL (k := ?_)⟩, ?_, fun k ⟨k0, k1⟩ => lvN (k := ?_)⟩ <;> (first | (apply Cj.mk <;> first | exact trivial | intros) | skip)
          · exact ⟨by omega, by omega⟩
          by_cases hk : k < 6
          · obtain ⟨v1, h1⟩ : ∃ v, nth [true, false, false, false, false, false] k = v := ⟨_, rfl⟩
            cases v1
            all_goals
              repeat' (first
                | (refine lvK (k := ?_); apply Cj.mk <;> first | exact trivial | intros)
                | (refine ldA ((part6 k0 hk).trans (congrArg (fun b => some (Bo b)) h1)) (lvN (k := ?_)); apply Cj.mk <;> first | exact trivial | intros)
                | (refine natI (n := 0 + k.toNat * ti87.size) (lvN (k := ?_)); apply Cj.mk <;> first | exact trivial | intros)
                | (refine ldA (partR1 k0 hk) (lvN (k := ?_)); apply Cj.mk <;> first | exact trivial | intros)
                | (refine lvE (k := ?_); apply Cj.mk <;> first | exact trivial | intros)
                | fail)
              refine .of (fun j => [(53, I j)]) (fun j => [(2, .box (lmx1))]) 3 (fun j => 0 ≤ j ∧ j ≤ 6) (fun j => (6 - j).toNat) 0 ?_
              conv => whnf
              refine ⟨⟨[], (by kernel_rfl), (by kernel_rfl), (by kernel_rfl), lvL (k := ?_), lvL (k := ?_)⟩, ?_, fun j ⟨j0, j1⟩ => lvN (k := ?_)⟩ <;> (first | (apply Cj.mk <;> first | exact trivial | intros) | skip)
              · exact ⟨by omega, by omega⟩
            · by_cases hj : j < 6
              · obtain ⟨v2, h2⟩ : ∃ v, nth [Lm1 k 0, Lm1 k 1, Lm1 k 2, Lm1 k 3, Lm1 k 4, Lm1 k 5] j = v := ⟨_, rfl⟩
                repeat' (first
                  | (refine lvK (k := ?_); apply Cj.mk <;> first | exact trivial | intros)
                  | (refine ldA ((part6 j0 hj).trans (congrArg (fun b => some (Bo b)) h2)) (lvN (k := ?_)); apply Cj.mk <;> first | exact trivial | intros)
                  | (refine lvE (k := ?_); apply Cj.mk <;> first | exact trivial | intros)
                  | fail)
                refine ⟨j + 1, ⟨[], (by kernel_rfl), (by kernel_rfl), (by kernel_rfl), lvL (k := ?_), lvL (k := ?_)⟩, ?_, by (try dsimp only); omega, rfl⟩ <;> (first | (apply Cj.mk <;> first | exact trivial | intros) | skip)
                all_goals first | exact ⟨by omega, by omega⟩ | rfl
              · obtain rfl : j = 6 := by omega
                repeat' (first
                  | (refine lvK (k := ?_); apply Cj.mk <;> first | exact trivial | intros)
                  | (refine lvE (k := ?_); apply Cj.mk <;> first | exact trivial | intros)
                  | fail)
                refine ⟨k + 1, ⟨[], (by kernel_rfl), (by kernel_rfl), (by kernel_rfl), lvL (k := ?_), lvL (k := ?_)⟩, ?_, by (try dsimp only); omega, rfl⟩ <;> (first | (apply Cj.mk <;> first | exact trivial | intros) | skip)
                exact ⟨by omega, by omega⟩
            · by_cases hj : j < 6
              · obtain ⟨v2, h2⟩ : ∃ v, nth [Lm1 k 0, Lm1 k 1, Lm1 k 2, Lm1 k 3, Lm1 k 4, Lm1 k 5] j = v := ⟨_, rfl⟩
                cases v2
                · repeat' (first
                    | (refine lvK (k := ?_); apply Cj.mk <;> first | exact trivial | intros)
                    | (refine ldA ((part6 j0 hj).trans (congrArg (fun b => some (Bo b)) h2)) (lvN (k := ?_)); apply Cj.mk <;> first | exact trivial | intros)
                    | (refine lvE (k := ?_); apply Cj.mk <;> first | exact trivial | intros)
                    | fail)
                  refine ⟨j + 1, ⟨[], (by kernel_rfl), (by kernel_rfl), (by kernel_rfl), lvL (k := ?_), lvL (k := ?_)⟩, ?_, by (try dsimp only); omega, rfl⟩ <;> (first | (apply Cj.mk <;> first | exact trivial | intros) | skip)
                  all_goals first | exact ⟨by omega, by omega⟩ | rfl
                · have hkk := nth6 k0 hk h1
                  have hjj := Lm1_j k0 hk j0 hj h2
                  rcases hkk with rfl | rfl <;> rcases hjj with rfl | rfl
                  all_goals
                    have h1' := h1
                    have h2' := h2
                    simp [nth, Lm1] at h1' h2'
                  all_goals
                    repeat' (first
                      | (refine lvK (k := ?_); apply Cj.mk <;> first | exact trivial | intros)
                      | (refine ldA ((part6 j0 hj).trans (congrArg (fun b => some (Bo b)) h2)) (lvN (k := ?_)); apply Cj.mk <;> first | exact trivial | intros)
                      | (refine lvE (k := ?_); apply Cj.mk <;> first | exact trivial | intros)
                      | fail)
                    all_goals
                      refine ⟨_ + 1, ⟨[], (by kernel_rfl), (by kernel_rfl), (by kernel_rfl), lvL (k := ?_), lvL (k := ?_)⟩, ?_, by (try dsimp only); omega, rfl⟩ <;> (first | (apply Cj.mk <;> first | exact trivial | intros) | skip)
                      all_goals first | exact ⟨by omega, by omega⟩ | rfl | (rw [h1']; done) | (rw [h2']; done)
              · obtain rfl : j = 6 := by omega
                repeat' (first
                  | (refine lvK (k := ?_); apply Cj.mk <;> first | exact trivial | intros)
                  | (refine lvE (k := ?_); apply Cj.mk <;> first | exact trivial | intros)
                  | fail)
                refine ⟨k + 1, ⟨[], (by kernel_rfl), (by kernel_rfl), (by kernel_rfl), lvL (k := ?_), lvL (k := ?_)⟩, ?_, by (try dsimp only); omega, rfl⟩ <;> (first | (apply Cj.mk <;> first | exact trivial | intros) | skip)
                exact ⟨by omega, by omega⟩
          · obtain rfl : k = 6 := by omega
            repeat' (first
              | (refine lvK (k := ?_); apply Cj.mk <;> first | exact trivial | intros)
              | (refine lvE (k := ?_); apply Cj.mk <;> first | exact trivial | intros)
              | fail)
            refine ⟨_ + 1, ⟨[], (by kernel_rfl), (by kernel_rfl), (by kernel_rfl), lvL (k := ?_), lvL (k := ?_)⟩, ?_, by (try dsimp only); omega, rfl⟩ <;> (first | (apply Cj.mk <;> first | exact trivial | intros) | skip)
            exact ⟨by omega, by omega⟩
      · obtain rfl : i = 1 := by omega
        repeat' (first
          | (refine lvK (k := ?_); apply Cj.mk <;> first | exact trivial | intros)
          | (refine lvE (k := ?_); apply Cj.mk <;> first | exact trivial | intros)
          | fail)
        refine ⟨r + 1, ⟨[], (by kernel_rfl), (by kernel_rfl), (by kernel_rfl), lvL (k := ?_), lvL (k := ?_)⟩, ?_, by (try dsimp only); omega, rfl⟩ <;> (first | (apply Cj.mk <;> first | exact trivial | intros) | skip)
        exact ⟨by omega, by omega⟩
    · obtain rfl : r = 1 := by omega
      repeat' (first
        | (refine lvK (k := ?_); apply Cj.mk <;> first | exact trivial | intros)
        | (refine lvE (k := ?_); apply Cj.mk <;> first | exact trivial | intros)
        | fail)
      refine .of (fun i => [(77, I i)]) (fun i => [(3, .arr 1 ((ct1 g i).map I))]) 5 (fun i => 0 ≤ i ∧ i ≤ 1) (fun i => (1 - i).toNat) 0 ?_
      conv => whnf
      refine ⟨⟨[], (by kernel_rfl), (by kernel_rfl), (by kernel_rfl), lvL (k := ?_), lvL (k := ?_)⟩, ?_, fun i ⟨i0, i1⟩ => lvN (k := ?_)⟩ <;> (first | (apply Cj.mk <;> first | exact trivial | intros) | skip)
      · have hl1 : (↑(List.map Kn g.kinds).length : Int).toNat = 1 := by omega
        rw [hl1]; rfl
      · exact ⟨by omega, by omega⟩
      have hc0 : cnT (List.take (Int.toNat 6) (rw0 g)) = 1 + Bn (b01 g) := by unfold cnT rw0 Bn; cases b01 g <;> rfl
      have hc1 : cnT (List.take (Int.toNat 6) (rw1 g)) = 1 + Bn (b10 g) := by unfold cnT rw1 Bn; cases b10 g <;> rfl
      by_cases hi : i < 1
      · have hii : i = 0 := by omega
        rcases hii with rfl
        · repeat' (first
            | (refine lvK (k := ?_); apply Cj.mk <;> first | exact trivial | intros)
            | (refine lvE (k := ?_); apply Cj.mk <;> first | exact trivial | intros)
            | fail)
          refine .of (fun x => [(83, I x.1)]) (fun x => [(3, .arr 1 ([x.2].map I))]) 5 (fun x => 0 ≤ x.1 ∧ x.1 ≤ 6 ∧ x.2 = cnT ((rw0 g).take x.1.toNat) ∧ 0 ≤ x.2 ∧ x.2 ≤ x.1) (fun x => (6 - x.1).toNat) ((0, 0) : Int × Int) ?_
          conv => whnf
          refine ⟨⟨[], (by kernel_rfl), (by kernel_rfl), (by kernel_rfl), lvL (k := ?_), lvL (k := ?_)⟩, ?_, fun x ⟨q0, q1, hx, c0, c1⟩ => lvN (k := ?_)⟩ <;> (first | (apply Cj.mk <;> first | exact trivial | intros) | skip)
          all_goals (try first | exact ⟨by decide, by decide, rfl, by decide, by decide⟩ | (show List.map I _ = List.map I _; rfl))
          obtain ⟨q, c⟩ := x
          dsimp only at q0 q1 hx c0 c1 ⊢
          by_cases hq : q < 6
          · obtain ⟨v, h3⟩ : ∃ v, nth [true, false, false, false, false, false] q = v := ⟨_, rfl⟩
            have hs := cnT_succ (l := rw0 g) q0 (by simpa [rw0] using hq)
            have h3' : nth (rw0 g) q = v := by unfold rw0; rw [hb0]; exact h3
            rw [h3', ← hx] at hs
            have hA : nth [c] 0 = c := rfl
            have hB : ([c] : List Int).length = 1 := rfl
            cases v
            · repeat' (first
                | (refine lvK (k := ?_); apply Cj.mk <;> first | exact trivial | intros)
                | (refine ldA ((part6 q0 hq).trans (congrArg (fun b => some (Bo b)) h3)) (lvN (k := ?_)); apply Cj.mk <;> first | exact trivial | intros)
                | (refine lvE (k := ?_); apply Cj.mk <;> first | exact trivial | intros)
                | fail)
              refine ⟨(q + 1, c), ⟨[], (by kernel_rfl), (by kernel_rfl), (by kernel_rfl), lvL (k := ?_), lvL (k := ?_)⟩, ?_, by (try dsimp only); omega, rfl⟩ <;> (first | (apply Cj.mk <;> first | exact trivial | intros) | skip)
              · exact ⟨by dsimp only; omega, by dsimp only; omega, by dsimp only; rw [hs]; simp, by dsimp only; omega, by dsimp only; omega⟩
            · repeat' (first
                | (refine lvK (k := ?_); apply Cj.mk <;> first | exact trivial | intros)
                | (refine ldA ((part6 q0 hq).trans (congrArg (fun b => some (Bo b)) h3)) (lvN (k := ?_)); apply Cj.mk <;> first | exact trivial | intros)
                | (refine lvE (k := ?_); apply Cj.mk <;> first | exact trivial | intros)
                | fail)
              refine ⟨(q + 1, c + 1), ⟨[], (by kernel_rfl), (by kernel_rfl), (by kernel_rfl), lvL (k := ?_), lvL (k := ?_)⟩, ?_, by (try dsimp only); omega, rfl⟩ <;> (first | (apply Cj.mk <;> first | exact trivial | intros) | skip)
              · exact ⟨by dsimp only; omega, by dsimp only; omega, by dsimp only; rw [hs]; simp, by dsimp only; omega, by dsimp only; omega⟩
          · obtain rfl : q = 6 := by omega
            rw [hc0] at hx
            subst hx
            repeat' (first
              | (refine lvK (k := ?_); apply Cj.mk <;> first | exact trivial | intros)
              | (refine lvE (k := ?_); apply Cj.mk <;> first | exact trivial | intros)
              | fail)
            refine ⟨_ + 1, ⟨[], (by kernel_rfl), (by kernel_rfl), (by kernel_rfl), lvL (k := ?_), lvL (k := ?_)⟩, ?_, by (try dsimp only); omega, rfl⟩ <;> (first | (apply Cj.mk <;> first | exact trivial | intros) | skip)
            all_goals first | exact ⟨by omega, by omega⟩ | rfl | (rw [hb0]; rfl)
      · obtain rfl : i = 1 := by omega
        have hres : ct1 g 1 = g.ofR := by unfold Gm.ofR; rw [hn]; rfl
        rw [hres]
        repeat' (first
          | (refine lvK (k := ?_); apply Cj.mk <;> first | exact trivial | intros)
          | (refine lvE (k := ?_); apply Cj.mk <;> first | exact trivial | intros)
          | fail)
end Go.Proofs.Ytceeabnmleemiaa
