/- Contracts of functions of the program, proved by the checker; and plain laws. -/
import Derived.Test.YtceeabnmleemiaaZ21
set_option linter.unusedVariables false
set_option linter.unusedSimpArgs false
namespace Go.Proofs.Ytceeabnmleemiaa
open Go Go.Sk
structure ValidM (g : Gm) (m : List Int) : Prop where
  len : (m.length : Int) = g.nk
  v : ∀ a : Int, 0 ≤ a → a < g.nk → 1 ≤ nth m a ∧ nth m a ≤ 6
  d : ∀ a b : Int, 0 ≤ a → a < g.nk → 0 ≤ b → b < g.nk → g.becR a b = true → nth m b ≤ nth m a
def okR (g : Gm) (m : List Int) (a n : Int) : Prop := ∀ b : Int, 0 ≤ b → b < n → g.becR a b = true → nth m b ≤ nth m a
theorem okR_succ {g : Gm} {m : List Int} {a n : Int} (h : okR g m a n) (hn : g.becR a n = true → nth m n ≤ nth m a) : okR g m a (n + 1) := fun b b0 b1 hb => by
  by_cases he : b = n
  · subst he; exact hn hb
  · exact h b b0 (by omega) hb
theorem okR_0 (g : Gm) (m : List Int) (a : Int) : okR g m a 0 := fun b b0 b1 => by omega
set_option maxHeartbeats 8000000 in
set_option maxRecDepth 10000 in
theorem Valid_p (g : Gm) (hg : g.ok) (h2 : g.nk ≤ 2) (m : List Int) (hm : m.length ≤ 1000) (v : Bool) (hv : v = true ↔ ValidM g m) : Pure Try.prog 19 [g.av, msAv m] (Bo v) none := by
  have ek : (g.kinds.map Kn).length = g.kinds.length := List.length_map _
  have em : (m.map I).length = m.length := List.length_map _
  have hnk : (g.kinds.length : Int) = g.nk := rfl
  have k1 := hg.k1
  unfold msAv
  refine fun_of tok D_ok Try.func19 rfl Try.ntmps19 Try.results19 (by kernel_rfl) (by simp) (by simp) ?_
  conv => whnf
  by_cases hl : m.length = g.kinds.length
  case neg =>
    have : v = false := by
      rw [Bool.eq_false_iff]; intro h; have := (hv.1 h).len; omega
    subst this
    repeat' (first
      | (refine lvK (k := ?_); apply Cj.mk <;> first | exact trivial | intros)
      | (refine lvE (k := ?_); apply Cj.mk <;> first | exact trivial | intros)
      | fail)
  have mn := Min_p m (by omega) (by omega)
  have mx := Max_p m (by omega) (by omega)
  have hmn := mnL_iff (l := m) (b := 1) m.length (by omega) (by omega)
  have hmx := mxL_iff (l := m) (b := 6) m.length (by omega) (by omega)
  by_cases h1 : 1 ≤ mnL m m.length
  case neg =>
    have : v = false := by
      rw [Bool.eq_false_iff]; intro h; exact h1 (hmn.2 fun i i0 i1 => ((hv.1 h).v i i0 (by omega)).1)
    subst this
    repeat' (first
      | (refine lvK (k := ?_); apply Cj.mk <;> first | exact trivial | intros)
      | (refine ⟨_, _, mn, lvN (k := ?_)⟩; apply Cj.mk <;> first | exact trivial | intros)
      | (refine .inl ?_; (conv => whnf); refine ⟨_, _, mn, lvN (k := ?_)⟩; apply Cj.mk <;> first | exact trivial | intros)
      | (refine ⟨_, _, mx, lvN (k := ?_)⟩; apply Cj.mk <;> first | exact trivial | intros)
      | (refine .inl ?_; (conv => whnf); refine ⟨_, _, mx, lvN (k := ?_)⟩; apply Cj.mk <;> first | exact trivial | intros)
      | (refine lvE (k := ?_); apply Cj.mk <;> first | exact trivial | intros)
      | fail)
  by_cases h6 : mxL m m.length ≤ 6
  case neg =>
    have : v = false := by
      rw [Bool.eq_false_iff]; intro h; exact h6 (hmx.2 fun i i0 i1 => ((hv.1 h).v i i0 (by omega)).2)
    subst this
    repeat' (first
      | (refine lvK (k := ?_); apply Cj.mk <;> first | exact trivial | intros)
      | (refine ⟨_, _, mn, lvN (k := ?_)⟩; apply Cj.mk <;> first | exact trivial | intros)
      | (refine .inl ?_; (conv => whnf); refine ⟨_, _, mn, lvN (k := ?_)⟩; apply Cj.mk <;> first | exact trivial | intros)
      | (refine ⟨_, _, mx, lvN (k := ?_)⟩; apply Cj.mk <;> first | exact trivial | intros)
      | (refine .inl ?_; (conv => whnf); refine ⟨_, _, mx, lvN (k := ?_)⟩; apply Cj.mk <;> first | exact trivial | intros)
      | (refine lvE (k := ?_); apply Cj.mk <;> first | exact trivial | intros)
      | fail)
  have hr := hmn.1 h1
  have hr6 := hmx.1 h6
  clear hmn hmx
  repeat' (first
    | (refine lvK (k := ?_); apply Cj.mk <;> first | exact trivial | intros)
    | (refine ⟨_, _, mn, lvN (k := ?_)⟩; apply Cj.mk <;> first | exact trivial | intros)
    | (refine .inl ?_; (conv => whnf); refine ⟨_, _, mn, lvN (k := ?_)⟩; apply Cj.mk <;> first | exact trivial | intros)
    | (refine ⟨_, _, mx, lvN (k := ?_)⟩; apply Cj.mk <;> first | exact trivial | intros)
    | (refine .inl ?_; (conv => whnf); refine ⟨_, _, mx, lvN (k := ?_)⟩; apply Cj.mk <;> first | exact trivial | intros)
    | (refine lvE (k := ?_); apply Cj.mk <;> first | exact trivial | intros)
    | fail)
  refine .of (fun i => [(37, I i)]) (fun i => []) 2 (fun i => 0 ≤ i ∧ i ≤ g.nk ∧ ∀ a : Int, 0 ≤ a → a < i → okR g m a g.nk) (fun i => (g.nk - i).toNat) 0 ?_
  conv => whnf
  refine ⟨⟨[], (by kernel_rfl), (by kernel_rfl), (by kernel_rfl), lvL (k := ?_), lvL (k := ?_)⟩, ?_, fun i ⟨i0, i1, hi0⟩ => lvN (k := ?_)⟩ <;> (first | (apply Cj.mk <;> first | exact trivial | intros) | skip)
  · exact ⟨by omega, by omega, fun a a0 a1 => by omega⟩
  by_cases hi : i < g.nk
  · have hbc := Bec_p g hg h2 i i0 hi
    have hst : okR g m i g.nk → ∀ a : Int, 0 ≤ a → a < i + 1 → okR g m a g.nk := fun h a a0 a1 => by
      by_cases he : a = i
      · subst he; exact h
      · exact hi0 a a0 (by omega)
    have hno : ∀ j : Int, 0 ≤ j → j < g.nk → g.becR i j = true → nth m j > nth m i → v = false := fun j j0 j1 hb hgt => by
      rw [Bool.eq_false_iff]; intro h; have := (hv.1 h).d i j i0 hi j0 j1 hb; omega
    have hx : ∀ j : Int, g.nk ≤ j → g.becR i j = false := fun j hj => becR_far hg i0 hi hj
    clear hi0
    have hnn : g.nk = 1 ∨ g.nk = 2 := by omega
    rcases hnn with hnn | hnn
    · rw [hx 1 (by omega)] at hbc
      repeat' (first
        | (refine lvK (k := ?_); apply Cj.mk <;> first | exact trivial | intros)
        | (refine ⟨_, _, hbc, lvN (k := ?_)⟩; apply Cj.mk <;> first | exact trivial | intros)
        | (refine .inl ?_; (conv => whnf); refine ⟨_, _, hbc, lvN (k := ?_)⟩; apply Cj.mk <;> first | exact trivial | intros)
        | (refine lvE (k := ?_); apply Cj.mk <;> first | exact trivial | intros)
        | fail)
      refine .of (fun j => [(44, I j)]) (fun j => []) 3 (fun j => 0 ≤ j ∧ j ≤ 6 ∧ okR g m i j) (fun j => (6 - j).toNat) 0 ?_
      conv => whnf
      refine ⟨⟨[], (by kernel_rfl), (by kernel_rfl), (by kernel_rfl), lvL (k := ?_), lvL (k := ?_)⟩, ?_, fun j ⟨j0, j1, hj0⟩ => lvN (k := ?_)⟩ <;> (first | (apply Cj.mk <;> first | exact trivial | intros) | skip)
      · exact ⟨by omega, by omega, fun b b0 b1 => by omega⟩
      by_cases hj : j < 6
      · have hjj : j = 0 ∨ j = 1 ∨ j = 2 ∨ j = 3 ∨ j = 4 ∨ j = 5 := by omega
        rcases hjj with rfl | rfl | rfl | rfl | rfl | rfl
        all_goals
          repeat' (first
            | (refine lvK (k := ?_); apply Cj.mk <;> first | exact trivial | intros)
            | (refine lvE (k := ?_); apply Cj.mk <;> first | exact trivial | intros)
            | fail)
        all_goals (try first | rw [hno 0 (by omega) (by omega) (by assumption) (by assumption)] | rw [hno 1 (by omega) (by omega) (by assumption) (by assumption)])
        all_goals
          refine ⟨_ + 1, ⟨[], (by kernel_rfl), (by kernel_rfl), (by kernel_rfl), lvL (k := ?_), lvL (k := ?_)⟩, ?_, by (try dsimp only); omega, rfl⟩ <;> (first | (apply Cj.mk <;> first | exact trivial | intros) | skip)
          exact ⟨by omega, by omega, okR_succ hj0 fun hb => by first | omega | (rw [hx _ (by omega)] at hb; cases hb) | (exfalso; simp_all; done)⟩
      · obtain rfl : j = 6 := by omega
        repeat' (first
          | (refine lvK (k := ?_); apply Cj.mk <;> first | exact trivial | intros)
          | (refine lvE (k := ?_); apply Cj.mk <;> first | exact trivial | intros)
          | fail)
        refine ⟨i + 1, ⟨[], (by kernel_rfl), (by kernel_rfl), (by kernel_rfl), lvL (k := ?_), lvL (k := ?_)⟩, ?_, by (try dsimp only); omega, rfl⟩ <;> (first | (apply Cj.mk <;> first | exact trivial | intros) | skip)
        exact ⟨by omega, by omega, hst fun b b0 b1 => hj0 b b0 (by omega)⟩
    · repeat' (first
        | (refine lvK (k := ?_); apply Cj.mk <;> first | exact trivial | intros)
        | (refine ⟨_, _, hbc, lvN (k := ?_)⟩; apply Cj.mk <;> first | exact trivial | intros)
        | (refine .inl ?_; (conv => whnf); refine ⟨_, _, hbc, lvN (k := ?_)⟩; apply Cj.mk <;> first | exact trivial | intros)
        | (refine lvE (k := ?_); apply Cj.mk <;> first | exact trivial | intros)
        | fail)
      refine .of (fun j => [(44, I j)]) (fun j => []) 3 (fun j => 0 ≤ j ∧ j ≤ 6 ∧ okR g m i j) (fun j => (6 - j).toNat) 0 ?_
      conv => whnf
      refine ⟨⟨[], (by kernel_rfl), (by kernel_rfl), (by kernel_rfl), lvL (k := ?_), lvL (k := ?_)⟩, ?_, fun j ⟨j0, j1, hj0⟩ => lvN (k := ?_)⟩ <;> (first | (apply Cj.mk <;> first | exact trivial | intros) | skip)
      · exact ⟨by omega, by omega, fun b b0 b1 => by omega⟩
      by_cases hj : j < 6
      · have hjj : j = 0 ∨ j = 1 ∨ j = 2 ∨ j = 3 ∨ j = 4 ∨ j = 5 := by omega
        rcases hjj with rfl | rfl | rfl | rfl | rfl | rfl
        all_goals
          repeat' (first
            | (refine lvK (k := ?_); apply Cj.mk <;> first | exact trivial | intros)
            | (refine lvE (k := ?_); apply Cj.mk <;> first | exact trivial | intros)
            | fail)
        all_goals (try first | rw [hno 0 (by omega) (by omega) (by assumption) (by assumption)] | rw [hno 1 (by omega) (by omega) (by assumption) (by assumption)])
        all_goals
          refine ⟨_ + 1, ⟨[], (by kernel_rfl), (by kernel_rfl), (by kernel_rfl), lvL (k := ?_), lvL (k := ?_)⟩, ?_, by (try dsimp only); omega, rfl⟩ <;> (first | (apply Cj.mk <;> first | exact trivial | intros) | skip)
          exact ⟨by omega, by omega, okR_succ hj0 fun hb => by first | omega | (rw [hx _ (by omega)] at hb; cases hb) | (exfalso; simp_all; done)⟩
      · obtain rfl : j = 6 := by omega
        repeat' (first
          | (refine lvK (k := ?_); apply Cj.mk <;> first | exact trivial | intros)
          | (refine lvE (k := ?_); apply Cj.mk <;> first | exact trivial | intros)
          | fail)
        refine ⟨i + 1, ⟨[], (by kernel_rfl), (by kernel_rfl), (by kernel_rfl), lvL (k := ?_), lvL (k := ?_)⟩, ?_, by (try dsimp only); omega, rfl⟩ <;> (first | (apply Cj.mk <;> first | exact trivial | intros) | skip)
        exact ⟨by omega, by omega, hst fun b b0 b1 => hj0 b b0 (by omega)⟩
  · obtain rfl : i = g.nk := by omega
    have : v = true := hv.2 ⟨by omega, fun a a0 a1 => ⟨hr a a0 (by omega), hr6 a a0 (by omega)⟩, fun a b a0 a1 b0 b1 hb => hi0 a a0 a1 b b0 b1 hb⟩
    subst this
    repeat' (first
      | (refine lvK (k := ?_); apply Cj.mk <;> first | exact trivial | intros)
      | (refine lvE (k := ?_); apply Cj.mk <;> first | exact trivial | intros)
      | fail)
end Go.Proofs.Ytceeabnmleemiaa
