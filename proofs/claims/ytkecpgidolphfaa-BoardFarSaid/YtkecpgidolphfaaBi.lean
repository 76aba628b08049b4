/- Contracts of functions of the program, proved by the checker. -/
import Derived.Test.YtkecpgidolphfaaBb
import Derived.Test.YtkecpgidolphfaaShelf
namespace Go.Proofs.Ytkecpgidolphfaa
set_option linter.unusedVariables false
set_option linter.unusedSimpArgs false
open Go Go.Sk Go.RowKit Go.Sort

theorem enters_Clone : Go.Sk.Enters Try.prog 39 := ⟨_, Try.func39, by kernel_rfl, by kernel_rfl⟩
theorem enters_Compact : Go.Sk.Enters Try.prog 41 := ⟨_, Try.func41, by kernel_rfl, by kernel_rfl⟩
theorem enters_Len : Go.Sk.Enters Try.prog 49 := ⟨_, Try.func49, by kernel_rfl, by kernel_rfl⟩
theorem enters_Mul : Go.Sk.Enters Try.prog 47 := ⟨_, Try.func47, by kernel_rfl, by kernel_rfl⟩

theorem owns_arr {w : World} {base n : Nat} {v : Value} {l : List Int} (h : w.ownsRow base 3 1 v n (l.map (Value.int .i64))) (hn : n = l.length) :
    v.oneCell' = true ∧ (∀ N', ArrAt N' w v 1 (l.map I)) ∧ ∀ b, bl v b → base ≤ b ∧ b < w.heap.size := by
  subst hn
  obtain ⟨_, ⟨rfl, h0⟩ | ⟨g, cap, cur, rfl, h1, h2, h3, h4, h5, h6⟩⟩ := h
  · refine ⟨rfl, fun N' => .inl ⟨none, rfl, ?_⟩, fun b hb => by simp [bl, blk] at hb⟩
    rw [List.eq_nil_of_length_eq_zero h0]; rfl
  · refine ⟨rfl, fun N' => ?_, fun b hb => ?_⟩
    · by_cases hc : cap = 0
      · have : l = [] := List.eq_nil_of_length_eq_zero (by omega)
        subst this; subst hc
        exact .inl ⟨_, rfl, rfl⟩
      · refine .inr ⟨g, 0, cap, cur, 3, by simp, h2, by omega, by simpa using h3, by omega, fun e he => by obtain ⟨x, _, rfl⟩ := List.mem_map.1 he; rfl, fun i e j c q1 q2 => ?_⟩
        rw [List.getElem?_map] at q1
        cases hl : l[i]? with
        | none => simp [hl] at q1
        | some x =>
          simp [hl] at q1
          subst q1
          cases j with
          | succ j => simp [I, cellsA] at q2
          | zero =>
            simp [I, cellsA] at q2
            subst q2
            have hi := (List.getElem?_eq_some_iff.1 hl).1
            refine ⟨.int .i64 x, ?_, .v _ rfl⟩
            have := congrArg (·[i]?) h6
            simp only [Nat.mul_one, List.getElem?_take, hi, if_true, List.getElem?_map, hl, Option.map_some] at this
            simpa using this
    · simp only [bl, blk] at hb
      split at hb
      · cases hb
      · injection hb with hb
        subst hb
        exact ⟨h1, (Array.getElem?_eq_some_iff.1 h2).1⟩

theorem Clone_p (l : List Int) (hl : l.length * 8 ≤ 140737488355328) : Pure Try.prog 39 [Is l] (.ref 0) (some (.arr 1 (l.map I))) := by
  refine fun_own enters_Clone fun N w V vs hs hrep => ?_
  have hs1 : vs.size = 1 := hs
  have h0 := hrep 0 (by simp) (by omega)
  have h00 : RepT N w V (.sl (l.map I)) vs[0] := h0
  have hvs : vs = #[vs[0]] := by
    apply Array.ext (by simp [hs1])
    intro i h1 h2
    have : i = 0 := by omega
    subst this
    rfl
  rw [hvs]
  generalize vs[0] = v at h00
  generalize hL : l.map I = L at h00
  cases h00 with
  | im h => cases h with
    | nil a c =>
      have hl0 : l = [] := by cases l with | nil => rfl | cons x r => simp at hL
      subst hl0
      cases a with
      | none =>
        refine (Try.slices_Clone_int_nil 0 c w).mono ?_
        rintro e w' ⟨rfl, rfl⟩
        exact ⟨_, rfl, Below.refl _ _, rfl, fun N' => .inl ⟨none, rfl, hL.symm ▸ rfl⟩, fun b hb => by simp [bl, blk] at hb⟩
      | some a =>
        refine (Try.slices_Clone_int_zero a c w).mono ?_
        rintro e w' ⟨v', rfl, h1, _, h3⟩
        obtain ⟨q1, q2, q3⟩ := owns_arr (l := []) h1 rfl
        exact ⟨v', rfl, h3, q1, fun N' => q2 N', q3⟩
    | sl _ k b off cap f hN hb hcap hk hc hr =>
      have hlen : L.length = l.length := by rw [← hL]; simp
      have hLi : ∀ (i : Nat), i < l.length → L[i]? = some (I (l.getD i 0)) := fun i hi => by rw [← hL, List.getElem?_map, List.getElem?_eq_getElem hi]; simp [hi]
      have hk1 : L = [] ∨ k = 1 := by
        cases hq : L with
        | nil => exact .inl rfl
        | cons e r =>
          right
          have := hk e (by rw [hq]; simp)
          rw [← hL] at hq
          have he : e ∈ l.map I := by rw [hq]; simp
          obtain ⟨x, _, rfl⟩ := List.mem_map.1 he
          exact this.symm
      rw [hlen]
      refine (Try.slices_Clone_int b off l.length cap l w (Nat.le_refl _) hl fun j hj => ?_).mono ?_
      · have h1 := hLi j hj
        have hkk : k = 1 := by
          rcases hk1 with h | h
          · rw [h] at h1; simp at h1
          · exact h
        have h2 := hc j _ 0 (I (l.getD j 0)) h1 rfl
        have h3 := hr j _ 0 (I (l.getD j 0)) h1 rfl
        rw [hkk] at h2
        simp only [Nat.mul_one, Nat.add_zero] at h2
        rw [h2]
        generalize f j 0 = u at h3
        cases h3 with
        | v _ _ => rfl
      · rintro e w' ⟨v', rfl, h1, _, h3⟩
        rw [List.take_length] at h1
        obtain ⟨q1, q2, q3⟩ := owns_arr h1 rfl
        rw [hL] at q2
        exact ⟨v', rfl, h3, q1, fun N' => hL ▸ q2 N', q3⟩

theorem Len_p (x : Int) (h0 : 0 ≤ x) (h1 : x ≤ 18446744073709551615) : Pure Try.prog 49 [.v (.int .u64 x)] (I (Lib.bitLen x.toNat)) none := by
  refine fun_plain enters_Len rfl fun N w V vs hs hrep => ?_
  have hvs : vs = #[.int .u64 x] := by
    have hs1 : vs.size = 1 := hs
    apply Array.ext (by simp [hs1])
    intro i g1 g2
    have : i = 0 := by omega
    subst this
    exact eval_v (hrep 0 (by simp) g1)
  rw [hvs]
  refine (Try.bits_Len x w h0 h1).mono ?_
  rintro e w' ⟨rfl, rfl⟩
  exact ⟨rfl, Below.refl _ _⟩

theorem Compact_p (l : List Int) (hl : l.length ≤ 4611686018427387904) : Fun Try.prog 41 [.arr 1 (l.map I)] [.ref 0] (.ref 1) [.dead, .arr 1 ((Lib.compact l).map I)] := by
  refine fun_turn enters_Compact fun N w v hv => ?_
  rcases hv with ⟨a, rfl, h0⟩ | ⟨b, o, cap, arr, T, rfl, h2, h3, h4, h5, h6, h7⟩
  · have hl0 : l = [] := by cases l with | nil => rfl | cons x r => simp at h0
    subst hl0
    refine (Try.slices_Compact_int_empty a 0 w).mono ?_
    rintro e w' ⟨rfl, rfl⟩
    exact ⟨_, rfl, rfl, rfl, rfl, Nat.le_refl _, fun _ _ _ => rfl, rfl, fun N' => .inl ⟨a, rfl, rfl⟩, fun b hb => hb⟩
  · rw [List.length_map] at h4 ⊢
    have harr : ∀ j, j < l.length → arr[o + j]? = some (.int .i64 (l.getD j 0)) := fun j hj => by
      obtain ⟨u, q1, q2⟩ := h7 j (I (l.getD j 0)) 0 (I (l.getD j 0)) (by rw [List.getElem?_map, List.getElem?_eq_getElem hj]; simp [hj]) rfl
      cases q2
      simpa using q1
    refine (Try.slices_Compact_int b o cap l w (fun j hj => ?_) (by omega) h4).mono ?_
    · simp only [List.size_toArray] at hj
      rw [cell_of_row w b _ arr T (0, 0) h2, harr j hj, frozen_of_row w b _ arr T h2]
      simp [hj]
    · rintro e w' ⟨rfl, q, rfl⟩
      have hcl : (Lib.compact l).length ≤ l.length := by
        unfold Lib.compact Lib.compactUpTo
        rw [List.length_map]
        refine Nat.le_trans (List.length_filter_le _ _) (by simp)
      generalize hD : (Lib.compact l ++ List.replicate (l.length - (Lib.compact l).length) 0).toArray = D
      have hDs : D.size = l.length := by rw [← hD]; simp; omega
      have hblk : (putRow (Value.int .i64) (Go.Sort.ahead w q) b o D).heap[b]? = some (.cells (putCells (Value.int .i64) o D arr) T (0, 0)) := by
        unfold putRow mapBlock
        simp only [Go.Sort.ahead, Array.getElem?_modify, if_true, h2, Option.map_some]
        rfl
      refine ⟨_, rfl, rfl, rfl, rfl, ?_, fun b' hb' _ => ?_, rfl, fun N' => .inr ⟨b, o, cap, _, T, by simp, hblk, h3, by simp; omega, ?_, fun e he => by obtain ⟨x, _, rfl⟩ := List.mem_map.1 he; rfl, fun i e j c g1 g2 => ?_⟩, fun b' hb' => ?_⟩
      · unfold putRow mapBlock; simp [Go.Sort.ahead]
      · have hne : b ≠ b' := fun e => hb' (by subst e; simp [bl, blk]; omega)
        unfold putRow mapBlock
        simp only [Go.Sort.ahead, Array.getElem?_modify, hne, if_false]
      · unfold putCells; simpa using h5
      · rw [List.getElem?_map] at g1
        cases hx : (Lib.compact l)[i]? with
        | none => rw [hx] at g1; cases g1
        | some x =>
          rw [hx] at g1
          simp only [Option.map_some, Option.some.injEq] at g1
          subst g1
          cases j with
          | succ j => simp [I, cellsA] at g2
          | zero =>
            simp only [I, cellsA, List.getElem?_cons_zero, Option.some.injEq] at g2
            subst g2
            have hi := (List.getElem?_eq_some_iff.1 hx).1
            refine ⟨.int .i64 x, ?_, .v _ rfl⟩
            unfold putCells
            rw [Nat.mul_one, Nat.add_zero, Array.getElem?_mapIdx]
            have := harr i (by omega)
            rw [this]
            simp only [Option.map_some, Option.some.injEq]
            rw [if_pos (by omega), show o + i - o = i by omega, ← hD]
            simp only [List.getElem!_toArray, List.getElem!_eq_getElem?_getD]
            rw [List.getElem?_append_left hi, hx]; rfl
      · simpa [bl, blk] using hb'
end Go.Proofs.Ytkecpgidolphfaa
