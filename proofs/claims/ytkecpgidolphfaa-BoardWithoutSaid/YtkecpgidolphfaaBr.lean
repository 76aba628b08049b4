/- Contracts of functions of the program, proved by the checker. -/
import Derived.Test.YtkecpgidolphfaaBi
import Derived.Laws.CopyOwn
import Derived.Deep.RegionLaw
import Derived.WalkKit
import Derived.Deep.LoopGhost
import Derived.OwnWalk
import Derived.Lib.Walk
import Derived.Lib.SliceRun
import Derived.Lib.Hide
import Derived.IntWalk
namespace Go.Proofs.Ytkecpgidolphfaa
set_option linter.unusedVariables false
set_option linter.unusedSimpArgs false
open Go Go.RowKit Go.Lib

theorem int_parts : (Try.prog.info? 3).map (fun i => (i.zero, i.size, i.bytes)) = some (some (.int .i64 0), 1, 8) := by kernel_rfl
theorem row_at {w : World} {base g : Nat} {n : Nat} {xs : List Value} (h : w.ownsRow base 3 1 (.slice (some ⟨g, 0, none⟩) n n) n xs) (hn : xs.length = n) : w.heap[g]? = some (.cells xs.toArray 3 (0, 0)) := by
  obtain ⟨_, ⟨h0, _⟩ | ⟨g', cap, cur, e, h1, h2, h3, h4, h5, h6⟩⟩ := h
  · cases h0
  · injection e with e1 _ e3
    injection e1 with e1
    injection e1 with e1
    subst e1; subst e3
    rw [h2, ← h6, List.take_of_length_le (by simp; omega)]
theorem madeInts (n : Nat) : (madeCells (Value.int .i64 0).cells (n * 1)).toList = List.replicate n (Value.int .i64 0) := by
  apply List.ext_getElem?
  intro i
  by_cases h : i < n <;> simp [madeCells, Value.cells, List.getElem?_replicate, Nat.mod_one, h]
theorem made_facts {w w1 : World} {n b off : Nat} {z : Int} (hown : w1.ownsRow w.heap.size 3 1 (.slice (some ⟨w.heap.size, 0, none⟩) n n) n (madeCells (Value.int .i64 0).cells (n * 1)).toList) (hgrow : w.grownBy w1 none) (hc : w.cell? ⟨b, off, none⟩ = some (.int .i64 z)) :
    Hid (w1.heap[w.heap.size]? = some (.cells (List.replicate n (Value.int .i64 0)).toArray 3 (0, 0))) ∧ Hid (w1.cell? ⟨b, off, none⟩ = some (.int .i64 z)) ∧ Below w.heap.size w w1 := by
  refine ⟨?_, hgrow.cell hc (by simp), (Below.refl _ _).grown hgrow (Nat.le_refl _) (by simp)⟩
  have := row_at hown (by rw [madeInts]; simp)
  rw [madeInts] at this; exact this

theorem one_min {n : Nat} {x : Value} (h : 1 ≤ n) : [x].length = Nat.min 1 n := (Nat.min_eq_left h).symm
theorem one_cell {z : Int} : ∀ v, v ∈ [Value.int .i64 z] → v.oneCell' = true := by intro v hv; simp at hv; subst hv; rfl
theorem one_pos {w : World} {g : Nat} {a : Addr} {x : Value} (h : w.cell? a = some x) : 0 < [x].length → some (⟨g, 0, none⟩ : Addr) = some ⟨g, 0, none⟩ ∧ ∃ ad, some a = some ad ∧ ∀ (j : Nat) (v : Value), [x][j]? = some v → w.cell? (ad.add j) = some v := by
  refine fun _ => ⟨rfl, a, rfl, fun j v hj => ?_⟩
  cases j with
  | zero => simp at hj; subst hj; exact h
  | succ j => simp at hj
/-- The row whose first k cells hold z. -/
def HasRow (w : World) (g : Nat) (z : Int) (n k : Nat) : Prop := w.heap[g]? = some (.cells (List.replicate k (Value.int .i64 z) ++ List.replicate (n - k) (Value.int .i64 0)).toArray 3 (0, 0))
theorem first_row {w : World} {g n : Nat} {z : Int} (h1 : 1 ≤ n) (h : w.heap[g]? = some (.cells (splice (List.replicate n (Value.int .i64 0)) 0 [Value.int .i64 z]).toArray 3 (0, 0))) : HasRow w g z n 1 := by
  unfold HasRow
  rw [h]
  simp [splice]
theorem rep_cell {z : Int} {m : Nat} : ∀ v, v ∈ List.replicate m (Value.int .i64 z) → v.oneCell' = true := by intro v hv; rw [(List.mem_replicate.1 hv).2]; rfl
theorem rep_pos {w : World} {g n k m : Nat} {z : Int} (h : HasRow w g z n k) (h0 : 1 ≤ m) (hm : m = Nat.min k (n - k)) : 0 < (List.replicate m (Value.int .i64 z)).length → some (⟨g, k, none⟩ : Addr) = some ⟨g, k, none⟩ ∧ ∃ ad, some (⟨g, 0, none⟩ : Addr) = some ad ∧ ∀ (j : Nat) (v : Value), (List.replicate m (Value.int .i64 z))[j]? = some v → w.cell? (ad.add j) = some v := by
  refine fun _ => ⟨rfl, _, rfl, fun j v hj => ?_⟩
  have hjm := (List.getElem?_eq_some_iff.1 hj).1
  rw [List.length_replicate] at hjm
  have hk : m ≤ k := by rw [hm]; exact Nat.min_le_left _ _
  rw [List.getElem?_replicate, if_pos hjm] at hj
  injection hj with hj
  subst hj
  have hjk : j < k := by omega
  clear hm hk
  unfold HasRow at h
  rw [Addr.add_lit]
  simp [World.cell?, h, List.getElem?_append, List.getElem?_replicate, hjk]
theorem int_sum {k m : Nat} (h : IntKind.i64.wrap ((k : Int) + (m : Int)) = (k : Int) + (m : Int)) : Value.int .i64 (IntKind.i64.wrap ((k : Int) + (m : Int))) = Value.int .i64 ((k + m : Nat) : Int) := by rw [h]; rfl
theorem next_row {w : World} {g n k m : Nat} {z : Int} (hk : k ≤ n) (hm : m ≤ n - k) (h : w.heap[g]? = some (.cells (splice (List.replicate k (Value.int .i64 z) ++ List.replicate (n - k) (Value.int .i64 0)) k (List.replicate m (Value.int .i64 z))).toArray 3 (0, 0))) : HasRow w g z n (k + m) := by
  unfold HasRow
  rw [h]
  have : splice (List.replicate k (Value.int .i64 z) ++ List.replicate (n - k) (Value.int .i64 0)) k (List.replicate m (Value.int .i64 z)) = List.replicate (k + m) (Value.int .i64 z) ++ List.replicate (n - (k + m)) (Value.int .i64 0) := by
    unfold splice
    rw [List.take_left' (by simp), List.length_replicate, List.drop_append, ← List.replicate_append_replicate, List.append_assoc]
    simp
    omega
  rw [this]
theorem own_row {w : World} {g n k : Nat} {z : Int} (hn : n ≤ 4096) (hk : k = n) (h : HasRow w g z n k) : w.ownsRow g 3 1 (.slice (some ⟨g, 0, none⟩) n n) n (List.replicate n (.int .i64 z)) := by
  subst hk
  refine ⟨by simp, .inr ⟨g, k, _, rfl, Nat.le_refl _, h, Nat.le_refl _, by unfold maxLen; omega, by simp, by simp⟩⟩

set_option maxHeartbeats 2000000 in
set_option maxRecDepth 100000 in
theorem Repeat_calls (z : Int) (n : Nat) (h1 : 1 ≤ n) (hn : n ≤ 4096) (b off c : Nat) (w : World) (hc : w.cell? ⟨b, off, none⟩ = some (.int .i64 z)) :
    Calls Try.prog 38 #[.slice (some ⟨b, off, none⟩) 1 c, .int .i64 n] w fun e w' => ∃ v', e = .returned v' ∧ w'.ownsRow w.heap.size 3 1 v' n (List.replicate n (.int .i64 z)) ∧ Below w.heap.size w w' := by
  have hMul := Try.bits_Mul 1 n (by omega) (by omega) w
  rw [Nat.div_eq_of_lt (by omega : 1 * n < 18446744073709551616), Nat.mod_eq_of_lt (by omega : 1 * n < 18446744073709551616), Nat.one_mul] at hMul
  obtain ⟨i0, hi, hz0, hz1, hz2⟩ := info_parts int_parts
  have HC : Aside (w.cell? ⟨b, off, none⟩ = some (.int .i64 z)) := hc
  clear hc
  go_enter Try.func38, Try.ntmps38
  go_wp2_with (first
    | (go_at_call 47; refine hMul.mono ?_; rintro e w' ⟨rfl, hw⟩; rw [hw])
    | (at_make; refine wpList_make_full _ rfl _ _ 23 rfl w.heap.size 3 i0 (.int .i64 0) 1 Try.underlying23 hi hz0 hz1 _ _ _ _ n rfl rfl rfl rfl (by rw [hz2]; omega) (by unfold maxLen; omega) (Nat.le_refl _) ?_; intro w1 hown hgrow
       obtain ⟨HR, HZ, hb⟩ := made_facts hown hgrow HC.out
       clear hown hgrow hMul)
    | (with_reducible show wpList _ _ _ (⟨some 33, _, _, _, _, _⟩ :: _) _ _
       refine wpList_copy_splice rfl (.tmp 31) (.tmp 32) 23 23 rfl 3 Try.underlying23 (by rw [hi]; simp [hz1]) (some ⟨w.heap.size, 0, none⟩) (some ⟨b, off, none⟩) n n 1 c rfl rfl w.heap.size 0 (List.replicate n (Value.int .i64 0)) 3 HR.out [.int .i64 z] (one_min h1) (one_pos HZ.out) (by simpa using h1) one_cell w.heap.size w hb (Nat.le_refl _) ?_; intro w2 HG hb2))
  have HG2 : HasRow w2 w.heap.size z n 1 := first_row h1 HG.out
  clear HG HR HZ hb HC
  go_loopg [8] (n - 1) (fun m p wr => ∃ k : Nat, 1 ≤ k ∧ k ≤ n ∧ m = n - k ∧ p = .int .i64 k ∧ HasRow wr w.heap.size z n k ∧ Below w.heap.size w wr)
  case atStart => exact ⟨1, Nat.le_refl _, h1, rfl, rfl, HG2, hb2⟩
  case round =>
    obtain ⟨k, hk1, hk2, rfl, rfl, hrow, hbr⟩ := hrel
    by_cases hlt : k < n
    · have hd : decide ((k : Int) < (n : Int)) = true := by simp; omega
      obtain ⟨m, hm⟩ : ∃ m, m = Nat.min k (n - k) := ⟨_, rfl⟩
      have HM := Lib.hid hm
      have hm1 : m ≤ n - k := by rw [hm]; exact Nat.min_le_right _ _
      have hm0 : 1 ≤ m := by rw [hm]; exact Nat.le_min.2 ⟨hk1, by omega⟩
      have hlen : (List.replicate m (Value.int .i64 z)).length = m := List.length_replicate
      have hw : IntKind.i64.wrap ((k : Int) + (m : Int)) = (k : Int) + (m : Int) := IntWalk.i64_in _ (by omega)
      have hn0 : (0 : Int) ≤ (n : Int) := by omega
      have hne : ¬ n = k := by omega
      clear hm
      go_wp2_with (fail)
      go_region_law (refine step_copy_splice rfl (.tmp 41) (.tmp 44) 23 23 rfl 3 Try.underlying23 (by rw [hi]; simp [hz1]) (some ⟨w.heap.size, k, none⟩) (some ⟨w.heap.size, 0, none⟩) (n - k) (n - k) k n (by simp [Act.eval, Act.put]) (by simp [Act.eval, Act.put]) w.heap.size k (List.replicate k (Value.int .i64 z) ++ List.replicate (n - k) (Value.int .i64 0)) 3 hrow (List.replicate m (Value.int .i64 z)) (by rw [hlen]; exact HM.out) (rep_pos hrow hm0 HM.out) (by simp; omega) rep_cell w.heap.size w hbr.drew (Nat.le_refl _) ?_; intro w4 hg4 hb4)
      go_wp2
      all_goals
        go_roundg (n - (k + m))
        case measure => omega
        case rel => exact ⟨k + m, by omega, by omega, rfl, by first | rfl | exact int_sum hw, next_row (by omega) hm1 hg4.out, hb4⟩
    · go_wp2
      go_ret
      exact ⟨_, rfl, own_row hn (by omega) hrow, hbr⟩

theorem enters_Repeat : Go.Sk.Enters Try.prog 38 := ⟨_, Try.func38, by kernel_rfl, by kernel_rfl⟩

open Go.Sk in
theorem Repeat_p (z : Int) (n : Int) (h1 : 1 ≤ n) (hn : n ≤ 4096) : Pure Try.prog 38 [.sl [I z], I n] (.ref 0) (some (.arr 1 ((List.replicate n.toNat z).map I))) := by
  refine fun_own enters_Repeat fun N w V vs hs hrep => ?_
  have hs1 : vs.size = 2 := hs
  have h0 : RepT N w V (.sl [I z]) vs[0] := hrep 0 (by simp) (by omega)
  have h2 : RepT N w V (I n) vs[1] := hrep 1 (by simp) (by omega)
  have hvs : vs = #[vs[0], vs[1]] := by
    apply Array.ext (by simp [hs1])
    intro i q1 q2
    have : i = 0 ∨ i = 1 := by omega
    rcases this with rfl | rfl <;> rfl
  rw [hvs, eval_v h2]
  generalize vs[0] = v at h0
  cases h0 with
  | im h => cases h with
    | sl _ k b off cap f hN hb hcap hk hc hr =>
      have hk1 : k = 1 := (hk (I z) (by simp)).symm
      have q1 := hc 0 (I z) 0 (I z) rfl rfl
      have q2 := hr 0 (I z) 0 (I z) rfl rfl
      generalize f 0 0 = u at q1 q2
      cases q2 with
      | v _ _ =>
        have hN := Repeat_calls z n.toNat (by omega) (by omega) b off cap w (by simpa using q1)
        rw [show ((n.toNat : Nat) : Int) = n by omega] at hN
        refine hN.mono ?_
        rintro e w' ⟨v', rfl, g1, g3⟩
        have g4 : (List.replicate n.toNat (Value.int .i64 z)) = (List.replicate n.toNat z).map (Value.int .i64) := by rw [List.map_replicate]
        rw [g4] at g1
        obtain ⟨r1, r2, r3⟩ := owns_arr g1 (by simp)
        exact ⟨v', rfl, g3, r1, r2, r3⟩
end Go.Proofs.Ytkecpgidolphfaa
