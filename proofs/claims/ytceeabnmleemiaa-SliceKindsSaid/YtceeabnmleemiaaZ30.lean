/- Contracts of functions of the program, proved by the checker; and plain laws. -/
import Derived.Test.YtceeabnmleemiaaZ28
set_option linter.unusedVariables false
set_option linter.unusedSimpArgs false
namespace Go.Proofs.Ytceeabnmleemiaa
open Go Go.Sk
theorem bool_of (p : Prop) : ∃ v : Bool, v = true ↔ p := by
  by_cases h : p
  · exact ⟨true, by simp [h]⟩
  · exact ⟨false, by simp [h]⟩
def smL (g : Gm) (w0 w1 : Int) : List Int := (ints g.nk).map fun i => nth [w0, w1] i % 8
theorem smL_ok {g : Gm} {w0 w1 : Int} (h2 : g.nk ≤ 2) (k1 : 1 ≤ g.nk) (hb : b8 w0 ∧ b8 w1) : MsOk g (smL g w0 w1) ∧ (smL g w0 w1).length = g.nk.toNat := by
  have hl : (smL g w0 w1).length = g.nk.toNat := by unfold smL; rw [List.length_map, ints_len]
  refine ⟨⟨by omega, fun k k0 k1 => ?_⟩, hl⟩
  have : nth (smL g w0 w1) k = nth [w0, w1] k % 8 := nth_map_ints k0 k1
  rw [this]
  omega
set_option maxHeartbeats 16000000 in
set_option maxRecDepth 10000 in
theorem SliceMatches_p (x : R6) (hx : x.ok) (more : List R4) (hl : more.length ≤ 9223372036854775807) (hm : ∀ y, y ∈ more → y.ok) (w0 w1 w2 w3 w4 w5 : Int) (hb : b8 w0 ∧ b8 w1) :
    Pure Try.prog 3 [.ag x.cs, .sl (more.map R4a), .ag [U8 w0, U8 w1, U8 w2, U8 w3, U8 w4, U8 w5]] (Bo true) none := by
  have hg := R6.gm_ok hx
  have hk2 : x.gm.nk ≤ 2 := by have := x.gm_nk; omega
  have c0 := sanity_p
  have c1 := positions_p x hx more hm hl
  have c2 := ROf_p x.gm hg hk2
  have c2' := SOf_p x.gm hg hk2
  have c3 := Some_p x.gm hg hk2 w0 w1 w2 w3 w4 w5 hb
  obtain ⟨h_sm, hml⟩ := smL_ok hk2 hg.k1 hb
  have h_fo := ofR_ok hg hk2
  have hfl := h_fo.len
  obtain ⟨v, hv⟩ : ∃ v : Bool, v = true ↔ ValidM x.gm (smL x.gm w0 w1) := bool_of _
  have v1 := RValid12_p x.gm hg (smL x.gm w0 w1) (by omega) v hv
  have v2 := Valid_p x.gm hg hk2 (smL x.gm w0 w1) (by omega) v hv
  obtain ⟨u, hu⟩ : ∃ u : Bool, u = true ↔ ValidM x.gm ((smL x.gm w0 w1).take ((smL x.gm w0 w1).length - 1 : Int).toNat) := bool_of _
  have u1 := RValid12_p x.gm hg _ (by rw [List.length_take]; omega) u hu
  have u2 := Valid_p x.gm hg hk2 _ (by rw [List.length_take]; omega) u hu
  clear hv hu
  have hpl := posL_len x more
  have hpo := posL_ok hx hm
  have d1 := fun m hms => Cut_p x.gm hg m hms (posL x more) (by omega) hpo
  have d2 := fun m hms => RCut_p x.gm hg m hms (posL x more) (by omega) hpo
  have e1 := fun m hms p hp => Level_p x.gm hg m hms p (hpo p hp)
  have e2 := fun m hms p hp => RLevel_p x.gm hg m hms p (hpo p hp)
  have e3 := fun m hms p q hp hq => Leaves_p x.gm hg m hms p q (hpo p hp) (hpo q hq)
  have ii := Ints_p x.gm.ofR x.gm.ofR (by omega)
  rw [decide_eq_true rfl] at ii
  have hk1 := hg.k1
  change Pure _ _ _ (msAv (smL x.gm w0 w1)) none at c3
  generalize hsm : smL x.gm w0 w1 = sm at *
  generalize x.gm.ofR = fo at *
  generalize x.gm = g at *
  generalize posL x more = l at *
  have es : (sm.map I).length = sm.length := List.length_map _
  have eu : List.drop (Int.toNat 0) (List.take (((sm.map I).length : Int) - 1).toNat sm) = sm.take ((sm.length : Int) - 1).toNat := by rw [es]; rfl
  rw [← eu] at u1 u2
  have el : (l.map Ps.av).length = l.length := List.length_map _
  have hrd : ∀ m : List Int, (((cutR (levL m l)).map Is).length = (cutR (levL m l)).length) ∧ (cutR (levL m l)).length ≤ 7 ∧ ∀ i : Int, 0 ≤ i → i < (cutR (levL m l)).length → (nth (cutR (levL m l)) i).length ≤ 7 := fun m => by
    have hlv := levL_len m l
    unfold cutR
    refine ⟨List.length_map _, ?_, fun i i0 i1 => ?_⟩
    · rw [List.length_map, sortI_len]
      have := keysN_len (levL m l) (levL m l).length
      omega
    · obtain ⟨r, hr, h⟩ := List.mem_map.1 (nth_mem i0 i1)
      rw [← h]
      have := rowN_len (levL m l) r (levL m l).length
      omega
  unfold Pss at *
  unfold msAv at *
  cases v
  · have f1 := d1 fo h_fo
    have f2 := d2 fo h_fo
    obtain ⟨r1, r2, r3⟩ := hrd fo
    have e1 := e1 fo h_fo
    have e2 := e2 fo h_fo
    have e3 := e3 fo h_fo
    clear d1 d2 hrd
    generalize cutR (levL fo l) = R at *
    refine fun_of tok D_ok Try.func3 rfl Try.ntmps3 Try.results3 (by kernel_rfl) (by simp) (by simp) ?_
    conv => whnf
    repeat' (first
      | (refine lvK (k := ?_); apply Cj.mk <;> first | exact trivial | intros)
      | (refine ⟨_, _, c0, lvN (k := ?_)⟩; apply Cj.mk <;> first | exact trivial | intros)
      | (refine .inl ?_; (conv => whnf); refine ⟨_, _, c0, lvN (k := ?_)⟩; apply Cj.mk <;> first | exact trivial | intros)
      | (refine ⟨_, _, c1, lvN (k := ?_)⟩; apply Cj.mk <;> first | exact trivial | intros)
      | (refine .inl ?_; (conv => whnf); refine ⟨_, _, c1, lvN (k := ?_)⟩; apply Cj.mk <;> first | exact trivial | intros)
      | (refine ⟨_, _, c2, lvN (k := ?_)⟩; apply Cj.mk <;> first | exact trivial | intros)
      | (refine .inl ?_; (conv => whnf); refine ⟨_, _, c2, lvN (k := ?_)⟩; apply Cj.mk <;> first | exact trivial | intros)
      | (refine ⟨_, _, c3, lvN (k := ?_)⟩; apply Cj.mk <;> first | exact trivial | intros)
      | (refine .inl ?_; (conv => whnf); refine ⟨_, _, c3, lvN (k := ?_)⟩; apply Cj.mk <;> first | exact trivial | intros)
      | (refine ⟨_, _, v1, lvN (k := ?_)⟩; apply Cj.mk <;> first | exact trivial | intros)
      | (refine .inl ?_; (conv => whnf); refine ⟨_, _, v1, lvN (k := ?_)⟩; apply Cj.mk <;> first | exact trivial | intros)
      | (refine ⟨_, _, f1, lvN (k := ?_)⟩; apply Cj.mk <;> first | exact trivial | intros)
      | (refine .inl ?_; (conv => whnf); refine ⟨_, _, f1, lvN (k := ?_)⟩; apply Cj.mk <;> first | exact trivial | intros)
      | (refine ⟨_, _, f2, lvN (k := ?_)⟩; apply Cj.mk <;> first | exact trivial | intros)
      | (refine .inl ?_; (conv => whnf); refine ⟨_, _, f2, lvN (k := ?_)⟩; apply Cj.mk <;> first | exact trivial | intros)
      | (refine lvE (k := ?_); apply Cj.mk <;> first | exact trivial | intros)
      | fail)
    refine .of (fun i => [(14, I i)]) (fun i => []) 5 (fun i => 0 ≤ i ∧ i ≤ R.length) (fun i => (R.length - i).toNat) 0 ?_
    conv => whnf
    refine ⟨⟨[], (by kernel_rfl), (by kernel_rfl), (by kernel_rfl), lvL (k := ?_), lvL (k := ?_)⟩, ?_, fun i ⟨i0, i1⟩ => lvN (k := ?_)⟩ <;> (first | (apply Cj.mk <;> first | exact trivial | intros) | skip)
    · exact ⟨by omega, by omega⟩
    by_cases hi : i < R.length
    · have hin := Ints_p (nth R i) (nth R i) (by have := r3 i i0 hi; omega)
      rw [decide_eq_true rfl] at hin
      repeat' (first
        | (refine lvK (k := ?_); apply Cj.mk <;> first | exact trivial | intros)
        | (refine ⟨_, _, hin, lvN (k := ?_)⟩; apply Cj.mk <;> first | exact trivial | intros)
        | (refine .inl ?_; (conv => whnf); refine ⟨_, _, hin, lvN (k := ?_)⟩; apply Cj.mk <;> first | exact trivial | intros)
        | (refine lvE (k := ?_); apply Cj.mk <;> first | exact trivial | intros)
        | fail)
      all_goals
        refine ⟨i + 1, ⟨[], (by kernel_rfl), (by kernel_rfl), (by kernel_rfl), lvL (k := ?_), lvL (k := ?_)⟩, ?_, by (try dsimp only); omega, rfl⟩ <;> (first | (apply Cj.mk <;> first | exact trivial | intros) | skip)
        exact ⟨by omega, by omega⟩
    · obtain rfl : i = R.length := by omega
      repeat' (first
        | (refine lvK (k := ?_); apply Cj.mk <;> first | exact trivial | intros)
        | (refine lvE (k := ?_); apply Cj.mk <;> first | exact trivial | intros)
        | fail)
      refine .of (fun i => [(16, I i)]) (fun i => []) 6 (fun i => 0 ≤ i ∧ i ≤ l.length) (fun i => (l.length - i).toNat) 0 ?_
      conv => whnf
      refine ⟨⟨[], (by kernel_rfl), (by kernel_rfl), (by kernel_rfl), lvL (k := ?_), lvL (k := ?_)⟩, ?_, fun i ⟨i0, i1⟩ => lvN (k := ?_)⟩ <;> (first | (apply Cj.mk <;> first | exact trivial | intros) | skip)
      · exact ⟨by omega, by omega⟩
      by_cases hi : i < l.length
      · have hp0 : nth l 0 ∈ l := nth_mem (by omega) (by omega)
        have hpi : nth l i ∈ l := nth_mem i0 hi
        have q1 := e1 _ hpi
        have q2 := e2 _ hpi
        have q3 := e3 _ _ hp0 hpi
        have q4 := e2 _ hp0
        repeat' (first
          | (refine lvK (k := ?_); apply Cj.mk <;> first | exact trivial | intros)
          | (refine ⟨_, _, q1, lvN (k := ?_)⟩; apply Cj.mk <;> first | exact trivial | intros)
          | (refine .inl ?_; (conv => whnf); refine ⟨_, _, q1, lvN (k := ?_)⟩; apply Cj.mk <;> first | exact trivial | intros)
          | (refine ⟨_, _, q2, lvN (k := ?_)⟩; apply Cj.mk <;> first | exact trivial | intros)
          | (refine .inl ?_; (conv => whnf); refine ⟨_, _, q2, lvN (k := ?_)⟩; apply Cj.mk <;> first | exact trivial | intros)
          | (refine ⟨_, _, q3, lvN (k := ?_)⟩; apply Cj.mk <;> first | exact trivial | intros)
          | (refine .inl ?_; (conv => whnf); refine ⟨_, _, q3, lvN (k := ?_)⟩; apply Cj.mk <;> first | exact trivial | intros)
          | (refine ⟨_, _, q4, lvN (k := ?_)⟩; apply Cj.mk <;> first | exact trivial | intros)
          | (refine .inl ?_; (conv => whnf); refine ⟨_, _, q4, lvN (k := ?_)⟩; apply Cj.mk <;> first | exact trivial | intros)
          | (refine lvE (k := ?_); apply Cj.mk <;> first | exact trivial | intros)
          | fail)
        all_goals (try (exfalso; rename_i z; exact z rfl))
        refine ⟨i + 1, ⟨[], (by kernel_rfl), (by kernel_rfl), (by kernel_rfl), lvL (k := ?_), lvL (k := ?_)⟩, ?_, by (try dsimp only); omega, rfl⟩ <;> (first | (apply Cj.mk <;> first | exact trivial | intros) | skip)
        exact ⟨by omega, by omega⟩
      · obtain rfl : i = l.length := by omega
        cases u
        all_goals
          repeat' (first
            | (refine lvK (k := ?_); apply Cj.mk <;> first | exact trivial | intros)
            | (refine ⟨_, _, c2, lvN (k := ?_)⟩; apply Cj.mk <;> first | exact trivial | intros)
            | (refine .inl ?_; (conv => whnf); refine ⟨_, _, c2, lvN (k := ?_)⟩; apply Cj.mk <;> first | exact trivial | intros)
            | (refine ⟨_, _, c2', lvN (k := ?_)⟩; apply Cj.mk <;> first | exact trivial | intros)
            | (refine .inl ?_; (conv => whnf); refine ⟨_, _, c2', lvN (k := ?_)⟩; apply Cj.mk <;> first | exact trivial | intros)
            | (refine ⟨_, _, ii, lvN (k := ?_)⟩; apply Cj.mk <;> first | exact trivial | intros)
            | (refine .inl ?_; (conv => whnf); refine ⟨_, _, ii, lvN (k := ?_)⟩; apply Cj.mk <;> first | exact trivial | intros)
            | (refine ⟨_, _, v1, lvN (k := ?_)⟩; apply Cj.mk <;> first | exact trivial | intros)
            | (refine .inl ?_; (conv => whnf); refine ⟨_, _, v1, lvN (k := ?_)⟩; apply Cj.mk <;> first | exact trivial | intros)
            | (refine ⟨_, _, v2, lvN (k := ?_)⟩; apply Cj.mk <;> first | exact trivial | intros)
            | (refine .inl ?_; (conv => whnf); refine ⟨_, _, v2, lvN (k := ?_)⟩; apply Cj.mk <;> first | exact trivial | intros)
            | (refine ⟨_, _, u1, lvN (k := ?_)⟩; apply Cj.mk <;> first | exact trivial | intros)
            | (refine .inl ?_; (conv => whnf); refine ⟨_, _, u1, lvN (k := ?_)⟩; apply Cj.mk <;> first | exact trivial | intros)
            | (refine ⟨_, _, u2, lvN (k := ?_)⟩; apply Cj.mk <;> first | exact trivial | intros)
            | (refine .inl ?_; (conv => whnf); refine ⟨_, _, u2, lvN (k := ?_)⟩; apply Cj.mk <;> first | exact trivial | intros)
            | (refine lvE (k := ?_); apply Cj.mk <;> first | exact trivial | intros)
            | fail)
  · have f1 := d1 sm h_sm
    have f2 := d2 sm h_sm
    obtain ⟨r1, r2, r3⟩ := hrd sm
    have e1 := e1 sm h_sm
    have e2 := e2 sm h_sm
    have e3 := e3 sm h_sm
    clear d1 d2 hrd
    generalize cutR (levL sm l) = R at *
    refine fun_of tok D_ok Try.func3 rfl Try.ntmps3 Try.results3 (by kernel_rfl) (by simp) (by simp) ?_
    conv => whnf
    repeat' (first
      | (refine lvK (k := ?_); apply Cj.mk <;> first | exact trivial | intros)
      | (refine ⟨_, _, c0, lvN (k := ?_)⟩; apply Cj.mk <;> first | exact trivial | intros)
      | (refine .inl ?_; (conv => whnf); refine ⟨_, _, c0, lvN (k := ?_)⟩; apply Cj.mk <;> first | exact trivial | intros)
      | (refine ⟨_, _, c1, lvN (k := ?_)⟩; apply Cj.mk <;> first | exact trivial | intros)
      | (refine .inl ?_; (conv => whnf); refine ⟨_, _, c1, lvN (k := ?_)⟩; apply Cj.mk <;> first | exact trivial | intros)
      | (refine ⟨_, _, c2, lvN (k := ?_)⟩; apply Cj.mk <;> first | exact trivial | intros)
      | (refine .inl ?_; (conv => whnf); refine ⟨_, _, c2, lvN (k := ?_)⟩; apply Cj.mk <;> first | exact trivial | intros)
      | (refine ⟨_, _, c3, lvN (k := ?_)⟩; apply Cj.mk <;> first | exact trivial | intros)
      | (refine .inl ?_; (conv => whnf); refine ⟨_, _, c3, lvN (k := ?_)⟩; apply Cj.mk <;> first | exact trivial | intros)
      | (refine ⟨_, _, v1, lvN (k := ?_)⟩; apply Cj.mk <;> first | exact trivial | intros)
      | (refine .inl ?_; (conv => whnf); refine ⟨_, _, v1, lvN (k := ?_)⟩; apply Cj.mk <;> first | exact trivial | intros)
      | (refine ⟨_, _, f1, lvN (k := ?_)⟩; apply Cj.mk <;> first | exact trivial | intros)
      | (refine .inl ?_; (conv => whnf); refine ⟨_, _, f1, lvN (k := ?_)⟩; apply Cj.mk <;> first | exact trivial | intros)
      | (refine ⟨_, _, f2, lvN (k := ?_)⟩; apply Cj.mk <;> first | exact trivial | intros)
      | (refine .inl ?_; (conv => whnf); refine ⟨_, _, f2, lvN (k := ?_)⟩; apply Cj.mk <;> first | exact trivial | intros)
      | (refine lvE (k := ?_); apply Cj.mk <;> first | exact trivial | intros)
      | fail)
    refine .of (fun i => [(14, I i)]) (fun i => []) 5 (fun i => 0 ≤ i ∧ i ≤ R.length) (fun i => (R.length - i).toNat) 0 ?_
    conv => whnf
    refine ⟨⟨[], (by kernel_rfl), (by kernel_rfl), (by kernel_rfl), lvL (k := ?_), lvL (k := ?_)⟩, ?_, fun i ⟨i0, i1⟩ => lvN (k := ?_)⟩ <;> (first | (apply Cj.mk <;> first | exact trivial | intros) | skip)
    · exact ⟨by omega, by omega⟩
    by_cases hi : i < R.length
    · have hin := Ints_p (nth R i) (nth R i) (by have := r3 i i0 hi; omega)
      rw [decide_eq_true rfl] at hin
      repeat' (first
        | (refine lvK (k := ?_); apply Cj.mk <;> first | exact trivial | intros)
        | (refine ⟨_, _, hin, lvN (k := ?_)⟩; apply Cj.mk <;> first | exact trivial | intros)
        | (refine .inl ?_; (conv => whnf); refine ⟨_, _, hin, lvN (k := ?_)⟩; apply Cj.mk <;> first | exact trivial | intros)
        | (refine lvE (k := ?_); apply Cj.mk <;> first | exact trivial | intros)
        | fail)
      all_goals
        refine ⟨i + 1, ⟨[], (by kernel_rfl), (by kernel_rfl), (by kernel_rfl), lvL (k := ?_), lvL (k := ?_)⟩, ?_, by (try dsimp only); omega, rfl⟩ <;> (first | (apply Cj.mk <;> first | exact trivial | intros) | skip)
        exact ⟨by omega, by omega⟩
    · obtain rfl : i = R.length := by omega
      repeat' (first
        | (refine lvK (k := ?_); apply Cj.mk <;> first | exact trivial | intros)
        | (refine lvE (k := ?_); apply Cj.mk <;> first | exact trivial | intros)
        | fail)
      refine .of (fun i => [(16, I i)]) (fun i => []) 6 (fun i => 0 ≤ i ∧ i ≤ l.length) (fun i => (l.length - i).toNat) 0 ?_
      conv => whnf
      refine ⟨⟨[], (by kernel_rfl), (by kernel_rfl), (by kernel_rfl), lvL (k := ?_), lvL (k := ?_)⟩, ?_, fun i ⟨i0, i1⟩ => lvN (k := ?_)⟩ <;> (first | (apply Cj.mk <;> first | exact trivial | intros) | skip)
      · exact ⟨by omega, by omega⟩
      by_cases hi : i < l.length
      · have hp0 : nth l 0 ∈ l := nth_mem (by omega) (by omega)
        have hpi : nth l i ∈ l := nth_mem i0 hi
        have q1 := e1 _ hpi
        have q2 := e2 _ hpi
        have q3 := e3 _ _ hp0 hpi
        have q4 := e2 _ hp0
        repeat' (first
          | (refine lvK (k := ?_); apply Cj.mk <;> first | exact trivial | intros)
          | (refine ⟨_, _, q1, lvN (k := ?_)⟩; apply Cj.mk <;> first | exact trivial | intros)
          | (refine .inl ?_; (conv => whnf); refine ⟨_, _, q1, lvN (k := ?_)⟩; apply Cj.mk <;> first | exact trivial | intros)
          | (refine ⟨_, _, q2, lvN (k := ?_)⟩; apply Cj.mk <;> first | exact trivial | intros)
          | (refine .inl ?_; (conv => whnf); refine ⟨_, _, q2, lvN (k := ?_)⟩; apply Cj.mk <;> first | exact trivial | intros)
          | (refine ⟨_, _, q3, lvN (k := ?_)⟩; apply Cj.mk <;> first | exact trivial | intros)
          | (refine .inl ?_; (conv => whnf); refine ⟨_, _, q3, lvN (k := ?_)⟩; apply Cj.mk <;> first | exact trivial | intros)
          | (refine ⟨_, _, q4, lvN (k := ?_)⟩; apply Cj.mk <;> first | exact trivial | intros)
          | (refine .inl ?_; (conv => whnf); refine ⟨_, _, q4, lvN (k := ?_)⟩; apply Cj.mk <;> first | exact trivial | intros)
          | (refine lvE (k := ?_); apply Cj.mk <;> first | exact trivial | intros)
          | fail)
        all_goals (try (exfalso; rename_i z; exact z rfl))
        refine ⟨i + 1, ⟨[], (by kernel_rfl), (by kernel_rfl), (by kernel_rfl), lvL (k := ?_), lvL (k := ?_)⟩, ?_, by (try dsimp only); omega, rfl⟩ <;> (first | (apply Cj.mk <;> first | exact trivial | intros) | skip)
        exact ⟨by omega, by omega⟩
      · obtain rfl : i = l.length := by omega
        cases u
        all_goals
          repeat' (first
            | (refine lvK (k := ?_); apply Cj.mk <;> first | exact trivial | intros)
            | (refine ⟨_, _, c2, lvN (k := ?_)⟩; apply Cj.mk <;> first | exact trivial | intros)
            | (refine .inl ?_; (conv => whnf); refine ⟨_, _, c2, lvN (k := ?_)⟩; apply Cj.mk <;> first | exact trivial | intros)
            | (refine ⟨_, _, c2', lvN (k := ?_)⟩; apply Cj.mk <;> first | exact trivial | intros)
            | (refine .inl ?_; (conv => whnf); refine ⟨_, _, c2', lvN (k := ?_)⟩; apply Cj.mk <;> first | exact trivial | intros)
            | (refine ⟨_, _, ii, lvN (k := ?_)⟩; apply Cj.mk <;> first | exact trivial | intros)
            | (refine .inl ?_; (conv => whnf); refine ⟨_, _, ii, lvN (k := ?_)⟩; apply Cj.mk <;> first | exact trivial | intros)
            | (refine ⟨_, _, v1, lvN (k := ?_)⟩; apply Cj.mk <;> first | exact trivial | intros)
            | (refine .inl ?_; (conv => whnf); refine ⟨_, _, v1, lvN (k := ?_)⟩; apply Cj.mk <;> first | exact trivial | intros)
            | (refine ⟨_, _, v2, lvN (k := ?_)⟩; apply Cj.mk <;> first | exact trivial | intros)
            | (refine .inl ?_; (conv => whnf); refine ⟨_, _, v2, lvN (k := ?_)⟩; apply Cj.mk <;> first | exact trivial | intros)
            | (refine ⟨_, _, u1, lvN (k := ?_)⟩; apply Cj.mk <;> first | exact trivial | intros)
            | (refine .inl ?_; (conv => whnf); refine ⟨_, _, u1, lvN (k := ?_)⟩; apply Cj.mk <;> first | exact trivial | intros)
            | (refine ⟨_, _, u2, lvN (k := ?_)⟩; apply Cj.mk <;> first | exact trivial | intros)
            | (refine .inl ?_; (conv => whnf); refine ⟨_, _, u2, lvN (k := ?_)⟩; apply Cj.mk <;> first | exact trivial | intros)
            | (refine lvE (k := ?_); apply Cj.mk <;> first | exact trivial | intros)
            | fail)
end Go.Proofs.Ytceeabnmleemiaa
