/- Contracts of functions of the program, proved by the checker; and plain laws. -/
import Derived.Test.YtceeabnmleemiaaZ32
import Derived.Test.YtceeabnmleemiaaZ00
set_option linter.unusedVariables false
set_option linter.unusedSimpArgs false
namespace Go.Proofs.Ytceeabnmleemiaa
open Go Go.Sk
theorem ofR_nth {g : Gm} (k1 : 1 ≤ g.nk) (h2 : g.nk ≤ 2) {a : Int} (a0 : 0 ≤ a) (a1 : a < g.nk) : nth g.ofR a = (leadR g a).length := by
  rw [← ofR_eq g k1 h2, nth_map_ints a0 a1]; rfl
theorem leadR_len (g : Gm) (a : Int) : ((leadR g a).length : Int) = if vL g a = true then 2 else 1 := by
  unfold leadR; split <;> simp_all
theorem ofR_valid {g : Gm} (hg : g.ok) (h2 : g.nk ≤ 2) : ValidM g g.ofR := by
  have hw := ofR_16 hg h2
  refine ⟨hw.len, hw.v, fun a b a0 a1 b0 b1 hb => ?_⟩
  rw [ofR_nth hg.k1 h2 a0 a1, ofR_nth hg.k1 h2 b0 b1, leadR_len, leadR_len]
  by_cases hab : b = a
  · subst hab; omega
  · have h2' : g.nk = 2 := by omega
    have : b = 1 - a := by omega
    have hv : vL g a = true := by unfold vL; rw [h2', ← this, hb]; rfl
    rw [if_pos hv]
    split <;> omega
theorem levB_at (m : List Int) : ∀ (l : List Int) (i : Nat) (v : Int), i < l.length → levB m (l.set i v) = levB m l - wt m (nth l i) + wt m v
  | [], i, v, h => by simp at h
  | c :: l, 0, v, _ => by
    have : nth (c :: l) ((0 : Nat) : Int) = c := rfl
    rw [this]
    simp [levB]; omega
  | c :: l, i + 1, v, h => by
    have ih := levB_at m l i v (by simpa using h)
    have e : nth (c :: l) ((i + 1 : Nat) : Int) = nth l (i : Int) := by
      unfold nth
      rw [show (((i + 1 : Nat) : Int)).toNat = i + 1 by omega, show ((i : Int)).toNat = i by omega]
      rfl
    rw [e, List.set_cons_succ]
    unfold levB at *
    simp only [List.map_cons, List.sum_cons]
    omega
set_option maxHeartbeats 16000000 in
set_option maxRecDepth 10000 in
theorem SliceKinds_p (x : R6) (hx : x.ok) (c : Int) (hc : 0 ≤ c ∧ c ≤ 255) : Pure Try.prog 5 [.ag x.cs, U8 c] (Bo true) none := by
  have hg := R6.gm_ok hx
  have hk2 : x.gm.nk ≤ 2 := by have := x.gm_nk; omega
  have c0 := sanity_p
  have c1 := Made6_p x hx
  have c2 := SOf_p x.gm hg hk2
  have h_fo := ofR_ok hg hk2
  have v1 := RValid12_p x.gm hg x.gm.ofR (by have := h_fo.len; omega) true (by simp [ofR_valid hg hk2])
  have hp := R6.ps_ok hx
  have hle := Leads_p x.gm hg hk2
  have hnf := fun a => ofR_nth (g := x.gm) (a := a) hg.k1 hk2
  have hll := leadR_len x.gm
  have hle3 := fun q hq => Leaves_p x.gm hg x.gm.ofR h_fo x.ps q hp hq
  have hvl := h_fo.len
  generalize hfo : x.gm.ofR = fo at *
  generalize x.gm = g at *
  generalize x.ps = p at *
  have ec : (p.ct.map I).length = p.ct.length := List.length_map _
  have ek : (g.kinds.map Kn).length = g.kinds.length := List.length_map _
  have em : (fo.map I).length = fo.length := List.length_map _
  have hnk : (g.kinds.length : Int) = g.nk := rfl
  have hcl := hp.len
  have c9 := hg.c9
  have hc1 := hg.b.c1
  unfold msAv at *
  refine fun_of tok D_ok Try.func5 rfl Try.ntmps5 Try.results5 (by kernel_rfl) (by simp) (by simp) ?_
  conv => whnf
  repeat' (first
    | (refine lvK (k := ?_); apply Cj.mk <;> first | exact trivial | intros)
    | (refine ⟨_, _, c0, lvN (k := ?_)⟩; apply Cj.mk <;> first | exact trivial | intros)
    | (refine .inl ?_; (conv => whnf); refine ⟨_, _, c0, lvN (k := ?_)⟩; apply Cj.mk <;> first | exact trivial | intros)
    | (refine ⟨_, _, c1, lvN (k := ?_)⟩; apply Cj.mk <;> first | exact trivial | intros)
    | (refine .inl ?_; (conv => whnf); refine ⟨_, _, c1, lvN (k := ?_)⟩; apply Cj.mk <;> first | exact trivial | intros)
    | (refine ⟨_, _, c2, lvN (k := ?_)⟩; apply Cj.mk <;> first | exact trivial | intros)
    | (refine .inl ?_; (conv => whnf); refine ⟨_, _, c2, lvN (k := ?_)⟩; apply Cj.mk <;> first | exact trivial | intros)
    | (refine ⟨_, _, v1, lvN (k := ?_)⟩; apply Cj.mk <;> first | exact trivial | intros)
    | (refine .inl ?_; (conv => whnf); refine ⟨_, _, v1, lvN (k := ?_)⟩; apply Cj.mk <;> first | exact trivial | intros)
    | (refine lvE (k := ?_); apply Cj.mk <;> first | exact trivial | intros)
    | fail)
  refine .of (fun a => [(9, I a)]) (fun a => []) 5 (fun a => 0 ≤ a ∧ a ≤ g.nk) (fun a => (g.nk - a).toNat) 0 ?_
  conv => whnf
  refine ⟨⟨[], (by kernel_rfl), (by kernel_rfl), (by kernel_rfl), lvL (k := ?_), lvL (k := ?_)⟩, ?_, fun a ⟨a0, a1⟩ => lvN (k := ?_)⟩ <;> (first | (apply Cj.mk <;> first | exact trivial | intros) | skip)
  · exact ⟨by omega, by omega⟩
  by_cases ha : a < g.nk
  · have hla := hle a a0 ha
    have hfa := hnf a a0 ha
    have hlal := hll a
    have eml : ((leadR g a).map I).length = (leadR g a).length := List.length_map _
    have hl2 : 1 ≤ (leadR g a).length ∧ (leadR g a).length ≤ 2 := by split at hlal <;> omega
    repeat' (first
      | (refine lvK (k := ?_); apply Cj.mk <;> first | exact trivial | intros)
      | (refine ⟨_, _, hla, lvN (k := ?_)⟩; apply Cj.mk <;> first | exact trivial | intros)
      | (refine .inl ?_; (conv => whnf); refine ⟨_, _, hla, lvN (k := ?_)⟩; apply Cj.mk <;> first | exact trivial | intros)
      | (refine lvE (k := ?_); apply Cj.mk <;> first | exact trivial | intros)
      | fail)
    refine .of (fun i => [(11, I i)]) (fun i => []) 5 (fun i => 0 ≤ i ∧ i ≤ (leadR g a).length) (fun i => ((leadR g a).length - i).toNat) 0 ?_
    conv => whnf
    refine ⟨⟨[], (by kernel_rfl), (by kernel_rfl), (by kernel_rfl), lvL (k := ?_), lvL (k := ?_)⟩, ?_, fun i ⟨i0, i1⟩ => lvN (k := ?_)⟩ <;> (first | (apply Cj.mk <;> first | exact trivial | intros) | skip)
    · exact ⟨by omega, by omega⟩
    by_cases hi : i < (leadR g a).length
    · have hbc : nth (leadR g a) i = a ∨ nth (leadR g a) i = 1 - a ∧ vL g a = true ∧ g.nk = 2 := by
        unfold leadR at hi ⊢
        by_cases hv : vL g a = true
        · have hn2 : g.nk = 2 := by unfold vL at hv; simp at hv; exact hv.1
          rw [if_pos hv] at hi ⊢
          simp at hi
          have : i = 0 ∨ i = 1 := by omega
          rcases this with rfl | rfl
          · exact .inl rfl
          · exact .inr ⟨rfl, hv, hn2⟩
        · rw [if_neg hv] at hi ⊢
          simp at hi
          obtain rfl : i = 0 := by omega
          exact .inl rfl
      have hb0 : 0 ≤ nth (leadR g a) i ∧ nth (leadR g a) i < g.nk := by omega
      have hlb := hle _ hb0.1 hb0.2
      have hfb := hnf _ hb0.1 hb0.2
      have hlbl := hll (nth (leadR g a) i)
      have hlb2 : (leadR g (nth (leadR g a) i)).length ≤ 2 := by split at hlbl <;> omega
      have hhas := Has_p (leadR g (nth (leadR g a) i)) a (by omega)
      have hfacts : nth fo (nth (leadR g a) i) ≤ nth fo a ∧ decide (nth fo (nth (leadR g a) i) < nth fo a) = !((leadR g (nth (leadR g a) i)).contains a) := by
        rw [hfb, hfa, hlal, hlbl]
        rcases hbc with e | ⟨e, hv, hn2⟩
        · rw [e]
          have : (leadR g a).contains a = true := by unfold leadR; split <;> simp
          rw [this]; simp
        · rw [e, hv]
          unfold leadR
          by_cases hw : vL g (1 - a) = true
          · rw [if_pos hw, if_pos hw, show (1 : Int) - (1 - a) = a by omega]; simp
          · rw [if_neg hw, if_neg hw]
            have : ¬ a = 1 - a := by omega
            simp [this]
      have h1a : 1 + 2 * a ≤ 12 := by omega
      have hq : nth p.ct (c % ((p.ct.map I).length : Int)) = 1 + 2 * a → Pure Try.prog 17 [.ag [Is fo], p.av, .ag [.sl ((p.ct.set (c % ((p.ct.map I).length : Int)).toNat (1 + 2 * nth (leadR g a) i)).map I), Is p.h0, Is p.h1, I p.rights, I p.side]] (Bo (!((leadR g (nth (leadR g a) i)).contains a))) none := fun hat => by
        have hm0 := Int.emod_nonneg c (show ((p.ct.map I).length : Int) ≠ 0 by omega)
        have hm1 := Int.emod_lt_of_pos c (show 0 < ((p.ct.map I).length : Int) by omega)
        have hok : (⟨p.ct.set (c % ((p.ct.map I).length : Int)).toNat (1 + 2 * nth (leadR g a) i), p.h0, p.h1, p.rights, p.side⟩ : Ps).ok g := by
          refine ⟨by simp; omega, fun j j0 j1 => ?_, hp.h0, hp.h1, hp.r0, hp.r1, hp.s⟩
          dsimp only
          rw [nth_set hm0 j0 (by omega)]
          split
          · omega
          · exact hp.c j j0 j1
        have h := hle3 _ hok
        have hat' := levB_at fo p.ct (c % ((p.ct.map I).length : Int)).toNat (1 + 2 * nth (leadR g a) i) (by omega)
        rw [Int.toNat_of_nonneg hm0, hat] at hat'
        have hw : ∀ k : Int, 0 ≤ k → k < g.nk → wt fo (1 + 2 * k) = nth fo k := fun k k0 k1 => by
          unfold wt ofK
          rw [if_pos (by omega), if_pos (by omega), show (1 + 2 * k - 1) / 2 = k by omega]
        rw [hw a a0 ha, hw _ hb0.1 hb0.2] at hat'
        have hlq : decide (levR fo ⟨p.ct.set (c % ((p.ct.map I).length : Int)).toNat (1 + 2 * nth (leadR g a) i), p.h0, p.h1, p.rights, p.side⟩ < levR fo p) = !((leadR g (nth (leadR g a) i)).contains a) := by
          rw [← hfacts.2]
          unfold levR
          dsimp only
          rw [hat', Bool.eq_iff_iff]
          simp only [decide_eq_true_eq]
          omega
        rw [hlq] at h
        exact h
      generalize hbk : (leadR g (nth (leadR g a) i)).contains a = bk at *
      have hm0 := Int.emod_nonneg c (show ((p.ct.map I).length : Int) ≠ 0 by omega)
      have hm1 := Int.emod_lt_of_pos c (show 0 < ((p.ct.map I).length : Int) by omega)
      have hci := hp.c (c % ((p.ct.map I).length : Int)) hm0 (by omega)
      obtain ⟨hf1, hf2⟩ := hfacts
      by_cases hat : nth p.ct (c % ((p.ct.map I).length : Int)) = 1 + 2 * a
      · have hq := hq hat
        cases bk
        · have hf3 : nth fo (nth (leadR g a) i) < nth fo a := by simpa using hf2
          repeat' (first
            | (refine lvK (k := ?_); apply Cj.mk <;> first | exact trivial | intros)
            | (refine ⟨_, _, hlb, lvN (k := ?_)⟩; apply Cj.mk <;> first | exact trivial | intros)
            | (refine .inl ?_; (conv => whnf); refine ⟨_, _, hlb, lvN (k := ?_)⟩; apply Cj.mk <;> first | exact trivial | intros)
            | (refine ⟨_, _, hhas, lvN (k := ?_)⟩; apply Cj.mk <;> first | exact trivial | intros)
            | (refine .inl ?_; (conv => whnf); refine ⟨_, _, hhas, lvN (k := ?_)⟩; apply Cj.mk <;> first | exact trivial | intros)
            | (refine .inl ?_; (conv => whnf); refine ⟨_, hq, rfl, lvN (k := ?_)⟩; apply Cj.mk <;> first | exact trivial | intros)
            | (refine ⟨_, hq, rfl, lvN (k := ?_)⟩; apply Cj.mk <;> first | exact trivial | intros)
            | (refine lvE (k := ?_); apply Cj.mk <;> first | exact trivial | intros)
            | fail)
          all_goals
            refine ⟨i + 1, ⟨[], (by kernel_rfl), (by kernel_rfl), (by kernel_rfl), lvL (k := ?_), lvL (k := ?_)⟩, ?_, by (try dsimp only); omega, rfl⟩ <;> (first | (apply Cj.mk <;> first | exact trivial | intros) | skip)
            exact ⟨by omega, by omega⟩
        · have hf3 : ¬ nth fo (nth (leadR g a) i) < nth fo a := by simpa using hf2
          repeat' (first
            | (refine lvK (k := ?_); apply Cj.mk <;> first | exact trivial | intros)
            | (refine ⟨_, _, hlb, lvN (k := ?_)⟩; apply Cj.mk <;> first | exact trivial | intros)
            | (refine .inl ?_; (conv => whnf); refine ⟨_, _, hlb, lvN (k := ?_)⟩; apply Cj.mk <;> first | exact trivial | intros)
            | (refine ⟨_, _, hhas, lvN (k := ?_)⟩; apply Cj.mk <;> first | exact trivial | intros)
            | (refine .inl ?_; (conv => whnf); refine ⟨_, _, hhas, lvN (k := ?_)⟩; apply Cj.mk <;> first | exact trivial | intros)
            | (refine .inl ?_; (conv => whnf); refine ⟨_, hq, rfl, lvN (k := ?_)⟩; apply Cj.mk <;> first | exact trivial | intros)
            | (refine ⟨_, hq, rfl, lvN (k := ?_)⟩; apply Cj.mk <;> first | exact trivial | intros)
            | (refine lvE (k := ?_); apply Cj.mk <;> first | exact trivial | intros)
            | fail)
          all_goals
            refine ⟨i + 1, ⟨[], (by kernel_rfl), (by kernel_rfl), (by kernel_rfl), lvL (k := ?_), lvL (k := ?_)⟩, ?_, by (try dsimp only); omega, rfl⟩ <;> (first | (apply Cj.mk <;> first | exact trivial | intros) | skip)
            exact ⟨by omega, by omega⟩
      · cases bk
        · have hf3 : nth fo (nth (leadR g a) i) < nth fo a := by simpa using hf2
          repeat' (first
            | (refine lvK (k := ?_); apply Cj.mk <;> first | exact trivial | intros)
            | (refine ⟨_, _, hlb, lvN (k := ?_)⟩; apply Cj.mk <;> first | exact trivial | intros)
            | (refine .inl ?_; (conv => whnf); refine ⟨_, _, hlb, lvN (k := ?_)⟩; apply Cj.mk <;> first | exact trivial | intros)
            | (refine ⟨_, _, hhas, lvN (k := ?_)⟩; apply Cj.mk <;> first | exact trivial | intros)
            | (refine .inl ?_; (conv => whnf); refine ⟨_, _, hhas, lvN (k := ?_)⟩; apply Cj.mk <;> first | exact trivial | intros)
            | (refine lvE (k := ?_); apply Cj.mk <;> first | exact trivial | intros)
            | fail)
          all_goals
            refine ⟨i + 1, ⟨[], (by kernel_rfl), (by kernel_rfl), (by kernel_rfl), lvL (k := ?_), lvL (k := ?_)⟩, ?_, by (try dsimp only); omega, rfl⟩ <;> (first | (apply Cj.mk <;> first | exact trivial | intros) | skip)
            exact ⟨by omega, by omega⟩
        · have hf3 : ¬ nth fo (nth (leadR g a) i) < nth fo a := by simpa using hf2
          repeat' (first
            | (refine lvK (k := ?_); apply Cj.mk <;> first | exact trivial | intros)
            | (refine ⟨_, _, hlb, lvN (k := ?_)⟩; apply Cj.mk <;> first | exact trivial | intros)
            | (refine .inl ?_; (conv => whnf); refine ⟨_, _, hlb, lvN (k := ?_)⟩; apply Cj.mk <;> first | exact trivial | intros)
            | (refine ⟨_, _, hhas, lvN (k := ?_)⟩; apply Cj.mk <;> first | exact trivial | intros)
            | (refine .inl ?_; (conv => whnf); refine ⟨_, _, hhas, lvN (k := ?_)⟩; apply Cj.mk <;> first | exact trivial | intros)
            | (refine lvE (k := ?_); apply Cj.mk <;> first | exact trivial | intros)
            | fail)
          all_goals
            refine ⟨i + 1, ⟨[], (by kernel_rfl), (by kernel_rfl), (by kernel_rfl), lvL (k := ?_), lvL (k := ?_)⟩, ?_, by (try dsimp only); omega, rfl⟩ <;> (first | (apply Cj.mk <;> first | exact trivial | intros) | skip)
            exact ⟨by omega, by omega⟩
    · have hie : i = (leadR g a).length := by omega
      subst hie
      repeat' (first
        | (refine lvK (k := ?_); apply Cj.mk <;> first | exact trivial | intros)
        | (refine lvE (k := ?_); apply Cj.mk <;> first | exact trivial | intros)
        | fail)
      refine ⟨a + 1, ⟨[], (by kernel_rfl), (by kernel_rfl), (by kernel_rfl), lvL (k := ?_), lvL (k := ?_)⟩, ?_, by (try dsimp only); omega, rfl⟩ <;> (first | (apply Cj.mk <;> first | exact trivial | intros) | skip)
      exact ⟨by omega, by omega⟩
  · obtain rfl : a = g.nk := by omega
    repeat' (first
      | (refine lvK (k := ?_); apply Cj.mk <;> first | exact trivial | intros)
      | (refine lvE (k := ?_); apply Cj.mk <;> first | exact trivial | intros)
      | fail)
end Go.Proofs.Ytceeabnmleemiaa
