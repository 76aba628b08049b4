/- Contracts of functions of the program, proved by the checker; and plain laws. -/
import Derived.Test.YtceeabnmleemiaaZ18
set_option linter.unusedVariables false
set_option linter.unusedSimpArgs false
namespace Go.Proofs.Ytceeabnmleemiaa
open Go Go.Sk
def popP (r i : Int) : Int := ((ints i).map (bitR r)).sum
theorem popP_succ {r i : Int} (h0 : 0 ≤ i) : popP r (i + 1) = popP r i + bitR r i := by
  unfold popP
  rw [ints_succ h0, List.map_append, List.sum_append]
  simp
theorem bitR_rg (r i : Int) : 0 ≤ bitR r i ∧ bitR r i ≤ 1 := by
  unfold bitR
  omega
theorem popP_4 (r : Int) : popP r 4 = popR r := by
  have h : ints 4 = [0, 1, 2, 3] := by decide
  unfold popP popR
  rw [h]
  simp only [List.map_cons, List.map_nil, List.sum_cons, List.sum_nil, bitR]
  have e0 : (2 : Int) ^ Int.toNat 0 = 1 := by decide
  have e1 : (2 : Int) ^ Int.toNat 1 = 2 := by decide
  have e2 : (2 : Int) ^ Int.toNat 2 = 4 := by decide
  have e3 : (2 : Int) ^ Int.toNat 3 = 8 := by decide
  rw [e0, e1, e2, e3]
  omega
theorem popP_rg (r : Int) : ∀ n : Nat, 0 ≤ popP r n ∧ popP r n ≤ n
  | 0 => by simp [popP, ints]
  | n + 1 => by
    have h := popP_rg r n
    have h1 := bitR_rg r n
    have h2 := popP_succ (r := r) (i := n) (by omega)
    rw [show ((n + 1 : Nat) : Int) = (n : Int) + 1 from rfl, h2]
    omega
set_option maxHeartbeats 4000000 in
set_option maxRecDepth 10000 in
theorem RLevel_p (g : Gm) (hg : g.ok) (m : List Int) (hm : MsOk g m) (p : Ps) (hp : p.ok g) : Pure Try.prog 16 [msAv m, p.av] (I (levR m p)) none := by
  have em : (m.map I).length = m.length := List.length_map _
  have ec : (p.ct.map I).length = p.ct.length := List.length_map _
  have e0 : (p.h0.map I).length = p.h0.length := List.length_map _
  have e1 : (p.h1.map I).length = p.h1.length := List.length_map _
  have hml := hm.len
  have hcl := hp.len
  have h0l := hp.h0.len
  have h1l := hp.h1.len
  have k6 := hg.k6
  have c9 := hg.c9
  have hr0 := hp.r0
  have hr1 : p.rights < 16 := by
    have := hp.r1
    have h4 := hg.r4
    have : (2 : Int) ^ g.rights.toNat ≤ 2 ^ 4 := by exact_mod_cast Nat.pow_le_pow_right (by decide) (by omega)
    omega
  have hcs := hp.mem
  unfold msAv
  refine fun_of tok D_ok Try.func16 rfl Try.ntmps16 Try.results16 (by kernel_rfl) (by simp) (by simp) ?_
  conv => whnf
  repeat' (first
    | (refine lvK (k := ?_); apply Cj.mk <;> first | exact trivial | intros)
    | (refine lvE (k := ?_); apply Cj.mk <;> first | exact trivial | intros)
    | fail)
  refine .of (fun i => [(6, I i), (5, I (levB m (p.ct.take i.toNat)))]) (fun i => []) 2 (fun i => 0 ≤ i ∧ i ≤ p.ct.length) (fun i => (p.ct.length - i).toNat) 0 ?_
  conv => whnf
  refine ⟨⟨[], (by kernel_rfl), (by kernel_rfl), (by kernel_rfl), lvL (k := ?_), lvL (k := ?_)⟩, ?_, fun i ⟨i0, i1⟩ => lvN (k := ?_)⟩ <;> (first | (apply Cj.mk <;> first | exact trivial | intros) | skip)
  · exact ⟨by omega, by omega⟩
  have hlb := levB_rg (ct := []) hg hm (l := p.ct.take i.toNat) fun c hc => hcs c (List.mem_of_mem_take hc)
  rw [List.length_take] at hlb
  by_cases hi : i < p.ct.length
  · have hci := hp.c i i0 (by omega)
    have hof := Of_p (nth p.ct i) (by omega)
    have hsu := levB_succ (m := m) i0 hi
    have hok : nth p.ct i ≠ 0 → 0 ≤ ofK (nth p.ct i) ∧ ofK (nth p.ct i) < m.length ∧ wt m (nth p.ct i) = nth m (ofK (nth p.ct i)) := fun h => by
      have h1 : 0 ≤ ofK (nth p.ct i) ∧ ofK (nth p.ct i) < m.length := by
        unfold ofK
        rw [if_pos (by omega)]
        omega
      exact ⟨h1.1, h1.2, by unfold wt; rw [if_pos h1.1]⟩
    have hno : nth p.ct i = 0 → wt m (nth p.ct i) = 0 := fun h => by rw [h]; rfl
    have hwr := wt_rg hg hm hci.1 hci.2
    generalize ofK (nth p.ct i) = k at *
    by_cases hz : nth p.ct i = 0
    · have hno := hno hz
      repeat' (first
        | (refine lvK (k := ?_); apply Cj.mk <;> first | exact trivial | intros)
        | (refine lvE (k := ?_); apply Cj.mk <;> first | exact trivial | intros)
        | fail)
      all_goals
        refine ⟨i + 1, ⟨[], (by kernel_rfl), (by kernel_rfl), (by kernel_rfl), lvL (k := ?_), lvL (k := ?_)⟩, ?_, by (try dsimp only); omega, rfl⟩ <;> (first | (apply Cj.mk <;> first | exact trivial | intros) | skip)
        · rw [hsu, hno, Int.add_zero]
        · exact ⟨by omega, by omega⟩
    · have hok := hok hz
      repeat' (first
        | (refine lvK (k := ?_); apply Cj.mk <;> first | exact trivial | intros)
        | (refine ⟨_, _, hof, lvN (k := ?_)⟩; apply Cj.mk <;> first | exact trivial | intros)
        | (refine .inl ?_; (conv => whnf); refine ⟨_, _, hof, lvN (k := ?_)⟩; apply Cj.mk <;> first | exact trivial | intros)
        | (refine lvE (k := ?_); apply Cj.mk <;> first | exact trivial | intros)
        | fail)
      all_goals (try (exfalso; omega))
      all_goals
        refine ⟨i + 1, ⟨[], (by kernel_rfl), (by kernel_rfl), (by kernel_rfl), lvL (k := ?_), lvL (k := ?_)⟩, ?_, by (try dsimp only); omega, rfl⟩ <;> (first | (apply Cj.mk <;> first | exact trivial | intros) | skip)
        · rw [hsu, hok.2.2]
        · exact ⟨by omega, by omega⟩
  · obtain rfl : i = p.ct.length := by omega
    rw [take_all (Int.le_refl _)] at hlb
    rw [take_all (Int.le_refl _)]
    repeat' (first
      | (refine lvK (k := ?_); apply Cj.mk <;> first | exact trivial | intros)
      | (refine lvE (k := ?_); apply Cj.mk <;> first | exact trivial | intros)
      | fail)
    refine .of (fun k => [(7, I k), (5, I (levB m p.ct + levH m p.h0 p.h1 k))]) (fun k => []) 2 (fun k => 0 ≤ k ∧ k ≤ m.length) (fun k => (m.length - k).toNat) 0 ?_
    conv => whnf
    refine ⟨⟨[], (by kernel_rfl), (by kernel_rfl), (by kernel_rfl), lvL (k := ?_), lvL (k := ?_)⟩, ?_, fun k ⟨k0, k1⟩ => lvN (k := ?_)⟩ <;> (first | (apply Cj.mk <;> first | exact trivial | intros) | skip)
    · rw [show levH m p.h0 p.h1 0 = 0 from rfl, Int.add_zero]
    · exact ⟨by omega, by omega⟩
    have hlh := levH_rg hm hp.h0 hp.h1 (k := k.toNat) (by omega)
    rw [Int.toNat_of_nonneg k0] at hlh
    by_cases hk : k < m.length
    · have hhs := levH_succ (m := m) (a := p.h0) (b := p.h1) k0
      have hhr := hw_rg hm hp.h0 hp.h1 k0 (by omega)
      have hmv := hm.v k k0 (by omega)
      have hav := hp.h0.v k k0 (by omega)
      have hbv := hp.h1.v k k0 (by omega)
      unfold hw at hhs hhr
      repeat' (first
        | (refine lvK (k := ?_); apply Cj.mk <;> first | exact trivial | intros)
        | (refine lvE (k := ?_); apply Cj.mk <;> first | exact trivial | intros)
        | fail)
      all_goals (try (exfalso; omega))
      all_goals
        refine ⟨k + 1, ⟨[], (by kernel_rfl), (by kernel_rfl), (by kernel_rfl), lvL (k := ?_), lvL (k := ?_)⟩, ?_, by (try dsimp only); omega, rfl⟩ <;> (first | (apply Cj.mk <;> first | exact trivial | intros) | skip)
        · congr 1; rw [hhs]; omega
        · exact ⟨by omega, by omega⟩
    · obtain rfl : k = m.length := by omega
      repeat' (first
        | (refine lvK (k := ?_); apply Cj.mk <;> first | exact trivial | intros)
        | (refine lvE (k := ?_); apply Cj.mk <;> first | exact trivial | intros)
        | fail)
      refine .of (fun j => [(8, I j), (5, I (levB m p.ct + levH m p.h0 p.h1 m.length + popP p.rights j))]) (fun j => []) 2 (fun j => 0 ≤ j ∧ j ≤ 4) (fun j => (4 - j).toNat) 0 ?_
      conv => whnf
      refine ⟨⟨[], (by kernel_rfl), (by kernel_rfl), (by kernel_rfl), lvL (k := ?_), lvL (k := ?_)⟩, ?_, fun j ⟨j0, j1⟩ => lvN (k := ?_)⟩ <;> (first | (apply Cj.mk <;> first | exact trivial | intros) | skip)
      · rw [show popP p.rights 0 = 0 from rfl, Int.add_zero]
      · exact ⟨by omega, by omega⟩
      have hpp := popP_rg p.rights j.toNat
      rw [Int.toNat_of_nonneg j0] at hpp
      by_cases hj : j < 4
      · have hps := popP_succ (r := p.rights) j0
        have hbr := bitR_rg p.rights j
        unfold bitR at hps hbr
        repeat' (first
          | (refine lvK (k := ?_); apply Cj.mk <;> first | exact trivial | intros)
          | (refine lvE (k := ?_); apply Cj.mk <;> first | exact trivial | intros)
          | fail)
        all_goals (try (exfalso; omega))
        all_goals
          refine ⟨j + 1, ⟨[], (by kernel_rfl), (by kernel_rfl), (by kernel_rfl), lvL (k := ?_), lvL (k := ?_)⟩, ?_, by (try dsimp only); omega, rfl⟩ <;> (first | (apply Cj.mk <;> first | exact trivial | intros) | skip)
          · congr 1; rw [hps]; omega
          · exact ⟨by omega, by omega⟩
      · obtain rfl : j = 4 := by omega
        unfold levR
        rw [popP_4]
        repeat' (first
          | (refine lvK (k := ?_); apply Cj.mk <;> first | exact trivial | intros)
          | (refine lvE (k := ?_); apply Cj.mk <;> first | exact trivial | intros)
          | fail)
set_option maxHeartbeats 4000000 in
set_option maxRecDepth 10000 in
theorem Leaves_p (g : Gm) (hg : g.ok) (m : List Int) (hm : MsOk g m) (p q : Ps) (hp : p.ok g) (hq : q.ok g) : Pure Try.prog 17 [msAv m, p.av, q.av] (Bo (decide (levR m q < levR m p))) none := by
  have l1 := Level_p g hg m hm p hp
  have l2 := Level_p g hg m hm q hq
  unfold msAv at *
  refine fun_of tok D_ok Try.func17 rfl Try.ntmps17 Try.results17 (by kernel_rfl) (by simp) (by simp) ?_
  conv => whnf
  repeat' (first
    | (refine lvA (k := ?_); apply Cj.mk <;> first | exact trivial | intros)
    | (refine ⟨_, _, l1, lvN (k := ?_)⟩; apply Cj.mk <;> first | exact trivial | intros)
    | (refine .inl ?_; (conv => whnf); refine ⟨_, _, l1, lvN (k := ?_)⟩; apply Cj.mk <;> first | exact trivial | intros)
    | (refine ⟨_, _, l2, lvN (k := ?_)⟩; apply Cj.mk <;> first | exact trivial | intros)
    | (refine .inl ?_; (conv => whnf); refine ⟨_, _, l2, lvN (k := ?_)⟩; apply Cj.mk <;> first | exact trivial | intros)
    | (refine lvE (k := ?_); apply Cj.mk <;> first | exact trivial | intros)
    | fail)
end Go.Proofs.Ytceeabnmleemiaa
