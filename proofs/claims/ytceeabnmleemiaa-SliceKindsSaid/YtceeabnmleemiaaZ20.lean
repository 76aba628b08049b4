/- Contracts of functions of the program, proved by the checker; and plain laws. -/
import Derived.Test.YtceeabnmleemiaaZ19
import Derived.Test.YtceeabnmleemiaaZ18
set_option linter.unusedVariables false
set_option linter.unusedSimpArgs false
namespace Go.Proofs.Ytceeabnmleemiaa
open Go Go.Sk
set_option maxHeartbeats 1000000 in
set_option maxRecDepth 10000 in
theorem Keys_p (d : TypeDesc) (ks : List Value) (xs : List AV) : Fun Try.prog 27 [.mp d ks xs] [.ref 0] (.fn (.func 38) [] [.ptr 1 0]) [.mp d ks xs, .box [.ref 0]] := by
  refine fun_of tok D_ok Try.func27 rfl Try.ntmps27 Try.results27 (by kernel_rfl) (by simp) (by simp) ?_
  conv => whnf
  repeat' (first
    | (refine lvA (k := ?_); apply Cj.mk <;> first | exact trivial | intros)
    | (refine lvE (k := ?_); apply Cj.mk <;> first | exact trivial | intros)
    | fail)
end Go.Proofs.Ytceeabnmleemiaa
namespace Go.Proofs.Ytceeabnmleemiaa
open Go Go.Sk
def becS (b : Int) (x : Stp) : Bool := decide (x.op = 8) && decide (x.n = b)
def becP (b : Int) (p : List Stp) : Bool := p.any (becS b)
def Gm.becR (g : Gm) (a b : Int) : Bool := (nth g.kinds a).progs.any (becP b)
theorem any_succ {α : Type} [Inhabited α] {f : α → Bool} {l : List α} {i : Int} (h0 : 0 ≤ i) (h : i < l.length) : (l.take (i + 1).toNat).any f = ((l.take i.toNat).any f || f (nth l i)) := by
  rw [take_snoc h0 h, List.any_append]
  simp
theorem any_hit {α : Type} [Inhabited α] {f : α → Bool} {l : List α} {i : Int} (h0 : 0 ≤ i) (h : i < l.length) (hf : f (nth l i) = true) : l.any f = true := List.any_eq_true.2 ⟨_, nth_mem h0 h, hf⟩
set_option maxHeartbeats 4000000 in
set_option maxRecDepth 10000 in
theorem Rbec_p (g : Gm) (hg : g.ok) (a b : Int) (a0 : 0 ≤ a) (a1 : a < g.nk) : Pure Try.prog 25 [g.av, I a, I b] (Bo (g.becR a b)) none := by
  have ek : (g.kinds.map Kn).length = g.kinds.length := List.length_map _
  have hnk : (g.kinds.length : Int) = g.nk := rfl
  have epl : ((nth g.kinds a).progs.map Pg).length = (nth g.kinds a).progs.length := List.length_map _
  have k6 := hg.k6
  have hpl := hg.pl a a0 a1
  have hpg := hg.pg a a0 a1
  unfold Gm.becR
  refine fun_of tok D_ok Try.func25 rfl Try.ntmps25 Try.results25 (by kernel_rfl) (by simp) (by simp) ?_
  conv => whnf
  repeat' (first
    | (refine lvK (k := ?_); apply Cj.mk <;> first | exact trivial | intros)
    | (refine lvE (k := ?_); apply Cj.mk <;> first | exact trivial | intros)
    | fail)
  refine .of (fun i => [(7, I i)]) (fun i => []) 1 (fun i => 0 ≤ i ∧ i ≤ (nth g.kinds a).progs.length ∧ ((nth g.kinds a).progs.take i.toNat).any (becP b) = false) (fun i => ((nth g.kinds a).progs.length - i).toNat) 0 ?_
  conv => whnf
  refine ⟨⟨[], (by kernel_rfl), (by kernel_rfl), (by kernel_rfl), lvL (k := ?_), lvL (k := ?_)⟩, ?_, fun i ⟨i0, i1, hi0⟩ => lvN (k := ?_)⟩ <;> (first | (apply Cj.mk <;> first | exact trivial | intros) | skip)
  · exact ⟨by omega, by omega, rfl⟩
  by_cases hi : i < (nth g.kinds a).progs.length
  · have hp1 := hpg _ (nth_mem i0 hi)
    have hps := any_succ (f := becP b) i0 hi
    have hph := any_hit (f := becP b) i0 hi
    have ep : ((nth (nth g.kinds a).progs i).map St1).length = (nth (nth g.kinds a).progs i).length := List.length_map _
    have h8 := hp1.l8
    repeat' (first
      | (refine lvK (k := ?_); apply Cj.mk <;> first | exact trivial | intros)
      | (refine lvE (k := ?_); apply Cj.mk <;> first | exact trivial | intros)
      | fail)
    refine .of (fun k => [(9, I k)]) (fun k => []) 1 (fun k => 0 ≤ k ∧ k ≤ (nth (nth g.kinds a).progs i).length ∧ ((nth (nth g.kinds a).progs i).take k.toNat).any (becS b) = false) (fun k => ((nth (nth g.kinds a).progs i).length - k).toNat) 0 ?_
    conv => whnf
    refine ⟨⟨[], (by kernel_rfl), (by kernel_rfl), (by kernel_rfl), lvL (k := ?_), lvL (k := ?_)⟩, ?_, fun k ⟨k0, k1, hk0⟩ => lvN (k := ?_)⟩ <;> (first | (apply Cj.mk <;> first | exact trivial | intros) | skip)
    · exact ⟨by omega, by omega, rfl⟩
    by_cases hk : k < (nth (nth g.kinds a).progs i).length
    · have hst := hp1.st _ (nth_mem k0 hk)
      have hks := any_succ (f := becS b) k0 hk
      have hkh := any_hit (f := becS b) k0 hk
      by_cases ho : (nth (nth (nth g.kinds a).progs i) k).op = 8
      · by_cases hn : (nth (nth (nth g.kinds a).progs i) k).n = b
        · have : becS b (nth (nth (nth g.kinds a).progs i) k) = true := by unfold becS; simp [ho, hn]
          rw [hph (hkh this)]
          repeat' (first
            | (refine lvK (k := ?_); apply Cj.mk <;> first | exact trivial | intros)
            | (refine lvE (k := ?_); apply Cj.mk <;> first | exact trivial | intros)
            | fail)
        · have : becS b (nth (nth (nth g.kinds a).progs i) k) = false := by unfold becS; simp [hn]
          rw [this, hk0] at hks
          repeat' (first
            | (refine lvK (k := ?_); apply Cj.mk <;> first | exact trivial | intros)
            | (refine lvE (k := ?_); apply Cj.mk <;> first | exact trivial | intros)
            | fail)
          all_goals
            refine ⟨k + 1, ⟨[], (by kernel_rfl), (by kernel_rfl), (by kernel_rfl), lvL (k := ?_), lvL (k := ?_)⟩, ?_, by (try dsimp only); omega, rfl⟩ <;> (first | (apply Cj.mk <;> first | exact trivial | intros) | skip)
            · exact ⟨by omega, by omega, hks⟩
      · have : becS b (nth (nth (nth g.kinds a).progs i) k) = false := by unfold becS; simp [ho]
        rw [this, hk0] at hks
        repeat' (first
          | (refine lvK (k := ?_); apply Cj.mk <;> first | exact trivial | intros)
          | (refine lvE (k := ?_); apply Cj.mk <;> first | exact trivial | intros)
          | fail)
        all_goals
          refine ⟨k + 1, ⟨[], (by kernel_rfl), (by kernel_rfl), (by kernel_rfl), lvL (k := ?_), lvL (k := ?_)⟩, ?_, by (try dsimp only); omega, rfl⟩ <;> (first | (apply Cj.mk <;> first | exact trivial | intros) | skip)
          · exact ⟨by omega, by omega, hks⟩
    · obtain rfl : k = (nth (nth g.kinds a).progs i).length := by omega
      rw [take_all (Int.le_refl _)] at hk0
      have : becP b (nth (nth g.kinds a).progs i) = false := hk0
      rw [this, hi0] at hps
      repeat' (first
        | (refine lvK (k := ?_); apply Cj.mk <;> first | exact trivial | intros)
        | (refine lvE (k := ?_); apply Cj.mk <;> first | exact trivial | intros)
        | fail)
      all_goals
        refine ⟨i + 1, ⟨[], (by kernel_rfl), (by kernel_rfl), (by kernel_rfl), lvL (k := ?_), lvL (k := ?_)⟩, ?_, by (try dsimp only); omega, rfl⟩ <;> (first | (apply Cj.mk <;> first | exact trivial | intros) | skip)
        · exact ⟨by omega, by omega, hps⟩
  · obtain rfl : i = (nth g.kinds a).progs.length := by omega
    rw [take_all (Int.le_refl _)] at hi0
    rw [hi0]
    repeat' (first
      | (refine lvK (k := ?_); apply Cj.mk <;> first | exact trivial | intros)
      | (refine lvE (k := ?_); apply Cj.mk <;> first | exact trivial | intros)
      | fail)
end Go.Proofs.Ytceeabnmleemiaa
namespace Go.Proofs.Ytceeabnmleemiaa
open Go Go.Sk
theorem rep_I (n : Nat) : List.replicate n (AV.v ti3.zero) = (List.replicate n (0 : Int)).map I := by rw [List.map_replicate]; rfl
theorem map_ints_const (n c : Int) : (ints n).map (fun _ => c) = List.replicate n.toNat c := by
  rw [List.map_const', ints_len]
theorem set_map_ints {n k v : Int} {f f' : Int → Int} (k0 : 0 ≤ k) (k1 : k < n) (hv : f' k = v) (h : ∀ j, 0 ≤ j → j < n → j ≠ k → f' j = f j) : ((ints n).map f).set k.toNat v = (ints n).map f' := by
  have hl : ((ints n).map f).length = n.toNat := by rw [List.length_map, ints_len]
  have hl' : ((ints n).map f').length = n.toNat := by rw [List.length_map, ints_len]
  refine ext_nth (by rw [List.length_set, hl, hl']) fun j j0 j1 => ?_
  rw [List.length_set, hl] at j1
  rw [nth_set k0 j0 (by rw [hl]; omega), nth_map_ints j0 (by omega)]
  split
  · rename_i e; subst e; rw [nth_map_ints k0 k1, hv]
  · rename_i e; rw [nth_map_ints j0 (by omega), h j j0 (by omega) (fun e' => e e'.symm)]
theorem isMan_at {side j c : Int} (j0 : 0 ≤ j) (c0 : 0 ≤ c) (c1 : c ≤ 12) : isMan side j c = true ↔ 0 < c ∧ (c - 1) % 2 = side ∧ j = (c - 1) / 2 := by
  unfold isMan ofK ofS
  by_cases h : 1 ≤ c ∧ c ≤ 12
  · rw [if_pos h, if_pos h]; simp; omega
  · rw [if_neg h, if_neg h]; simp; omega
def cntR (g : Gm) (p : Ps) (side : Int) : List Int := (ints g.nk).map (menL p.ct side)
set_option maxHeartbeats 8000000 in
set_option maxRecDepth 10000 in
theorem Count_p (g : Gm) (hg : g.ok) (p : Ps) (hp : p.ok g) (side : Int) (hs : side = 0 ∨ side = 1) : Pure Try.prog 35 [g.av, p.av, I side] (Is (cntR g p side)) none := by
  have ek : (g.kinds.map Kn).length = g.kinds.length := List.length_map _
  have ec : (p.ct.map I).length = p.ct.length := List.length_map _
  have hnk : (g.kinds.length : Int) = g.nk := rfl
  have k1 := hg.k1
  have k6 := hg.k6
  have c9 := hg.c9
  have hcl := hp.len
  unfold cntR
  refine fun_of tok D_ok Try.func35 rfl Try.ntmps35 Try.results35 (by kernel_rfl) (by simp) (by simp) ?_
  conv => whnf
  repeat' (first
    | (refine lvK (k := ?_); apply Cj.mk <;> first | exact trivial | intros)
    | (refine lvE (k := ?_); apply Cj.mk <;> first | exact trivial | intros)
    | fail)
  refine .of (fun i => [(17, I i)]) (fun i => [(2, .arr 1 (((ints g.nk).map (menL (p.ct.take i.toNat) side)).map I))]) 3 (fun i => 0 ≤ i ∧ i ≤ p.ct.length) (fun i => (p.ct.length - i).toNat) 0 ?_
  conv => whnf
  refine ⟨⟨[], (by kernel_rfl), (by kernel_rfl), (by kernel_rfl), lvL (k := ?_), lvL (k := ?_)⟩, ?_, fun i ⟨i0, i1⟩ => lvN (k := ?_)⟩ <;> (first | (apply Cj.mk <;> first | exact trivial | intros) | skip)
  · have : (ints g.nk).map (menL (p.ct.take (Int.toNat 0)) side) = List.replicate g.nk.toNat 0 := map_ints_const g.nk 0
    rw [this, rep_I]
    congr 2
  · exact ⟨by omega, by omega⟩
  have hll : ((ints g.nk).map (menL (p.ct.take i.toNat) side)).length = g.nk.toNat := by rw [List.length_map, ints_len]
  by_cases hi : i < p.ct.length
  · have hci := hp.c i i0 (by omega)
    have hsu := fun j => menL_succ (side := side) (kind := j) i0 hi
    have him := fun j j0 => isMan_at (side := side) (j := j) j0 hci.1 (by omega)
    have hrg := fun j => menL_rg (p.ct.take i.toNat) side j
    rw [take_len i0 i1] at hrg
    by_cases hc : 0 < nth p.ct i ∧ (nth p.ct i - 1) % 2 = side
    · have hkn : nth ((ints g.nk).map (menL (p.ct.take i.toNat) side)) ((nth p.ct i - 1) / 2) = menL (p.ct.take i.toNat) side ((nth p.ct i - 1) / 2) := nth_map_ints (by omega) (by omega)
      have hrk := hrg ((nth p.ct i - 1) / 2)
      repeat' (first
        | (refine lvK (k := ?_); apply Cj.mk <;> first | exact trivial | intros)
        | (refine lvE (k := ?_); apply Cj.mk <;> first | exact trivial | intros)
        | fail)
      all_goals
        refine ⟨i + 1, ⟨[], (by kernel_rfl), (by kernel_rfl), (by kernel_rfl), lvL (k := ?_), lvL (k := ?_)⟩, ?_, by (try dsimp only); omega, rfl⟩ <;> (first | (apply Cj.mk <;> first | exact trivial | intros) | skip)
        · rw [hkn, set_map_ints (f' := menL (p.ct.take (i + 1).toNat) side) (by omega) (by omega) (by rw [hsu, if_pos ((him _ (by omega)).2 ⟨hc.1, hc.2, rfl⟩)]) fun j j0 j1 jn => by rw [hsu, if_neg (fun h => jn ((him j j0).1 h).2.2), Int.add_zero]]
        · exact ⟨by omega, by omega⟩
    · have hno : (ints g.nk).map (menL (p.ct.take (i + 1).toNat) side) = (ints g.nk).map (menL (p.ct.take i.toNat) side) := by
        apply List.map_congr_left
        intro j hj
        rw [hsu, if_neg (fun h => hc ⟨((him j (mem_ints.1 hj).1).1 h).1, ((him j (mem_ints.1 hj).1).1 h).2.1⟩), Int.add_zero]
      repeat' (first
        | (refine lvK (k := ?_); apply Cj.mk <;> first | exact trivial | intros)
        | (refine lvE (k := ?_); apply Cj.mk <;> first | exact trivial | intros)
        | fail)
      all_goals
        refine ⟨i + 1, ⟨[], (by kernel_rfl), (by kernel_rfl), (by kernel_rfl), lvL (k := ?_), lvL (k := ?_)⟩, ?_, by (try dsimp only); omega, rfl⟩ <;> (first | (apply Cj.mk <;> first | exact trivial | intros) | skip)
        · rw [hno]
        · exact ⟨by omega, by omega⟩
  · obtain rfl : i = p.ct.length := by omega
    rw [take_all (Int.le_refl _)]
    repeat' (first
      | (refine lvK (k := ?_); apply Cj.mk <;> first | exact trivial | intros)
      | (refine lvE (k := ?_); apply Cj.mk <;> first | exact trivial | intros)
      | fail)
def hdS (p : Ps) (s : Int) : List Int := if s = 0 then p.h0 else p.h1
def menK (p : Ps) (s k : Int) : Int := menL p.ct s k + nth (hdS p s) k
def menS (p : Ps) (s k : Int) : Int := ((ints k).map (menK p s)).sum
theorem menS_succ (p : Ps) (s : Int) {k : Int} (h : 0 ≤ k) : menS p s (k + 1) = menS p s k + menK p s k := by
  unfold menS
  rw [map_ints_succ h, List.sum_append]; simp
def menT (g : Gm) (p : Ps) : Int := menS p 0 g.nk + menS p 1 g.nk
def menN (g : Gm) (p : Ps) (s : Int) : Int := if s = 0 then 0 else if s = 1 then menS p 0 g.nk else menT g p
theorem menS_rg {g : Gm} (hg : g.ok) {p : Ps} (hp : p.ok g) {s : Int} : ∀ n : Nat, (n : Int) ≤ g.nk → 0 ≤ menS p s n ∧ menS p s n ≤ 17 * n
  | 0, _ => by simp [menS, ints]
  | n + 1, h => by
    have ih := menS_rg hg hp (s := s) n (by omega)
    have h1 := menS_succ p s (k := n) (by omega)
    have h2 := menL_rg p.ct s n
    have h3 : 0 ≤ nth (hdS p s) n ∧ nth (hdS p s) n ≤ 8 := by
      unfold hdS
      split
      · have := hp.h0.v n (by omega) (by omega); omega
      · have := hp.h1.v n (by omega) (by omega); omega
    have h4 := hp.len
    have h5 := hg.c9
    unfold menK at h1
    rw [show ((n + 1 : Nat) : Int) = (n : Int) + 1 from rfl, h1]
    omega
set_option maxHeartbeats 8000000 in
set_option maxRecDepth 10000 in
theorem menT_p (g : Gm) (hg : g.ok) (p : Ps) (hp : p.ok g) : Pure Try.prog 23 [g.av, p.av] (I (menT g p)) none := by
  have hc0 := Count_p g hg p hp 0 (.inl rfl)
  have hc1 := Count_p g hg p hp 1 (.inr rfl)
  have hl0 := hp.h0.len
  have hl1 := hp.h1.len
  have k1 := hg.k1
  have k6 := hg.k6
  have e0 : (p.h0.map I).length = p.h0.length := List.length_map _
  have e1 : (p.h1.map I).length = p.h1.length := List.length_map _
  have hcl : ∀ s, (cntR g p s).length = g.nk.toNat := fun s => by unfold cntR; rw [List.length_map, ints_len]
  have hcm : ∀ s, ((cntR g p s).map I).length = (cntR g p s).length := fun s => List.length_map _
  have hcn : ∀ s k : Int, 0 ≤ k → k < g.nk → nth (cntR g p s) k = menL p.ct s k := fun s k h0 h1 => nth_map_ints h0 h1
  have h4 := hp.len
  have h5 := hg.c9
  have hr : ∀ s k : Int, 0 ≤ k → k ≤ g.nk → 0 ≤ menS p s k ∧ menS p s k ≤ 17 * k := fun s k k0 k1 => by
    have := menS_rg hg hp (s := s) k.toNat (by omega)
    rwa [Int.toNat_of_nonneg k0] at this
  refine fun_of tok D_ok Try.func23 rfl Try.ntmps23 Try.results23 (by kernel_rfl) (by simp) (by simp) ?_
  conv => whnf
  repeat' (first
    | (refine lvK (k := ?_); apply Cj.mk <;> first | exact trivial | intros)
    | (refine lvE (k := ?_); apply Cj.mk <;> first | exact trivial | intros)
    | fail)
  refine .of (fun s => [(6, I s), (5, I (menN g p s))]) (fun s => []) 2 (fun s => 0 ≤ s ∧ s ≤ 2) (fun s => (2 - s).toNat) 0 ?_
  conv => whnf
  refine ⟨⟨[], (by kernel_rfl), (by kernel_rfl), (by kernel_rfl), lvL (k := ?_), lvL (k := ?_)⟩, ?_, fun s ⟨s0, s1⟩ => lvN (k := ?_)⟩ <;> (first | (apply Cj.mk <;> first | exact trivial | intros) | skip)
  · exact ⟨by omega, by omega⟩
  by_cases hs : s < 2
  · have hss : s = 0 ∨ s = 1 := by omega
    rcases hss with rfl | rfl
    · have hcls := hcl 0
      have hcms := hcm 0
      repeat' (first
        | (refine lvK (k := ?_); apply Cj.mk <;> first | exact trivial | intros)
        | (refine ⟨_, _, hc0, lvN (k := ?_)⟩; apply Cj.mk <;> first | exact trivial | intros)
        | (refine .inl ?_; (conv => whnf); refine ⟨_, _, hc0, lvN (k := ?_)⟩; apply Cj.mk <;> first | exact trivial | intros)
        | (refine lvE (k := ?_); apply Cj.mk <;> first | exact trivial | intros)
        | fail)
      refine .of (fun k => [(8, I k), (5, I (menN g p 0 + menS p 0 k))]) (fun k => []) 2 (fun k => 0 ≤ k ∧ k ≤ g.nk) (fun k => (g.nk - k).toNat) 0 ?_
      conv => whnf
      refine ⟨⟨[], (by kernel_rfl), (by kernel_rfl), (by kernel_rfl), lvL (k := ?_), lvL (k := ?_)⟩, ?_, fun k ⟨k0, k1⟩ => lvN (k := ?_)⟩ <;> (first | (apply Cj.mk <;> first | exact trivial | intros) | skip)
      all_goals (try rw [show menS p 0 0 = 0 from rfl, Int.add_zero])
      · exact ⟨by omega, by omega⟩
      have hrk := hr 0 k k0 k1
      have hrb : 0 ≤ menN g p 0 ∧ menN g p 0 ≤ 200 := by
        have := hr 0 g.nk (by omega) (by omega)
        unfold menN
        split
        · omega
        · split
          · omega
          · omega
      by_cases hk : k < g.nk
      · have hsu := menS_succ p 0 k0
        have hcnk := hcn 0 k k0 hk
        have hv := hp.h0.v k k0 hk
        have hml := menL_rg p.ct 0 k
        have hd : nth (hdS p 0) k = nth p.h0 k := rfl
        unfold menK at hsu
        repeat' (first
          | (refine lvK (k := ?_); apply Cj.mk <;> first | exact trivial | intros)
          | (refine lvE (k := ?_); apply Cj.mk <;> first | exact trivial | intros)
          | fail)
        all_goals
          refine ⟨k + 1, ⟨[], (by kernel_rfl), (by kernel_rfl), (by kernel_rfl), lvL (k := ?_), lvL (k := ?_)⟩, ?_, by (try dsimp only); omega, rfl⟩ <;> (first | (apply Cj.mk <;> first | exact trivial | intros) | skip)
          · congr 1; omega
          · exact ⟨by omega, by omega⟩
      · obtain rfl : k = g.nk := by omega
        repeat' (first
          | (refine lvK (k := ?_); apply Cj.mk <;> first | exact trivial | intros)
          | (refine lvE (k := ?_); apply Cj.mk <;> first | exact trivial | intros)
          | fail)
        all_goals
          refine ⟨0 + 1, ⟨[], (by kernel_rfl), (by kernel_rfl), (by kernel_rfl), lvL (k := ?_), lvL (k := ?_)⟩, ?_, by (try dsimp only); omega, rfl⟩ <;> (first | (apply Cj.mk <;> first | exact trivial | intros) | skip)
          all_goals first | exact ⟨by omega, by omega⟩ | (unfold menN menT; simp; done)
    · have hcls := hcl 1
      have hcms := hcm 1
      repeat' (first
        | (refine lvK (k := ?_); apply Cj.mk <;> first | exact trivial | intros)
        | (refine ⟨_, _, hc1, lvN (k := ?_)⟩; apply Cj.mk <;> first | exact trivial | intros)
        | (refine .inl ?_; (conv => whnf); refine ⟨_, _, hc1, lvN (k := ?_)⟩; apply Cj.mk <;> first | exact trivial | intros)
        | (refine lvE (k := ?_); apply Cj.mk <;> first | exact trivial | intros)
        | fail)
      refine .of (fun k => [(8, I k), (5, I (menN g p 1 + menS p 1 k))]) (fun k => []) 2 (fun k => 0 ≤ k ∧ k ≤ g.nk) (fun k => (g.nk - k).toNat) 0 ?_
      conv => whnf
      refine ⟨⟨[], (by kernel_rfl), (by kernel_rfl), (by kernel_rfl), lvL (k := ?_), lvL (k := ?_)⟩, ?_, fun k ⟨k0, k1⟩ => lvN (k := ?_)⟩ <;> (first | (apply Cj.mk <;> first | exact trivial | intros) | skip)
      all_goals (try rw [show menS p 1 0 = 0 from rfl, Int.add_zero])
      · exact ⟨by omega, by omega⟩
      have hrk := hr 1 k k0 k1
      have hrb : 0 ≤ menN g p 1 ∧ menN g p 1 ≤ 200 := by
        have := hr 0 g.nk (by omega) (by omega)
        unfold menN
        split
        · omega
        · split
          · omega
          · omega
      by_cases hk : k < g.nk
      · have hsu := menS_succ p 1 k0
        have hcnk := hcn 1 k k0 hk
        have hv := hp.h1.v k k0 hk
        have hml := menL_rg p.ct 1 k
        have hd : nth (hdS p 1) k = nth p.h1 k := rfl
        unfold menK at hsu
        repeat' (first
          | (refine lvK (k := ?_); apply Cj.mk <;> first | exact trivial | intros)
          | (refine lvE (k := ?_); apply Cj.mk <;> first | exact trivial | intros)
          | fail)
        all_goals
          refine ⟨k + 1, ⟨[], (by kernel_rfl), (by kernel_rfl), (by kernel_rfl), lvL (k := ?_), lvL (k := ?_)⟩, ?_, by (try dsimp only); omega, rfl⟩ <;> (first | (apply Cj.mk <;> first | exact trivial | intros) | skip)
          · congr 1; omega
          · exact ⟨by omega, by omega⟩
      · obtain rfl : k = g.nk := by omega
        repeat' (first
          | (refine lvK (k := ?_); apply Cj.mk <;> first | exact trivial | intros)
          | (refine lvE (k := ?_); apply Cj.mk <;> first | exact trivial | intros)
          | fail)
        all_goals
          refine ⟨1 + 1, ⟨[], (by kernel_rfl), (by kernel_rfl), (by kernel_rfl), lvL (k := ?_), lvL (k := ?_)⟩, ?_, by (try dsimp only); omega, rfl⟩ <;> (first | (apply Cj.mk <;> first | exact trivial | intros) | skip)
          all_goals first | exact ⟨by omega, by omega⟩ | (unfold menN menT; simp; done)
  · obtain rfl : s = 2 := by omega
    have : menN g p 2 = menT g p := rfl
    rw [this]
    repeat' (first
      | (refine lvK (k := ?_); apply Cj.mk <;> first | exact trivial | intros)
      | (refine lvE (k := ?_); apply Cj.mk <;> first | exact trivial | intros)
      | fail)
end Go.Proofs.Ytceeabnmleemiaa
