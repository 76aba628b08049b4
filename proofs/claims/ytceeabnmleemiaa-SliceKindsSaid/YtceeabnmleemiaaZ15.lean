/- Contracts of functions of the program, proved by the checker; and plain laws. -/
import Derived.Test.YtceeabnmleemiaaZ14
set_option linter.unusedVariables false
set_option linter.unusedSimpArgs false
namespace Go.Proofs.Ytceeabnmleemiaa
open Go Go.Sk
def Gm.mustR (g : Gm) (l : List Oc) : Bool := l.any fun o => g.must && o.took
def Gm.keptR (g : Gm) (must : Bool) (l : List Oc) : List Ps := (l.filter fun o => !must || o.took).map (·.p)
def Gm.movesR (g : Gm) (p : Ps) : List Ps :=
  if g.endedR p ≥ 0 then [] else canon cmpP (g.keptR (g.mustR (g.outsR p)) (g.outsR p) ++ (if g.mustR (g.outsR p) then [] else canon cmpP (g.dropsL p)))
theorem keptR_ok {g : Gm} (hg : g.ok) {p : Ps} (h : p.ok g) {b : Bool} {q : Ps} (hq : q ∈ g.keptR b (g.outsR p)) : q.ok g := by
  obtain ⟨o, ho, rfl⟩ := List.mem_map.1 hq
  exact outsR_ok hg h (List.mem_filter.1 ho).1
theorem movesR_ok {g : Gm} (hg : g.ok) {p : Ps} (h : p.ok g) {q : Ps} (hq : q ∈ g.movesR p) : q.ok g := by
  unfold Gm.movesR at hq
  split at hq
  · simp at hq
  · rcases List.mem_append.1 ((mem_canon cmpP_tot).1 hq) with hq | hq
    · exact keptR_ok hg h hq
    · split at hq
      · simp at hq
      · exact dropsL_ok hg h ((mem_canon cmpP_tot).1 hq)
theorem keptR_succ (g : Gm) (b : Bool) {l : List Oc} {i : Int} (h0 : 0 ≤ i) (h : i < l.length) : g.keptR b (l.take (i + 1).toNat) = g.keptR b (l.take i.toNat) ++ (if !b || (nth l i).took then [(nth l i).p] else []) := by
  unfold Gm.keptR
  rw [take_snoc h0 h, List.filter_append, List.map_append]
  congr 1
  cases hc : (!b || (nth l i).took) <;> simp [List.filter, hc]
theorem keptR_len (g : Gm) (b : Bool) (l : List Oc) : (g.keptR b l).length ≤ l.length := by
  unfold Gm.keptR
  rw [List.length_map]
  exact List.length_filter_le _ _
theorem mustR_succ (g : Gm) {l : List Oc} {i : Int} (h0 : 0 ≤ i) (h : i < l.length) : g.mustR (l.take (i + 1).toNat) = (g.mustR (l.take i.toNat) || (g.must && (nth l i).took)) := by
  unfold Gm.mustR
  rw [take_snoc h0 h, List.any_append]
  simp
theorem dropsL_len {g : Gm} (hg : g.ok) (p : Ps) : (g.dropsL p).length ≤ 54 := by
  have hnk : g.nk = g.kinds.length := rfl
  have k6 := hg.k6
  have c9 := hg.c9
  have h1 := dropK_len p g.b.cells g.kinds.length
  have h2 : g.kinds.length * g.b.cells.toNat ≤ 6 * 9 := Nat.mul_le_mul (by omega) (by omega)
  unfold Gm.dropsL
  rw [hnk]; omega
theorem outsR_len {g : Gm} (hg : g.ok) {p : Ps} (h : p.ok g) : (g.outsR p).length ≤ 3099363912 := by
  have c9 := hg.c9
  have c1 := hg.b.c1
  have := outsN_len hg h g.b.cells.toNat (by omega)
  unfold Gm.outsR
  rw [show ((g.b.cells.toNat : Nat) : Int) = g.b.cells by omega] at this
  omega
set_option maxHeartbeats 4000000 in
set_option maxRecDepth 10000 in
theorem Moves6_p (g : Gm) (hg : g.ok) (p : Ps) (h : p.ok g) : Pure Try.prog 42 [g.av, p.av] (Pss (g.movesR p)) none := by
  have hen := Ended_p g hg p h
  have hou := Outcomes_p g hg p h
  have hdr := Drops_p g hg p h
  have hol := outsR_len hg h
  have hdl := dropsL_len hg p
  have hcl := canon_len (c := cmpP) (g.dropsL p)
  have hkl := fun b => keptR_len g b (g.outsR p)
  have hall : ∀ b : Bool, ∀ q, q ∈ g.keptR b (g.outsR p) ++ (if b then [] else canon cmpP (g.dropsL p)) → q.small := fun b q hq => by
    rcases List.mem_append.1 hq with hq | hq
    · exact (keptR_ok hg h hq).small hg
    · split at hq
      · simp at hq
      · exact (dropsL_ok hg h ((mem_canon cmpP_tot).1 hq)).small hg
  have hsort := R4Sort_p (g.keptR (g.mustR (g.outsR p)) (g.outsR p) ++ (if g.mustR (g.outsR p) then [] else canon cmpP (g.dropsL p))) (by
    have := hkl (g.mustR (g.outsR p))
    rw [List.length_append]
    split
    · simp only [List.length_nil]; omega
    · omega) (hall _)
  unfold Gm.movesR
  clear hall
  generalize canon cmpP (g.dropsL p) = dl at *
  generalize g.outsR p = l at *
  generalize g.endedR p = e at *
  have el : (l.map Ou).length = l.length := List.length_map _
  have edl : (dl.map Ps.av).length = dl.length := List.length_map _
  refine fun_of tok D_ok Try.func42 rfl Try.ntmps42 Try.results42 (by kernel_rfl) (by simp) (by simp) ?_
  conv => whnf
  by_cases he : e ≥ 0
  · rw [if_pos he]
    repeat' (first
      | (refine lvK (k := ?_); apply Cj.mk <;> first | exact trivial | intros)
      | (refine ⟨_, _, hen, lvN (k := ?_)⟩; apply Cj.mk <;> first | exact trivial | intros)
      | (refine .inl ?_; (conv => whnf); refine ⟨_, _, hen, lvN (k := ?_)⟩; apply Cj.mk <;> first | exact trivial | intros)
      | (refine lvE (k := ?_); apply Cj.mk <;> first | exact trivial | intros)
      | fail)
  · rw [if_neg he]
    repeat' (first
      | (refine lvK (k := ?_); apply Cj.mk <;> first | exact trivial | intros)
      | (refine ⟨_, _, hen, lvN (k := ?_)⟩; apply Cj.mk <;> first | exact trivial | intros)
      | (refine .inl ?_; (conv => whnf); refine ⟨_, _, hen, lvN (k := ?_)⟩; apply Cj.mk <;> first | exact trivial | intros)
      | (refine ⟨_, _, hou, lvN (k := ?_)⟩; apply Cj.mk <;> first | exact trivial | intros)
      | (refine .inl ?_; (conv => whnf); refine ⟨_, _, hou, lvN (k := ?_)⟩; apply Cj.mk <;> first | exact trivial | intros)
      | (refine lvE (k := ?_); apply Cj.mk <;> first | exact trivial | intros)
      | fail)
    refine .of (fun i => [(8, I i), (7, Bo (g.mustR (l.take i.toNat)))]) (fun i => []) 2 (fun i => 0 ≤ i ∧ i ≤ l.length) (fun i => (l.length - i).toNat) 0 ?_
    conv => whnf
    refine ⟨⟨[], (by kernel_rfl), (by kernel_rfl), (by kernel_rfl), lvL (k := ?_), lvL (k := ?_)⟩, ?_, fun i ⟨i0, i1⟩ => lvN (k := ?_)⟩ <;> (first | (apply Cj.mk <;> first | exact trivial | intros) | skip)
    · exact ⟨by omega, by omega⟩
    by_cases hi : i < l.length
    · have hsu := mustR_succ g i0 hi
      generalize g.mustR (l.take i.toNat) = m at *
      cases m with
      | true =>
        rw [Bool.true_or] at hsu
        repeat' (first
          | (refine lvK (k := ?_); apply Cj.mk <;> first | exact trivial | intros)
          | (refine lvE (k := ?_); apply Cj.mk <;> first | exact trivial | intros)
          | fail)
        refine ⟨i + 1, ⟨[], (by kernel_rfl), (by kernel_rfl), (by kernel_rfl), lvL (k := ?_), lvL (k := ?_)⟩, ?_, by (try dsimp only); omega, rfl⟩ <;> (first | (apply Cj.mk <;> first | exact trivial | intros) | skip)
        · rw [hsu]
        · exact ⟨by omega, by omega⟩
      | false =>
        rw [Bool.false_or] at hsu
        repeat' (first
          | (refine lvK (k := ?_); apply Cj.mk <;> first | exact trivial | intros)
          | (refine lvE (k := ?_); apply Cj.mk <;> first | exact trivial | intros)
          | fail)
        all_goals
          refine ⟨i + 1, ⟨[], (by kernel_rfl), (by kernel_rfl), (by kernel_rfl), lvL (k := ?_), lvL (k := ?_)⟩, ?_, by (try dsimp only); omega, rfl⟩ <;> (first | (apply Cj.mk <;> first | exact trivial | intros) | skip)
          · rw [hsu]; simp_all
          · exact ⟨by omega, by omega⟩
    · obtain rfl : i = l.length := by omega
      rw [take_all (Int.le_refl _)]
      generalize g.mustR l = m at *
      have hkl' := hkl m
      repeat' (first
        | (refine lvK (k := ?_); apply Cj.mk <;> first | exact trivial | intros)
        | (refine lvE (k := ?_); apply Cj.mk <;> first | exact trivial | intros)
        | fail)
      refine .of (fun i => [(9, I i), (6, .ref 2)]) (fun i => [(2, .arr 5 ((g.keptR m (l.take i.toNat)).map Ps.av))]) 3 (fun i => 0 ≤ i ∧ i ≤ l.length) (fun i => (l.length - i).toNat) 0 ?_
      conv => whnf
      refine ⟨⟨[], (by kernel_rfl), (by kernel_rfl), (by kernel_rfl), lvL (k := ?_), lvL (k := ?_)⟩, ?_, fun i ⟨j0, j1⟩ => lvN (k := ?_)⟩ <;> (first | (apply Cj.mk <;> first | exact trivial | intros) | skip)
      · exact ⟨by omega, by omega⟩
      have hkt := keptR_len g m (l.take i.toNat)
      rw [List.length_take] at hkt
      by_cases hi : i < l.length
      · have hsu := keptR_succ g m j0 hi
        cases m with
        | false =>
          simp only [Bool.not_false, Bool.true_or, if_true] at hsu
          repeat' (first
            | (refine lvK (k := ?_); apply Cj.mk <;> first | exact trivial | intros)
            | (refine ap1 (f := Ps.av) (a := (nth l i).p) (by decide) (by omega) rfl rfl (lvN (k := ?_)); apply Cj.mk <;> first | exact trivial | intros)
            | (refine lvE (k := ?_); apply Cj.mk <;> first | exact trivial | intros)
            | fail)
          refine ⟨i + 1, ⟨[], (by kernel_rfl), (by kernel_rfl), (by kernel_rfl), lvL (k := ?_), lvL (k := ?_)⟩, ?_, by (try dsimp only); omega, rfl⟩ <;> (first | (apply Cj.mk <;> first | exact trivial | intros) | skip)
          · rw [hsu]
          · exact ⟨by omega, by omega⟩
        | true =>
          cases ht : (nth l i).took with
          | true =>
            simp only [Bool.not_true, Bool.false_or, ht, if_true] at hsu
            repeat' (first
              | (refine lvK (k := ?_); apply Cj.mk <;> first | exact trivial | intros)
              | (refine ap1 (f := Ps.av) (a := (nth l i).p) (by decide) (by omega) rfl rfl (lvN (k := ?_)); apply Cj.mk <;> first | exact trivial | intros)
              | (refine lvE (k := ?_); apply Cj.mk <;> first | exact trivial | intros)
              | fail)
            all_goals (try (exfalso; simp_all; done))
            refine ⟨i + 1, ⟨[], (by kernel_rfl), (by kernel_rfl), (by kernel_rfl), lvL (k := ?_), lvL (k := ?_)⟩, ?_, by (try dsimp only); omega, rfl⟩ <;> (first | (apply Cj.mk <;> first | exact trivial | intros) | skip)
            · rw [hsu]
            · exact ⟨by omega, by omega⟩
          | false =>
            simp only [Bool.not_true, Bool.false_or, ht, Bool.false_eq_true, if_false, List.append_nil] at hsu
            repeat' (first
              | (refine lvK (k := ?_); apply Cj.mk <;> first | exact trivial | intros)
              | (refine ap1 (f := Ps.av) (a := (nth l i).p) (by decide) (by omega) rfl rfl (lvN (k := ?_)); apply Cj.mk <;> first | exact trivial | intros)
              | (refine lvE (k := ?_); apply Cj.mk <;> first | exact trivial | intros)
              | fail)
            all_goals (try (exfalso; simp_all; done))
            refine ⟨i + 1, ⟨[], (by kernel_rfl), (by kernel_rfl), (by kernel_rfl), lvL (k := ?_), lvL (k := ?_)⟩, ?_, by (try dsimp only); omega, rfl⟩ <;> (first | (apply Cj.mk <;> first | exact trivial | intros) | skip)
            · rw [hsu]
            · exact ⟨by omega, by omega⟩
      · obtain rfl : i = l.length := by omega
        rw [take_all (Int.le_refl _)]
        cases m with
        | true =>
          rw [if_pos rfl, List.append_nil] at hsort ⊢
          repeat' (first
            | (refine lvK (k := ?_); apply Cj.mk <;> first | exact trivial | intros)
            | (refine .inr (.inl ?_); (conv => whnf); refine ⟨_, _, hsort, lvN (k := ?_)⟩; apply Cj.mk <;> first | exact trivial | intros)
            | (refine lvE (k := ?_); apply Cj.mk <;> first | exact trivial | intros)
            | fail)
        | false =>
          rw [if_neg (by decide)] at hsort ⊢
          repeat' (first
            | (refine lvK (k := ?_); apply Cj.mk <;> first | exact trivial | intros)
            | (refine ⟨_, _, hdr, lvN (k := ?_)⟩; apply Cj.mk <;> first | exact trivial | intros)
            | (refine .inl ?_; (conv => whnf); refine ⟨_, _, hdr, lvN (k := ?_)⟩; apply Cj.mk <;> first | exact trivial | intros)
            | (refine .inr (.inl ?_); (conv => whnf); refine ⟨_, _, hsort, lvN (k := ?_)⟩; apply Cj.mk <;> first | exact trivial | intros)
            | (refine lvE (k := ?_); apply Cj.mk <;> first | exact trivial | intros)
            | fail)
end Go.Proofs.Ytceeabnmleemiaa
namespace Go.Proofs.Ytceeabnmleemiaa
open Go Go.Sk
def Gm.walkR (g : Gm) : List Int → Ps → List Ps
  | [], _ => []
  | x :: r, p => if (g.movesR p).length = 0 then [] else nth (g.movesR p) (x % (g.movesR p).length) :: g.walkR r (nth (g.movesR p) (x % (g.movesR p).length))
theorem walkR_end {g : Gm} {x : Int} {r : List Int} {p : Ps} (h : (g.movesR p).length = 0) : g.walkR (x :: r) p = [] := if_pos h
theorem walkR_go {g : Gm} {x : Int} {r : List Int} {p : Ps} (h : ¬ (g.movesR p).length = 0) : g.walkR (x :: r) p = nth (g.movesR p) (x % (g.movesR p).length) :: g.walkR r (nth (g.movesR p) (x % (g.movesR p).length)) := if_neg h
theorem walkR_ok {g : Gm} (hg : g.ok) : ∀ (l : List Int) {p : Ps}, p.ok g → ∀ q, q ∈ g.walkR l p → q.ok g
  | [], p, _, q, hq => by simp [Gm.walkR] at hq
  | x :: r, p, h, q, hq => by
    by_cases hm : (g.movesR p).length = 0
    · rw [walkR_end hm] at hq; simp at hq
    · rw [walkR_go hm] at hq
      have m0 := Int.emod_nonneg x (show ((g.movesR p).length : Int) ≠ 0 by omega)
      have m1 := Int.emod_lt_of_pos x (show 0 < ((g.movesR p).length : Int) by omega)
      have hk := movesR_ok hg h (nth_mem m0 m1)
      rcases List.mem_cons.1 hq with rfl | hq
      · exact hk
      · exact walkR_ok hg r hk q hq
theorem walkR_len (g : Gm) : ∀ (l : List Int) (p : Ps), (g.walkR l p).length ≤ l.length
  | [], p => by simp [Gm.walkR]
  | x :: r, p => by
    by_cases hm : (g.movesR p).length = 0
    · rw [walkR_end hm]; simp
    · rw [walkR_go hm]
      have := walkR_len g r (nth (g.movesR p) (x % (g.movesR p).length))
      simp only [List.length_cons]; omega
theorem tmod_fix {x n : Int} (hn : 0 < n) : -n < x.tmod n ∧ x.tmod n < n ∧ (x.tmod n < 0 → x.tmod n + n = x % n) ∧ (¬ x.tmod n < 0 → x.tmod n = x % n) := by
  have h1 := Int.emod_nonneg x (show n ≠ 0 by omega)
  have h2 := Int.emod_lt_of_pos x hn
  have h3 := Int.tmod_eq_emod (a := x) (b := n)
  have h4 : (n.natAbs : Int) = n := by omega
  split at h3
  · omega
  · omega
theorem movesR_len {g : Gm} (hg : g.ok) {p : Ps} (h : p.ok g) : (g.movesR p).length ≤ 3099363966 := by
  have h1 := outsR_len hg h
  have h2 := dropsL_len hg p
  have h3 := canon_len (c := cmpP) (g.dropsL p)
  have h4 := keptR_len g (g.mustR (g.outsR p)) (g.outsR p)
  unfold Gm.movesR
  split
  · simp
  · refine Nat.le_trans (canon_len _) ?_
    rw [List.length_append]
    split
    · simp only [List.length_nil]; omega
    · omega
structure WkS where
  i : Int
  p : Ps
  out : List Ps
instance : Inhabited WkS := ⟨⟨0, default, []⟩⟩
set_option maxHeartbeats 4000000 in
set_option maxRecDepth 10000 in
theorem Walk6_p (g : Gm) (hg : g.ok) (p : Ps) (h : p.ok g) (l : List Int) (hl : l.length ≤ 34359738000) : Pure Try.prog 34 [g.av, p.av, Is l] (Pss (p :: g.walkR l p)) none := by
  have hint : OwnHint := ⟨⟩
  have el : (l.map I).length = l.length := List.length_map _
  refine fun_of tok D_ok Try.func34 rfl Try.ntmps34 Try.results34 (by kernel_rfl) (by simp) (by simp) ?_
  conv => whnf
  repeat' (first
    | (refine lvK (k := ?_); apply Cj.mk <;> first | exact trivial | intros)
    | (refine lvE (k := ?_); apply Cj.mk <;> first | exact trivial | intros)
    | fail)
  refine .of (fun (s : WkS) => [(8, I s.i), (7, .ref 2)]) (fun (s : WkS) => [(1, .box [Is s.p.ct, Is s.p.h0, Is s.p.h1, I s.p.rights, I s.p.side]), (2, .arr 5 (s.out.map Ps.av))]) 3 (fun (s : WkS) => 0 ≤ s.i ∧ s.i ≤ l.length ∧ s.out.length ≤ s.i + 1 ∧ s.p.ok g ∧ s.out ++ g.walkR (l.drop s.i.toNat) s.p = p :: g.walkR l p) (fun (s : WkS) => (l.length - s.i).toNat) (⟨0, p, [p]⟩ : WkS) ?_
  conv => whnf
  refine ⟨⟨[], (by kernel_rfl), (by kernel_rfl), (by kernel_rfl), lvL (k := ?_), lvL (k := ?_)⟩, ?_, fun (s : WkS) ⟨i0, i1, ol, hp, hs⟩ => lvN (k := ?_)⟩ <;> (first | (apply Cj.mk <;> first | exact trivial | intros) | skip)
  · exact ⟨by simp, by simp, by simp, h, by simp⟩
  obtain ⟨i, q, out⟩ := s
  dsimp only at *
  have hm := Moves6_p g hg q hp
  have hml := movesR_len hg hp
  by_cases hi : i < l.length
  · rw [drop_nth i0 hi] at hs
    have eml : ((g.movesR q).map Ps.av).length = (g.movesR q).length := List.length_map _
    by_cases hz : (g.movesR q).length = 0
    · rw [walkR_end hz, List.append_nil] at hs
      repeat' (first
        | (refine lvK (k := ?_); apply Cj.mk <;> first | exact trivial | intros)
        | (refine ⟨_, _, hm, lvN (k := ?_)⟩; apply Cj.mk <;> first | exact trivial | intros)
        | (refine .inl ?_; (conv => whnf); refine ⟨_, _, hm, lvN (k := ?_)⟩; apply Cj.mk <;> first | exact trivial | intros)
        | (refine lvE (k := ?_); apply Cj.mk <;> first | exact trivial | intros)
        | fail)
      · rw [hs]
    · rw [walkR_go hz] at hs
      have m0 := Int.emod_nonneg (nth l i) (show ((g.movesR q).length : Int) ≠ 0 by omega)
      have m1 := Int.emod_lt_of_pos (nth l i) (show 0 < ((g.movesR q).length : Int) by omega)
      have hk := movesR_ok hg hp (nth_mem m0 m1)
      obtain ⟨t1, t2, t3, t4⟩ := tmod_fix (x := nth l i) (n := (g.movesR q).length) (by omega)
      generalize g.movesR q = mv at *
      repeat' (first
        | (refine lvK (k := ?_); apply Cj.mk <;> first | exact trivial | intros)
        | (refine ⟨_, _, hm, lvN (k := ?_)⟩; apply Cj.mk <;> first | exact trivial | intros)
        | (refine .inl ?_; (conv => whnf); refine ⟨_, _, hm, lvN (k := ?_)⟩; apply Cj.mk <;> first | exact trivial | intros)
        | (refine lvE (k := ?_); apply Cj.mk <;> first | exact trivial | intros)
        | fail)
      refine And.intro (by omega) (Calc.mk _ rfl ?_)
      rw [eml]
      generalize (nth l i).tmod mv.length = t at *
      by_cases ht : t < 0
      · have t5 := t3 ht
        have hix : t + ((mv.map Ps.av).length : Int) = nth l i % mv.length := by rw [eml]; exact t5
        repeat' (first
          | (refine lvK (k := ?_); apply Cj.mk <;> first | exact trivial | intros)
          | (refine ap1 (f := Ps.av) (a := (nth mv (t + ((mv.map Ps.av).length : Int)))) (by decide) (by omega) rfl rfl (lvN (k := ?_)); apply Cj.mk <;> first | exact trivial | intros)
          | (refine lvE (k := ?_); apply Cj.mk <;> first | exact trivial | intros)
          | fail)
        refine ⟨(⟨i + 1, nth mv (t + ((mv.map Ps.av).length : Int)), out ++ [nth mv (t + ((mv.map Ps.av).length : Int))]⟩ : WkS), ⟨[], (by kernel_rfl), (by kernel_rfl), (by kernel_rfl), lvL (k := ?_), lvL (k := ?_)⟩, ?_, by (try dsimp only); omega, rfl⟩ <;> (first | (apply Cj.mk <;> first | exact trivial | intros) | skip)
        · dsimp only
          rw [hix]
          refine ⟨by omega, by omega, ?_, hk, ?_⟩
          · rw [List.length_append, List.length_singleton]; omega
          · rw [← hs, List.append_assoc]; rfl
      · have t5 := t4 ht
        have hix : t = nth l i % mv.length := by exact t5
        repeat' (first
          | (refine lvK (k := ?_); apply Cj.mk <;> first | exact trivial | intros)
          | (refine ap1 (f := Ps.av) (a := (nth mv (t))) (by decide) (by omega) rfl rfl (lvN (k := ?_)); apply Cj.mk <;> first | exact trivial | intros)
          | (refine lvE (k := ?_); apply Cj.mk <;> first | exact trivial | intros)
          | fail)
        refine ⟨(⟨i + 1, nth mv (t), out ++ [nth mv (t)]⟩ : WkS), ⟨[], (by kernel_rfl), (by kernel_rfl), (by kernel_rfl), lvL (k := ?_), lvL (k := ?_)⟩, ?_, by (try dsimp only); omega, rfl⟩ <;> (first | (apply Cj.mk <;> first | exact trivial | intros) | skip)
        · dsimp only
          rw [hix]
          refine ⟨by omega, by omega, ?_, hk, ?_⟩
          · rw [List.length_append, List.length_singleton]; omega
          · rw [← hs, List.append_assoc]; rfl
  · obtain rfl : i = l.length := by omega
    rw [drop_all (Int.le_refl _)] at hs
    rw [show g.walkR [] q = [] from rfl, List.append_nil] at hs
    rw [← hs]
    repeat' (first
      | (refine lvK (k := ?_); apply Cj.mk <;> first | exact trivial | intros)
      | (refine lvE (k := ?_); apply Cj.mk <;> first | exact trivial | intros)
      | fail)
end Go.Proofs.Ytceeabnmleemiaa
