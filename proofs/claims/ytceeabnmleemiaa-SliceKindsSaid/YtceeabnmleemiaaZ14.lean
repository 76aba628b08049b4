/- Contracts of functions of the program, proved by the checker; and plain laws. -/
import Derived.Test.YtceeabnmleemiaaZ13
import Derived.Test.YtceeabnmleemiaaZ04
set_option linter.unusedVariables false
set_option linter.unusedSimpArgs false
namespace Go.Proofs.Ytceeabnmleemiaa
open Go Go.Sk
def Gm.outsC (g : Gm) (p : Ps) (c n : Int) : List Oc := (ints n).flatMap fun i => g.runsR p c i
def Gm.outsOf (g : Gm) (p : Ps) (c : Int) : List Oc := if ofK (nth p.ct c) < 0 ∨ ofS (nth p.ct c) ≠ p.side then [] else g.outsC p c (nth g.kinds (ofK (nth p.ct c))).progs.length
def Gm.outsN (g : Gm) (p : Ps) (n : Int) : List Oc := (ints n).flatMap fun c => g.outsOf p c
def Gm.outsR (g : Gm) (p : Ps) : List Oc := g.outsN p g.b.cells
theorem flat_succ {α : Type} (f : Int → List α) {n : Int} (h : 0 ≤ n) : (ints (n + 1)).flatMap f = (ints n).flatMap f ++ f n := by rw [ints_succ h, List.flatMap_append]; simp
theorem outsC_len {g : Gm} (hg : g.ok) {p : Ps} {c : Int} (hc : ∀ i : Int, 0 ≤ i → i < (nth g.kinds (ofK (nth p.ct c))).progs.length → CanRun g p c i) : ∀ n : Nat, n ≤ (nth g.kinds (ofK (nth p.ct c))).progs.length → (g.outsC p c n).length ≤ n * 43046721
  | 0, _ => by simp [Gm.outsC, ints]
  | n + 1, hn => by
    have h1 := outsC_len hg hc n (by omega)
    have h2 := runsR_len hg (hc n (by omega) (by omega))
    unfold Gm.outsC at h1 ⊢
    rw [show ((n + 1 : Nat) : Int) = (n : Int) + 1 by omega, flat_succ _ (by omega), List.length_append]
    omega
theorem canRun_of {g : Gm} (hg : g.ok) {p : Ps} (h : p.ok g) {c : Int} (c0 : 0 ≤ c) (c1 : c < g.b.cells) (hm : ¬ (ofK (nth p.ct c) < 0 ∨ ofS (nth p.ct c) ≠ p.side)) (i : Int) (i0 : 0 ≤ i) (i1 : i < (nth g.kinds (ofK (nth p.ct c))).progs.length) : CanRun g p c i :=
  ⟨h, c0, c1, by omega, by omega, i0, i1⟩
theorem kind_rg {g : Gm} (hg : g.ok) {p : Ps} (h : p.ok g) {c : Int} (c0 : 0 ≤ c) (c1 : c < g.b.cells) (hm : ¬ (ofK (nth p.ct c) < 0 ∨ ofS (nth p.ct c) ≠ p.side)) : 0 ≤ ofK (nth p.ct c) ∧ ofK (nth p.ct c) < g.nk := by
  have h1 := h.c c c0 c1
  have := ofK_rg hg h1.1 h1.2
  omega
theorem outsOf_len {g : Gm} (hg : g.ok) {p : Ps} (h : p.ok g) {c : Int} (c0 : 0 ≤ c) (c1 : c < g.b.cells) : (g.outsOf p c).length ≤ 344373768 := by
  unfold Gm.outsOf
  split
  · simp
  · rename_i hm
    have hk := kind_rg hg h c0 c1 hm
    have h8 := hg.pl _ hk.1 hk.2
    have := outsC_len hg (canRun_of hg h c0 c1 hm) _ (Nat.le_refl _)
    omega
theorem outsN_len {g : Gm} (hg : g.ok) {p : Ps} (h : p.ok g) : ∀ n : Nat, (n : Int) ≤ g.b.cells → (g.outsN p n).length ≤ n * 344373768
  | 0, _ => by simp [Gm.outsN, ints]
  | n + 1, hn => by
    have h1 := outsN_len hg h n (by omega)
    have h2 := outsOf_len hg h (c := n) (by omega) (by omega)
    unfold Gm.outsN at h1 ⊢
    rw [show ((n + 1 : Nat) : Int) = (n : Int) + 1 by omega, flat_succ _ (by omega), List.length_append]
    omega
theorem outsR_ok {g : Gm} (hg : g.ok) {p : Ps} (h : p.ok g) {o : Oc} (ho : o ∈ g.outsR p) : o.p.ok g := by
  unfold Gm.outsR Gm.outsN at ho
  obtain ⟨c, hc, ho⟩ := List.mem_flatMap.1 ho
  have hc := mem_ints.1 hc
  unfold Gm.outsOf at ho
  split at ho
  · simp at ho
  · rename_i hm
    unfold Gm.outsC at ho
    obtain ⟨i, hi, ho⟩ := List.mem_flatMap.1 ho
    have hi := mem_ints.1 hi
    exact runsR_ok hg (canRun_of hg h hc.1 hc.2 hm i hi.1 hi.2) ho
set_option maxHeartbeats 4000000 in
set_option maxRecDepth 10000 in
theorem Outcomes_p (g : Gm) (hg : g.ok) (p : Ps) (h : p.ok g) : Pure Try.prog 51 [g.av, p.av] (Ous (g.outsR p)) none := by
  have hnk : g.nk = g.kinds.length := rfl
  have en : (g.kinds.map Kn).length = g.kinds.length := List.length_map _
  have el : (p.ct.map I).length = p.ct.length := List.length_map _
  have hlen := h.len
  have c9 := hg.c9
  have k6 := hg.k6
  have hno : ∀ c : Int, 0 ≤ c → c ≤ g.b.cells → (g.outsN p c).length ≤ 3099363912 := fun c c0 c1 => by
    obtain ⟨n, rfl⟩ := Int.eq_ofNat_of_zero_le c0
    have := outsN_len hg h n c1
    omega
  unfold Gm.outsR
  refine fun_of tok D_ok Try.func51 rfl Try.ntmps51 Try.results51 (by kernel_rfl) (by simp) (by simp) ?_
  conv => whnf
  repeat' (first
    | (refine lvK (k := ?_); apply Cj.mk <;> first | exact trivial | intros)
    | (refine lvE (k := ?_); apply Cj.mk <;> first | exact trivial | intros)
    | fail)
  refine .of (fun c => [(6, I c), (5, .ref 2)]) (fun c => [(2, .arr 6 ((g.outsN p c).map Ou))]) 3 (fun c => 0 ≤ c ∧ c ≤ g.b.cells) (fun c => (g.b.cells - c).toNat) 0 ?_
  conv => whnf
  refine ⟨⟨[], (by kernel_rfl), (by kernel_rfl), (by kernel_rfl), lvL (k := ?_), lvL (k := ?_)⟩, ?_, fun c ⟨c0, c1⟩ => lvN (k := ?_)⟩ <;> (first | (apply Cj.mk <;> first | exact trivial | intros) | skip)
  · exact ⟨by omega, by omega⟩
  have hol := hno c c0 c1
  by_cases hc : c < g.b.cells
  · have hsu : g.outsN p (c + 1) = g.outsN p c ++ g.outsOf p c := flat_succ _ c0
    have hcc := h.c c c0 hc
    have ho := Of_p (nth p.ct c) (by omega)
    by_cases hm : ofK (nth p.ct c) < 0 ∨ ofS (nth p.ct c) ≠ p.side
    · have he : g.outsOf p c = [] := if_pos hm
      rw [he, List.append_nil] at hsu
      repeat' (first
        | (refine lvA (k := ?_); apply Cj.mk <;> first | exact trivial | intros)
        | (refine ⟨_, _, ho, lvN (k := ?_)⟩; apply Cj.mk <;> first | exact trivial | intros)
        | (refine .inl ?_; (conv => whnf); refine ⟨_, _, ho, lvN (k := ?_)⟩; apply Cj.mk <;> first | exact trivial | intros)
        | (refine lvE (k := ?_); apply Cj.mk <;> first | exact trivial | intros)
        | fail)
      all_goals (try (exfalso; omega))
      all_goals
        refine ⟨c + 1, ⟨[], (by kernel_rfl), (by kernel_rfl), (by kernel_rfl), lvL (k := ?_), lvL (k := ?_)⟩, ?_, by (try dsimp only); omega, rfl⟩ <;> (first | (apply Cj.mk <;> first | exact trivial | intros) | skip)
        · rw [hsu]
        · exact ⟨by omega, by omega⟩
    · have hk := kind_rg hg h c0 hc hm
      have hcr := canRun_of hg h c0 hc hm
      have h8 := hg.pl _ hk.1 hk.2
      have he : g.outsOf p c = g.outsC p c (nth g.kinds (ofK (nth p.ct c))).progs.length := if_neg hm
      have hcl := outsC_len hg hcr
      rw [he] at hsu
      have e1 : ((nth g.kinds (ofK (nth p.ct c))).progs.map Pg).length = (nth g.kinds (ofK (nth p.ct c))).progs.length := List.length_map _
      repeat' (first
        | (refine lvK (k := ?_); apply Cj.mk <;> first | exact trivial | intros)
        | (refine ⟨_, _, ho, lvN (k := ?_)⟩; apply Cj.mk <;> first | exact trivial | intros)
        | (refine .inl ?_; (conv => whnf); refine ⟨_, _, ho, lvN (k := ?_)⟩; apply Cj.mk <;> first | exact trivial | intros)
        | (refine lvE (k := ?_); apply Cj.mk <;> first | exact trivial | intros)
        | fail)
      refine .of (fun i => [(8, I i), (5, .ref 2)]) (fun i => [(2, .arr 6 ((g.outsN p c ++ g.outsC p c i).map Ou))]) 4 (fun i => 0 ≤ i ∧ i ≤ (nth g.kinds (ofK (nth p.ct c))).progs.length) (fun i => ((nth g.kinds (ofK (nth p.ct c))).progs.length - i).toNat) 0 ?_
      conv => whnf
      refine ⟨⟨[], (by kernel_rfl), (by kernel_rfl), (by kernel_rfl), lvL (k := ?_), lvL (k := ?_)⟩, ?_, fun i ⟨i0, i1⟩ => lvN (k := ?_)⟩ <;> (first | (apply Cj.mk <;> first | exact trivial | intros) | skip)
      · rw [show g.outsC p c 0 = [] from rfl, List.append_nil]
      · exact ⟨by omega, by omega⟩
      have hci : (g.outsC p c i).length ≤ 344373768 := by
        obtain ⟨n, rfl⟩ := Int.eq_ofNat_of_zero_le i0
        have := hcl n (by omega)
        omega
      have hal : (g.outsN p c ++ g.outsC p c i).length = (g.outsN p c).length + (g.outsC p c i).length := List.length_append
      by_cases hi : i < (nth g.kinds (ofK (nth p.ct c))).progs.length
      · have hsc : g.outsC p c (i + 1) = g.outsC p c i ++ g.runsR p c i := flat_succ _ i0
        have hr := Runs_p g hg p c i (hcr i i0 hi)
        have hrl := runsR_len hg (hcr i i0 hi)
        repeat' (first
          | (refine lvK (k := ?_); apply Cj.mk <;> first | exact trivial | intros)
          | (refine ⟨_, _, hr, lvN (k := ?_)⟩; apply Cj.mk <;> first | exact trivial | intros)
          | (refine .inl ?_; (conv => whnf); refine ⟨_, _, hr, lvN (k := ?_)⟩; apply Cj.mk <;> first | exact trivial | intros)
          | (refine lvE (k := ?_); apply Cj.mk <;> first | exact trivial | intros)
          | fail)
        refine ⟨i + 1, ⟨[], (by kernel_rfl), (by kernel_rfl), (by kernel_rfl), lvL (k := ?_), lvL (k := ?_)⟩, ?_, by (try dsimp only); omega, rfl⟩ <;> (first | (apply Cj.mk <;> first | exact trivial | intros) | skip)
        · rw [hsc, List.append_assoc]
        · exact ⟨by omega, by omega⟩
      · obtain rfl : i = (nth g.kinds (ofK (nth p.ct c))).progs.length := by omega
        rw [← hsu]
        repeat' (first
          | (refine lvK (k := ?_); apply Cj.mk <;> first | exact trivial | intros)
          | (refine lvE (k := ?_); apply Cj.mk <;> first | exact trivial | intros)
          | fail)
        refine ⟨c + 1, ⟨[], (by kernel_rfl), (by kernel_rfl), (by kernel_rfl), lvL (k := ?_), lvL (k := ?_)⟩, ?_, by (try dsimp only); omega, rfl⟩ <;> (first | (apply Cj.mk <;> first | exact trivial | intros) | skip)
        · exact ⟨by omega, by omega⟩
  · obtain rfl : c = g.b.cells := by omega
    repeat' (first
      | (refine lvK (k := ?_); apply Cj.mk <;> first | exact trivial | intros)
      | (refine lvE (k := ?_); apply Cj.mk <;> first | exact trivial | intros)
      | fail)
end Go.Proofs.Ytceeabnmleemiaa
