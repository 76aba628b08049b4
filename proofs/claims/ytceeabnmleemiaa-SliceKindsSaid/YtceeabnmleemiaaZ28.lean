/- Contracts of functions of the program, proved by the checker; and plain laws. -/
import Derived.Test.YtceeabnmleemiaaZ23
import Derived.Test.YtceeabnmleemiaaZ26
import Derived.Test.YtceeabnmleemiaaZ18
import Derived.Test.YtceeabnmleemiaaZ27
set_option linter.unusedVariables false
set_option linter.unusedSimpArgs false
namespace Go.Proofs.Ytceeabnmleemiaa
open Go Go.Sk
theorem rowN_none {L : List Int} {n v : Int} (h : ∀ j : Int, 0 ≤ j → j < n → nth L j ≠ v) : rowN L n v = [] := by
  rw [List.eq_nil_iff_forall_not_mem]
  intro i hi
  have := mem_rowN.1 hi
  exact h i this.1.1 this.1.2 this.2
def lenN (L : List Int) (n v : Int) : Int := (rowN L n v).length
theorem sum_bump {f f' : Int → Int} {x : Int} (hf : f' x = f x + 1) (hne : ∀ v, v ≠ x → f' v = f v) : ∀ {l : List Int}, l.Nodup → x ∈ l → (l.map f').sum = (l.map f).sum + 1
  | v :: l, hn, hx => by
    have hn' := List.nodup_cons.1 hn
    simp only [List.map_cons, List.sum_cons]
    by_cases hv : v = x
    · subst hv
      have : l.map f' = l.map f := List.map_congr_left fun u hu => hne u fun e => hn'.1 (e ▸ hu)
      rw [this, hf]; omega
    · have hxl : x ∈ l := (List.mem_cons.1 hx).resolve_left fun e => hv e.symm
      have h1 := sum_bump hf hne hn'.2 hxl
      have h2 := hne v hv
      omega
theorem keys_total (L : List Int) : ∀ n : Nat, ((keysN L n).map (lenN L n)).sum = n
  | 0 => by simp [keysN, ints]
  | n + 1 => by
    have ih := keys_total L n
    have hnd := keysN_nodup L n
    have hm := mem_keysN L n
    have hs := fun v => rowN_succ L (n := n) v (by omega)
    have h1 : ∀ v, v ≠ nth L n → lenN L ((n : Int) + 1) v = lenN L n v := fun v hv => by
      unfold lenN; rw [hs, if_neg (fun e => hv e.symm), List.append_nil]
    have h2 : lenN L ((n : Int) + 1) (nth L n) = lenN L n (nth L n) + 1 := by
      unfold lenN; rw [hs, if_pos rfl]; simp
    rw [show ((n + 1 : Nat) : Int) = (n : Int) + 1 from rfl, keysN_succ L (by omega)]
    unfold addK
    by_cases hin : nth L n ∈ keysN L n
    · rw [if_pos hin, sum_bump h2 h1 hnd hin, ih]
    · rw [if_neg hin, List.map_append, List.sum_append]
      have h3 : (keysN L n).map (lenN L ((n : Int) + 1)) = (keysN L n).map (lenN L n) := List.map_congr_left fun v hv => h1 v fun e => hin (e ▸ hv)
      have h4 : lenN L n (nth L n) = 0 := by
        unfold lenN
        rw [rowN_none fun j j0 j1 e => hin ((hm _).2 ⟨j, j0, j1, e⟩)]; rfl
      rw [h3, ih]
      simp only [List.map_cons, List.map_nil, List.sum_cons, List.sum_nil]
      rw [h2, h4]; omega
theorem perm_sum {l r : List Int} (h : l.Perm r) (f : Int → Int) : (l.map f).sum = (r.map f).sum := by
  induction h with
  | nil => rfl
  | cons x _ ih => simp only [List.map_cons, List.sum_cons, ih]
  | swap x y l => simp only [List.map_cons, List.sum_cons]; omega
  | trans _ _ h1 h2 => exact h1.trans h2
theorem cut_total (L : List Int) : ((sortI (keysN L L.length)).map (lenN L L.length)).sum = L.length := by
  exact (perm_sum (List.mergeSort_perm (keysN L L.length) _) (lenN L L.length)).trans (keys_total L L.length)
theorem ints_lt (n : Int) : (ints n).Pairwise (· < ·) := by
  unfold ints
  exact List.Pairwise.map _ (fun a b h => by exact_mod_cast h) List.pairwise_lt_range
theorem rowN_lt (L : List Int) (n v : Int) : (rowN L n v).Pairwise (· < ·) := (ints_lt n).filter _
theorem rowN_nth_lt {L : List Int} {n v k : Int} (k0 : 0 < k) (k1 : k < (rowN L n v).length) : nth (rowN L n v) (k - 1) < nth (rowN L n v) k := by
  have h := List.pairwise_iff_getElem.1 (rowN_lt L n v) (k - 1).toNat k.toNat (by omega) (by omega) (by omega)
  have e1 := nth_some (l := rowN L n v) (i := k - 1) (by omega) (by omega)
  have e2 := nth_some (l := rowN L n v) (i := k) (by omega) (by omega)
  rw [List.getElem?_eq_getElem (by omega)] at e1 e2
  injection e1 with e1
  injection e2 with e2
  rw [← e1, ← e2]; exact h
def totN (L S : List Int) (i : Int) : Int := ((S.take i.toNat).map (lenN L L.length)).sum
theorem totN_succ (L S : List Int) {i : Int} (h0 : 0 ≤ i) (h : i < S.length) : totN L S (i + 1) = totN L S i + lenN L L.length (nth S i) := by
  unfold totN
  rw [take_snoc h0 h, List.map_append, List.sum_append]; simp
theorem totN_rg (L S : List Int) : ∀ n : Nat, n ≤ S.length → 0 ≤ totN L S n ∧ totN L S n ≤ n * L.length
  | 0, _ => by simp [totN]
  | n + 1, h => by
    have ih := totN_rg L S n (by omega)
    have hs := totN_succ L S (i := n) (by omega) (by omega)
    have hr := rowN_len L (nth S n) L.length
    rw [show ((n + 1 : Nat) : Int) = (n : Int) + 1 from rfl, hs, Int.add_mul, Int.one_mul]
    unfold lenN
    omega
def lastI (S : List Int) (i k : Int) : Int := if k = 0 then lastK S i else nth S i
theorem ofR_ok {g : Gm} (hg : g.ok) (h2 : g.nk ≤ 2) : MsOk g g.ofR := by
  have k1 := hg.k1
  unfold Gm.ofR
  by_cases h : g.nk = 1
  · rw [if_pos h]
    exact ⟨by rw [h]; rfl, fun k k0 k1 => by
      obtain rfl : k = 0 := by omega
      decide⟩
  · rw [if_neg h]
    have h2 : g.nk = 2 := by omega
    have hb : ∀ b, 0 ≤ Bn b ∧ Bn b ≤ 1 := fun b => by cases b <;> decide
    have h01 := hb (b01 g)
    have h10 := hb (b10 g)
    exact ⟨by rw [h2]; rfl, fun k k0 k1 => by
      have : k = 0 ∨ k = 1 := by omega
      rcases this with rfl | rfl
      · show 0 ≤ 1 + Bn (b01 g) ∧ 1 + Bn (b01 g) ≤ 8
        omega
      · show 0 ≤ 1 + Bn (b10 g) ∧ 1 + Bn (b10 g) ≤ 8
        omega⟩
set_option maxHeartbeats 8000000 in
set_option maxRecDepth 10000 in
theorem SliceCuts_p (x : R6) (hx : x.ok) (more : List R4) (hl : more.length ≤ 9223372036854775807) (hm : ∀ y, y ∈ more → y.ok) : Pure Try.prog 4 [.ag x.cs, .sl (more.map R4a)] (Bo true) none := by
  have hg := R6.gm_ok hx
  have hk2 : x.gm.nk ≤ 2 := by have := x.gm_nk; omega
  have c0 := sanity_p
  have c1 := positions_p x hx more hm hl
  have c2 := ROf_p x.gm hg hk2
  have hms := ofR_ok hg hk2
  have hpl := posL_len x more
  have hpo := posL_ok hx hm
  have c3 := Cut_p x.gm hg x.gm.ofR hms (posL x more) (by omega) hpo
  have hlev := fun p hp => Level_p x.gm hg x.gm.ofR hms p (hpo p hp)
  have hrg := fun p hp => levR_rg hg hms (hpo p hp)
  generalize x.gm = g at *
  generalize posL x more = l at *
  generalize g.ofR = m at *
  have hlv := levL_len m l
  have hnth : ∀ i : Int, 0 ≤ i → i < l.length → nth (levL m l) i = levR m (nth l i) := fun i i0 i1 => levL_nth i0 i1
  have hct := cut_total (levL m l)
  have hkm := mem_keysN (levL m l) (levL m l).length
  have hkn := keysN_nodup (levL m l) (levL m l).length
  have hkl := keysN_len (levL m l) (levL m l).length
  unfold cutR at c3
  generalize levL m l = L at *
  have hSl := sortI_len (keysN L L.length)
  have hSm := fun x => sortI_mem (l := keysN L L.length) (x := x)
  have hSlt := fun {a b : Int} => sortI_nth_lt (l := keysN L L.length) hkn (a := a) (b := b)
  generalize sortI (keysN L L.length) = S at *
  have hSi : ∀ i : Int, 0 ≤ i → i < S.length → ∃ j : Int, 0 ≤ j ∧ j < L.length ∧ nth L j = nth S i := fun i i0 i1 => (hkm _).1 ((hSm _).1 (nth_mem i0 i1))
  have hSr : ∀ i : Int, 0 ≤ i → i < S.length → 0 ≤ nth S i ∧ nth S i ≤ 100000 := fun i i0 i1 => by
    obtain ⟨j, j0, j1, j2⟩ := hSi i i0 i1
    rw [← j2, hnth j j0 (by omega)]
    exact hrg _ (nth_mem j0 (by omega))
  have htr := fun n h => totN_rg L S n h
  have hts := fun {i : Int} => totN_succ L S (i := i)
  have hte : totN L S S.length = L.length := by unfold totN; rw [take_all (Int.le_refl _)]; exact hct
  have hRl : (S.map (rowN L L.length)).length = S.length := List.length_map _
  have hRn : ∀ i : Int, 0 ≤ i → i < S.length → nth (S.map (rowN L L.length)) i = rowN L L.length (nth S i) := fun i i0 i1 => nth_map i0 i1
  have hRm : ((S.map (rowN L L.length)).map Is).length = (S.map (rowN L L.length)).length := List.length_map _
  generalize S.map (rowN L L.length) = R at *
  have el : (l.map Ps.av).length = l.length := List.length_map _
  unfold Pss at c1 c3
  unfold msAv at *
  refine fun_of tok D_ok Try.func4 rfl Try.ntmps4 Try.results4 (by kernel_rfl) (by simp) (by simp) ?_
  conv => whnf
  repeat' (first
    | (refine lvK (k := ?_); apply Cj.mk <;> first | exact trivial | intros)
    | (refine ⟨_, _, c0, lvN (k := ?_)⟩; apply Cj.mk <;> first | exact trivial | intros)
    | (refine .inl ?_; (conv => whnf); refine ⟨_, _, c0, lvN (k := ?_)⟩; apply Cj.mk <;> first | exact trivial | intros)
    | (refine ⟨_, _, c1, lvN (k := ?_)⟩; apply Cj.mk <;> first | exact trivial | intros)
    | (refine .inl ?_; (conv => whnf); refine ⟨_, _, c1, lvN (k := ?_)⟩; apply Cj.mk <;> first | exact trivial | intros)
    | (refine ⟨_, _, c2, lvN (k := ?_)⟩; apply Cj.mk <;> first | exact trivial | intros)
    | (refine .inl ?_; (conv => whnf); refine ⟨_, _, c2, lvN (k := ?_)⟩; apply Cj.mk <;> first | exact trivial | intros)
    | (refine ⟨_, _, c3, lvN (k := ?_)⟩; apply Cj.mk <;> first | exact trivial | intros)
    | (refine .inl ?_; (conv => whnf); refine ⟨_, _, c3, lvN (k := ?_)⟩; apply Cj.mk <;> first | exact trivial | intros)
    | (refine lvE (k := ?_); apply Cj.mk <;> first | exact trivial | intros)
    | fail)
  refine .of (fun i => [(12, I i), (10, I (totN L S i)), (11, I (lastK S i))]) (fun i => []) 4 (fun i => 0 ≤ i ∧ i ≤ S.length) (fun i => (S.length - i).toNat) 0 ?_
  conv => whnf
  refine ⟨⟨[], (by kernel_rfl), (by kernel_rfl), (by kernel_rfl), lvL (k := ?_), lvL (k := ?_)⟩, ?_, fun i ⟨i0, i1⟩ => lvN (k := ?_)⟩ <;> (first | (apply Cj.mk <;> first | exact trivial | intros) | skip)
  · exact ⟨by omega, by omega⟩
  have htr1 := htr i.toNat (by omega)
  rw [Int.toNat_of_nonneg i0] at htr1
  have hb1 : i * L.length ≤ 7 * 7 := Int.mul_le_mul (by omega) (by omega) (by omega) (by omega)
  by_cases hi : i < S.length
  · have hrow := hRn i i0 hi
    have hts1 := hts i0 hi
    have hsr := hSr i i0 hi
    have hmr : ((nth R i).map I).length = (nth R i).length := List.length_map _
    have hrl1 : 1 ≤ (nth R i).length := by
      obtain ⟨j, j0, j1, j2⟩ := hSi i i0 hi
      have : j ∈ rowN L L.length (nth S i) := mem_rowN.2 ⟨⟨j0, j1⟩, j2⟩
      rw [hrow]
      exact List.length_pos_iff.2 fun e => by rw [e] at this; cases this
    have hrl2 : (nth R i).length ≤ L.length := by rw [hrow]; exact rowN_len ..
    have hel : ∀ k : Int, 0 ≤ k → k < (nth R i).length → (0 ≤ nth (nth R i) k ∧ nth (nth R i) k < L.length) ∧ nth L (nth (nth R i) k) = nth S i := fun k k0 k1 => by
      rw [hrow] at k1 ⊢
      exact mem_rowN.1 (nth_mem k0 k1)
    have hinc : ∀ k : Int, 0 < k → k < (nth R i).length → nth (nth R i) (k - 1) < nth (nth R i) k := fun k k0 k1 => by
      rw [hrow] at k1 ⊢
      exact rowN_nth_lt k0 k1
    have hln : lenN L L.length (nth S i) = (nth R i).length := by rw [hrow]; rfl
    have hlk : -1 ≤ lastK S i ∧ lastK S i < nth S i := by
      unfold lastK
      split
      · omega
      · have := hSr (i - 1) (by omega) (by omega)
        have := hSlt (show 0 ≤ i - 1 by omega) (show i - 1 < i by omega) (by omega)
        omega
    have hS7 : S.length ≤ 7 := by omega
    clear hrow htr hts hct hkm hkn hkl hSm hSlt hRn
    repeat' (first
      | (refine lvK (k := ?_); apply Cj.mk <;> first | exact trivial | intros)
      | (refine lvE (k := ?_); apply Cj.mk <;> first | exact trivial | intros)
      | fail)
    refine .of (fun k => [(13, I k), (10, I (totN L S i + k)), (11, I (lastI S i k))]) (fun k => []) 4 (fun k => 0 ≤ k ∧ k ≤ (nth R i).length) (fun k => ((nth R i).length - k).toNat) 0 ?_
    conv => whnf
    refine ⟨⟨[], (by kernel_rfl), (by kernel_rfl), (by kernel_rfl), lvL (k := ?_), lvL (k := ?_)⟩, ?_, fun k ⟨k0, k1⟩ => lvN (k := ?_)⟩ <;> (first | (apply Cj.mk <;> first | exact trivial | intros) | skip)
    all_goals (try rw [Int.add_zero])
    · exact ⟨by omega, by omega⟩
    by_cases hk : k < (nth R i).length
    · obtain ⟨⟨h1, h2⟩, h3⟩ := hel k k0 hk
      have hlp := hlev (nth l (nth (nth R i) k)) (nth_mem h1 (by omega))
      rw [← hnth _ h1 (by omega), h3] at hlp
      by_cases hk0 : k = 0
      · subst hk0
        have hl0 : lastI S i 0 = lastK S i := rfl
        rw [hl0]
        have hl1 : lastI S i (0 + 1) = nth S i := if_neg (by omega)
        repeat' (first
          | (refine lvK (k := ?_); apply Cj.mk <;> first | exact trivial | intros)
          | (refine ⟨_, _, hlp, lvN (k := ?_)⟩; apply Cj.mk <;> first | exact trivial | intros)
          | (refine .inl ?_; (conv => whnf); refine ⟨_, _, hlp, lvN (k := ?_)⟩; apply Cj.mk <;> first | exact trivial | intros)
          | (refine lvE (k := ?_); apply Cj.mk <;> first | exact trivial | intros)
          | fail)
        refine ⟨0 + 1, ⟨[], (by kernel_rfl), (by kernel_rfl), (by kernel_rfl), lvL (k := ?_), lvL (k := ?_)⟩, ?_, by (try dsimp only); omega, rfl⟩ <;> (first | (apply Cj.mk <;> first | exact trivial | intros) | skip)
        all_goals first | exact ⟨by omega, by omega⟩ | (rw [hl1]; done) | (congr 1; omega)
      · have hl0 : lastI S i k = nth S i := if_neg hk0
        have hic := hinc k (by omega) hk
        have hel1 := (hel (k - 1) (by omega) (by omega)).1
        rw [hl0]
        have hl1 : lastI S i (k + 1) = nth S i := if_neg (by omega)
        repeat' (first
          | (refine lvK (k := ?_); apply Cj.mk <;> first | exact trivial | intros)
          | (refine ⟨_, _, hlp, lvN (k := ?_)⟩; apply Cj.mk <;> first | exact trivial | intros)
          | (refine .inl ?_; (conv => whnf); refine ⟨_, _, hlp, lvN (k := ?_)⟩; apply Cj.mk <;> first | exact trivial | intros)
          | (refine lvE (k := ?_); apply Cj.mk <;> first | exact trivial | intros)
          | fail)
        refine ⟨k + 1, ⟨[], (by kernel_rfl), (by kernel_rfl), (by kernel_rfl), lvL (k := ?_), lvL (k := ?_)⟩, ?_, by (try dsimp only); omega, rfl⟩ <;> (first | (apply Cj.mk <;> first | exact trivial | intros) | skip)
        all_goals first | exact ⟨by omega, by omega⟩ | (rw [hl1]; done) | (congr 1; omega)
    · obtain hke : k = (nth R i).length := by omega
      subst hke
      have hl0 : lastI S i (nth R i).length = nth S i := if_neg (by omega)
      rw [hl0]
      repeat' (first
        | (refine lvK (k := ?_); apply Cj.mk <;> first | exact trivial | intros)
        | (refine lvE (k := ?_); apply Cj.mk <;> first | exact trivial | intros)
        | fail)
      refine ⟨i + 1, ⟨[], (by kernel_rfl), (by kernel_rfl), (by kernel_rfl), lvL (k := ?_), lvL (k := ?_)⟩, ?_, by (try dsimp only); omega, rfl⟩ <;> (first | (apply Cj.mk <;> first | exact trivial | intros) | skip)
      all_goals first | exact ⟨by omega, by omega⟩ | (rw [hts1, hln]; done) | (rw [lastK_succ S i0]; done)
  · obtain rfl : i = S.length := by omega
    rw [hte]
    repeat' (first
      | (refine lvK (k := ?_); apply Cj.mk <;> first | exact trivial | intros)
      | (refine lvE (k := ?_); apply Cj.mk <;> first | exact trivial | intros)
      | fail)
end Go.Proofs.Ytceeabnmleemiaa
