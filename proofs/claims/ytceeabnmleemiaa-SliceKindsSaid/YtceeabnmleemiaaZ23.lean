/- Contracts of functions of the program, proved by the checker; and plain laws. -/
import Derived.Test.YtceeabnmleemiaaZ21
import Derived.Test.YtceeabnmleemiaaZ19
import Derived.Test.YtceeabnmleemiaaZ22
import Derived.Test.YtceeabnmleemiaaZ20
set_option linter.unusedVariables false
set_option linter.unusedSimpArgs false
namespace Go.Proofs.Ytceeabnmleemiaa
open Go Go.Sk
def nxt (L : List Int) (last : Int) (i : Int) : Int := (ints i).foldl (fun n j => if nth L j > last ∧ (n < 0 ∨ nth L j < n) then nth L j else n) (-1)
theorem nxt_succ (L : List Int) (last : Int) {i : Int} (h : 0 ≤ i) : nxt L last (i + 1) = if nth L i > last ∧ (nxt L last i < 0 ∨ nth L i < nxt L last i) then nth L i else nxt L last i := by
  unfold nxt
  rw [ints_succ h, List.foldl_append]; rfl
theorem nxt_spec {L : List Int} {last : Int} (h0 : ∀ j : Int, 0 ≤ j → j < L.length → 0 ≤ nth L j) (hl : -1 ≤ last) : ∀ n : Nat, n ≤ L.length →
    (nxt L last n = -1 ∧ ∀ j : Int, 0 ≤ j → j < n → nth L j ≤ last) ∨
    (last < nxt L last n ∧ 0 ≤ nxt L last n ∧ (∃ j : Int, 0 ≤ j ∧ j < n ∧ nth L j = nxt L last n) ∧ ∀ j : Int, 0 ≤ j → j < n → nth L j ≤ last ∨ nxt L last n ≤ nth L j)
  | 0, _ => .inl ⟨by simp [nxt, ints], fun j j0 j1 => by omega⟩
  | n + 1, hn => by
    have ih := nxt_spec h0 hl n (by omega)
    have hs := nxt_succ L last (i := n) (by omega)
    have h0n := h0 n (by omega) (by omega)
    rw [show ((n + 1 : Nat) : Int) = (n : Int) + 1 from rfl, hs]
    rcases ih with ⟨e, ih⟩ | ⟨e1, e2, ⟨j, j0, j1, j2⟩, ih⟩
    · rw [e]
      by_cases hc : nth L n > last
      · rw [if_pos ⟨hc, .inl (by omega)⟩]
        refine .inr ⟨hc, h0n, ⟨n, by omega, by omega, rfl⟩, fun j j0 j1 => ?_⟩
        by_cases hj : j = n
        · subst hj; exact .inr (Int.le_refl _)
        · exact .inl (ih j j0 (by omega))
      · rw [if_neg (fun h => hc h.1)]
        refine .inl ⟨rfl, fun j j0 j1 => ?_⟩
        by_cases hj : j = n
        · subst hj; omega
        · exact ih j j0 (by omega)
    · by_cases hc : nth L n > last ∧ nth L n < nxt L last n
      · rw [if_pos ⟨hc.1, .inr hc.2⟩]
        refine .inr ⟨hc.1, h0n, ⟨n, by omega, by omega, rfl⟩, fun j j0 j1 => ?_⟩
        by_cases hj : j = n
        · subst hj; exact .inr (Int.le_refl _)
        · rcases ih j j0 (by omega) with h | h
          · exact .inl h
          · exact .inr (by omega)
      · rw [if_neg (fun h => hc ⟨h.1, h.2.resolve_left (by omega)⟩)]
        refine .inr ⟨e1, e2, ⟨j, j0, by omega, j2⟩, fun j j0 j1 => ?_⟩
        by_cases hj : j = n
        · subst hj; omega
        · exact ih j j0 (by omega)
theorem sortI_lt {l : List Int} (hn : l.Nodup) {a b : Nat} {x y : Int} (ha : (sortI l)[a]? = some x) (hb : (sortI l)[b]? = some y) (h : a < b) : x < y := by
  obtain ⟨ha', h1⟩ := List.getElem?_eq_some_iff.1 ha
  obtain ⟨hb', h2⟩ := List.getElem?_eq_some_iff.1 hb
  have h3 := List.pairwise_iff_getElem.1 (sortI_sorted l) a b ha' hb' h
  have h4 := List.pairwise_iff_getElem.1 (sortI_nodup hn) a b ha' hb' h
  rw [h1, h2] at h3 h4
  omega
def lastK (S : List Int) (j : Int) : Int := if j = 0 then -1 else nth S (j - 1)
theorem lastK_succ (S : List Int) {j : Int} (h : 0 ≤ j) : lastK S (j + 1) = nth S j := by
  unfold lastK
  rw [if_neg (by omega), show j + 1 - 1 = j by omega]
theorem nth_at {α : Type} [Inhabited α] {l : List α} {i : Nat} (h : i < l.length) : l[i]? = some (nth l i) := by
  have := nth_some (l := l) (i := (i : Int)) (by omega) (by omega)
  rwa [Int.toNat_natCast] at this
theorem sortI_nth_lt {l : List Int} (hn : l.Nodup) {a b : Int} (a0 : 0 ≤ a) (hab : a < b) (hb : b < (sortI l).length) : nth (sortI l) a < nth (sortI l) b :=
  sortI_lt hn (nth_some a0 (by omega)) (nth_some (by omega) hb) (by omega)
theorem nxt_key {L : List Int} (h0 : ∀ j : Int, 0 ≤ j → j < L.length → 0 ≤ nth L j) {j : Int} (j0 : 0 ≤ j) :
    (j < (sortI (keysN L L.length)).length → nxt L (lastK (sortI (keysN L L.length)) j) L.length = nth (sortI (keysN L L.length)) j) ∧
    (j = (sortI (keysN L L.length)).length → nxt L (lastK (sortI (keysN L L.length)) j) L.length = -1) := by
  have hnd := keysN_nodup L L.length
  have hmem : ∀ x, x ∈ sortI (keysN L L.length) ↔ ∃ j : Int, 0 ≤ j ∧ j < L.length ∧ nth L j = x := fun x => sortI_mem.trans (mem_keysN L L.length x)
  have hlt := fun {a b : Int} => sortI_nth_lt (l := keysN L L.length) hnd (a := a) (b := b)
  generalize hS : sortI (keysN L L.length) = S at *
  have hpos : ∀ q : Int, 0 ≤ q → q < S.length → 0 ≤ nth S q := fun q q0 q1 => by
    obtain ⟨i, i0, i1, i2⟩ := (hmem _).1 (nth_mem q0 q1)
    rw [← i2]; exact h0 i i0 i1
  have hlast : j ≤ S.length → -1 ≤ lastK S j ∧ ∀ q : Int, 0 ≤ q → q < j → nth S q ≤ lastK S j := fun hj => by
    unfold lastK
    split
    · exact ⟨by omega, fun q q0 q1 => by omega⟩
    · refine ⟨by have := hpos (j - 1) (by omega) (by omega); omega, fun q q0 q1 => ?_⟩
      by_cases hq : q = j - 1
      · subst hq; omega
      · have := hlt q0 (show q < j - 1 by omega) (by omega); omega
  have hcase : j ≤ S.length → _ := fun hj => nxt_spec (L := L) (last := lastK S j) h0 (hlast hj).1 L.length (Nat.le_refl _)
  have hidx : ∀ y, (∃ i : Int, 0 ≤ i ∧ i < L.length ∧ nth L i = y) → ∃ q : Int, 0 ≤ q ∧ q < S.length ∧ nth S q = y := fun y hy => by
    obtain ⟨q, hq⟩ := List.mem_iff_getElem?.1 ((hmem y).2 hy)
    have hql := (List.getElem?_eq_some_iff.1 hq).1
    refine ⟨q, by omega, by omega, ?_⟩
    have := nth_at hql
    rw [hq] at this
    injection this with this
    exact this.symm
  refine ⟨fun hj => ?_, fun hj => ?_⟩
  · have hx : lastK S j < nth S j := by
      unfold lastK
      split
      · have := hpos j j0 hj; omega
      · exact hlt (by omega) (by omega) hj
    obtain ⟨i, i0, i1, i2⟩ := (hmem _).1 (nth_mem j0 hj)
    rcases hcase (by omega) with ⟨_, h⟩ | ⟨e1, e2, e3, e4⟩
    · have := h i i0 i1; omega
    · obtain ⟨q, q0, q1, q2⟩ := hidx _ e3
      have h5 := e4 i i0 i1
      rw [i2] at h5
      have h6 : j ≤ q := by
        rcases Int.lt_or_le q j with h | h
        · have := (hlast (by omega)).2 q q0 h; omega
        · exact h
      by_cases hqj : q = j
      · subst hqj; exact q2.symm
      · have := hlt j0 (show j < q by omega) q1; omega
  · rcases hcase (by omega) with ⟨h, _⟩ | ⟨e1, e2, e3, e4⟩
    · exact h
    · obtain ⟨q, q0, q1, q2⟩ := hidx _ e3
      have := (hlast (by omega)).2 q q0 (by omega); omega
set_option maxHeartbeats 8000000 in
set_option maxRecDepth 10000 in
theorem RCut_p (g : Gm) (hg : g.ok) (m : List Int) (hm : MsOk g m) (l : List Ps) (hl : l.length ≤ 1000) (hp : ∀ p, p ∈ l → p.ok g) : Pure Try.prog 13 [msAv m, Pss l] (Iss (cutR (levL m l))) none := by
  have el : (l.map Ps.av).length = l.length := List.length_map _
  have hlv := levL_len m l
  have hnth : ∀ i : Int, 0 ≤ i → i < l.length → nth (levL m l) i = levR m (nth l i) := fun i i0 i1 => levL_nth i0 i1
  have hpos : ∀ i : Int, 0 ≤ i → i < (levL m l).length → 0 ≤ nth (levL m l) i ∧ nth (levL m l) i ≤ 100000 := fun i i0 i1 => by
    rw [hnth i i0 (by omega)]
    exact levR_rg hg hm (hp _ (nth_mem i0 (by omega)))
  unfold Pss cutR
  generalize levL m l = L at *
  have hkey := fun {j : Int} => nxt_key (L := L) (fun j a b => (hpos j a b).1) (j := j)
  have hSl := keysN_len L L.length
  rw [← sortI_len] at hSl
  have hSp : ∀ q : Int, 0 ≤ q → q < (sortI (keysN L L.length)).length → 0 ≤ nth (sortI (keysN L L.length)) q ∧ nth (sortI (keysN L L.length)) q ≤ 100000 := fun q q0 q1 => by
    obtain ⟨i, i0, i1, i2⟩ := (mem_keysN L L.length _).1 (sortI_mem.1 (nth_mem q0 q1))
    rw [← i2]; exact hpos i i0 (by omega)
  generalize sortI (keysN L L.length) = S at *
  refine fun_of tok D_ok Try.func13 rfl Try.ntmps13 Try.results13 (by kernel_rfl) (by simp) (by simp) ?_
  conv => whnf
  repeat' (first
    | (refine lvK (k := ?_); apply Cj.mk <;> first | exact trivial | intros)
    | (refine lvE (k := ?_); apply Cj.mk <;> first | exact trivial | intros)
    | fail)
  refine .of (fun j => [(5, .ref 1), (6, I (lastK S j))]) (fun j => [(1, .arr 1 (((S.take j.toNat).map (rowN L L.length)).map Is))]) 2 (fun j => 0 ≤ j ∧ j ≤ S.length) (fun j => (S.length - j).toNat) 0 ?_
  conv => whnf
  refine ⟨⟨[], (by kernel_rfl), (by kernel_rfl), (by kernel_rfl), lvL (k := ?_), lvL (k := ?_)⟩, ?_, fun j ⟨j0, j1⟩ => lvN (k := ?_)⟩ <;> (first | (apply Cj.mk <;> first | exact trivial | intros) | skip)
  · exact ⟨by omega, by omega⟩
  have hlr : -1 ≤ lastK S j ∧ lastK S j ≤ 100000 := by
    unfold lastK
    split
    · omega
    · have := hSp (j - 1) (by omega) (by omega); omega
  have hk := hkey j0
  generalize lastK S j = la at *
  repeat' (first
    | (refine lvK (k := ?_); apply Cj.mk <;> first | exact trivial | intros)
    | (refine lvE (k := ?_); apply Cj.mk <;> first | exact trivial | intros)
    | fail)
  refine .of (fun i => [(9, I i), (7, I (nxt L la i))]) (fun i => []) 2 (fun i => 0 ≤ i ∧ i ≤ l.length) (fun i => (l.length - i).toNat) 0 ?_
  conv => whnf
  refine ⟨⟨[], (by kernel_rfl), (by kernel_rfl), (by kernel_rfl), lvL (k := ?_), lvL (k := ?_)⟩, ?_, fun i ⟨i0, i1⟩ => lvN (k := ?_)⟩ <;> (first | (apply Cj.mk <;> first | exact trivial | intros) | skip)
  · exact ⟨by omega, by omega⟩
  by_cases hi : i < l.length
  · have hlev := RLevel_p g hg m hm (nth l i) (hp _ (nth_mem i0 hi))
    rw [← hnth i i0 hi] at hlev
    have hs := nxt_succ L la i0
    repeat' (first
      | (refine lvK (k := ?_); apply Cj.mk <;> first | exact trivial | intros)
      | (refine ⟨_, _, hlev, lvN (k := ?_)⟩; apply Cj.mk <;> first | exact trivial | intros)
      | (refine .inl ?_; (conv => whnf); refine ⟨_, _, hlev, lvN (k := ?_)⟩; apply Cj.mk <;> first | exact trivial | intros)
      | (refine lvE (k := ?_); apply Cj.mk <;> first | exact trivial | intros)
      | fail)
    all_goals
      refine ⟨i + 1, ⟨[], (by kernel_rfl), (by kernel_rfl), (by kernel_rfl), lvL (k := ?_), lvL (k := ?_)⟩, ?_, by (try dsimp only); omega, rfl⟩ <;> (first | (apply Cj.mk <;> first | exact trivial | intros) | skip)
      · rw [hs]; first | rw [if_pos (by omega)] | rw [if_neg (by omega)]
      · exact ⟨by omega, by omega⟩
  · obtain rfl : i = l.length := by omega
    rw [show ((l.length : Nat) : Int) = (L.length : Int) by omega]
    by_cases hj : j < S.length
    · have hn := hk.1 hj
      have hnr := hSp j j0 hj
      rw [hn]
      repeat' (first
        | (refine lvK (k := ?_); apply Cj.mk <;> first | exact trivial | intros)
        | (refine lvE (k := ?_); apply Cj.mk <;> first | exact trivial | intros)
        | fail)
      refine .of (fun i => [(11, I i), (8, .ref 2)]) (fun i => [(2, .arr 1 ((rowN L i (nth S j)).map I))]) 3 (fun i => 0 ≤ i ∧ i ≤ l.length) (fun i => (l.length - i).toNat) 0 ?_
      conv => whnf
      refine ⟨⟨[], (by kernel_rfl), (by kernel_rfl), (by kernel_rfl), lvL (k := ?_), lvL (k := ?_)⟩, ?_, fun i ⟨i0, i1⟩ => lvN (k := ?_)⟩ <;> (first | (apply Cj.mk <;> first | exact trivial | intros) | skip)
      · exact ⟨by omega, by omega⟩
      have hrl := rowN_len L (nth S j) i.toNat
      rw [Int.toNat_of_nonneg i0] at hrl
      by_cases hi : i < l.length
      · have hlev := RLevel_p g hg m hm (nth l i) (hp _ (nth_mem i0 hi))
        rw [← hnth i i0 hi] at hlev
        have hs := rowN_succ L (nth S j) i0
        repeat' (first
          | (refine lvK (k := ?_); apply Cj.mk <;> first | exact trivial | intros)
          | (refine ⟨_, _, hlev, lvN (k := ?_)⟩; apply Cj.mk <;> first | exact trivial | intros)
          | (refine .inl ?_; (conv => whnf); refine ⟨_, _, hlev, lvN (k := ?_)⟩; apply Cj.mk <;> first | exact trivial | intros)
          | (refine lvE (k := ?_); apply Cj.mk <;> first | exact trivial | intros)
          | fail)
        all_goals
          refine ⟨i + 1, ⟨[], (by kernel_rfl), (by kernel_rfl), (by kernel_rfl), lvL (k := ?_), lvL (k := ?_)⟩, ?_, by (try dsimp only); omega, rfl⟩ <;> (first | (apply Cj.mk <;> first | exact trivial | intros) | skip)
          · rw [hs]; first | rw [if_pos (by omega)] | rw [if_neg (by omega), List.append_nil]
          · exact ⟨by omega, by omega⟩
      · obtain rfl : i = l.length := by omega
        have hsn := take_snoc j0 hj
        have hll : ((S.take j.toNat).map (rowN L L.length)).length = j.toNat := by have := take_len j0 j1; rw [List.length_map]; omega
        have hln : (l.length : Int) = L.length := by omega
        rw [hln]
        repeat' (first
          | (refine lvK (k := ?_); apply Cj.mk <;> first | exact trivial | intros)
          | (refine ap1 (f := Is) (a := (rowN L L.length (nth S j))) (by decide) (by omega) rfl rfl (lvN (k := ?_)); apply Cj.mk <;> first | exact trivial | intros)
          | (refine lvE (k := ?_); apply Cj.mk <;> first | exact trivial | intros)
          | fail)
        refine ⟨j + 1, ⟨[], (by kernel_rfl), (by kernel_rfl), (by kernel_rfl), lvL (k := ?_), lvL (k := ?_)⟩, ?_, by (try dsimp only); omega, rfl⟩ <;> (first | (apply Cj.mk <;> first | exact trivial | intros) | skip)
        all_goals first | exact ⟨by omega, by omega⟩ | (rw [lastK_succ S j0]; done) | (simp only [hsn, List.map_append, List.map_cons, List.map_nil]; done)
    · obtain rfl : j = S.length := by omega
      rw [hk.2 rfl, take_all (Int.le_refl _)]
      repeat' (first
        | (refine lvK (k := ?_); apply Cj.mk <;> first | exact trivial | intros)
        | (refine lvE (k := ?_); apply Cj.mk <;> first | exact trivial | intros)
        | fail)
end Go.Proofs.Ytceeabnmleemiaa
namespace Go.Proofs.Ytceeabnmleemiaa
open Go Go.Sk
def eqB (b x : Int) : Bool := decide (x = b)
def L0 (v : Bool) (a b : Int) : List Int := if v && decide (1 - a < b) then [a, 1 - a] else [a]
def vL (g : Gm) (a : Int) : Bool := decide (g.nk = 2) && g.becR a (1 - a)
def leadR (g : Gm) (a : Int) : List Int := if vL g a then [a, 1 - a] else [a]
theorem any1 (a b : Int) : [a].any (eqB b) = decide (a = b) := by simp [eqB]
theorem any2 (a b c : Int) : [a, c].any (eqB b) = (decide (a = b) || decide (c = b)) := by simp [eqB]
set_option maxHeartbeats 8000000 in
set_option maxRecDepth 10000 in
theorem Leads_p (g : Gm) (hg : g.ok) (h2 : g.nk ≤ 2) (a : Int) (a0 : 0 ≤ a) (a1 : a < g.nk) : Pure Try.prog 21 [g.av, I a] (Is (leadR g a)) none := by
  have ek : (g.kinds.map Kn).length = g.kinds.length := List.length_map _
  have hnk : (g.kinds.length : Int) = g.nk := rfl
  have hrb := fun b => Rbec_p g hg a b a0 a1
  have hv : ∀ v, vL g a = v → g.nk = 2 → g.becR a (1 - a) = v := fun v h h2 => by rw [← h]; unfold vL; rw [h2]; rfl
  have hv1 : vL g a = true → g.nk = 2 := fun h => by unfold vL at h; simp at h; exact h.1
  unfold leadR
  refine fun_of tok D_ok Try.func21 rfl Try.ntmps21 Try.results21 (by kernel_rfl) (by simp) (by simp) ?_
  conv => whnf
  repeat' (first
    | (refine lvK (k := ?_); apply Cj.mk <;> first | exact trivial | intros)
    | (refine lvE (k := ?_); apply Cj.mk <;> first | exact trivial | intros)
    | fail)
  refine .of (fun i => [(6, I i), (5, .ref 1)]) (fun i => [(1, .arr 1 ((if i = 0 then [a] else if vL g a then [a, 1 - a] else [a]).map I))]) 2 (fun i => 0 ≤ i ∧ (i = 0 ∨ i = 1 ∨ i = 2 ∧ vL g a = true)) (fun i => (2 - i).toNat) 0 ?_
  conv => whnf
  refine ⟨⟨[], (by kernel_rfl), (by kernel_rfl), (by kernel_rfl), lvL (k := ?_), lvL (k := ?_)⟩, ?_, fun i ⟨i0, i1⟩ => lvN (k := ?_)⟩ <;> (first | (apply Cj.mk <;> first | exact trivial | intros) | skip)
  · exact ⟨by omega, by omega⟩
  rcases i1 with rfl | rfl | ⟨rfl, hvt⟩
  · rw [if_pos rfl]
    have hl1 : [a].length = 1 := rfl
    repeat' (first
      | (refine lvK (k := ?_); apply Cj.mk <;> first | exact trivial | intros)
      | (refine lvE (k := ?_); apply Cj.mk <;> first | exact trivial | intros)
      | fail)
    refine .of (fun b => [(7, I b), (5, .ref 1)]) (fun b => [(1, .arr 1 ((L0 (vL g a) a b).map I))]) 2 (fun b => 0 ≤ b ∧ b ≤ g.nk) (fun b => (g.nk - b).toNat) 0 ?_
    conv => whnf
    refine ⟨⟨[], (by kernel_rfl), (by kernel_rfl), (by kernel_rfl), lvL (k := ?_), lvL (k := ?_)⟩, ?_, fun b ⟨b0, b1⟩ => lvN (k := ?_)⟩ <;> (first | (apply Cj.mk <;> first | exact trivial | intros) | skip)
    · unfold L0; rw [show decide (1 - a < 0) = false from decide_eq_false (by omega), Bool.and_false]; rfl
    · exact ⟨by omega, by omega⟩
    obtain ⟨v, hve⟩ : ∃ v, vL g a = v := ⟨_, rfl⟩
    have hv2 := hv v hve
    rw [hve] at hv1 ⊢
    obtain ⟨L, hL⟩ : ∃ L, L0 v a b = L := ⟨_, rfl⟩
    have hLc : L = [a] ∨ L = [a, 1 - a] := by rw [← hL]; unfold L0; split <;> simp
    have hLn : 1 ≤ L.length ∧ L.length ≤ 2 := by rcases hLc with h | h <;> rw [h] <;> simp
    have hLa : nth L 0 = a := by rcases hLc with h | h <;> rw [h] <;> rfl
    have em : (L.map I).length = L.length := List.length_map _
    rw [hL]
    by_cases hb : b < g.nk
    · have hrb' : Pure Try.prog 25 [g.av, I (nth L 0), I b] (Bo (g.becR a b)) none := by rw [hLa]; exact hrb b
      repeat' (first
        | (refine lvK (k := ?_); apply Cj.mk <;> first | exact trivial | intros)
        | (refine lvE (k := ?_); apply Cj.mk <;> first | exact trivial | intros)
        | fail)
      refine .of (fun k => [(9, I k), (8, Bo ((L.take k.toNat).any (eqB b)))]) (fun k => []) 2 (fun k => 0 ≤ k ∧ k ≤ L.length) (fun k => (L.length - k).toNat) 0 ?_
      conv => whnf
      refine ⟨⟨[], (by kernel_rfl), (by kernel_rfl), (by kernel_rfl), lvL (k := ?_), lvL (k := ?_)⟩, ?_, fun k ⟨k0, k1⟩ => lvN (k := ?_)⟩ <;> (first | (apply Cj.mk <;> first | exact trivial | intros) | skip)
      · exact ⟨by omega, by omega⟩
      by_cases hk : k < L.length
      · have hs := any_succ (f := eqB b) k0 hk
        obtain ⟨w, hw⟩ : ∃ w, (L.take k.toNat).any (eqB b) = w := ⟨_, rfl⟩
        rw [hw] at hs ⊢
        cases w
        all_goals
          repeat' (first
            | (refine lvK (k := ?_); apply Cj.mk <;> first | exact trivial | intros)
            | (refine lvE (k := ?_); apply Cj.mk <;> first | exact trivial | intros)
            | fail)
          refine ⟨k + 1, ⟨[], (by kernel_rfl), (by kernel_rfl), (by kernel_rfl), lvL (k := ?_), lvL (k := ?_)⟩, ?_, by (try dsimp only); omega, rfl⟩ <;> (first | (apply Cj.mk <;> first | exact trivial | intros) | skip)
          · rw [hs]; rfl
          · exact ⟨by omega, by omega⟩
      · obtain rfl : k = L.length := by omega
        rw [take_all (Int.le_refl _)]
        by_cases ha : b = a
        · have hkn : L.any (eqB b) = true := by rcases hLc with h | h <;> rw [h] <;> simp [eqB, ha]
          have hn1 : L0 v a (b + 1) = L := by
            rw [← hL]; unfold L0
            have : decide (1 - a < b + 1) = decide (1 - a < b) := by
              rw [Bool.eq_iff_iff]; simp only [decide_eq_true_eq]; omega
            rw [this]
          rw [hkn]
          repeat' (first
            | (refine lvK (k := ?_); apply Cj.mk <;> first | exact trivial | intros)
            | (refine lvE (k := ?_); apply Cj.mk <;> first | exact trivial | intros)
            | fail)
          refine ⟨b + 1, ⟨[], (by kernel_rfl), (by kernel_rfl), (by kernel_rfl), lvL (k := ?_), lvL (k := ?_)⟩, ?_, by (try dsimp only); omega, rfl⟩ <;> (first | (apply Cj.mk <;> first | exact trivial | intros) | skip)
          · rw [hn1]
          · exact ⟨by omega, by omega⟩
        · have hb2 : g.nk = 2 := by omega
          have hbo : b = 1 - a := by omega
          have hL1 : L = [a] := by rw [← hL]; unfold L0; rw [show decide (1 - a < b) = false from decide_eq_false (by omega), Bool.and_false]; rfl
          have hkn : L.any (eqB b) = false := by rw [hL1]; simp [eqB]; omega
          have hn1 : L0 v a (b + 1) = if v then L ++ [b] else L := by unfold L0; rw [show decide (1 - a < b + 1) = true from decide_eq_true (by omega), Bool.and_true, hL1, hbo]; rfl
          rw [hkn]
          rw [hbo, hv2 hb2, ← hbo] at hrb'
          cases v
          all_goals
            repeat' (first
              | (refine lvK (k := ?_); apply Cj.mk <;> first | exact trivial | intros)
              | (refine ⟨_, _, hrb', lvN (k := ?_)⟩; apply Cj.mk <;> first | exact trivial | intros)
              | (refine .inl ?_; (conv => whnf); refine ⟨_, _, hrb', lvN (k := ?_)⟩; apply Cj.mk <;> first | exact trivial | intros)
              | (refine lvE (k := ?_); apply Cj.mk <;> first | exact trivial | intros)
              | fail)
            refine ⟨b + 1, ⟨[], (by kernel_rfl), (by kernel_rfl), (by kernel_rfl), lvL (k := ?_), lvL (k := ?_)⟩, ?_, by (try dsimp only); omega, rfl⟩ <;> (first | (apply Cj.mk <;> first | exact trivial | intros) | skip)
            · rw [hn1]; rfl
            · exact ⟨by omega, by omega⟩
    · have hbn : b = g.nk := by omega
      have hLe : L = if v then [a, 1 - a] else [a] := by
        rw [← hL]; unfold L0
        cases v
        · rfl
        · rw [show decide (1 - a < b) = true from decide_eq_true (by have := hv1 rfl; omega)]; rfl
      subst hbn
      repeat' (first
        | (refine lvK (k := ?_); apply Cj.mk <;> first | exact trivial | intros)
        | (refine lvE (k := ?_); apply Cj.mk <;> first | exact trivial | intros)
        | fail)
      refine ⟨0 + 1, ⟨[], (by kernel_rfl), (by kernel_rfl), (by kernel_rfl), lvL (k := ?_), lvL (k := ?_)⟩, ?_, by (try dsimp only); omega, rfl⟩ <;> (first | (apply Cj.mk <;> first | exact trivial | intros) | skip)
      · rw [if_neg (show ¬ ((0 : Int) + 1 = 0) by omega), hLe]
      · exact ⟨by omega, by omega⟩
  · rw [if_neg (by omega)]
    obtain ⟨v, hve⟩ : ∃ v, vL g a = v := ⟨_, rfl⟩
    rw [hve] at hv1 ⊢
    cases v
    · rw [if_neg (by simp)]
      have hl1 : [a].length = 1 := rfl
      repeat' (first
        | (refine lvK (k := ?_); apply Cj.mk <;> first | exact trivial | intros)
        | (refine lvE (k := ?_); apply Cj.mk <;> first | exact trivial | intros)
        | fail)
    · have hb2 := hv1 rfl
      rw [if_pos rfl]
      obtain ⟨L, hL⟩ : ∃ L, [a, 1 - a] = L := ⟨_, rfl⟩
      have hLn : L.length = 2 := by rw [← hL]; rfl
      have em : (L.map I).length = L.length := List.length_map _
      rw [hL]
      repeat' (first
        | (refine lvK (k := ?_); apply Cj.mk <;> first | exact trivial | intros)
        | (refine lvE (k := ?_); apply Cj.mk <;> first | exact trivial | intros)
        | fail)
      refine .of (fun b => [(7, I b), (5, .ref 1)]) (fun b => [(1, .arr 1 (L.map I))]) 2 (fun b => 0 ≤ b ∧ b ≤ g.nk) (fun b => (g.nk - b).toNat) 0 ?_
      conv => whnf
      refine ⟨⟨[], (by kernel_rfl), (by kernel_rfl), (by kernel_rfl), lvL (k := ?_), lvL (k := ?_)⟩, ?_, fun b ⟨b0, b1⟩ => lvN (k := ?_)⟩ <;> (first | (apply Cj.mk <;> first | exact trivial | intros) | skip)
      · exact ⟨by omega, by omega⟩
      by_cases hb : b < g.nk
      · repeat' (first
          | (refine lvK (k := ?_); apply Cj.mk <;> first | exact trivial | intros)
          | (refine lvE (k := ?_); apply Cj.mk <;> first | exact trivial | intros)
          | fail)
        refine .of (fun k => [(9, I k), (8, Bo ((L.take k.toNat).any (eqB b)))]) (fun k => []) 2 (fun k => 0 ≤ k ∧ k ≤ L.length) (fun k => (L.length - k).toNat) 0 ?_
        conv => whnf
        refine ⟨⟨[], (by kernel_rfl), (by kernel_rfl), (by kernel_rfl), lvL (k := ?_), lvL (k := ?_)⟩, ?_, fun k ⟨k0, k1⟩ => lvN (k := ?_)⟩ <;> (first | (apply Cj.mk <;> first | exact trivial | intros) | skip)
        · exact ⟨by omega, by omega⟩
        by_cases hk : k < L.length
        · have hs := any_succ (f := eqB b) k0 hk
          obtain ⟨w, hw⟩ : ∃ w, (L.take k.toNat).any (eqB b) = w := ⟨_, rfl⟩
          rw [hw] at hs ⊢
          cases w
          all_goals
            repeat' (first
              | (refine lvK (k := ?_); apply Cj.mk <;> first | exact trivial | intros)
              | (refine lvE (k := ?_); apply Cj.mk <;> first | exact trivial | intros)
              | fail)
            refine ⟨k + 1, ⟨[], (by kernel_rfl), (by kernel_rfl), (by kernel_rfl), lvL (k := ?_), lvL (k := ?_)⟩, ?_, by (try dsimp only); omega, rfl⟩ <;> (first | (apply Cj.mk <;> first | exact trivial | intros) | skip)
            · rw [hs]; rfl
            · exact ⟨by omega, by omega⟩
        · obtain rfl : k = L.length := by omega
          rw [take_all (Int.le_refl _)]
          have hkn : L.any (eqB b) = true := by rw [← hL, any2]; simp; omega
          rw [hkn]
          repeat' (first
            | (refine lvK (k := ?_); apply Cj.mk <;> first | exact trivial | intros)
            | (refine lvE (k := ?_); apply Cj.mk <;> first | exact trivial | intros)
            | fail)
          refine ⟨b + 1, ⟨[], (by kernel_rfl), (by kernel_rfl), (by kernel_rfl), lvL (k := ?_), lvL (k := ?_)⟩, ?_, by (try dsimp only); omega, rfl⟩ <;> (first | (apply Cj.mk <;> first | exact trivial | intros) | skip)
          exact ⟨by omega, by omega⟩
      · obtain rfl : b = g.nk := by omega
        repeat' (first
          | (refine lvK (k := ?_); apply Cj.mk <;> first | exact trivial | intros)
          | (refine lvE (k := ?_); apply Cj.mk <;> first | exact trivial | intros)
          | fail)
        refine ⟨1 + 1, ⟨[], (by kernel_rfl), (by kernel_rfl), (by kernel_rfl), lvL (k := ?_), lvL (k := ?_)⟩, ?_, by (try dsimp only); omega, rfl⟩ <;> (first | (apply Cj.mk <;> first | exact trivial | intros) | skip)
        exact ⟨by omega, .inr (.inr ⟨rfl, rfl⟩)⟩
  · rw [if_neg (by omega), if_pos hvt]
    have hl1 : [a, 1 - a].length = 2 := rfl
    repeat' (first
      | (refine lvK (k := ?_); apply Cj.mk <;> first | exact trivial | intros)
      | (refine lvE (k := ?_); apply Cj.mk <;> first | exact trivial | intros)
      | fail)
end Go.Proofs.Ytceeabnmleemiaa
namespace Go.Proofs.Ytceeabnmleemiaa
open Go Go.Sk
def nzB (l : List Int) : Int := (l.filter fun c => decide (c ≠ 0)).length
def hdN (p : Ps) (k : Int) : Int := ((ints k).map fun j => nth p.h0 j + nth p.h1 j).sum
def Bi (b : Bool) : Int := if b then 1 else 0
theorem sum_zero {f : Int → Int} : ∀ n : Nat, (∀ j : Int, 0 ≤ j → j < n → f j = 0) → ((ints n).map f).sum = 0
  | 0, _ => by simp [ints]
  | n + 1, h => by
    rw [show ((n + 1 : Nat) : Int) = (n : Int) + 1 from rfl, map_ints_succ (by omega), List.sum_append, sum_zero n fun j j0 j1 => h j j0 (by omega)]
    simp [h n (by omega) (by omega)]
theorem sum_one {f : Int → Int} {k : Int} (k0 : 0 ≤ k) (hk : f k = 1) : ∀ n : Nat, k < n → (∀ j : Int, 0 ≤ j → j < n → j ≠ k → f j = 0) → ((ints n).map f).sum = 1
  | 0, h, _ => by omega
  | n + 1, h, hf => by
    rw [show ((n + 1 : Nat) : Int) = (n : Int) + 1 from rfl, map_ints_succ (by omega), List.sum_append]
    by_cases hn : k = n
    · rw [sum_zero n fun j j0 j1 => hf j j0 (by omega) (by omega), ← hn]
      simp [hk]
    · rw [sum_one k0 hk n (by omega) fun j j0 j1 jn => hf j j0 (by omega) jn]
      simp [hf n (by omega) (by omega) (fun e => hn e.symm)]
theorem sum_add {f g : Int → Int} : ∀ l : List Int, (l.map fun j => f j + g j).sum = (l.map f).sum + (l.map g).sum
  | [] => rfl
  | x :: l => by simp only [List.map_cons, List.sum_cons, sum_add l]; omega
theorem menL_cons (c : Int) (l : List Int) (s j : Int) : menL (c :: l) s j = menL l s j + Bi (isMan s j c) := by
  unfold menL
  rw [List.filter_cons]
  cases isMan s j c <;> simp [Bi]
theorem ind_sum {nk c s : Int} (k6 : nk ≤ 6) (c0 : 0 ≤ c) (c1 : c ≤ 2 * nk) : ((ints nk).map fun j => Bi (isMan s j c)).sum = if 0 < c ∧ (c - 1) % 2 = s then 1 else 0 := by
  have hn : nk = nk.toNat := by omega
  have him := fun j j0 => isMan_at (side := s) (j := j) j0 c0 (by omega)
  rw [hn]
  split
  · rename_i h
    refine sum_one (k := (c - 1) / 2) (by omega) ?_ _ (by omega) fun j j0 j1 jn => ?_
    · unfold Bi; rw [if_pos ((him _ (by omega)).2 ⟨h.1, h.2, rfl⟩)]
    · unfold Bi; rw [if_neg fun e => jn ((him j j0).1 e).2.2]
  · rename_i h
    refine sum_zero _ fun j j0 j1 => ?_
    unfold Bi; rw [if_neg fun e => h ⟨((him j j0).1 e).1, ((him j j0).1 e).2.1⟩]
theorem men_sum {nk : Int} (k6 : nk ≤ 6) : ∀ {l : List Int}, (∀ c, c ∈ l → 0 ≤ c ∧ c ≤ 2 * nk) → ((ints nk).map (menL l 0)).sum + ((ints nk).map (menL l 1)).sum = nzB l
  | [], _ => by
    have : ∀ s, ((ints nk).map (menL [] s)).sum = 0 := fun s => by
      by_cases h : 0 ≤ nk
      · have hn : nk = nk.toNat := by omega
        rw [hn]; exact sum_zero _ fun j _ _ => rfl
      · rw [ints_neg (by omega)]; rfl
    rw [this, this]; rfl
  | c :: l, h => by
    have ih := men_sum k6 (l := l) fun x hx => h x (List.mem_cons_of_mem _ hx)
    have hc := h c (List.mem_cons_self ..)
    have hs : ∀ s, ((ints nk).map (menL (c :: l) s)).sum = ((ints nk).map (menL l s)).sum + if 0 < c ∧ (c - 1) % 2 = s then 1 else 0 := fun s => by
      rw [← ind_sum k6 hc.1 hc.2, ← sum_add]
      congr 1
      exact List.map_congr_left fun j _ => menL_cons c l s j
    rw [hs, hs]
    have hz : nzB (c :: l) = nzB l + if c = 0 then 0 else 1 := by
      unfold nzB
      rw [List.filter_cons]
      by_cases h0 : c = 0 <;> simp [h0]
    rw [hz, ← ih]
    by_cases h0 : c = 0
    · subst h0; simp
    · rw [if_neg h0]
      rcases (show (c - 1) % 2 = 0 ∨ (c - 1) % 2 = 1 by omega) with h1 | h1
      · rw [if_pos ⟨by omega, h1⟩, if_neg (by omega)]; omega
      · rw [if_neg (by omega), if_pos ⟨by omega, h1⟩]; omega
theorem menT_eq {g : Gm} (hg : g.ok) {p : Ps} (hp : p.ok g) : menT g p = nzB p.ct + hdN p g.nk := by
  have h1 : ∀ s, menS p s g.nk = ((ints g.nk).map (menL p.ct s)).sum + ((ints g.nk).map (nth (hdS p s))).sum := fun s => by
    unfold menS
    exact sum_add (f := menL p.ct s) (g := nth (hdS p s)) _
  have h2 : hdN p g.nk = ((ints g.nk).map (nth p.h0)).sum + ((ints g.nk).map (nth p.h1)).sum := sum_add (f := nth p.h0) (g := nth p.h1) _
  unfold menT
  rw [h1, h1, h2, ← men_sum hg.k6 hp.mem]
  have e0 : hdS p 0 = p.h0 := rfl
  have e1 : hdS p 1 = p.h1 := rfl
  rw [e0, e1]; omega
structure W16 (g : Gm) (m : List Int) : Prop where
  len : (m.length : Int) = g.nk
  v : ∀ k : Int, 0 ≤ k → k < g.nk → 1 ≤ nth m k ∧ nth m k ≤ 6
theorem wt_16 {g : Gm} {m : List Int} (hg : g.ok) (hm : W16 g m) {c : Int} (h0 : 0 ≤ c) (h : c ≤ 2 * g.nk) : (if c = 0 then 0 else 1) ≤ wt m c ∧ wt m c ≤ 6 * (if c = 0 then 0 else 1) := by
  have h6 := hg.k6
  unfold wt ofK
  by_cases hc : c = 0
  · subst hc; simp
  · rw [if_neg hc, if_pos (by omega), if_pos (by omega)]
    have := hm.v ((c - 1) / 2) (by omega) (by omega)
    omega
theorem levB_16 {g : Gm} {m : List Int} (hg : g.ok) (hm : W16 g m) : ∀ {l : List Int}, (∀ c, c ∈ l → 0 ≤ c ∧ c ≤ 2 * g.nk) → nzB l ≤ levB m l ∧ levB m l ≤ 6 * nzB l
  | [], _ => by simp [levB, nzB]
  | c :: l, h => by
    have h1 := levB_16 hg hm (l := l) fun x hx => h x (List.mem_cons_of_mem _ hx)
    have h2 := h c (List.mem_cons_self ..)
    have h3 := wt_16 hg hm h2.1 h2.2
    have h4 : levB m (c :: l) = wt m c + levB m l := by simp [levB]
    have hz : nzB (c :: l) = nzB l + if c = 0 then 0 else 1 := by
      unfold nzB
      rw [List.filter_cons]
      by_cases h0 : c = 0 <;> simp [h0]
    rw [h4, hz]
    split at h3 <;> omega
theorem levH_16 {g : Gm} {m : List Int} (hm : W16 g m) {p : Ps} (hp : p.ok g) : ∀ n : Nat, (n : Int) ≤ g.nk → hdN p n ≤ levH m p.h0 p.h1 n ∧ levH m p.h0 p.h1 n ≤ 6 * hdN p n
  | 0, _ => by simp [levH, hdN, ints]
  | n + 1, h => by
    have ih := levH_16 hm hp n (by omega)
    have h1 := levH_succ (m := m) (a := p.h0) (b := p.h1) (i := n) (by omega)
    have h2 : hdN p ((n : Int) + 1) = hdN p n + (nth p.h0 n + nth p.h1 n) := by
      unfold hdN
      rw [map_ints_succ (by omega), List.sum_append]; simp
    have h3 := hm.v n (by omega) (by omega)
    have h4 := hp.h0.v n (by omega) (by omega)
    have h5 := hp.h1.v n (by omega) (by omega)
    have h6 : (nth p.h0 n + nth p.h1 n) ≤ hw m p.h0 p.h1 n := by
      unfold hw
      have := Int.mul_le_mul_of_nonneg_right (c := nth p.h0 n + nth p.h1 n) h3.1 (by omega)
      omega
    have h7 : hw m p.h0 p.h1 n ≤ 6 * (nth p.h0 n + nth p.h1 n) := by
      unfold hw
      exact Int.mul_le_mul_of_nonneg_right h3.2 (by omega)
    rw [show ((n + 1 : Nat) : Int) = (n : Int) + 1 from rfl, h1, h2]
    omega
theorem lev_16 {g : Gm} {m : List Int} (hg : g.ok) (hm : W16 g m) {p : Ps} (hp : p.ok g) : menT g p ≤ levR m p ∧ levR m p ≤ 6 * menT g p + 4 := by
  have h1 := levB_16 hg hm hp.mem
  have h2 := levH_16 hm hp g.nk.toNat (by have := hg.k1; omega)
  rw [Int.toNat_of_nonneg (by have := hg.k1; omega)] at h2
  have h3 := popR_rg p.rights
  rw [menT_eq hg hp]
  unfold levR
  rw [hm.len]
  omega
theorem popR_0iff {r : Int} (r0 : 0 ≤ r) (r1 : r < 16) : popR r = 0 ↔ r = 0 := by
  unfold popR
  constructor
  · intro h
    have : r % 2 = 0 ∧ r / 2 % 2 = 0 ∧ r / 4 % 2 = 0 ∧ r / 8 % 2 = 0 := by omega
    omega
  · intro h; subst h; rfl
end Go.Proofs.Ytceeabnmleemiaa
