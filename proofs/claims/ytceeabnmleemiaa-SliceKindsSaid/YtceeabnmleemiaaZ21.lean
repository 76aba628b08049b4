/- Contracts of functions of the program, proved by the checker; and plain laws. -/
import Derived.Test.YtceeabnmleemiaaZ18
import Derived.Test.YtceeabnmleemiaaZ00
import Derived.Test.YtceeabnmleemiaaZ20
set_option linter.unusedVariables false
set_option linter.unusedSimpArgs false
namespace Go.Proofs.Ytceeabnmleemiaa
open Go Go.Sk
theorem nodup_at {l : List Int} (h : l.Nodup) {a b : Nat} {x : Int} (ha : l[a]? = some x) (hb : l[b]? = some x) : a = b := by
  have h1 := List.getElem?_eq_some_iff.1 ha
  have h2 := List.getElem?_eq_some_iff.1 hb
  have h3 := List.pairwise_iff_getElem.1 h
  rcases Nat.lt_trichotomy a b with h4 | h4 | h4
  · exact absurd (h1.2.trans h2.2.symm) (h3 a b h1.1 h2.1 h4)
  · exact h4
  · exact absurd (h2.2.trans h1.2.symm) (h3 b a h2.1 h1.1 h4)
def addK (ks : List Int) (x : Int) : List Int := if x ∈ ks then ks else ks ++ [x]
def keysN (L : List Int) (n : Int) : List Int := (ints n).foldl (fun ks j => addK ks (nth L j)) []
def rowN (L : List Int) (n v : Int) : List Int := (ints n).filter fun j => decide (nth L j = v)
def cutR (L : List Int) : List (List Int) := (sortI (keysN L L.length)).map (rowN L L.length)
theorem keysN_succ (L : List Int) {n : Int} (h : 0 ≤ n) : keysN L (n + 1) = addK (keysN L n) (nth L n) := by
  unfold keysN
  rw [ints_succ h, List.foldl_append]; rfl
theorem rowN_succ (L : List Int) {n : Int} (v : Int) (h : 0 ≤ n) : rowN L (n + 1) v = rowN L n v ++ (if nth L n = v then [n] else []) := by
  unfold rowN
  rw [ints_succ h, List.filter_append]
  by_cases hv : nth L n = v
  · rw [if_pos hv]; simp [hv]
  · rw [if_neg hv]; simp [hv]
theorem mem_keysN (L : List Int) : ∀ (n : Nat) (x : Int), x ∈ keysN L n ↔ ∃ j : Int, 0 ≤ j ∧ j < n ∧ nth L j = x
  | 0, x => by
    constructor
    · intro h; simp [keysN, ints] at h
    · rintro ⟨j, h0, h1, _⟩; omega
  | n + 1, x => by
    rw [show ((n + 1 : Nat) : Int) = (n : Int) + 1 from rfl, keysN_succ L (by omega)]
    have ih := mem_keysN L n
    have hx : x ∈ addK (keysN L n) (nth L n) ↔ x ∈ keysN L n ∨ x = nth L n := by
      unfold addK
      split
      · rename_i h
        exact ⟨.inl, fun h' => h'.elim id fun e => e ▸ h⟩
      · simp
    rw [hx, ih]
    constructor
    · rintro (⟨j, h0, h1, h2⟩ | h)
      · exact ⟨j, h0, by omega, h2⟩
      · exact ⟨n, by omega, by omega, h.symm⟩
    · rintro ⟨j, h0, h1, h2⟩
      by_cases hj : j = n
      · subst hj; exact .inr h2.symm
      · exact .inl ⟨j, h0, by omega, h2⟩
theorem keysN_nodup (L : List Int) : ∀ n : Nat, (keysN L n).Nodup
  | 0 => by simp [keysN, ints]
  | n + 1 => by
    rw [show ((n + 1 : Nat) : Int) = (n : Int) + 1 from rfl, keysN_succ L (by omega)]
    have ih := keysN_nodup L n
    unfold addK
    split
    · exact ih
    · rename_i h
      exact List.nodup_append.2 ⟨ih, by simp, fun a ha b hb => by simp at hb; subst hb; intro e; subst e; exact h ha⟩
theorem keysN_len (L : List Int) : ∀ n : Nat, (keysN L n).length ≤ n
  | 0 => by simp [keysN, ints]
  | n + 1 => by
    rw [show ((n + 1 : Nat) : Int) = (n : Int) + 1 from rfl, keysN_succ L (by omega)]
    have ih := keysN_len L n
    unfold addK
    split
    · omega
    · simp; omega
theorem rowN_len (L : List Int) (v : Int) (n : Nat) : (rowN L n v).length ≤ n := by
  unfold rowN
  have := List.length_filter_le (fun j => decide (nth L j = v)) (ints n)
  rw [ints_len] at this
  omega
theorem mem_rowN {L : List Int} {n v i : Int} : i ∈ rowN L n v ↔ (0 ≤ i ∧ i < n) ∧ nth L i = v := by
  unfold rowN
  rw [List.mem_filter, mem_ints, decide_eq_true_eq]
def Kv (x : Int) : Value := .int .i64 x
def Rw1 (L : List Int) (n v : Int) : AV := .own 1 ((rowN L n v).map I)
theorem cut_set {L : List Int} {n : Int} (h : 0 ≤ n) {q : Nat} (hq : (keysN L n)[q]? = some (nth L n)) (hin : nth L n ∈ keysN L n) (hnd : (keysN L n).Nodup) :
    (keysN L (n + 1)).map (Rw1 L (n + 1)) = ((keysN L n).map (Rw1 L n)).set q (.own 1 ((rowN L n (nth L n) ++ [n]).map I)) := by
  rw [keysN_succ L h]
  unfold addK
  rw [if_pos hin]
  apply List.ext_getElem?
  intro j
  rw [List.getElem?_set, List.getElem?_map, List.getElem?_map]
  have hql := (List.getElem?_eq_some_iff.1 hq).1
  by_cases hj : q = j
  · subst hj
    rw [if_pos rfl, if_pos (by simpa using hql), hq]
    simp only [Option.map_some, Rw1]
    rw [rowN_succ L _ h, if_pos rfl]
  · rw [if_neg hj]
    cases hk : (keysN L n)[j]? with
    | none => rfl
    | some v =>
      simp only [Option.map_some, Rw1]
      rw [rowN_succ L _ h, if_neg, List.append_nil]
      intro e
      rw [← e] at hk
      exact hj (nodup_at hnd hq hk)
theorem cut_new {L : List Int} {n : Int} (h : 0 ≤ n) (hin : nth L n ∉ keysN L n) (hm : ∀ x, x ∈ keysN L n ↔ ∃ j : Int, 0 ≤ j ∧ j < n ∧ nth L j = x) :
    (keysN L (n + 1)).map (Rw1 L (n + 1)) = (keysN L n).map (Rw1 L n) ++ [.own 1 ([n].map I)] := by
  rw [keysN_succ L h]
  unfold addK
  rw [if_neg hin, List.map_append]
  have hrow : rowN L n (nth L n) = [] := by
    rw [List.eq_nil_iff_forall_not_mem]
    intro i hi
    have := mem_rowN.1 hi
    exact hin ((hm _).2 ⟨i, this.1.1, this.1.2, this.2⟩)
  congr 1
  · apply List.map_congr_left
    intro v hv
    unfold Rw1
    rw [rowN_succ L _ h, if_neg, List.append_nil]
    intro e; rw [e] at hin; exact hin hv
  · simp only [List.map_cons, List.map_nil, Rw1]
    rw [rowN_succ L _ h, if_pos rfl, hrow]; rfl
theorem sortI_mem {l : List Int} {x : Int} : x ∈ sortI l ↔ x ∈ l := (List.mergeSort_perm l _).mem_iff
theorem sortI_len (l : List Int) : (sortI l).length = l.length := List.length_mergeSort l
theorem sortI_nodup {l : List Int} (h : l.Nodup) : (sortI l).Nodup := (List.mergeSort_perm l _).nodup_iff.2 h
theorem sortI_sorted (l : List Int) : (sortI l).Pairwise fun a b => a ≤ b := by
  have tr : ∀ a b c : Int, decide (a ≤ b) = true → decide (b ≤ c) = true → decide (a ≤ c) = true := fun a b c h1 h2 => by simp only [decide_eq_true_eq] at *; omega
  have to : ∀ a b : Int, (decide (a ≤ b) || decide (b ≤ a)) = true := fun a b => by simp only [Bool.or_eq_true, decide_eq_true_eq]; omega
  exact (List.pairwise_mergeSort tr to l).imp fun h => by simpa using h
def Rw2 (L : List Int) (n : Int) (done : List Int) (v : Int) : AV := if v ∈ done then .undef else Rw1 L n v
theorem cut_out {L : List Int} {n : Int} {ks done : List Int} {x : Int} {q : Nat} (hq : ks[q]? = some x) (hnd : ks.Nodup) (hx : x ∉ done) :
    ks.map (Rw2 L n (done ++ [x])) = (ks.map (Rw2 L n done)).set q .undef := by
  apply List.ext_getElem?
  intro j
  rw [List.getElem?_set, List.getElem?_map, List.getElem?_map]
  have hql := (List.getElem?_eq_some_iff.1 hq).1
  by_cases hj : q = j
  · subst hj
    rw [if_pos rfl, if_pos (by simpa using hql), hq]
    simp only [Option.map_some, Rw2]
    rw [if_pos (by simp)]
  · rw [if_neg hj]
    cases hk : ks[j]? with
    | none => rfl
    | some v =>
      simp only [Option.map_some, Rw2]
      have hvx : v ≠ x := by
        intro e
        rw [e] at hk
        exact hj (nodup_at hnd hq hk)
      simp [hvx]
end Go.Proofs.Ytceeabnmleemiaa
namespace Go.Proofs.Ytceeabnmleemiaa
open Go Go.Sk
theorem mkC {a : Int} {b : Nat} {K : Prop} (hb : b ≤ 4096) (h0 : 0 ≤ a) (h : a ≤ 34359738368) (k : K) : (b : Int) * a ≤ 140737488355328 ∧ K := (mkS hb h0 h k).2.2.2
def levL (m : List Int) (l : List Ps) : List Int := l.map (levR m)
theorem levL_len (m : List Int) (l : List Ps) : (levL m l).length = l.length := List.length_map _
theorem levL_nth {m : List Int} {l : List Ps} {i : Int} (h0 : 0 ≤ i) (h : i < l.length) : nth (levL m l) i = levR m (nth l i) := by
  have h1 := nth_some (l := levL m l) h0 (by rw [levL_len]; exact h)
  unfold levL at h1 ⊢
  rw [List.getElem?_map, nth_some h0 h] at h1
  injection h1 with h1
  exact h1.symm
theorem levR_rg {g : Gm} (hg : g.ok) {m : List Int} (hm : MsOk g m) {p : Ps} (hp : p.ok g) : 0 ≤ levR m p ∧ levR m p ≤ 100000 := by
  have h1 := levB_rg (ct := []) hg hm (l := p.ct) hp.mem
  have h2 := levH_rg hm hp.h0 hp.h1 (k := m.length) (by have := hm.len; omega)
  have h3 := popR_rg p.rights
  have h4 := hp.len
  have h5 := hg.c9
  have h6 := hm.len
  have h7 := hg.k6
  unfold levR
  omega
set_option maxHeartbeats 8000000 in
set_option maxRecDepth 10000 in
theorem Cut_p (g : Gm) (hg : g.ok) (m : List Int) (hm : MsOk g m) (l : List Ps) (hl : l.length ≤ 1000) (hp : ∀ p, p ∈ l → p.ok g) : Pure Try.prog 12 [msAv m, Pss l] (Iss (cutR (levL m l))) none := by
  have el : (l.map Ps.av).length = l.length := List.length_map _
  have hlv := levL_len m l
  have hLr : ∀ i : Int, 0 ≤ i → i < l.length → 0 ≤ nth (levL m l) i ∧ nth (levL m l) i ≤ 100000 := fun i i0 i1 => by
    rw [levL_nth i0 i1]
    exact levR_rg hg hm (hp _ (nth_mem i0 i1))
  unfold Pss
  generalize hL : levL m l = L at *
  have hnth : ∀ i : Int, 0 ≤ i → i < l.length → nth L i = levR m (nth l i) := fun i i0 i1 => by rw [← hL]; exact levL_nth i0 i1
  clear hL
  refine fun_of tok D_ok Try.func12 rfl Try.ntmps12 Try.results12 (by kernel_rfl) (by simp) (by simp) ?_
  conv => whnf
  repeat' (first
    | (refine lvK (k := ?_); apply Cj.mk <;> first | exact trivial | intros)
    | (refine lvE (k := ?_); apply Cj.mk <;> first | exact trivial | intros)
    | fail)
  refine .of (fun i => [(15, I i)]) (fun i => [(1, .mp (.int .i64) ((keysN L i).map Kv) ((keysN L i).map (Rw1 L i)))]) 2 (fun i => 0 ≤ i ∧ i ≤ l.length) (fun i => (l.length - i).toNat) 0 ?_
  conv => whnf
  refine ⟨⟨[], (by kernel_rfl), (by kernel_rfl), (by kernel_rfl), lvL (k := ?_), lvL (k := ?_)⟩, ?_, fun i ⟨i0, i1⟩ => lvN (k := ?_)⟩ <;> (first | (apply Cj.mk <;> first | exact trivial | intros) | skip)
  · exact ⟨by omega, by omega⟩
  by_cases hi : i < l.length
  · have hpi := hp _ (nth_mem i0 hi)
    have hlev := Level_p g hg m hm (nth l i) hpi
    rw [← hnth i i0 hi] at hlev
    unfold msAv at hlev
    have hkl := keysN_len L i.toNat
    have hkn := keysN_nodup L i.toNat
    have hkm := mem_keysN L i.toNat
    rw [Int.toNat_of_nonneg i0] at hkl hkn hkm
    have hrl := rowN_len L (nth L i) i.toNat
    rw [Int.toNat_of_nonneg i0] at hrl
    by_cases hin : nth L i ∈ keysN L i
    · obtain ⟨q, hq⟩ := List.mem_iff_getElem?.1 hin
      have hcs := cut_set i0 hq hin hkn
      have hq1 : ((keysN L i).map Kv)[q]? = some (.int .i64 (nth L i)) := by rw [List.getElem?_map, hq]; rfl
      have hq2 : ((keysN L i).map (Rw1 L i))[q]? = some (.own 1 ((rowN L i (nth L i)).map I)) := by rw [List.getElem?_map, hq]; rfl
      have hks : (keysN L (i + 1)).map Kv = (keysN L i).map Kv := by rw [keysN_succ L i0]; unfold addK; rw [if_pos hin]
      repeat' (first
        | (refine lvK (k := ?_); apply Cj.mk <;> first | exact trivial | intros)
        | (refine ⟨_, _, hlev, lvN (k := ?_)⟩; apply Cj.mk <;> first | exact trivial | intros)
        | (refine .inl ?_; (conv => whnf); refine ⟨_, _, hlev, lvN (k := ?_)⟩; apply Cj.mk <;> first | exact trivial | intros)
        | (refine ⟨rfl, rfl, LookR.own q 1 _ hq1 hq2 ⟨rfl, .mk _ rfl (lvN (k := ?_))⟩⟩; apply Cj.mk <;> first | exact trivial | intros)
        | (refine ⟨rfl, rfl, ?_⟩; (conv => whnf); refine ⟨by decide, UpdR.set q hq1 _ (hcs.trans (List.set_set ..).symm) (lvN (k := ?_))⟩; apply Cj.mk <;> first | exact trivial | intros)
        | (refine lvE (k := ?_); apply Cj.mk <;> first | exact trivial | intros)
        | fail)
      refine ⟨i + 1, ⟨[], (by kernel_rfl), (by kernel_rfl), (by kernel_rfl), lvL (k := ?_), lvL (k := ?_)⟩, ?_, by (try dsimp only); omega, rfl⟩ <;> (first | (apply Cj.mk <;> first | exact trivial | intros) | skip)
      all_goals first | exact ⟨by omega, by omega⟩ | rw [hks]
    · have hcn := cut_new i0 hin hkm
      have hks : (keysN L (i + 1)).map Kv = (keysN L i).map Kv ++ [.int .i64 (nth L i)] := by rw [keysN_succ L i0]; unfold addK; rw [if_neg hin, List.map_append]; rfl
      have hno : (.int .i64 (nth L i)) ∉ (keysN L i).map Kv := fun h => by
        obtain ⟨x, hx, e⟩ := List.mem_map.1 h
        injection e with _ e
        exact hin (e ▸ hx)
      repeat' (first
        | (refine lvK (k := ?_); apply Cj.mk <;> first | exact trivial | intros)
        | (refine ⟨_, _, hlev, lvN (k := ?_)⟩; apply Cj.mk <;> first | exact trivial | intros)
        | (refine .inl ?_; (conv => whnf); refine ⟨_, _, hlev, lvN (k := ?_)⟩; apply Cj.mk <;> first | exact trivial | intros)
        | (refine ⟨rfl, rfl, LookR.no hno (lvN (k := ?_))⟩; apply Cj.mk <;> first | exact trivial | intros)
        | (refine ⟨rfl, rfl, ?_⟩; (conv => whnf); refine ⟨by decide, UpdR.new hno _ _ hks hcn (lvN (k := ?_))⟩; apply Cj.mk <;> first | exact trivial | intros)
        | (refine lvE (k := ?_); apply Cj.mk <;> first | exact trivial | intros)
        | fail)
      refine ⟨i + 1, ⟨[], (by kernel_rfl), (by kernel_rfl), (by kernel_rfl), lvL (k := ?_), lvL (k := ?_)⟩, ?_, by (try dsimp only); omega, rfl⟩ <;> (first | (apply Cj.mk <;> first | exact trivial | intros) | skip)
      exact ⟨by omega, by omega⟩
  · obtain rfl : i = l.length := by omega
    have hkl := keysN_len L l.length
    have hkn := keysN_nodup L l.length
    have hkm := mem_keysN L l.length
    have hxl : ((keysN L l.length).map (Rw1 L l.length)).length = (keysN L l.length).length := List.length_map _
    have hky := Keys_p (.int .i64) ((keysN L l.length).map Kv) ((keysN L l.length).map (Rw1 L l.length))
    have hsk := SortedKeys_p (keysN L l.length) (by omega) (fun x hx => by
      obtain ⟨j, j0, j1, rfl⟩ := (hkm x).1 hx
      have := hLr j j0 j1
      simp [Lit.wf, IntKind.has, IntKind.min, IntKind.max, IntKind.signed, IntKind.bits]
      omega) ((keysN L l.length).map (Rw1 L l.length))
    repeat' (first
      | (refine lvK (k := ?_); apply Cj.mk <;> first | exact trivial | intros)
      | (refine mkC (by decide) (by omega) (by omega) (lvN (k := ?_)); apply Cj.mk <;> first | exact trivial | intros)
      | (refine .inl ?_; (conv => whnf); refine ⟨[1], _, [.ref 0], _, _, ⟨rfl, rfl, rfl⟩, hky, lvN (k := ?_)⟩; apply Cj.mk <;> first | exact trivial | intros)
      | (refine .inl ?_; (conv => whnf); refine ⟨[1, 3], _, [.fn (.func 38) [] [.ptr 1 0]], _, _, ⟨rfl, rfl, rfl⟩, hsk, lvN (k := ?_)⟩; apply Cj.mk <;> first | exact trivial | intros)
      | (refine lvE (k := ?_); apply Cj.mk <;> first | exact trivial | intros)
      | fail)
    have hSl := sortI_len (keysN L l.length)
    have hSm := fun x => sortI_mem (l := keysN L l.length) (x := x)
    have hSn := sortI_nodup hkn
    have em : ((sortI (keysN L l.length)).map I).length = (sortI (keysN L l.length)).length := List.length_map _
    unfold cutR
    rw [hlv]
    generalize sortI (keysN L l.length) = S at *
    refine .of (fun j => [(39, I j), (9, .ref 2)]) (fun j => [(1, .mp (.int .i64) ((keysN L l.length).map Kv) ((keysN L l.length).map (Rw2 L l.length (S.take j.toNat)))), (2, .arr 1 (((S.take j.toNat).map (rowN L l.length)).map Is))]) 5 (fun j => 0 ≤ j ∧ j ≤ S.length) (fun j => (S.length - j).toNat) 0 ?_
    conv => whnf
    refine ⟨⟨[], (by kernel_rfl), (by kernel_rfl), (by kernel_rfl), lvL (k := ?_), lvL (k := ?_)⟩, ?_, fun j ⟨j0, j1⟩ => lvN (k := ?_)⟩ <;> (first | (apply Cj.mk <;> first | exact trivial | intros) | skip)
    · exact ⟨by omega, by omega⟩
    by_cases hj : j < S.length
    · have hin : nth S j ∈ keysN L l.length := (hSm _).1 (nth_mem j0 hj)
      have hnd : nth S j ∉ S.take j.toNat := fun h => by
        obtain ⟨q, hq⟩ := List.mem_iff_getElem?.1 h
        have hql := (List.getElem?_eq_some_iff.1 hq).1
        rw [List.length_take] at hql
        rw [List.getElem?_take, if_pos (by omega)] at hq
        have := nodup_at hSn hq (nth_some j0 hj)
        omega
      obtain ⟨q, hq⟩ := List.mem_iff_getElem?.1 hin
      have hq1 : ((keysN L l.length).map Kv)[q]? = some (.int .i64 (nth S j)) := by rw [List.getElem?_map, hq]; rfl
      have hq2 : ((keysN L l.length).map (Rw2 L l.length (S.take j.toNat)))[q]? = some (.own 1 ((rowN L l.length (nth S j)).map I)) := by
        rw [List.getElem?_map, hq]
        simp only [Option.map_some, Rw2]
        rw [if_neg hnd]; rfl
      have hco := cut_out (L := L) (n := l.length) hq hkn hnd
      have hsn := take_snoc j0 hj
      have hll : ((S.take j.toNat).map (rowN L l.length)).length = j.toNat := by have := take_len j0 j1; rw [List.length_map]; omega
      repeat' (first
        | (refine lvK (k := ?_); apply Cj.mk <;> first | exact trivial | intros)
        | (refine ⟨rfl, rfl, LookR.own q 1 _ hq1 hq2 ⟨rfl, .mk _ rfl (lvN (k := ?_))⟩⟩; apply Cj.mk <;> first | exact trivial | intros)
        | (refine ap1 (f := Is) (a := (rowN L l.length (nth S j))) (by decide) (by omega) rfl rfl (lvN (k := ?_)); apply Cj.mk <;> first | exact trivial | intros)
        | (refine lvE (k := ?_); apply Cj.mk <;> first | exact trivial | intros)
        | fail)
      refine ⟨j + 1, ⟨[], (by kernel_rfl), (by kernel_rfl), (by kernel_rfl), lvL (k := ?_), lvL (k := ?_)⟩, ?_, by (try dsimp only); omega, rfl⟩ <;> (first | (apply Cj.mk <;> first | exact trivial | intros) | skip)
      all_goals first | exact ⟨by omega, by omega⟩ | (rw [hsn, hco]; done) | (simp only [hsn, List.map_append, List.map_cons, List.map_nil]; done)
    · obtain rfl : j = S.length := by omega
      rw [take_all (Int.le_refl _)]
      repeat' (first
        | (refine lvK (k := ?_); apply Cj.mk <;> first | exact trivial | intros)
        | (refine lvE (k := ?_); apply Cj.mk <;> first | exact trivial | intros)
        | fail)
end Go.Proofs.Ytceeabnmleemiaa
namespace Go.Proofs.Ytceeabnmleemiaa
open Go Go.Sk
theorem becS_no {b : Int} {x : Stp} (h : x.op ≠ 8) : becS b x = false := by unfold becS; simp [h]
theorem becS_eq {b : Int} {x : Stp} (h : x.op = 8) : becS b x = decide (x.n = b) := by unfold becS; simp [h]
set_option maxHeartbeats 4000000 in
set_option maxRecDepth 10000 in
theorem Bec_p (g : Gm) (hg : g.ok) (h2 : g.nk ≤ 2) (a : Int) (a0 : 0 ≤ a) (a1 : a < g.nk) : Pure Try.prog 30 [Kn (nth g.kinds a)] (.ag [Bo (g.becR a 0), Bo (g.becR a 1), Bo false, Bo false, Bo false, Bo false]) none := by
  have epl : ((nth g.kinds a).progs.map Pg).length = (nth g.kinds a).progs.length := List.length_map _
  have hpl := hg.pl a a0 a1
  have hpg := hg.pg a a0 a1
  unfold Gm.becR
  generalize nth g.kinds a = kd at *
  obtain ⟨kn, progs, keep⟩ := kd
  dsimp only at *
  refine fun_of tok D_ok Try.func30 rfl Try.ntmps30 Try.results30 (by kernel_rfl) (by simp) (by simp) ?_
  conv => whnf
  repeat' (first
    | (refine lvK (k := ?_); apply Cj.mk <;> first | exact trivial | intros)
    | (refine lvE (k := ?_); apply Cj.mk <;> first | exact trivial | intros)
    | fail)
  refine .of (fun i => [(11, I i)]) (fun i => [(2, .box [Bo ((progs.take i.toNat).any (becP 0)), Bo ((progs.take i.toNat).any (becP 1)), Bo false, Bo false, Bo false, Bo false])]) 3 (fun i => 0 ≤ i ∧ i ≤ progs.length) (fun i => (progs.length - i).toNat) 0 ?_
  conv => whnf
  refine ⟨⟨[], (by kernel_rfl), (by kernel_rfl), (by kernel_rfl), lvL (k := ?_), lvL (k := ?_)⟩, ?_, fun i ⟨i0, i1⟩ => lvN (k := ?_)⟩ <;> (first | (apply Cj.mk <;> first | exact trivial | intros) | skip)
  · exact ⟨by omega, by omega⟩
  by_cases hi : i < progs.length
  · have hp1 := hpg _ (nth_mem i0 hi)
    have hs0 := any_succ (f := becP 0) i0 hi
    have hs1 := any_succ (f := becP 1) i0 hi
    have ep : ((nth progs i).map St1).length = (nth progs i).length := List.length_map _
    have h8 := hp1.l8
    generalize (progs.take i.toNat).any (becP 0) = c0 at *
    generalize (progs.take i.toNat).any (becP 1) = c1 at *
    repeat' (first
      | (refine lvK (k := ?_); apply Cj.mk <;> first | exact trivial | intros)
      | (refine lvE (k := ?_); apply Cj.mk <;> first | exact trivial | intros)
      | fail)
    refine .of (fun k => [(17, I k)]) (fun k => [(2, .box [Bo (c0 || ((nth progs i).take k.toNat).any (becS 0)), Bo (c1 || ((nth progs i).take k.toNat).any (becS 1)), Bo false, Bo false, Bo false, Bo false])]) 3 (fun k => 0 ≤ k ∧ k ≤ (nth progs i).length) (fun k => ((nth progs i).length - k).toNat) 0 ?_
    conv => whnf
    refine ⟨⟨[], (by kernel_rfl), (by kernel_rfl), (by kernel_rfl), lvL (k := ?_), lvL (k := ?_)⟩, ?_, fun k ⟨k0, k1⟩ => lvN (k := ?_)⟩ <;> (first | (apply Cj.mk <;> first | exact trivial | intros) | skip)
    · simp
    · simp
    · exact ⟨by omega, by omega⟩
    by_cases hk : k < (nth progs i).length
    · have hst := hp1.st _ (nth_mem k0 hk)
      have hk0 := any_succ (f := becS 0) k0 hk
      have hk1 := any_succ (f := becS 1) k0 hk
      generalize ((nth progs i).take k.toNat).any (becS 0) = d0 at *
      generalize ((nth progs i).take k.toNat).any (becS 1) = d1 at *
      by_cases ho : (nth (nth progs i) k).op = 8
      · rw [becS_eq ho] at hk0 hk1
        have hn : (nth (nth progs i) k).n = 0 ∨ (nth (nth progs i) k).n = 1 := by unfold StpOk at hst; omega
        rcases hn with hn | hn
        all_goals
          repeat' (first
            | (refine lvK (k := ?_); apply Cj.mk <;> first | exact trivial | intros)
            | (refine lvE (k := ?_); apply Cj.mk <;> first | exact trivial | intros)
            | fail)
          rw [hn]
          repeat' (first
            | (refine lvK (k := ?_); apply Cj.mk <;> first | exact trivial | intros)
            | (refine lvE (k := ?_); apply Cj.mk <;> first | exact trivial | intros)
            | fail)
          refine ⟨k + 1, ⟨[], (by kernel_rfl), (by kernel_rfl), (by kernel_rfl), lvL (k := ?_), lvL (k := ?_)⟩, ?_, by (try dsimp only); omega, rfl⟩ <;> (first | (apply Cj.mk <;> first | exact trivial | intros) | skip)
          all_goals first | exact ⟨by omega, by omega⟩ | (rw [hk0]; simp [hn]; done) | (rw [hk1]; simp [hn]; done)
      · rw [becS_no ho, Bool.or_false] at hk0 hk1
        repeat' (first
          | (refine lvK (k := ?_); apply Cj.mk <;> first | exact trivial | intros)
          | (refine lvE (k := ?_); apply Cj.mk <;> first | exact trivial | intros)
          | fail)
        refine ⟨k + 1, ⟨[], (by kernel_rfl), (by kernel_rfl), (by kernel_rfl), lvL (k := ?_), lvL (k := ?_)⟩, ?_, by (try dsimp only); omega, rfl⟩ <;> (first | (apply Cj.mk <;> first | exact trivial | intros) | skip)
        all_goals first | exact ⟨by omega, by omega⟩ | (rw [hk0]) | (rw [hk1])
    · have hke : k = (nth progs i).length := by omega
      subst hke
      rw [take_all (Int.le_refl _)]
      repeat' (first
        | (refine lvK (k := ?_); apply Cj.mk <;> first | exact trivial | intros)
        | (refine lvE (k := ?_); apply Cj.mk <;> first | exact trivial | intros)
        | fail)
      refine ⟨i + 1, ⟨[], (by kernel_rfl), (by kernel_rfl), (by kernel_rfl), lvL (k := ?_), lvL (k := ?_)⟩, ?_, by (try dsimp only); omega, rfl⟩ <;> (first | (apply Cj.mk <;> first | exact trivial | intros) | skip)
      all_goals first | exact ⟨by omega, by omega⟩ | (rw [hs0]; rfl) | (rw [hs1]; rfl)
  · obtain rfl : i = progs.length := by omega
    rw [take_all (Int.le_refl _)]
    repeat' (first
      | (refine lvK (k := ?_); apply Cj.mk <;> first | exact trivial | intros)
      | (refine lvE (k := ?_); apply Cj.mk <;> first | exact trivial | intros)
      | fail)
theorem becR_far {g : Gm} (hg : g.ok) {a b : Int} (a0 : 0 ≤ a) (a1 : a < g.nk) (hb : g.nk ≤ b) : g.becR a b = false := by
  unfold Gm.becR
  rw [Bool.eq_false_iff]
  intro h
  obtain ⟨p, hp, h1⟩ := List.any_eq_true.1 h
  obtain ⟨x, hx, h2⟩ := List.any_eq_true.1 h1
  have h3 := (hg.pg a a0 a1 p hp).st x hx
  unfold becS at h2
  simp only [Bool.and_eq_true, decide_eq_true_eq] at h2
  unfold StpOk at h3
  omega
end Go.Proofs.Ytceeabnmleemiaa
namespace Go.Proofs.Ytceeabnmleemiaa
open Go Go.Sk
def mn1 (a y : Int) : Int := if y < a then y else a
def mx1 (a y : Int) : Int := if y > a then y else a
def mnL (l : List Int) (i : Int) : Int := ((l.take i.toNat).drop 1).foldl mn1 (nth l 0)
def mxL (l : List Int) (i : Int) : Int := ((l.take i.toNat).drop 1).foldl mx1 (nth l 0)
theorem mnL_1 (l : List Int) : mnL l 1 = nth l 0 := by unfold mnL; cases l <;> rfl
theorem mxL_1 (l : List Int) : mxL l 1 = nth l 0 := by unfold mxL; cases l <;> rfl
theorem mnL_succ {l : List Int} {i : Int} (h0 : 1 ≤ i) (h : i < l.length) : mnL l (i + 1) = mn1 (mnL l i) (nth l i) := by
  unfold mnL
  rw [take_snoc (by omega) h, List.drop_append_of_le_length (by rw [List.length_take]; omega), List.foldl_append]
  rfl
theorem mxL_succ {l : List Int} {i : Int} (h0 : 1 ≤ i) (h : i < l.length) : mxL l (i + 1) = mx1 (mxL l i) (nth l i) := by
  unfold mxL
  rw [take_snoc (by omega) h, List.drop_append_of_le_length (by rw [List.length_take]; omega), List.foldl_append]
  rfl
theorem mnL_iff {l : List Int} {b : Int} : ∀ n : Nat, 1 ≤ n → n ≤ l.length → (b ≤ mnL l n ↔ ∀ i : Int, 0 ≤ i → i < n → b ≤ nth l i)
  | 0, h, _ => by omega
  | 1, _, _ => by
    rw [show ((1 : Nat) : Int) = 1 from rfl, mnL_1]
    exact ⟨fun h i i0 i1 => (by omega : i = 0) ▸ h, fun h => h 0 (by omega) (by omega)⟩
  | n + 2, _, hl => by
    rw [show ((n + 2 : Nat) : Int) = ((n + 1 : Nat) : Int) + 1 from by omega, mnL_succ (by omega) (by omega)]
    have ih := mnL_iff (l := l) (b := b) (n + 1) (by omega) (by omega)
    unfold mn1
    refine ⟨fun h i i0 i1 => ?_, fun h => ?_⟩
    · by_cases hi : i = ((n + 1 : Nat) : Int)
      · subst hi; split at h <;> omega
      · exact ih.1 (by split at h <;> omega) i i0 (by omega)
    · have h1 := ih.2 fun i i0 i1 => h i i0 (by omega)
      have h2 := h ((n + 1 : Nat) : Int) (by omega) (by omega)
      split <;> omega
theorem mxL_iff {l : List Int} {b : Int} : ∀ n : Nat, 1 ≤ n → n ≤ l.length → (mxL l n ≤ b ↔ ∀ i : Int, 0 ≤ i → i < n → nth l i ≤ b)
  | 0, h, _ => by omega
  | 1, _, _ => by
    rw [show ((1 : Nat) : Int) = 1 from rfl, mxL_1]
    exact ⟨fun h i i0 i1 => (by omega : i = 0) ▸ h, fun h => h 0 (by omega) (by omega)⟩
  | n + 2, _, hl => by
    rw [show ((n + 2 : Nat) : Int) = ((n + 1 : Nat) : Int) + 1 from by omega, mxL_succ (by omega) (by omega)]
    have ih := mxL_iff (l := l) (b := b) (n + 1) (by omega) (by omega)
    unfold mx1
    refine ⟨fun h i i0 i1 => ?_, fun h => ?_⟩
    · by_cases hi : i = ((n + 1 : Nat) : Int)
      · subst hi; split at h <;> omega
      · exact ih.1 (by split at h <;> omega) i i0 (by omega)
    · have h1 := ih.2 fun i i0 i1 => h i i0 (by omega)
      have h2 := h ((n + 1 : Nat) : Int) (by omega) (by omega)
      split <;> omega
set_option maxRecDepth 10000 in
theorem Min_p (l : List Int) (h1 : 1 ≤ l.length) (h : l.length ≤ 1000000) : Pure Try.prog 31 [Is l] (I (mnL l l.length)) none := by
  have e : (l.map I).length = l.length := List.length_map _
  refine fun_of tok D_ok Try.func31 rfl Try.ntmps31 Try.results31 (by kernel_rfl) (by simp) (by simp) ?_
  conv => whnf
  repeat' (first
    | (refine lvK (k := ?_); apply Cj.mk <;> first | exact trivial | intros)
    | (refine lvE (k := ?_); apply Cj.mk <;> first | exact trivial | intros)
    | fail)
  refine .of (fun i => [(4, I i), (3, I (mnL l i))]) (fun i => []) 0 (fun i => 1 ≤ i ∧ i ≤ l.length) (fun i => (l.length - i).toNat) 1 ?_
  conv => whnf
  refine ⟨⟨[], (by kernel_rfl), (by kernel_rfl), (by kernel_rfl), lvL (k := ?_), lvL (k := ?_)⟩, ?_, fun i ⟨i0, i1⟩ => lvN (k := ?_)⟩ <;> (first | (apply Cj.mk <;> first | exact trivial | intros) | skip)
  · rw [mnL_1]
  · exact ⟨by omega, by omega⟩
  by_cases hi : i < l.length
  · have hs := mnL_succ i0 hi
    repeat' (first
      | (refine lvK (k := ?_); apply Cj.mk <;> first | exact trivial | intros)
      | (refine lvE (k := ?_); apply Cj.mk <;> first | exact trivial | intros)
      | fail)
    refine ⟨i + 1, ⟨[], (by kernel_rfl), (by kernel_rfl), (by kernel_rfl), lvL (k := ?_), lvL (k := ?_)⟩, ?_, by (try dsimp only); omega, rfl⟩ <;> (first | (apply Cj.mk <;> first | exact trivial | intros) | skip)
    · rw [hs]; rfl
    · exact ⟨by omega, by omega⟩
  · obtain rfl : i = l.length := by omega
    repeat' (first
      | (refine lvK (k := ?_); apply Cj.mk <;> first | exact trivial | intros)
      | (refine lvE (k := ?_); apply Cj.mk <;> first | exact trivial | intros)
      | fail)
set_option maxRecDepth 10000 in
theorem Max_p (l : List Int) (h1 : 1 ≤ l.length) (h : l.length ≤ 1000000) : Pure Try.prog 32 [Is l] (I (mxL l l.length)) none := by
  have e : (l.map I).length = l.length := List.length_map _
  refine fun_of tok D_ok Try.func32 rfl Try.ntmps32 Try.results32 (by kernel_rfl) (by simp) (by simp) ?_
  conv => whnf
  repeat' (first
    | (refine lvK (k := ?_); apply Cj.mk <;> first | exact trivial | intros)
    | (refine lvE (k := ?_); apply Cj.mk <;> first | exact trivial | intros)
    | fail)
  refine .of (fun i => [(4, I i), (3, I (mxL l i))]) (fun i => []) 0 (fun i => 1 ≤ i ∧ i ≤ l.length) (fun i => (l.length - i).toNat) 1 ?_
  conv => whnf
  refine ⟨⟨[], (by kernel_rfl), (by kernel_rfl), (by kernel_rfl), lvL (k := ?_), lvL (k := ?_)⟩, ?_, fun i ⟨i0, i1⟩ => lvN (k := ?_)⟩ <;> (first | (apply Cj.mk <;> first | exact trivial | intros) | skip)
  · rw [mxL_1]
  · exact ⟨by omega, by omega⟩
  by_cases hi : i < l.length
  · have hs := mxL_succ i0 hi
    repeat' (first
      | (refine lvK (k := ?_); apply Cj.mk <;> first | exact trivial | intros)
      | (refine lvE (k := ?_); apply Cj.mk <;> first | exact trivial | intros)
      | fail)
    refine ⟨i + 1, ⟨[], (by kernel_rfl), (by kernel_rfl), (by kernel_rfl), lvL (k := ?_), lvL (k := ?_)⟩, ?_, by (try dsimp only); omega, rfl⟩ <;> (first | (apply Cj.mk <;> first | exact trivial | intros) | skip)
    · rw [hs]; rfl
    · exact ⟨by omega, by omega⟩
  · obtain rfl : i = l.length := by omega
    repeat' (first
      | (refine lvK (k := ?_); apply Cj.mk <;> first | exact trivial | intros)
      | (refine lvE (k := ?_); apply Cj.mk <;> first | exact trivial | intros)
      | fail)
end Go.Proofs.Ytceeabnmleemiaa
namespace Go.Proofs.Ytceeabnmleemiaa
open Go Go.Sk
def b01 (g : Gm) : Bool := g.becR 0 1
def b10 (g : Gm) : Bool := decide (g.nk = 2) && g.becR 1 0
def Bn (b : Bool) : Int := if b then 1 else 0
def Gm.ofR (g : Gm) : List Int := if g.nk = 1 then [1] else [1 + Bn (b01 g), 1 + Bn (b10 g)]
def rw0 (g : Gm) : List Bool := [true, b01 g, false, false, false, false]
def rw1 (g : Gm) : List Bool := [b10 g, true, false, false, false, false]
theorem part6 {b0 b1 b2 b3 b4 b5 : Bool} {k : Int} (k0 : 0 ≤ k) (h : k < 6) : partA [Bo b0, Bo b1, Bo b2, Bo b3, Bo b4, Bo b5] ti4 (k.toNat * 1) = some (Bo (nth [b0, b1, b2, b3, b4, b5] k)) := by
  have hk : k = 0 ∨ k = 1 ∨ k = 2 ∨ k = 3 ∨ k = 4 ∨ k = 5 := by omega
  rcases hk with rfl | rfl | rfl | rfl | rfl | rfl <;> rfl
def cnT (l : List Bool) : Int := (l.filter id).length
def ct1 (_ : Gm) (i : Int) : List Int := [if 0 < i then 1 else 0]
def ct2 (g : Gm) (i : Int) : List Int := [if 0 < i then 1 + Bn (b01 g) else 0, if 1 < i then 1 + Bn (b10 g) else 0]
theorem nth6 {b0 b1 : Bool} {k : Int} (k0 : 0 ≤ k) (h : k < 6) (ht : nth [b0, b1, false, false, false, false] k = true) : k = 0 ∨ k = 1 := by
  have hk : k = 0 ∨ k = 1 ∨ k = 2 ∨ k = 3 ∨ k = 4 ∨ k = 5 := by omega
  rcases hk with rfl | rfl | rfl | rfl | rfl | rfl <;> first | omega | cases ht
theorem cnT_succ {l : List Bool} {i : Int} (h0 : 0 ≤ i) (h : i < l.length) : cnT (l.take (i + 1).toNat) = cnT (l.take i.toNat) + (if nth l i = true then 1 else 0) := by
  unfold cnT
  rw [take_snoc h0 h, List.filter_append, List.length_append]
  cases hb : nth l i <;> simp
def lmx1 : List AV := [Bo true, Bo false, Bo false, Bo false, Bo false, Bo false, Bo false, Bo false, Bo false, Bo false, Bo false, Bo false, Bo false, Bo false, Bo false, Bo false, Bo false, Bo false, Bo false, Bo false, Bo false, Bo false, Bo false, Bo false, Bo false, Bo false, Bo false, Bo false, Bo false, Bo false, Bo false, Bo false, Bo false, Bo false, Bo false, Bo false]
def Lm1 (k j : Int) : Bool := nth (nth [[true, false, false, false, false, false], [false, false, false, false, false, false], [false, false, false, false, false, false], [false, false, false, false, false, false], [false, false, false, false, false, false], [false, false, false, false, false, false]] k) j
theorem partR1 {k : Int} (k0 : 0 ≤ k) (h : k < 6) : partA (List.drop (0 + k.toNat * ti87.size) (lmx1)) ti87 0 = some (.ag [Bo (Lm1 k 0), Bo (Lm1 k 1), Bo (Lm1 k 2), Bo (Lm1 k 3), Bo (Lm1 k 4), Bo (Lm1 k 5)]) := by
  have hk : k = 0 ∨ k = 1 ∨ k = 2 ∨ k = 3 ∨ k = 4 ∨ k = 5 := by omega
  rcases hk with rfl | rfl | rfl | rfl | rfl | rfl <;> rfl
theorem Lm1_j {k j : Int} (k0 : 0 ≤ k) (h : k < 6) (j0 : 0 ≤ j) (hj : j < 6) (ht : nth [Lm1 k 0, Lm1 k 1, Lm1 k 2, Lm1 k 3, Lm1 k 4, Lm1 k 5] j = true) : j = 0 ∨ j = 1 := by
  have hk : k = 0 ∨ k = 1 ∨ k = 2 ∨ k = 3 ∨ k = 4 ∨ k = 5 := by omega
  rcases hk with rfl | rfl | rfl | rfl | rfl | rfl <;> exact nth6 j0 hj ht
def lmx2 (x y : Bool) : List AV := [Bo true, Bo x, Bo false, Bo false, Bo false, Bo false, Bo y, Bo true, Bo false, Bo false, Bo false, Bo false, Bo false, Bo false, Bo false, Bo false, Bo false, Bo false, Bo false, Bo false, Bo false, Bo false, Bo false, Bo false, Bo false, Bo false, Bo false, Bo false, Bo false, Bo false, Bo false, Bo false, Bo false, Bo false, Bo false, Bo false]
def Lm2 (x y : Bool) (k j : Int) : Bool := nth (nth [[true, x, false, false, false, false], [y, true, false, false, false, false], [false, false, false, false, false, false], [false, false, false, false, false, false], [false, false, false, false, false, false], [false, false, false, false, false, false]] k) j
theorem partR2 (x y : Bool) {k : Int} (k0 : 0 ≤ k) (h : k < 6) : partA (List.drop (0 + k.toNat * ti87.size) (lmx2 x y)) ti87 0 = some (.ag [Bo (Lm2 x y k 0), Bo (Lm2 x y k 1), Bo (Lm2 x y k 2), Bo (Lm2 x y k 3), Bo (Lm2 x y k 4), Bo (Lm2 x y k 5)]) := by
  have hk : k = 0 ∨ k = 1 ∨ k = 2 ∨ k = 3 ∨ k = 4 ∨ k = 5 := by omega
  rcases hk with rfl | rfl | rfl | rfl | rfl | rfl <;> rfl
theorem Lm2_j (x y : Bool) {k j : Int} (k0 : 0 ≤ k) (h : k < 6) (j0 : 0 ≤ j) (hj : j < 6) (ht : nth [Lm2 x y k 0, Lm2 x y k 1, Lm2 x y k 2, Lm2 x y k 3, Lm2 x y k 4, Lm2 x y k 5] j = true) : j = 0 ∨ j = 1 := by
  have hk : k = 0 ∨ k = 1 ∨ k = 2 ∨ k = 3 ∨ k = 4 ∨ k = 5 := by omega
  rcases hk with rfl | rfl | rfl | rfl | rfl | rfl <;> exact nth6 j0 hj ht
end Go.Proofs.Ytceeabnmleemiaa
