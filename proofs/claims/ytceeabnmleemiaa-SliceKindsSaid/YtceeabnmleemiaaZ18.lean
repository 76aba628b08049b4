/- Contracts of functions of the program, proved by the checker; and plain laws. -/
import Derived.Test.YtceeabnmleemiaaZ17
import Derived.Test.YtceeabnmleemiaaRows
import Derived.Test.YtceeabnmleemiaaSk15
set_option linter.unusedVariables false
set_option linter.unusedSimpArgs false
namespace Go.Proofs.Ytceeabnmleemiaa
open Go Go.Sk
theorem Man_p (c : Int) (hc : -1000000 ≤ c ∧ c ≤ 1000000) : Pure Try.prog 28 [I c] (.tup [I (ofK c), I (ofS c)]) none := by
  refine fun_of tok D_ok Try.func28 rfl Try.ntmps28 Try.results28 (by kernel_rfl) (by simp) (by simp) ?_
  conv => whnf
  repeat' (first
    | (refine lvA (k := ?_); apply Cj.mk <;> first | exact trivial | intros)
    | (refine lvE (k := ?_); apply Cj.mk <;> first | exact trivial | intros)
    | fail)
  all_goals (congr 1; first | unfold ofK | unfold ofS)
  all_goals first | rw [if_pos (by omega)] | rw [if_neg (by omega)]
def wt (m : List Int) (c : Int) : Int := if 0 ≤ ofK c then nth m (ofK c) else 0
def levB (m ct : List Int) : Int := (ct.map (wt m)).sum
def hw (m a b : List Int) (k : Int) : Int := nth m k * (nth a k + nth b k)
def levH (m a b : List Int) (k : Int) : Int := ((ints k).map (hw m a b)).sum
def popR (r : Int) : Int := r % 2 + r / 2 % 2 + r / 4 % 2 + r / 8 % 2
def levR (m : List Int) (p : Ps) : Int := levB m p.ct + levH m p.h0 p.h1 m.length + popR p.rights
structure MsOk (g : Gm) (m : List Int) : Prop where
  len : (m.length : Int) = g.nk
  v : ∀ k : Int, 0 ≤ k → k < g.nk → 0 ≤ nth m k ∧ nth m k ≤ 8
theorem popR_low {r : Int} (h0 : 0 < r) (h : r < 16) : popR (lowR r) + 1 = popR r ∧ 0 ≤ lowR r ∧ lowR r < r := by
  unfold popR lowR
  split
  · omega
  split
  · omega
  split
  · omega
  · omega
theorem popR_0 : popR 0 = 0 := rfl
theorem popR_rg (r : Int) : 0 ≤ popR r ∧ popR r ≤ 4 := by
  unfold popR
  omega
theorem levB_succ {m l : List Int} {i : Int} (h0 : 0 ≤ i) (h : i < l.length) : levB m (l.take (i + 1).toNat) = levB m (l.take i.toNat) + wt m (nth l i) := by
  unfold levB
  rw [take_snoc h0 h, List.map_append, List.sum_append]
  simp
theorem levH_succ {m a b : List Int} {i : Int} (h0 : 0 ≤ i) : levH m a b (i + 1) = levH m a b i + hw m a b i := by
  unfold levH
  rw [ints_succ h0, List.map_append, List.sum_append]
  simp
theorem wt_rg {g : Gm} {m : List Int} (hg : g.ok) (hm : MsOk g m) {c : Int} (h0 : 0 ≤ c) (h : c ≤ 2 * g.nk) : 0 ≤ wt m c ∧ wt m c ≤ 8 := by
  have h6 := hg.k6
  unfold wt
  split
  · rename_i h1
    refine hm.v _ h1 ?_
    unfold ofK at *
    split at h1
    · rename_i h2
      rw [if_pos h2]; omega
    · omega
  · omega
theorem hw_rg {g : Gm} {m : List Int} (hm : MsOk g m) {a b : List Int} (ha : HdOk g a) (hb : HdOk g b) {k : Int} (h0 : 0 ≤ k) (h : k < g.nk) : 0 ≤ hw m a b k ∧ hw m a b k ≤ 128 := by
  have h1 := hm.v k h0 h
  have h2 := ha.v k h0 h
  have h3 := hb.v k h0 h
  unfold hw
  exact ⟨Int.mul_nonneg h1.1 (by omega), by
    have : nth m k * (nth a k + nth b k) ≤ 8 * 16 := Int.mul_le_mul h1.2 (by omega) (by omega) (by omega)
    omega⟩
theorem levB_rg {g : Gm} {m : List Int} (hg : g.ok) (hm : MsOk g m) {ct : List Int} : ∀ {l : List Int}, (∀ c, c ∈ l → 0 ≤ c ∧ c ≤ 2 * g.nk) → 0 ≤ levB m l ∧ levB m l ≤ 8 * l.length
  | [], _ => by simp [levB]
  | c :: l, h => by
    have h1 := levB_rg (ct := ct) hg hm (l := l) fun x hx => h x (List.mem_cons_of_mem _ hx)
    have h2 := h c (List.mem_cons_self ..)
    have h3 := wt_rg hg hm h2.1 h2.2
    have h4 : levB m (c :: l) = wt m c + levB m l := by simp [levB]
    simp only [List.length_cons]
    omega
theorem levH_rg {g : Gm} {m : List Int} (hm : MsOk g m) {a b : List Int} (ha : HdOk g a) (hb : HdOk g b) : ∀ {k : Nat}, (k : Int) ≤ g.nk → 0 ≤ levH m a b k ∧ levH m a b k ≤ 128 * k
  | 0, _ => by simp [levH, ints]
  | k + 1, h => by
    have h1 := levH_rg hm ha hb (k := k) (by omega)
    have h2 := hw_rg hm ha hb (k := k) (by omega) (by omega)
    have h3 := levH_succ (m := m) (a := a) (b := b) (i := k) (by omega)
    rw [show ((k + 1 : Nat) : Int) = (k : Int) + 1 from rfl, h3]
    omega
theorem Ps.ok.mem {g : Gm} {p : Ps} (hp : p.ok g) : ∀ c, c ∈ p.ct → 0 ≤ c ∧ c ≤ 2 * g.nk := fun c hc => by
  have hcl := hp.len
  obtain ⟨i, hi⟩ := List.mem_iff_getElem?.1 hc
  have hl := (List.getElem?_eq_some_iff.1 hi).1
  have h1 := nth_some (l := p.ct) (i := (i : Int)) (by omega) (by omega)
  rw [Int.toNat_natCast, hi] at h1
  injection h1 with h1
  rw [h1]
  exact hp.c i (by omega) (by omega)
def msAv (m : List Int) : AV := .ag [Is m]
set_option maxHeartbeats 4000000 in
set_option maxRecDepth 10000 in
theorem Level_p (g : Gm) (hg : g.ok) (m : List Int) (hm : MsOk g m) (p : Ps) (hp : p.ok g) : Pure Try.prog 15 [msAv m, p.av] (I (levR m p)) none := by
  have em : (m.map I).length = m.length := List.length_map _
  have ec : (p.ct.map I).length = p.ct.length := List.length_map _
  have e0 : (p.h0.map I).length = p.h0.length := List.length_map _
  have e1 : (p.h1.map I).length = p.h1.length := List.length_map _
  have hml := hm.len
  have hcl := hp.len
  have h0l := hp.h0.len
  have h1l := hp.h1.len
  have k6 := hg.k6
  have c9 := hg.c9
  have hr0 := hp.r0
  have hr1 : p.rights < 16 := by
    have := hp.r1
    have h4 := hg.r4
    have : (2 : Int) ^ g.rights.toNat ≤ 2 ^ 4 := by exact_mod_cast Nat.pow_le_pow_right (by decide) (by omega)
    omega
  have hcs := hp.mem
  unfold msAv
  refine fun_of tok D_ok Try.func15 rfl Try.ntmps15 Try.results15 (by kernel_rfl) (by simp) (by simp) ?_
  conv => whnf
  repeat' (first
    | (refine lvK (k := ?_); apply Cj.mk <;> first | exact trivial | intros)
    | (refine lvE (k := ?_); apply Cj.mk <;> first | exact trivial | intros)
    | fail)
  refine .of (fun i => [(16, I i), (5, I (levB m (p.ct.take i.toNat)))]) (fun i => []) 2 (fun i => 0 ≤ i ∧ i ≤ p.ct.length) (fun i => (p.ct.length - i).toNat) 0 ?_
  conv => whnf
  refine ⟨⟨[], (by kernel_rfl), (by kernel_rfl), (by kernel_rfl), lvL (k := ?_), lvL (k := ?_)⟩, ?_, fun i ⟨i0, i1⟩ => lvN (k := ?_)⟩ <;> (first | (apply Cj.mk <;> first | exact trivial | intros) | skip)
  · exact ⟨by omega, by omega⟩
  have hlb := levB_rg (ct := []) hg hm (l := p.ct.take i.toNat) fun c hc => hcs c (List.mem_of_mem_take hc)
  rw [List.length_take] at hlb
  by_cases hi : i < p.ct.length
  · have hci := hp.c i i0 (by omega)
    have hmn := Man_p (nth p.ct i) (by omega)
    have hsu := levB_succ (m := m) i0 hi
    have hok : 0 ≤ ofK (nth p.ct i) → ofK (nth p.ct i) < m.length ∧ wt m (nth p.ct i) = nth m (ofK (nth p.ct i)) := fun h => by
      refine ⟨?_, by unfold wt; rw [if_pos h]⟩
      unfold ofK at *
      split at h
      · rename_i h2
        rw [if_pos h2]; omega
      · omega
    have hno : ¬ 0 ≤ ofK (nth p.ct i) → wt m (nth p.ct i) = 0 := fun h => by unfold wt; rw [if_neg h]
    have hwr := wt_rg hg hm hci.1 hci.2
    generalize ofK (nth p.ct i) = k at *
    repeat' (first
      | (refine lvA (k := ?_); apply Cj.mk <;> first | exact trivial | intros)
      | (refine ⟨_, _, hmn, lvN (k := ?_)⟩; apply Cj.mk <;> first | exact trivial | intros)
      | (refine .inl ?_; (conv => whnf); refine ⟨_, _, hmn, lvN (k := ?_)⟩; apply Cj.mk <;> first | exact trivial | intros)
      | (refine lvE (k := ?_); apply Cj.mk <;> first | exact trivial | intros)
      | fail)
    all_goals (try (exfalso; omega))
    all_goals
      refine ⟨i + 1, ⟨[], (by kernel_rfl), (by kernel_rfl), (by kernel_rfl), lvL (k := ?_), lvL (k := ?_)⟩, ?_, by (try dsimp only); omega, rfl⟩ <;> (first | (apply Cj.mk <;> first | exact trivial | intros) | skip)
      · rw [hsu]; first | (rw [(hok (by omega)).2]) | (rw [hno (by omega), Int.add_zero])
      · exact ⟨by omega, by omega⟩
  · obtain rfl : i = p.ct.length := by omega
    rw [take_all (Int.le_refl _)] at hlb
    rw [take_all (Int.le_refl _)]
    repeat' (first
      | (refine lvK (k := ?_); apply Cj.mk <;> first | exact trivial | intros)
      | (refine lvE (k := ?_); apply Cj.mk <;> first | exact trivial | intros)
      | fail)
    refine .of (fun k => [(38, I k), (5, I (levB m p.ct + levH m p.h0 p.h1 k))]) (fun k => []) 2 (fun k => 0 ≤ k ∧ k ≤ m.length) (fun k => (m.length - k).toNat) 0 ?_
    conv => whnf
    refine ⟨⟨[], (by kernel_rfl), (by kernel_rfl), (by kernel_rfl), lvL (k := ?_), lvL (k := ?_)⟩, ?_, fun k ⟨k0, k1⟩ => lvN (k := ?_)⟩ <;> (first | (apply Cj.mk <;> first | exact trivial | intros) | skip)
    · rw [show levH m p.h0 p.h1 0 = 0 from rfl, Int.add_zero]
    · exact ⟨by omega, by omega⟩
    have hlh := levH_rg hm hp.h0 hp.h1 (k := k.toNat) (by omega)
    rw [Int.toNat_of_nonneg k0] at hlh
    by_cases hk : k < m.length
    · have hhs := levH_succ (m := m) (a := p.h0) (b := p.h1) k0
      have hhr := hw_rg hm hp.h0 hp.h1 k0 (by omega)
      have hmv := hm.v k k0 (by omega)
      have hav := hp.h0.v k k0 (by omega)
      have hbv := hp.h1.v k k0 (by omega)
      unfold hw at hhs hhr
      repeat' (first
        | (refine lvA (k := ?_); apply Cj.mk <;> first | exact trivial | intros)
        | (refine lvE (k := ?_); apply Cj.mk <;> first | exact trivial | intros)
        | fail)
      all_goals (try (exfalso; omega))
      all_goals
        refine ⟨k + 1, ⟨[], (by kernel_rfl), (by kernel_rfl), (by kernel_rfl), lvL (k := ?_), lvL (k := ?_)⟩, ?_, by (try dsimp only); omega, rfl⟩ <;> (first | (apply Cj.mk <;> first | exact trivial | intros) | skip)
        · congr 1; rw [hhs]; omega
        · exact ⟨by omega, by omega⟩
    · obtain rfl : k = m.length := by omega
      have hpr := popR_rg p.rights
      repeat' (first
        | (refine lvK (k := ?_); apply Cj.mk <;> first | exact trivial | intros)
        | (refine lvE (k := ?_); apply Cj.mk <;> first | exact trivial | intros)
        | fail)
      refine .of (fun r => [(12, I r), (5, I (levB m p.ct + levH m p.h0 p.h1 m.length + (popR p.rights - popR r)))]) (fun r => []) 2 (fun r => 0 ≤ r ∧ r < 16) (fun r => r.toNat) p.rights ?_
      conv => whnf
      refine ⟨⟨[], (by kernel_rfl), (by kernel_rfl), (by kernel_rfl), lvL (k := ?_), lvL (k := ?_)⟩, ?_, fun r ⟨r0, r1⟩ => lvN (k := ?_)⟩ <;> (first | (apply Cj.mk <;> first | exact trivial | intros) | skip)
      · rw [Int.sub_self, Int.add_zero]
      · exact ⟨hr0, hr1⟩
      have hqr := popR_rg r
      by_cases hr : 0 < r
      · have hlo := popR_low hr r1
        repeat' (first
          | (refine lvA (k := ?_); apply Cj.mk <;> first | exact trivial | intros)
          | (refine lvE (k := ?_); apply Cj.mk <;> first | exact trivial | intros)
          | fail)
        all_goals (try (exfalso; omega))
        all_goals
          refine ⟨lowR r, ⟨[], (by kernel_rfl), (by kernel_rfl), (by kernel_rfl), lvL (k := ?_), lvL (k := ?_)⟩, ?_, by (try dsimp only); omega, rfl⟩ <;> (first | (apply Cj.mk <;> first | exact trivial | intros) | skip)
          · congr 1; omega
          · exact ⟨by omega, by omega⟩
      · obtain rfl : r = 0 := by omega
        unfold levR
        rw [popR_0, Int.sub_zero]
        repeat' (first
          | (refine lvK (k := ?_); apply Cj.mk <;> first | exact trivial | intros)
          | (refine lvE (k := ?_); apply Cj.mk <;> first | exact trivial | intros)
          | fail)
end Go.Proofs.Ytceeabnmleemiaa
namespace Go.Proofs.Ytceeabnmleemiaa
open Go Go.Sk
instance : Inhabited R4 := ⟨⟨0, 0, 0, 0, 0, 0, 0, 0, 0, 0, 0, 0, 0, 0, 0, 0, 0, 0⟩⟩
def R4a (y : R4) : AV := .ag y.cs
def posN (x : R6) (more : List R4) (n : Int) : List Ps := x.ps :: (more.take n.toNat).map fun y => y.made x.gm
def posL (x : R6) (more : List R4) : List Ps := posN x more 6
theorem posN_len (x : R6) (more : List R4) (n : Int) (h0 : 0 ≤ n) (h : n ≤ more.length) : (posN x more n).length = n.toNat + 1 := by
  unfold posN
  have := take_len h0 h
  rw [List.length_cons, List.length_map]
  omega
theorem posN_succ (x : R6) (more : List R4) {n : Int} (h0 : 0 ≤ n) (h : n < more.length) : posN x more (n + 1) = posN x more n ++ [(nth more n).made x.gm] := by
  unfold posN
  rw [take_snoc h0 h, List.map_append]; rfl
theorem posL_len (x : R6) (more : List R4) : 1 ≤ (posL x more).length ∧ (posL x more).length ≤ 7 := by
  unfold posL posN
  rw [List.length_cons, List.length_map, List.length_take]
  omega
theorem posL_ok {x : R6} (hx : x.ok) {more : List R4} (hm : ∀ y, y ∈ more → y.ok) : ∀ p, p ∈ posL x more → p.ok x.gm := fun p hp => by
  unfold posL posN at hp
  rcases List.mem_cons.1 hp with rfl | hp
  · exact R6.ps_ok hx
  · obtain ⟨y, hy, rfl⟩ := List.mem_map.1 hp
    exact R4.made_ok (hm y (List.mem_of_mem_take hy)) (R6.gm_ok hx) (by have := x.gm_nk; omega)
set_option maxHeartbeats 8000000 in
set_option maxRecDepth 10000 in
theorem positions_p (x : R6) (hx : x.ok) (more : List R4) (hm : ∀ y, y ∈ more → y.ok) (hl : more.length ≤ 9223372036854775807) : Pure Try.prog 8 [.ag x.cs, .sl (more.map R4a)] (.tup [x.gm.av, Pss (posL x more)]) none := by
  have m6 := Made6_p x hx
  have m4 := fun y hy => R4Made_p y hy x.gm (R6.gm_ok hx) x.gm_nk
  have em : (more.map R4a).length = more.length := List.length_map _
  have hnl := posN_len x more
  have hns := fun {n} => posN_succ x more (n := n)
  have hz : posN x more 0 = [x.ps] := rfl
  have h6 : ∀ i : Int, 0 ≤ i → i ≤ 6 → ¬ (i < more.length ∧ i < 6) → posN x more i = posN x more 6 := fun i i0 i6 h => by
    by_cases he : i = 6
    · rw [he]
    · unfold posN
      rw [take_all (by omega), take_all (by omega)]
  unfold Pss posL
  generalize posN x more = pn at *
  generalize x.gm = g at *
  generalize x.ps = p at *
  refine fun_of tok D_ok Try.func8 rfl Try.ntmps8 Try.results8 (by kernel_rfl) (by simp) (by simp) ?_
  conv => whnf
  repeat' (first
    | (refine lvK (k := ?_); apply Cj.mk <;> first | exact trivial | intros)
    | (refine ⟨_, _, m6, lvN (k := ?_)⟩; apply Cj.mk <;> first | exact trivial | intros)
    | (refine .inl ?_; (conv => whnf); refine ⟨_, _, m6, lvN (k := ?_)⟩; apply Cj.mk <;> first | exact trivial | intros)
    | (refine lvE (k := ?_); apply Cj.mk <;> first | exact trivial | intros)
    | fail)
  refine .of (fun i => [(9, I i), (8, .ref 4)]) (fun i => [(4, .arr 5 ((pn i).map Ps.av))]) 5 (fun i => 0 ≤ i ∧ i ≤ more.length ∧ i ≤ 6) (fun i => (6 - i).toNat) 0 ?_
  conv => whnf
  refine ⟨⟨[], (by kernel_rfl), (by kernel_rfl), (by kernel_rfl), lvL (k := ?_), lvL (k := ?_)⟩, ?_, fun i ⟨i0, i1, i6⟩ => lvN (k := ?_)⟩ <;> (first | (apply Cj.mk <;> first | exact trivial | intros) | skip)
  · rw [hz]; rfl
  · exact ⟨by omega, by omega, by omega⟩
  have hli := hnl i i0 i1
  by_cases hi : i < more.length ∧ i < 6
  · have h4 := m4 (nth more i) (hm _ (nth_mem i0 hi.1))
    have hs := hns i0 hi.1
    repeat' (first
      | (refine lvK (k := ?_); apply Cj.mk <;> first | exact trivial | intros)
      | (refine ⟨_, _, h4, lvN (k := ?_)⟩; apply Cj.mk <;> first | exact trivial | intros)
      | (refine .inl ?_; (conv => whnf); refine ⟨_, _, h4, lvN (k := ?_)⟩; apply Cj.mk <;> first | exact trivial | intros)
      | (refine ap1 (f := Ps.av) (a := ((nth more i).made g)) (by decide) (by omega) rfl rfl (lvN (k := ?_)); apply Cj.mk <;> first | exact trivial | intros)
      | (refine lvE (k := ?_); apply Cj.mk <;> first | exact trivial | intros)
      | fail)
    refine ⟨i + 1, ⟨[], (by kernel_rfl), (by kernel_rfl), (by kernel_rfl), lvL (k := ?_), lvL (k := ?_)⟩, ?_, by (try dsimp only); omega, rfl⟩ <;> (first | (apply Cj.mk <;> first | exact trivial | intros) | skip)
    · rw [hs]
    · exact ⟨by omega, by omega, by omega⟩
  · rw [h6 i i0 i6 hi]
    repeat' (first
      | (refine lvK (k := ?_); apply Cj.mk <;> first | exact trivial | intros)
      | (refine lvE (k := ?_); apply Cj.mk <;> first | exact trivial | intros)
      | fail)
end Go.Proofs.Ytceeabnmleemiaa
namespace Go.Proofs.Ytceeabnmleemiaa
open Go Go.Sk Go.ChangeShapes Go.WideShapes Go.ChangeAt Go.RowKit
theorem own : ownKnob Try.prog.godebug = none := by kernel_rfl
theorem wf_b8 {m : Int} (h : (Lit.int .u8 m).wf = true) : b8 m := by
  simp [Lit.wf, IntKind.has, IntKind.min, IntKind.max, IntKind.signed, IntKind.bits] at h
  exact h
theorem row_map {α : Type} {ks : List CK} {f : α → AV} {p : α → Prop} (hf : ∀ cs, CKoks ks cs → ∃ x, packA cs = f x ∧ p x) {a : AV} (h : CKok (.row ks) a) : ∃ l : List α, a = .sl (l.map f) ∧ l.length ≤ 9223372036854775807 ∧ ∀ x, x ∈ l → p x := by
  simp only [CKok] at h
  obtain ⟨xs, rfl, hl, hx⟩ := h
  have : ∃ l : List α, xs = l.map f ∧ ∀ x, x ∈ l → p x := by
    clear hl
    induction xs with
    | nil => exact ⟨[], rfl, fun x hx => by cases hx⟩
    | cons e r ih =>
      obtain ⟨l, h1, h2⟩ := ih fun e he => hx e (List.mem_cons_of_mem _ he)
      obtain ⟨cs, h3, h4⟩ := hx e (List.mem_cons_self ..)
      obtain ⟨x, h5, h6⟩ := hf cs h4
      exact ⟨x :: l, by rw [h1, h3, h5]; rfl, fun y hy => by
        rcases List.mem_cons.1 hy with rfl | hy
        · exact h6
        · exact h2 y hy⟩
  obtain ⟨l, rfl, h2⟩ := this
  rw [List.length_map] at hl
  exact ⟨l, rfl, by unfold maxLen at hl; omega, h2⟩
theorem ck_u8 {a : AV} (h : CKok (.int .u8) a) : ∃ n, a = U8 n ∧ b8 n := by
  simp only [CKok] at h
  obtain ⟨n, rfl, h⟩ := h
  exact ⟨n, rfl, wf_b8 h⟩
theorem ck_u8s {ks : List CK} {us : List AV} (h : CKoks (.int .u8 :: ks) us) : ∃ n r, us = U8 n :: r ∧ b8 n ∧ CKoks ks r := by
  simp only [CKoks] at h
  obtain ⟨a, r, rfl, h1, h2⟩ := h
  obtain ⟨n, rfl, h3⟩ := ck_u8 h1
  exact ⟨n, r, rfl, h3, h2⟩
theorem ck_nil {us : List AV} (h : CKoks [] us) : us = [] := by simpa [CKoks] using h
theorem ck_row {ks ls : List CK} {us : List AV} (h : CKoks (.row ks :: ls) us) : ∃ a r, us = a :: r ∧ CKok (.row ks) a ∧ CKoks ls r := by
  simp only [CKoks] at h
  exact h
theorem row_u8 {a : AV} (h : CKok (.row [.int .u8]) a) : ∃ l : List Int, a = Us l ∧ l.length ≤ 9223372036854775807 ∧ ∀ i : Int, 0 ≤ i → i < l.length → b8 (nth l i) := by
  obtain ⟨l, h1, h2, h3⟩ := row_map (f := U8) (p := b8) (fun cs hc => by
    obtain ⟨n, r, rfl, hn, hr⟩ := ck_u8s hc
    rw [ck_nil hr]
    exact ⟨n, rfl, hn⟩) h
  exact ⟨l, h1, h2, fun i i0 i1 => h3 _ (nth_mem i0 i1)⟩
theorem row_c3 {a : AV} (h : CKok (.row [.int .u8, .int .u8, .int .u8]) a) : ∃ l : List C3, a = .sl (l.map Cb) ∧ l.length ≤ 9223372036854775807 ∧ ∀ i : Int, 0 ≤ i → i < l.length → b8 (nth l i).a ∧ b8 (nth l i).b ∧ b8 (nth l i).c := by
  obtain ⟨l, h1, h2, h3⟩ := row_map (f := Cb) (p := fun x => b8 x.a ∧ b8 x.b ∧ b8 x.c) (fun cs hc => by
    obtain ⟨n1, r1, rfl, q1, hr⟩ := ck_u8s hc
    obtain ⟨n2, r2, rfl, q2, hr⟩ := ck_u8s hr
    obtain ⟨n3, r3, rfl, q3, hr⟩ := ck_u8s hr
    rw [ck_nil hr]
    exact ⟨⟨n1, n2, n3⟩, rfl, q1, q2, q3⟩) h
  exact ⟨l, h1, h2, fun i i0 i1 => h3 _ (nth_mem i0 i1)⟩
def u8s : Nat → List CK → List CK
  | 0, r => r
  | n + 1, r => .int .u8 :: u8s n r
theorem ck_r4 {ks : List CK} {us : List AV} (h : CKoks (u8s 18 ks) us) : ∃ (y : R4) (r : List AV), us = y.cs ++ r ∧ y.ok ∧ CKoks ks r := by
  obtain ⟨n0, r0, rfl, q0, g0⟩ := ck_u8s h
  clear h
  obtain ⟨n1, r1, rfl, q1, g1⟩ := ck_u8s g0
  clear g0
  obtain ⟨n2, r2, rfl, q2, g2⟩ := ck_u8s g1
  clear g1
  obtain ⟨n3, r3, rfl, q3, g3⟩ := ck_u8s g2
  clear g2
  obtain ⟨n4, r4, rfl, q4, g4⟩ := ck_u8s g3
  clear g3
  obtain ⟨n5, r5, rfl, q5, g5⟩ := ck_u8s g4
  clear g4
  obtain ⟨n6, r6, rfl, q6, g6⟩ := ck_u8s g5
  clear g5
  obtain ⟨n7, r7, rfl, q7, g7⟩ := ck_u8s g6
  clear g6
  obtain ⟨n8, r8, rfl, q8, g8⟩ := ck_u8s g7
  clear g7
  obtain ⟨n9, r9, rfl, q9, g9⟩ := ck_u8s g8
  clear g8
  obtain ⟨n10, r10, rfl, q10, g10⟩ := ck_u8s g9
  clear g9
  obtain ⟨n11, r11, rfl, q11, g11⟩ := ck_u8s g10
  clear g10
  obtain ⟨n12, r12, rfl, q12, g12⟩ := ck_u8s g11
  clear g11
  obtain ⟨n13, r13, rfl, q13, g13⟩ := ck_u8s g12
  clear g12
  obtain ⟨n14, r14, rfl, q14, g14⟩ := ck_u8s g13
  clear g13
  obtain ⟨n15, r15, rfl, q15, g15⟩ := ck_u8s g14
  clear g14
  obtain ⟨n16, r16, rfl, q16, g16⟩ := ck_u8s g15
  clear g15
  obtain ⟨n17, r17, rfl, q17, g17⟩ := ck_u8s g16
  clear g16
  refine ⟨⟨n0, n1, n2, n3, n4, n5, n6, n7, n8, n9, n10, n11, n12, n13, n14, n15, n16, n17⟩, r17, rfl, fun n hn => ?_, g17⟩
  simp only [R4.l, List.mem_cons, List.not_mem_nil, or_false] at hn
  rcases hn with rfl | rfl | rfl | rfl | rfl | rfl | rfl | rfl | rfl | rfl | rfl | rfl | rfl | rfl | rfl | rfl | rfl | rfl <;> assumption
theorem ck_r3 {ks : List CK} {us : List AV} (h : CKoks (u8s 3 (.row [.int .u8] :: .row [.int .u8] :: .row [.int .u8, .int .u8, .int .u8] :: u8s 6 ks)) us) : ∃ (y : R3) (r : List AV), us = y.cs ++ r ∧ y.ok ∧ CKoks ks r := by
  obtain ⟨n0, r0, rfl, q0, g0⟩ := ck_u8s h
  clear h
  obtain ⟨n1, r1, rfl, q1, g1⟩ := ck_u8s g0
  clear g0
  obtain ⟨n2, r2, rfl, q2, g2⟩ := ck_u8s g1
  clear g1
  obtain ⟨a3, r3, rfl, p3, g3⟩ := ck_row g2
  clear g2
  obtain ⟨a4, r4, rfl, p4, g4⟩ := ck_row g3
  clear g3
  obtain ⟨a5, r5, rfl, p5, g5⟩ := ck_row g4
  clear g4
  obtain ⟨n6, r6, rfl, q6, g6⟩ := ck_u8s g5
  clear g5
  obtain ⟨n7, r7, rfl, q7, g7⟩ := ck_u8s g6
  clear g6
  obtain ⟨n8, r8, rfl, q8, g8⟩ := ck_u8s g7
  clear g7
  obtain ⟨n9, r9, rfl, q9, g9⟩ := ck_u8s g8
  clear g8
  obtain ⟨n10, r10, rfl, q10, g10⟩ := ck_u8s g9
  clear g9
  obtain ⟨n11, r11, rfl, q11, g11⟩ := ck_u8s g10
  clear g10
  obtain ⟨l3, rfl, s3, t3⟩ := row_u8 p3
  obtain ⟨l4, rfl, s4, t4⟩ := row_u8 p4
  obtain ⟨l5, rfl, s5, t5⟩ := row_c3 p5
  exact ⟨⟨n0, n1, n2, l3, l4, l5, n6, n7, n8, n9, n10, n11⟩, r11, rfl, ⟨q0, q1, q2, t3, t4, t5, q6, q7, q8, q9, q10, s3, s4, s5⟩, g11⟩
def ksR4 : List CK := u8s 18 []
def ksR6 : List CK := u8s 3 (.row [.int .u8] :: .row [.int .u8] :: .row [.int .u8, .int .u8, .int .u8] :: u8s 6 (u8s 18 [.row [.int .u8]]))
theorem ck_r6 {us : List AV} (h : CKoks ksR6 us) : ∃ y : R6, us = y.cs ∧ y.ok := by
  obtain ⟨y, r, rfl, hy, h1⟩ := ck_r3 h
  obtain ⟨z, r', rfl, hz, h2⟩ := ck_r4 h1
  obtain ⟨a, r'', rfl, ha, h3⟩ := ck_row h2
  obtain ⟨l, rfl, s, t⟩ := row_u8 ha
  obtain rfl := ck_nil h3
  exact ⟨⟨y, z, l⟩, (List.append_assoc ..).symm, hy, hz, t, s⟩
theorem row_r4 {a : AV} (h : CKok (.row ksR4) a) : ∃ l : List R4, a = .sl (l.map fun y => .ag y.cs) ∧ l.length ≤ 9223372036854775807 ∧ ∀ y, y ∈ l → y.ok :=
  row_map (f := fun y : R4 => .ag y.cs) (fun cs hc => by
    obtain ⟨y, r, rfl, hy, h⟩ := ck_r4 hc
    rw [ck_nil h, List.append_nil]
    exact ⟨y, rfl, hy⟩) h
section
variable {H : Type} {enc : TypeId × Value → H} {W : World} {sp : Nat → Bool} {held : Bool} {v : Value} {d : DataW H} {ps : List MemPlace} {b0 : Nat} {r : Reach}
set_option maxRecDepth 10000 in
theorem open_r6 (hv : Value.okWide Try.prog W r b0 32 v) (h : DataW.Trod enc Try.prog W 0 sp held 32 v d ps) : ∃ x : R6, x.ok ∧ ∀ V : VV, RepT NT W V (.ag x.cs) v := by
  obtain ⟨cs, rfl, hs⟩ := okWide_struct Try.underlying32 hv
  obtain ⟨us, h1, h2⟩ := arg_ag (n := 8) (ks := ksR6) (by kernel_rfl) (by rw [hs]; kernel_rfl) h
  obtain ⟨x, hu, hx⟩ := ck_r6 h1
  subst hu
  exact ⟨x, hx, h2⟩
set_option maxRecDepth 10000 in
theorem open_r4s (hv : Value.okWide Try.prog W r b0 33 v) (h : DataW.Trod enc Try.prog W 0 sp held 33 v d ps) : ∃ l : List R4, l.length ≤ 9223372036854775807 ∧ (∀ y, y ∈ l → y.ok) ∧ ∀ V : VV, RepT NT W V (.sl (l.map fun y => .ag y.cs)) v := by
  obtain ⟨a, len, cap, rfl⟩ := okWide_slice Try.underlying33 hv
  obtain ⟨xs, h1, h2⟩ := arg_sl (n := 8) (ks := ksR4) (by kernel_rfl) rfl h
  obtain ⟨l, h3, h4, h5⟩ := row_r4 h1
  injection h3 with h3
  subst h3
  exact ⟨l, h4, h5, h2⟩
theorem wf_u8 {m : Int} (h : (Lit.int .u8 m).wf = true) : 0 ≤ m ∧ m ≤ 255 := wf_b8 h
set_option maxRecDepth 10000 in
theorem open_a6 (hv : Value.okWide Try.prog W r b0 25 v) (h : DataW.Trod enc Try.prog W 0 sp held 25 v d ps) : ∃ w0 w1 w2 w3 w4 w5 : Int, (b8 w0 ∧ b8 w1) ∧ ∀ V : VV, RepT NT W V (.ag [U8 w0, U8 w1, U8 w2, U8 w3, U8 w4, U8 w5]) v := by
  have hs : ∃ cs : Array Value, v = .agg cs ∧ cs.size = (u8s 6 []).length := by
    have hv' := hv
    simp only [Value.okWide, Try.underlying25] at hv'
    obtain ⟨cs, rfl, h2, _⟩ := hv'
    exact ⟨cs, rfl, by rw [h2]; kernel_rfl⟩
  obtain ⟨cs, rfl, hs⟩ := hs
  obtain ⟨us, h1, h2⟩ := arg_ag (n := 8) (ks := u8s 6 []) (by kernel_rfl) hs h
  obtain ⟨n0, r0, rfl, q0, g0⟩ := ck_u8s h1
  obtain ⟨n1, r1, rfl, q1, g1⟩ := ck_u8s g0
  obtain ⟨n2, r2, rfl, q2, g2⟩ := ck_u8s g1
  obtain ⟨n3, r3, rfl, q3, g3⟩ := ck_u8s g2
  obtain ⟨n4, r4, rfl, q4, g4⟩ := ck_u8s g3
  obtain ⟨n5, r5, rfl, q5, g5⟩ := ck_u8s g4
  obtain rfl := ck_nil g5
  exact ⟨n0, n1, n2, n3, n4, n5, ⟨q0, q1⟩, h2⟩
set_option maxRecDepth 10000 in
theorem r6_bd {A : Nat → Prop} (x : R6) : bd A (.ag x.cs) := by
  simp [R6.cs, R3.cs, R4.cs, bd, bdL, U8, Us]
end
end Go.Proofs.Ytceeabnmleemiaa
