/- Contracts of functions of the program, proved by the checker; and plain laws. -/
import Derived.Test.YtceeabnmleemiaaZ30
import Derived.Test.YtceeabnmleemiaaZ23
set_option linter.unusedVariables false
set_option linter.unusedSimpArgs false
namespace Go.Proofs.Ytceeabnmleemiaa
open Go Go.Sk
theorem ofR_16 {g : Gm} (hg : g.ok) (h2 : g.nk ≤ 2) : W16 g g.ofR := by
  have h := ofR_ok hg h2
  refine ⟨h.len, fun k k0 k1 => ?_⟩
  have hb : ∀ b, 0 ≤ Bn b ∧ Bn b ≤ 1 := fun b => by cases b <;> decide
  have h01 := hb (b01 g)
  have h10 := hb (b10 g)
  unfold Gm.ofR
  by_cases hn : g.nk = 1
  · rw [if_pos hn]
    obtain rfl : k = 0 := by omega
    decide
  · rw [if_neg hn]
    have : k = 0 ∨ k = 1 := by omega
    rcases this with rfl | rfl
    · show 1 ≤ 1 + Bn (b01 g) ∧ 1 + Bn (b01 g) ≤ 6
      omega
    · show 1 ≤ 1 + Bn (b10 g) ∧ 1 + Bn (b10 g) ≤ 6
      omega
theorem sum_set : ∀ (n i : Nat) (v : Int), i < n → ((List.replicate n (0 : Int)).set i v).sum = v
  | 0, i, v, h => by omega
  | n + 1, 0, v, _ => by
    rw [List.replicate_succ, List.set_cons_zero, List.sum_cons]
    have : ∀ n : Nat, (List.replicate n (0 : Int)).sum = 0 := fun n => by induction n <;> simp_all [List.replicate_succ]
    rw [this]; omega
  | n + 1, i + 1, v, h => by
    rw [List.replicate_succ, List.set_cons_succ, List.sum_cons, sum_set n i v (by omega)]; omega
theorem wt_0 (m : List Int) : wt m 0 = 0 := rfl
theorem levB_set (m : List Int) (n : Nat) {c : Int} (v : Int) (c0 : 0 ≤ c) (h : c < n) : levB m ((List.replicate n 0).set c.toNat v) = wt m v := by
  unfold levB
  rw [List.map_set, List.map_replicate, wt_0]
  exact sum_set n c.toNat _ (by omega)
theorem levB_zero (m : List Int) (n : Nat) : levB m (List.replicate n 0) = 0 := by
  unfold levB
  rw [List.map_replicate, wt_0]
  induction n <;> simp_all [List.replicate_succ]
theorem nth_rep (n : Nat) (k : Int) : nth (List.replicate n (0 : Int)) k = 0 := by
  unfold nth
  rw [List.getD_eq_getElem?_getD, List.getElem?_replicate]
  split <;> rfl
theorem levH_zero (m : List Int) (n : Nat) (k : Nat) : levH m (List.replicate n 0) (List.replicate n 0) k = 0 := by
  unfold levH
  exact sum_zero k fun j _ _ => by unfold hw; rw [nth_rep]; simp
theorem HdOk_zero (g : Gm) (k1 : 1 ≤ g.nk) : HdOk g (List.replicate g.nk.toNat 0) := ⟨by simp; omega, fun k k0 k1 => by rw [nth_rep]; omega⟩
theorem lone_p (g : Gm) (hg : g.ok) (m : List Int) (hms : MsOk g m) (p : Ps) (hp : p.ok g) (c : Int) (c0 : 0 ≤ c) (c1 : c < g.b.cells) :
    Pure Try.prog 15 [.ag [Is m], .ag [.sl (((List.replicate ((p.ct.map I).length : Int).toNat (0 : Int)).set c.toNat (nth p.ct c)).map I), .sl (List.replicate (((g.kinds.map Kn).length : Int)).toNat (AV.v ti3.zero)), .sl (List.replicate (((g.kinds.map Kn).length : Int)).toNat (AV.v ti3.zero)), I 0, I p.side]] (I (wt m (nth p.ct c))) none := by
  have hcl := hp.len
  have k1 := hg.k1
  have e1 : ((p.ct.map I).length : Int).toNat = p.ct.length := by rw [List.length_map]; omega
  have e2 : (((g.kinds.map Kn).length : Int)).toNat = g.nk.toNat := by rw [List.length_map]; rfl
  rw [e1, e2, rep_I]
  have hz := HdOk_zero g k1
  have hq : (⟨(List.replicate p.ct.length (0 : Int)).set c.toNat (nth p.ct c), List.replicate g.nk.toNat 0, List.replicate g.nk.toNat 0, 0, p.side⟩ : Ps).ok g := by
    refine ⟨by simp; omega, fun i i0 i1 => ?_, hz, hz, Int.le_refl 0, Int.pow_pos (by decide), hp.s⟩
    dsimp only
    rw [nth_set c0 i0 (by simp; omega)]
    split
    · exact hp.c c c0 c1
    · rw [nth_rep]; omega
  have := Level_p g hg m hms _ hq
  have hv : levR m ⟨(List.replicate p.ct.length (0 : Int)).set c.toNat (nth p.ct c), List.replicate g.nk.toNat 0, List.replicate g.nk.toNat 0, 0, p.side⟩ = wt m (nth p.ct c) := by
    unfold levR
    dsimp only
    rw [levB_set m _ _ c0 (by omega), levH_zero, popR_0]; omega
  rw [hv] at this
  exact this
theorem lhan_p (g : Gm) (hg : g.ok) (m : List Int) (hms : MsOk g m) (p : Ps) (hp : p.ok g) :
    Pure Try.prog 15 [.ag [Is m], .ag [.sl (List.replicate ((p.ct.map I).length : Int).toNat (AV.v ti3.zero)), Is p.h0, Is p.h1, I 0, I p.side]] (I (levH m p.h0 p.h1 m.length)) none := by
  have hcl := hp.len
  have k1 := hg.k1
  have e1 : ((p.ct.map I).length : Int).toNat = p.ct.length := by rw [List.length_map]; omega
  rw [e1, rep_I]
  have hq : (⟨List.replicate p.ct.length (0 : Int), p.h0, p.h1, 0, p.side⟩ : Ps).ok g := by
    refine ⟨by simp; omega, fun i i0 i1 => ?_, hp.h0, hp.h1, Int.le_refl 0, Int.pow_pos (by decide), hp.s⟩
    dsimp only
    rw [nth_rep]; omega
  have := Level_p g hg m hms _ hq
  have hv : levR m ⟨List.replicate p.ct.length (0 : Int), p.h0, p.h1, 0, p.side⟩ = levH m p.h0 p.h1 m.length := by
    unfold levR
    dsimp only
    rw [levB_zero, popR_0]; omega
  rw [hv] at this
  exact this
set_option maxHeartbeats 16000000 in
set_option maxRecDepth 10000 in
theorem SliceLevels_p (x : R6) (hx : x.ok) (w0 w1 w2 w3 w4 w5 : Int) (hb : b8 w0 ∧ b8 w1) :
    Pure Try.prog 6 [.ag x.cs, .ag [U8 w0, U8 w1, U8 w2, U8 w3, U8 w4, U8 w5]] (Bo true) none := by
  have hg := R6.gm_ok hx
  have hk2 : x.gm.nk ≤ 2 := by have := x.gm_nk; omega
  have c0 := sanity_p
  have c1 := Made6_p x hx
  have c2 := ROf_p x.gm hg hk2
  have c3 := Some_p x.gm hg hk2 w0 w1 w2 w3 w4 w5 hb
  obtain ⟨h_sm, hml⟩ := smL_ok hk2 hg.k1 hb
  have h_fo := ofR_ok hg hk2
  obtain ⟨v, hv⟩ := bool_of (ValidM x.gm (smL x.gm w0 w1))
  have v1 := RValid12_p x.gm hg (smL x.gm w0 w1) (by omega) v hv
  have hp := R6.ps_ok hx
  have mt := menT_p x.gm hg x.ps hp
  change Pure _ _ _ (msAv (smL x.gm w0 w1)) none at c3
  have hr := hp.r0
  have hr1 : x.ps.rights < 16 := by
    have := hp.r1
    have h4 := hg.r4
    have : (2 : Int) ^ x.gm.rights.toNat ≤ 2 ^ 4 := by exact_mod_cast Nat.pow_le_pow_right (by decide) (by omega)
    omega
  have hbp : (⟨x.ps.ct, x.ps.h0, x.ps.h1, 0, x.ps.side⟩ : Ps).ok x.gm := ⟨hp.len, hp.c, hp.h0, hp.h1, Int.le_refl 0, Int.pow_pos (by decide), hp.s⟩
  have hof : W16 x.gm x.gm.ofR := ofR_16 hg hk2
  have hsm : v = true → W16 x.gm (smL x.gm w0 w1) := fun h => ⟨(hv.1 h).len, (hv.1 h).v⟩
  clear hv
  generalize smL x.gm w0 w1 = sm at *
  generalize x.gm.ofR = fo at *
  generalize x.gm = g at *
  generalize x.ps = p at *
  have ec : (p.ct.map I).length = p.ct.length := List.length_map _
  have ek : (g.kinds.map Kn).length = g.kinds.length := List.length_map _
  have hnk : (g.kinds.length : Int) = g.nk := rfl
  have hcl := hp.len
  have c9 := hg.c9
  unfold msAv at *
  obtain ⟨m, hmd⟩ : ∃ m, m = if v = true then sm else fo := ⟨_, rfl⟩
  have hw : W16 g m := by rw [hmd]; split <;> first | exact hsm (by assumption) | exact hof
  have hms : MsOk g m := ⟨hw.len, fun k k0 k1 => by have := hw.v k k0 k1; omega⟩
  have l1 := Level_p g hg m hms p hp
  have l2 := Level_p g hg m hms _ hbp
  unfold msAv at *
  cases v
  · have hmd : m = fo := hmd
    subst hmd
    refine fun_of tok D_ok Try.func6 rfl Try.ntmps6 Try.results6 (by kernel_rfl) (by simp) (by simp) ?_
    conv => whnf
    repeat' (first
      | (refine lvK (k := ?_); apply Cj.mk <;> first | exact trivial | intros)
      | (refine ⟨_, _, c0, lvN (k := ?_)⟩; apply Cj.mk <;> first | exact trivial | intros)
      | (refine .inl ?_; (conv => whnf); refine ⟨_, _, c0, lvN (k := ?_)⟩; apply Cj.mk <;> first | exact trivial | intros)
      | (refine ⟨_, _, c1, lvN (k := ?_)⟩; apply Cj.mk <;> first | exact trivial | intros)
      | (refine .inl ?_; (conv => whnf); refine ⟨_, _, c1, lvN (k := ?_)⟩; apply Cj.mk <;> first | exact trivial | intros)
      | (refine ⟨_, _, c2, lvN (k := ?_)⟩; apply Cj.mk <;> first | exact trivial | intros)
      | (refine .inl ?_; (conv => whnf); refine ⟨_, _, c2, lvN (k := ?_)⟩; apply Cj.mk <;> first | exact trivial | intros)
      | (refine ⟨_, _, c3, lvN (k := ?_)⟩; apply Cj.mk <;> first | exact trivial | intros)
      | (refine .inl ?_; (conv => whnf); refine ⟨_, _, c3, lvN (k := ?_)⟩; apply Cj.mk <;> first | exact trivial | intros)
      | (refine ⟨_, _, v1, lvN (k := ?_)⟩; apply Cj.mk <;> first | exact trivial | intros)
      | (refine .inl ?_; (conv => whnf); refine ⟨_, _, v1, lvN (k := ?_)⟩; apply Cj.mk <;> first | exact trivial | intros)
      | (refine ⟨_, _, mt, lvN (k := ?_)⟩; apply Cj.mk <;> first | exact trivial | intros)
      | (refine .inl ?_; (conv => whnf); refine ⟨_, _, mt, lvN (k := ?_)⟩; apply Cj.mk <;> first | exact trivial | intros)
      | (refine ⟨_, _, l1, lvN (k := ?_)⟩; apply Cj.mk <;> first | exact trivial | intros)
      | (refine .inl ?_; (conv => whnf); refine ⟨_, _, l1, lvN (k := ?_)⟩; apply Cj.mk <;> first | exact trivial | intros)
      | (refine ⟨_, _, l2, lvN (k := ?_)⟩; apply Cj.mk <;> first | exact trivial | intros)
      | (refine .inl ?_; (conv => whnf); refine ⟨_, _, l2, lvN (k := ?_)⟩; apply Cj.mk <;> first | exact trivial | intros)
      | (refine lvE (k := ?_); apply Cj.mk <;> first | exact trivial | intros)
      | fail)
    refine .of (fun c => [(15, I c), (14, I (levB m (p.ct.take c.toNat)))]) (fun c => []) 18 (fun c => 0 ≤ c ∧ c ≤ p.ct.length) (fun c => (p.ct.length - c).toNat) 0 ?_
    conv => whnf
    refine ⟨⟨[], (by kernel_rfl), (by kernel_rfl), (by kernel_rfl), lvL (k := ?_), lvL (k := ?_)⟩, ?_, fun c ⟨i0, i1⟩ => lvN (k := ?_)⟩ <;> (first | (apply Cj.mk <;> first | exact trivial | intros) | skip)
    · exact ⟨by omega, by omega⟩
    by_cases hc : c < p.ct.length
    · have hci := hp.c c i0 (by omega)
      repeat' (first
        | (refine lvD (k := ?_); apply Cj.mk <;> first | exact trivial | intros)
        | (refine ShowsJ.mk (by kernel_rfl) (by kernel_rfl) (by kernel_rfl) (lvL (k := ?_)) (lvL (k := ?_)) rfl <;> (first | (apply Cj.mk <;> first | exact trivial | intros) | skip))
        | (refine lvE (k := ?_); apply Cj.mk <;> first | exact trivial | intros)
        | fail)
      rw [rep_I]
      have hlo := lone_p g hg m hms p hp c i0 (by omega)
      have hbs := levB_succ (m := m) i0 hc
      have hbr := levB_rg (ct := []) hg hms (l := p.ct.take c.toNat) fun y hy => hp.mem y (List.mem_of_mem_take hy)
      rw [List.length_take] at hbr
      have hwr := wt_rg hg hms hci.1 hci.2
      repeat' (first
        | (refine lvK (k := ?_); apply Cj.mk <;> first | exact trivial | intros)
        | (refine .inl ?_; (conv => whnf); refine ⟨_, hlo, rfl, lvN (k := ?_)⟩; apply Cj.mk <;> first | exact trivial | intros)
        | (refine ⟨_, hlo, rfl, lvN (k := ?_)⟩; apply Cj.mk <;> first | exact trivial | intros)
        | (refine lvE (k := ?_); apply Cj.mk <;> first | exact trivial | intros)
        | fail)
      all_goals
        refine ⟨c + 1, ⟨[], (by kernel_rfl), (by kernel_rfl), (by kernel_rfl), lvL (k := ?_), lvL (k := ?_)⟩, ?_, by (try dsimp only); omega, rfl⟩ <;> (first | (apply Cj.mk <;> first | exact trivial | intros) | skip)
        all_goals first | exact ⟨by omega, by omega⟩ | (rw [hbs]; done)
    · obtain rfl : c = p.ct.length := by omega
      rw [take_all (Int.le_refl _)]
      have hlh := lhan_p g hg m hms p hp
      have h16 := lev_16 hg hw hp
      have hlr := levR_rg hg hms hp
      have hl0 := levR_rg hg hms hbp
      have hp0 := popR_rg p.rights
      have hpi := popR_0iff hr hr1
      have hlv : levR m p = levB m p.ct + levH m p.h0 p.h1 m.length + popR p.rights := rfl
      have hlb : levR m ⟨p.ct, p.h0, p.h1, 0, p.side⟩ = levB m p.ct + levH m p.h0 p.h1 m.length := by
        show levB m p.ct + levH m p.h0 p.h1 m.length + popR 0 = _
        rw [popR_0, Int.add_zero]
      have hbr := levB_rg (ct := []) hg hms (l := p.ct) hp.mem
      have hiff : decide (levR m p = levR m ⟨p.ct, p.h0, p.h1, 0, p.side⟩) = decide (p.rights = 0) := by
        rw [Bool.eq_iff_iff]; simp only [decide_eq_true_eq]; rw [hlv, hlb, ← hpi]; omega
      repeat' (first
        | (refine lvK (k := ?_); apply Cj.mk <;> first | exact trivial | intros)
        | (refine .inl ?_; (conv => whnf); refine ⟨_, hlh, rfl, lvN (k := ?_)⟩; apply Cj.mk <;> first | exact trivial | intros)
        | (refine ⟨_, hlh, rfl, lvN (k := ?_)⟩; apply Cj.mk <;> first | exact trivial | intros)
        | (refine lvE (k := ?_); apply Cj.mk <;> first | exact trivial | intros)
        | fail)
  · have hmd : m = sm := hmd
    subst hmd
    refine fun_of tok D_ok Try.func6 rfl Try.ntmps6 Try.results6 (by kernel_rfl) (by simp) (by simp) ?_
    conv => whnf
    repeat' (first
      | (refine lvK (k := ?_); apply Cj.mk <;> first | exact trivial | intros)
      | (refine ⟨_, _, c0, lvN (k := ?_)⟩; apply Cj.mk <;> first | exact trivial | intros)
      | (refine .inl ?_; (conv => whnf); refine ⟨_, _, c0, lvN (k := ?_)⟩; apply Cj.mk <;> first | exact trivial | intros)
      | (refine ⟨_, _, c1, lvN (k := ?_)⟩; apply Cj.mk <;> first | exact trivial | intros)
      | (refine .inl ?_; (conv => whnf); refine ⟨_, _, c1, lvN (k := ?_)⟩; apply Cj.mk <;> first | exact trivial | intros)
      | (refine ⟨_, _, c2, lvN (k := ?_)⟩; apply Cj.mk <;> first | exact trivial | intros)
      | (refine .inl ?_; (conv => whnf); refine ⟨_, _, c2, lvN (k := ?_)⟩; apply Cj.mk <;> first | exact trivial | intros)
      | (refine ⟨_, _, c3, lvN (k := ?_)⟩; apply Cj.mk <;> first | exact trivial | intros)
      | (refine .inl ?_; (conv => whnf); refine ⟨_, _, c3, lvN (k := ?_)⟩; apply Cj.mk <;> first | exact trivial | intros)
      | (refine ⟨_, _, v1, lvN (k := ?_)⟩; apply Cj.mk <;> first | exact trivial | intros)
      | (refine .inl ?_; (conv => whnf); refine ⟨_, _, v1, lvN (k := ?_)⟩; apply Cj.mk <;> first | exact trivial | intros)
      | (refine ⟨_, _, mt, lvN (k := ?_)⟩; apply Cj.mk <;> first | exact trivial | intros)
      | (refine .inl ?_; (conv => whnf); refine ⟨_, _, mt, lvN (k := ?_)⟩; apply Cj.mk <;> first | exact trivial | intros)
      | (refine ⟨_, _, l1, lvN (k := ?_)⟩; apply Cj.mk <;> first | exact trivial | intros)
      | (refine .inl ?_; (conv => whnf); refine ⟨_, _, l1, lvN (k := ?_)⟩; apply Cj.mk <;> first | exact trivial | intros)
      | (refine ⟨_, _, l2, lvN (k := ?_)⟩; apply Cj.mk <;> first | exact trivial | intros)
      | (refine .inl ?_; (conv => whnf); refine ⟨_, _, l2, lvN (k := ?_)⟩; apply Cj.mk <;> first | exact trivial | intros)
      | (refine lvE (k := ?_); apply Cj.mk <;> first | exact trivial | intros)
      | fail)
    refine .of (fun c => [(15, I c), (14, I (levB m (p.ct.take c.toNat)))]) (fun c => []) 18 (fun c => 0 ≤ c ∧ c ≤ p.ct.length) (fun c => (p.ct.length - c).toNat) 0 ?_
    conv => whnf
    refine ⟨⟨[], (by kernel_rfl), (by kernel_rfl), (by kernel_rfl), lvL (k := ?_), lvL (k := ?_)⟩, ?_, fun c ⟨i0, i1⟩ => lvN (k := ?_)⟩ <;> (first | (apply Cj.mk <;> first | exact trivial | intros) | skip)
    · exact ⟨by omega, by omega⟩
    by_cases hc : c < p.ct.length
    · have hci := hp.c c i0 (by omega)
      repeat' (first
        | (refine lvD (k := ?_); apply Cj.mk <;> first | exact trivial | intros)
        | (refine ShowsJ.mk (by kernel_rfl) (by kernel_rfl) (by kernel_rfl) (lvL (k := ?_)) (lvL (k := ?_)) rfl <;> (first | (apply Cj.mk <;> first | exact trivial | intros) | skip))
        | (refine lvE (k := ?_); apply Cj.mk <;> first | exact trivial | intros)
        | fail)
      rw [rep_I]
      have hlo := lone_p g hg m hms p hp c i0 (by omega)
      have hbs := levB_succ (m := m) i0 hc
      have hbr := levB_rg (ct := []) hg hms (l := p.ct.take c.toNat) fun y hy => hp.mem y (List.mem_of_mem_take hy)
      rw [List.length_take] at hbr
      have hwr := wt_rg hg hms hci.1 hci.2
      repeat' (first
        | (refine lvK (k := ?_); apply Cj.mk <;> first | exact trivial | intros)
        | (refine .inl ?_; (conv => whnf); refine ⟨_, hlo, rfl, lvN (k := ?_)⟩; apply Cj.mk <;> first | exact trivial | intros)
        | (refine ⟨_, hlo, rfl, lvN (k := ?_)⟩; apply Cj.mk <;> first | exact trivial | intros)
        | (refine lvE (k := ?_); apply Cj.mk <;> first | exact trivial | intros)
        | fail)
      all_goals
        refine ⟨c + 1, ⟨[], (by kernel_rfl), (by kernel_rfl), (by kernel_rfl), lvL (k := ?_), lvL (k := ?_)⟩, ?_, by (try dsimp only); omega, rfl⟩ <;> (first | (apply Cj.mk <;> first | exact trivial | intros) | skip)
        all_goals first | exact ⟨by omega, by omega⟩ | (rw [hbs]; done)
    · obtain rfl : c = p.ct.length := by omega
      rw [take_all (Int.le_refl _)]
      have hlh := lhan_p g hg m hms p hp
      have h16 := lev_16 hg hw hp
      have hlr := levR_rg hg hms hp
      have hl0 := levR_rg hg hms hbp
      have hp0 := popR_rg p.rights
      have hpi := popR_0iff hr hr1
      have hlv : levR m p = levB m p.ct + levH m p.h0 p.h1 m.length + popR p.rights := rfl
      have hlb : levR m ⟨p.ct, p.h0, p.h1, 0, p.side⟩ = levB m p.ct + levH m p.h0 p.h1 m.length := by
        show levB m p.ct + levH m p.h0 p.h1 m.length + popR 0 = _
        rw [popR_0, Int.add_zero]
      have hbr := levB_rg (ct := []) hg hms (l := p.ct) hp.mem
      have hiff : decide (levR m p = levR m ⟨p.ct, p.h0, p.h1, 0, p.side⟩) = decide (p.rights = 0) := by
        rw [Bool.eq_iff_iff]; simp only [decide_eq_true_eq]; rw [hlv, hlb, ← hpi]; omega
      repeat' (first
        | (refine lvK (k := ?_); apply Cj.mk <;> first | exact trivial | intros)
        | (refine .inl ?_; (conv => whnf); refine ⟨_, hlh, rfl, lvN (k := ?_)⟩; apply Cj.mk <;> first | exact trivial | intros)
        | (refine ⟨_, hlh, rfl, lvN (k := ?_)⟩; apply Cj.mk <;> first | exact trivial | intros)
        | (refine lvE (k := ?_); apply Cj.mk <;> first | exact trivial | intros)
        | fail)
end Go.Proofs.Ytceeabnmleemiaa
