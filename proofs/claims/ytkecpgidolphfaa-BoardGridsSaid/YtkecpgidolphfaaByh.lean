/- Contracts of functions of the program, proved by the checker. -/
import Derived.Test.YtkecpgidolphfaaBw
import Derived.Test.YtkecpgidolphfaaByf
import Derived.Test.YtkecpgidolphfaaByb
namespace Go.Proofs.Ytkecpgidolphfaa
set_option linter.unusedVariables false
set_option linter.unusedSimpArgs false
open Go Go.Sk

/-! Grids: their steps and distances. -/
theorem crd_mod {w x y : Int} (h0 : 0 ≤ x) (h1 : x < w) : (y * w + x) % w = x := by
  rw [Int.add_comm, Int.add_mul_emod_self_right]; exact Int.emod_eq_of_lt h0 h1
theorem crd_div {w x y : Int} (h0 : 0 ≤ x) (h1 : x < w) : (y * w + x) / w = y := by
  rw [Int.add_comm, Int.add_mul_ediv_right _ _ (by omega), Int.ediv_eq_zero_of_lt h0 h1]; omega
theorem crd_eq (c w : Int) : c / w * w + c % w = c := by
  have := Int.mul_ediv_add_emod c w
  rw [Int.mul_comm] at this
  exact this
theorem crd_rg {w h c : Int} (w1 : 1 ≤ w) (c0 : 0 ≤ c) (c1 : c < w * h) : 0 ≤ c % w ∧ c % w < w ∧ 0 ≤ c / w ∧ c / w < h :=
  ⟨Int.emod_nonneg _ (by omega), Int.emod_lt_of_pos _ (by omega), Int.ediv_nonneg c0 (by omega), Int.ediv_lt_of_lt_mul (by omega) (by rw [Int.mul_comm]; exact c1)⟩
theorem crd_lt {w h x y : Int} (x0 : 0 ≤ x) (x1 : x < w) (y0 : 0 ≤ y) (y1 : y < h) : 0 ≤ y * w + x ∧ y * w + x < w * h := by
  have h1 : 0 ≤ y * w := Int.mul_nonneg y0 (by omega)
  have h2 : (y + 1) * w ≤ h * w := Int.mul_le_mul_of_nonneg_right (by omega) (by omega)
  rw [Int.add_mul] at h2
  have h3 : h * w = w * h := Int.mul_comm _ _
  omega
/-- Where the step of a grid leads. -/
theorem gto_in {w h d c : Int} (hx : 0 ≤ c % w + nth dxs d ∧ c % w + nth dxs d < w ∧ 0 ≤ c / w + nth dys d ∧ c / w + nth dys d < h) : gto w h d c = (c / w + nth dys d) * w + (c % w + nth dxs d) := if_pos hx
theorem gto_out {w h d c : Int} (hx : ¬ (0 ≤ c % w + nth dxs d ∧ c % w + nth dxs d < w ∧ 0 ≤ c / w + nth dys d ∧ c / w + nth dys d < h)) : gto w h d c = -1 := if_neg hx
theorem gto_rg {w h d c : Int} : -1 ≤ gto w h d c ∧ (1 ≤ w * h → gto w h d c < w * h) := by
  by_cases hx : 0 ≤ c % w + nth dxs d ∧ c % w + nth dxs d < w ∧ 0 ≤ c / w + nth dys d ∧ c / w + nth dys d < h
  · rw [gto_in hx]
    have := crd_lt hx.1 hx.2.1 hx.2.2.1 hx.2.2.2
    omega
  · rw [gto_out hx]; omega
theorem gto_xy {w h d c : Int} (h0 : 0 ≤ gto w h d c) : gto w h d c % w = c % w + nth dxs d ∧ gto w h d c / w = c / w + nth dys d := by
  by_cases hx : 0 ≤ c % w + nth dxs d ∧ c % w + nth dxs d < w ∧ 0 ≤ c / w + nth dys d ∧ c / w + nth dys d < h
  · rw [gto_in hx]
    exact ⟨crd_mod hx.1 hx.2.1, crd_div hx.1 hx.2.1⟩
  · rw [gto_out hx] at h0; omega
structure Gr (w h : Int) : Prop where
  w1 : 1 ≤ w
  h1 : 1 ≤ h
  m1 : 1 ≤ w * h
  m64 : w * h ≤ 64
theorem Gr.of {w h : Int} (hf : fits w h) : Gr w h := by
  obtain ⟨h1, h2, h3, h4, h5⟩ := hf
  exact ⟨h1, h2, by have : 1 * 1 ≤ w * h := Int.mul_le_mul h1 h2 (by omega) (by omega); omega, h5⟩
theorem fits_iff {w h : Int} : fits w h ↔ 1 ≤ w ∧ 1 ≤ h ∧ w * h ≤ 64 := by
  unfold fits
  refine ⟨fun h => ⟨h.1, h.2.1, h.2.2.2.2⟩, fun ⟨h1, h2, h3⟩ => ⟨h1, h2, ?_, ?_, h3⟩⟩
  · have : w * 1 ≤ w * h := Int.mul_le_mul_of_nonneg_left h2 (by omega)
    omega
  · have : 1 * h ≤ w * h := Int.mul_le_mul_of_nonneg_right h1 (by omega)
    omega
theorem grid_len (w h : Int) : (gridB w h).next.length = 8 ∧ (gridB w h).turn.length = 8 := ⟨by show ((ints 8).map _).length = 8; rw [List.length_map]; rfl, by show ((ints 8).map _).length = 8; rw [List.length_map]; rfl⟩
theorem grid_row {w h d : Int} (d0 : 0 ≤ d) (d1 : d < 8) : nth (gridB w h).next d = (ints (w * h)).map (gto w h d) := nth_map_ints (f := fun d => (ints (w * h)).map (gto w h d)) d0 d1
theorem grid_nx {w h d c : Int} (d0 : 0 ≤ d) (d1 : d < 8) (c0 : 0 ≤ c) (c1 : c < w * h) : (gridB w h).nx d c = gto w h d c := by
  unfold Bd.nx
  rw [grid_row d0 d1]
  exact nth_map_ints c0 c1
theorem grid_tn {w h d : Int} (d0 : 0 ≤ d) (d1 : d < 8) : nth (gridB w h).turn d = (d + 4) % 8 := nth_map_ints (f := fun d => (d + 4) % 8) d0 d1
theorem grid_ok {w h : Int} (g : Gr w h) : (gridB w h).ok := by
  have m1 := g.m1
  have ec : (gridB w h).cells = w * h := rfl
  refine ⟨g.m1, g.m64, by rw [(grid_len w h).1]; omega, by rw [(grid_len w h).1]; omega, by rw [(grid_len w h).1, (grid_len w h).2], fun d d0 d1 => ?_, fun d c d0 d1 c0 c1 => ?_, fun d d0 d1 => ?_⟩
  · rw [(grid_len w h).1] at d1
    rw [grid_row d0 d1, List.length_map, ints_len, ec]; omega
  · rw [(grid_len w h).1] at d1
    rw [grid_nx d0 d1 c0 c1, ec]
    exact ⟨gto_rg.1, gto_rg.2 m1⟩
  · rw [(grid_len w h).1] at d1 ⊢
    unfold Bd.tn
    rw [grid_tn d0 d1, grid_tn (by omega) (by omega)]
    omega
theorem grid_to {w h d c : Int} (d0 : 0 ≤ d) (d1 : d < 8) (c0 : 0 ≤ c) (c1 : c < w * h) : (gridB w h).to 0 d c = gto w h d c := by
  unfold Bd.to
  rw [(grid_len w h).1, if_neg (by show ¬ (_ ∨ _ ∨ _ ∨ _ ∨ _ ∨ c ≥ w * h); omega), if_neg (by omega)]
  exact grid_nx d0 d1 c0 c1
theorem grid_to1 {w h d c : Int} (d0 : 0 ≤ d) (d1 : d < 8) (c0 : 0 ≤ c) (c1 : c < w * h) : (gridB w h).to 1 d c = gto w h ((d + 4) % 8) c := by
  unfold Bd.to
  rw [(grid_len w h).1, if_neg (by show ¬ (_ ∨ _ ∨ _ ∨ _ ∨ _ ∨ c ≥ w * h); omega), if_pos rfl]
  unfold Bd.tn
  rw [grid_tn d0 d1]
  exact grid_nx (by omega) (by omega) c0 c1
theorem opp {d : Int} (d0 : 0 ≤ d) (d1 : d < 8) : nth dxs ((d + 4) % 8) = - nth dxs d ∧ nth dys ((d + 4) % 8) = - nth dys d := by
  have : d = 0 ∨ d = 1 ∨ d = 2 ∨ d = 3 ∨ d = 4 ∨ d = 5 ∨ d = 6 ∨ d = 7 := by omega
  rcases this with rfl | rfl | rfl | rfl | rfl | rfl | rfl | rfl <;> decide
theorem grid_back {w h d c : Int} (g : Gr w h) (d0 : 0 ≤ d) (d1 : d < 8) (c0 : 0 ≤ c) (c1 : c < w * h) (ht : 0 ≤ (gridB w h).to 0 d c) : (gridB w h).to 1 d ((gridB w h).to 0 d c) = c := by
  rw [grid_to d0 d1 c0 c1] at ht ⊢
  have hx := gto_xy ht
  have hr := (gto_rg (w := w) (h := h) (d := d) (c := c)).2 g.m1
  have hc := crd_rg g.w1 c0 c1
  have ho := opp d0 d1
  rw [grid_to1 d0 d1 ht hr]
  have e : gto w h ((d + 4) % 8) (gto w h d c) = c / w * w + c % w := by
    rw [gto_in (by rw [hx.1, hx.2, ho.1, ho.2]; omega), hx.1, hx.2, ho.1, ho.2]
    rw [show c / w + nth dys d + -nth dys d = c / w by omega, show c % w + nth dxs d + -nth dxs d = c % w by omega]
  rw [e]
  exact crd_eq c w

def cheb (w a c : Int) : Int := max (max (max (a % w - c % w) (-(a % w - c % w))) (a / w - c / w)) (-(a / w - c / w))
def sgn (x : Int) : Int := if x < 0 then -1 else if x = 0 then 0 else 1
theorem way_of {i j : Int} (hi : -1 ≤ i ∧ i ≤ 1) (hj : -1 ≤ j ∧ j ≤ 1) (hn : ¬ (i = 0 ∧ j = 0)) : ∃ d : Int, 0 ≤ d ∧ d < 8 ∧ nth dxs d = i ∧ nth dys d = j := by
  have h1 : i = -1 ∨ i = 0 ∨ i = 1 := by omega
  have h2 : j = -1 ∨ j = 0 ∨ j = 1 := by omega
  rcases h1 with rfl | rfl | rfl <;> rcases h2 with rfl | rfl | rfl
  · exact ⟨7, by decide⟩
  · exact ⟨6, by decide⟩
  · exact ⟨5, by decide⟩
  · exact ⟨0, by decide⟩
  · omega
  · exact ⟨4, by decide⟩
  · exact ⟨1, by decide⟩
  · exact ⟨2, by decide⟩
  · exact ⟨3, by decide⟩
theorem grid_dist {w h a : Int} (g : Gr w h) (a0 : 0 ≤ a) (a1 : a < w * h) : Dist (gridB w h).near (gridB w h).cells a ((ints (w * h)).map (cheb w a)) := by
  have m1 := g.m1
  have hn : ∀ c, 0 ≤ c → c < w * h → nth ((ints (w * h)).map (cheb w a)) c = cheb w a c := fun c c0 c1 => nth_map_ints c0 c1
  have ec : (gridB w h).cells = w * h := rfl
  have ha := crd_rg g.w1 a0 a1
  refine ⟨by rw [List.length_map, ints_len, ec]; omega, by rw [hn a a0 a1]; unfold cheb; omega, fun c c0 c1 => ?_, fun k k0 k1 _ c hc => ?_, fun c c0 c1 hca _ => ?_⟩
  · rw [hn c c0 c1]; unfold cheb; omega
  · obtain ⟨c0, c1, hck, d, d0, d1, e⟩ := mem_near.1 hc
    rw [(grid_len w h).1] at d1
    rw [grid_to d0 d1 k0 k1] at e
    have hx := gto_xy (w := w) (h := h) (d := d) (c := k) (by omega)
    rw [e] at hx
    have hd := dxy d0 d1
    rw [hn c c0 c1, hn k k0 k1]
    unfold cheb
    omega
  · have hc := crd_rg g.w1 c0 c1
    have hne : ¬ (a % w = c % w ∧ a / w = c / w) := fun q => by
      refine hca ?_
      have e1 := crd_eq a w
      have e2 := crd_eq c w
      rw [q.1, q.2] at e1
      omega
    obtain ⟨sx, hsx⟩ : ∃ sx, sx = sgn (a % w - c % w) := ⟨_, rfl⟩
    obtain ⟨sy, hsy⟩ : ∃ sy, sy = sgn (a / w - c / w) := ⟨_, rfl⟩
    have bx : -1 ≤ sx ∧ sx ≤ 1 ∧ (a % w < c % w → sx = -1) ∧ (a % w = c % w → sx = 0) ∧ (a % w > c % w → sx = 1) := by
      rw [hsx]; unfold sgn
      split
      · omega
      · split <;> omega
    have by' : -1 ≤ sy ∧ sy ≤ 1 ∧ (a / w < c / w → sy = -1) ∧ (a / w = c / w → sy = 0) ∧ (a / w > c / w → sy = 1) := by
      rw [hsy]; unfold sgn
      split
      · omega
      · split <;> omega
    obtain ⟨d, d0, d1, ex, ey⟩ := way_of (i := -sx) (j := -sy) (by omega) (by omega) (by omega)
    have kr := crd_lt (w := w) (h := h) (x := c % w + sx) (y := c / w + sy) (by omega) (by omega) (by omega) (by omega)
    have kx := crd_mod (w := w) (x := c % w + sx) (y := c / w + sy) (by omega) (by omega)
    have ky := crd_div (w := w) (x := c % w + sx) (y := c / w + sy) (by omega) (by omega)
    generalize (c / w + sy) * w + (c % w + sx) = k at *
    have gk : gto w h d k = c := by
      rw [gto_in (by rw [kx, ky, ex, ey]; omega), kx, ky, ex, ey]
      rw [show c / w + sy + -sy = c / w by omega, show c % w + sx + -sx = c % w by omega]
      exact crd_eq c w
    refine ⟨k, kr.1, kr.2, ?_, ?_, ?_⟩
    · rw [hn k kr.1 kr.2]; unfold cheb; omega
    · rw [hn k kr.1 kr.2, hn c c0 c1]; unfold cheb; rw [kx, ky]; omega
    · refine mem_near.2 ⟨c0, c1, fun q => ?_, d, d0, by rw [(grid_len w h).1]; exact d1, by rw [grid_to d0 d1 kr.1 kr.2]; exact gk⟩
      subst q; omega
theorem grid_far {w h a : Int} (g : Gr w h) (a0 : 0 ≤ a) (a1 : a < w * h) : (gridB w h).farQ a = (ints (w * h)).map (cheb w a) := (farQ_dist _ (grid_ok g) a0 a1).unique (grid_dist g a0 a1)

set_option maxHeartbeats 4000000 in
set_option maxRecDepth 10000 in
theorem BoardGrids_p (w : Int) (hw : -128 ≤ w ∧ w ≤ 127) (h : Int) (hh : -128 ≤ h ∧ h ≤ 127) (n : Int) (hn : 0 ≤ n ∧ n ≤ 255) : Pure Try.prog 10 [.v (.int .i8 w), .v (.int .i8 h), .v (.int .u8 n)] (Bo true) none := by
  have gr := Grid32_p w h
  have m : (w < 1 ∨ h < 1) ∨ (1 ≤ w * h ∧ w * h ≤ 128 * 128) := by
    by_cases q : 1 ≤ w ∧ 1 ≤ h
    · have q1 : 1 * 1 ≤ w * h := Int.mul_le_mul q.1 q.2 (by omega) (by omega)
      have q2 : w * h ≤ 128 * 128 := Int.mul_le_mul (by omega) (by omega) (by omega) (by omega)
      omega
    · omega
  by_cases hf : fits w h
  · have g := Gr.of hf
    have ⟨w1, h1, m1', m64⟩ := g
    rw [show grid w h = (gridB w h, 0) from if_pos hf] at gr
    have hb := grid_ok g
    have vb := valid14 _ hb
    have gl := grid_len w h
    have ff := Far29_p _ hb
    have t0 := fun d c => To15_p _ hb 0 d c
    have t1 := fun d c => To15_p _ hb 1 d c
    have ec : (gridB w h).cells = w * h := rfl
    have bk := fun d c d0 d1 c0 c1 => grid_back (d := d) (c := c) g d0 d1 c0 c1
    have tn := fun d d0 d1 => grid_tn (w := w) (h := h) (d := d) d0 d1
    have c0 : 0 ≤ n % (gridB w h).cells := Int.emod_nonneg _ (by omega)
    have c1 : n % (gridB w h).cells < w * h := Int.emod_lt_of_pos _ (by omega)
    have fa := grid_far g c0 c1
    rw [show ((ints (gridB w h).cells).map fun a => Is ((gridB w h).farQ a)) = ((ints (w * h)).map (gridB w h).farQ).map Is by rw [List.map_map]; rfl] at ff
    have fn : nth ((ints (w * h)).map (gridB w h).farQ) (n % (gridB w h).cells) = (ints (w * h)).map (cheb w (n % (gridB w h).cells)) := by rw [nth_map_ints c0 c1, fa]
    have fl : ((ints (w * h)).map (gridB w h).farQ).length = (w * h).toNat := by rw [List.length_map, ints_len]
    generalize (ints (w * h)).map (gridB w h).farQ = f at *
    have to0 := fun d c => grid_to1 (w := w) (h := h) (d := d) (c := c)
    generalize gridB w h = b at *
    have en : (b.next.map Is).length = b.next.length := List.length_map _
    have et : (b.turn.map I).length = b.turn.length := List.length_map _
    have ef : (f.map Is).length = f.length := List.length_map _
    refine fun_of tok D_ok Try.func10 rfl Try.ntmps10 Try.results10 (by kernel_rfl) (by simp) (by simp) ?_
    conv => whnf
    repeat' ((first
      | (refine ifD (fun _ => ?_) (fun _ => ?_))
      | (refine ifE (fun _ => ?_) (fun _ => ?_))
      | (refine ifN (fun _ => ?_) (fun _ => ?_))
      | ((with_reducible refine ifNot ?_))
      | ((with_reducible refine ifAndD (fun _ _ => ?_) (fun _ => ?_)))
      | ((with_reducible refine ifAnd (fun _ _ => ?_) (fun _ => ?_)))
      | (refine ixM (by omega) (by first | omega | (simp only [List.length_set, List.length_map, List.length_append, List.length_cons, List.length_nil, List.length_replicate]; omega)) rfl ?_)
      | (refine ixA (by omega) (by first | omega | (simp only [List.length_set, List.length_map, List.length_append, List.length_cons, List.length_nil, List.length_replicate]; omega)) ?_)
      | (refine ltM (by omega) (by first | omega | (simp only [List.length_set, List.length_map, List.length_append, List.length_cons, List.length_nil, List.length_replicate]; omega)) ?_)
      | (refine calI (by omega) ?_)
      | (refine cu8 (by omega) ?_)
      | (refine cu64 (by omega) ?_)
      | (refine And.intro (by omega) ?_; refine crem (by omega) ?_)
      | (refine And.intro (by omega) ?_; refine cquo (by omega) ?_)
      | (refine ⟨_, _, sanity_p, ?_⟩)
      | (refine .inl ?_; (conv => whnf); refine ⟨_, _, sanity_p, ?_⟩)
      | (refine ⟨_, _, gr, ?_⟩)
      | (refine .inl ?_; (conv => whnf); refine ⟨_, _, gr, ?_⟩)
      | (refine ⟨_, _, vb, ?_⟩)
      | (refine .inl ?_; (conv => whnf); refine ⟨_, _, vb, ?_⟩)
      | ((with_reducible refine preI ?_); (first | refine preNil ?_ | refine preOp rfl rfl ?_ | refine preT rfl rfl rfl rfl ?_ | refine preF rfl rfl rfl rfl ?_ | refine preTS rfl rfl rfl rfl ?_ | refine preFS rfl rfl rfl rfl ?_ | refine preSkip rfl rfl rfl rfl ?_ | refine preGT rfl rfl rfl rfl ?_ | refine preGF rfl rfl rfl rfl ?_))
      | ((first | refine drawA (by decide +kernel) ?_ | refine drawA2 (by kernel_rfl) ?_); conv => whnf; (try dsimp only [St.after, initSt, initT, numO, cellsA, Option.map, ren, renL, renO, St.setObj, headSt, List.cons_append, List.nil_append, List.length_nil]); try (conv => enter [7, 3]; whnf))
      | (refine ap1 (by decide) (by omega) rfl rfl ?_)
      | (refine ap0 (by decide) rfl ?_)
      | (refine apL (by decide) (by omega) (fun _ => rfl) ?_)
      | (refine apM (by decide) (by omega) (fun _ => rfl) ?_)
      | (refine setI (z := _) rfl ?_)
      | (refine And.intro (by omega) (And.intro (by omega) ?_))
      | (refine ifB_intro (fun _ => ?_) (fun _ => ?_))) <;> (conv => whnf; try dsimp only [St.after, initSt, initT, numO, cellsA, Option.map, ren, renL, renO, St.setObj, headSt, List.cons_append, List.nil_append, List.length_nil]))
    all_goals try (exfalso; omega)
    refine .of (fun d => [(11, I d)]) (fun d => []) 1 (fun d => 0 ≤ d ∧ d ≤ 8) (fun d => (8 - d).toNat) 0 ?_
    conv => whnf
    refine ⟨⟨[], (by kernel_rfl), (by kernel_rfl), (by kernel_rfl), ?_, ?_⟩, ?_, fun d ⟨d0, d1⟩ => ?_⟩
    rotate_left 1
    focus
      conv => whnf
      repeat' (first
        | exact trivial
        | with_reducible rfl
        | (refine srcI ?_; kernel_rfl)
        | (refine nsI ?_; kernel_rfl)
        | (refine And.intro ?_ ?_ <;> conv => whnf; try dsimp only [St.after, St.afterAt, initSt, initT, numO, cellsA, Option.map, ren, renL, renO, St.setObj, headSt, List.cons_append, List.nil_append, List.length_nil])
        | rfl)
    rotate_right 1
    focus
      conv => whnf
      repeat' (first
        | exact trivial
        | with_reducible rfl
        | (refine srcI ?_; kernel_rfl)
        | (refine nsI ?_; kernel_rfl)
        | (refine And.intro ?_ ?_ <;> conv => whnf; try dsimp only [St.after, St.afterAt, initSt, initT, numO, cellsA, Option.map, ren, renL, renO, St.setObj, headSt, List.cons_append, List.nil_append, List.length_nil])
        | rfl)
    rotate_right 1
    focus
      conv => whnf
    rotate_left 1
    · exact ⟨by omega, by omega⟩
    have tn' := tn d d0
    have bk' := fun c => bk d c d0
    repeat' ((first
      | (refine ifD (fun _ => ?_) (fun _ => ?_))
      | (refine ifE (fun _ => ?_) (fun _ => ?_))
      | (refine ifN (fun _ => ?_) (fun _ => ?_))
      | ((with_reducible refine ifNot ?_))
      | ((with_reducible refine ifAndD (fun _ _ => ?_) (fun _ => ?_)))
      | ((with_reducible refine ifAnd (fun _ _ => ?_) (fun _ => ?_)))
      | (refine ixM (by omega) (by first | omega | (simp only [List.length_set, List.length_map, List.length_append, List.length_cons, List.length_nil, List.length_replicate]; omega)) rfl ?_)
      | (refine ixA (by omega) (by first | omega | (simp only [List.length_set, List.length_map, List.length_append, List.length_cons, List.length_nil, List.length_replicate]; omega)) ?_)
      | (refine ltM (by omega) (by first | omega | (simp only [List.length_set, List.length_map, List.length_append, List.length_cons, List.length_nil, List.length_replicate]; omega)) ?_)
      | (refine calI (by omega) ?_)
      | (refine cu8 (by omega) ?_)
      | (refine cu64 (by omega) ?_)
      | (refine And.intro (by omega) ?_; refine crem (by omega) ?_)
      | (refine And.intro (by omega) ?_; refine cquo (by omega) ?_)
      | ((with_reducible refine preI ?_); (first | refine preNil ?_ | refine preOp rfl rfl ?_ | refine preT rfl rfl rfl rfl ?_ | refine preF rfl rfl rfl rfl ?_ | refine preTS rfl rfl rfl rfl ?_ | refine preFS rfl rfl rfl rfl ?_ | refine preSkip rfl rfl rfl rfl ?_ | refine preGT rfl rfl rfl rfl ?_ | refine preGF rfl rfl rfl rfl ?_))
      | ((first | refine drawA (by decide +kernel) ?_ | refine drawA2 (by kernel_rfl) ?_); conv => whnf; (try dsimp only [St.after, St.afterAt, initSt, initT, numO, cellsA, Option.map, ren, renL, renO, St.setObj, headSt, List.cons_append, List.nil_append, List.length_nil]); try (conv => enter [7, 3]; whnf))
      | (refine ap1 (by decide) (by omega) rfl rfl ?_)
      | (refine ap0 (by decide) rfl ?_)
      | (refine apL (by decide) (by omega) (fun _ => rfl) ?_)
      | (refine apM (by decide) (by omega) (fun _ => rfl) ?_)
      | (refine setI (z := _) rfl ?_)
      | (refine And.intro (by omega) (And.intro (by omega) ?_))
      | (refine ifB_intro (fun _ => ?_) (fun _ => ?_))) <;> (conv => whnf; try dsimp only [St.after, St.afterAt, initSt, initT, numO, cellsA, Option.map, ren, renL, renO, St.setObj, headSt, List.cons_append, List.nil_append, List.length_nil]))
    ·
      refine .of (fun c => [(12, I c)]) (fun c => []) 1 (fun c => 0 ≤ c ∧ c ≤ w * h) (fun c => (w * h - c).toNat) 0 ?_
      conv => whnf
      refine ⟨⟨[], (by kernel_rfl), (by kernel_rfl), (by kernel_rfl), ?_, ?_⟩, ?_, fun c ⟨k0, k1⟩ => ?_⟩
      rotate_left 1
      focus
        conv => whnf
        repeat' (first
          | exact trivial
          | with_reducible rfl
          | (refine srcI ?_; kernel_rfl)
          | (refine nsI ?_; kernel_rfl)
          | (refine And.intro ?_ ?_ <;> conv => whnf; try dsimp only [St.after, St.afterAt, initSt, initT, numO, cellsA, Option.map, ren, renL, renO, St.setObj, headSt, List.cons_append, List.nil_append, List.length_nil])
          | rfl)
      rotate_right 1
      focus
        conv => whnf
        repeat' (first
          | exact trivial
          | with_reducible rfl
          | (refine srcI ?_; kernel_rfl)
          | (refine nsI ?_; kernel_rfl)
          | (refine And.intro ?_ ?_ <;> conv => whnf; try dsimp only [St.after, St.afterAt, initSt, initT, numO, cellsA, Option.map, ren, renL, renO, St.setObj, headSt, List.cons_append, List.nil_append, List.length_nil])
          | rfl)
      rotate_right 1
      focus
        conv => whnf
      rotate_left 1
      · exact ⟨by omega, by omega⟩
      have bk'' := bk' c (by omega) k0
      repeat' ((first
        | (refine ifD (fun _ => ?_) (fun _ => ?_))
        | (refine ifE (fun _ => ?_) (fun _ => ?_))
        | (refine ifN (fun _ => ?_) (fun _ => ?_))
        | ((with_reducible refine ifNot ?_))
        | ((with_reducible refine ifAndD (fun _ _ => ?_) (fun _ => ?_)))
        | ((with_reducible refine ifAnd (fun _ _ => ?_) (fun _ => ?_)))
        | (refine ixM (by omega) (by first | omega | (simp only [List.length_set, List.length_map, List.length_append, List.length_cons, List.length_nil, List.length_replicate]; omega)) rfl ?_)
        | (refine ixA (by omega) (by first | omega | (simp only [List.length_set, List.length_map, List.length_append, List.length_cons, List.length_nil, List.length_replicate]; omega)) ?_)
        | (refine ltM (by omega) (by first | omega | (simp only [List.length_set, List.length_map, List.length_append, List.length_cons, List.length_nil, List.length_replicate]; omega)) ?_)
        | (refine calI (by omega) ?_)
        | (refine cu8 (by omega) ?_)
        | (refine cu64 (by omega) ?_)
        | (refine And.intro (by omega) ?_; refine crem (by omega) ?_)
        | (refine And.intro (by omega) ?_; refine cquo (by omega) ?_)
        | (refine ⟨_, _, t0 d c, ?_⟩)
        | (refine .inl ?_; (conv => whnf); refine ⟨_, _, t0 d c, ?_⟩)
        | (refine ⟨_, _, t1 d _, ?_⟩)
        | (refine .inl ?_; (conv => whnf); refine ⟨_, _, t1 d _, ?_⟩)
        | ((with_reducible refine preI ?_); (first | refine preNil ?_ | refine preOp rfl rfl ?_ | refine preT rfl rfl rfl rfl ?_ | refine preF rfl rfl rfl rfl ?_ | refine preTS rfl rfl rfl rfl ?_ | refine preFS rfl rfl rfl rfl ?_ | refine preSkip rfl rfl rfl rfl ?_ | refine preGT rfl rfl rfl rfl ?_ | refine preGF rfl rfl rfl rfl ?_))
        | ((first | refine drawA (by decide +kernel) ?_ | refine drawA2 (by kernel_rfl) ?_); conv => whnf; (try dsimp only [St.after, St.afterAt, initSt, initT, numO, cellsA, Option.map, ren, renL, renO, St.setObj, headSt, List.cons_append, List.nil_append, List.length_nil]); try (conv => enter [7, 3]; whnf))
        | (refine ap1 (by decide) (by omega) rfl rfl ?_)
        | (refine ap0 (by decide) rfl ?_)
        | (refine apL (by decide) (by omega) (fun _ => rfl) ?_)
        | (refine apM (by decide) (by omega) (fun _ => rfl) ?_)
        | (refine setI (z := _) rfl ?_)
        | (refine And.intro (by omega) (And.intro (by omega) ?_))
        | (refine ifB_intro (fun _ => ?_) (fun _ => ?_))) <;> (conv => whnf; try dsimp only [St.after, St.afterAt, initSt, initT, numO, cellsA, Option.map, ren, renL, renO, St.setObj, headSt, List.cons_append, List.nil_append, List.length_nil]))
      all_goals try (exfalso; first | omega | (rename_i q; exact q (bk'' (by omega) (by omega))))
      iterate 2
        · refine ⟨c + 1, ⟨[], (by kernel_rfl), (by kernel_rfl), (by kernel_rfl), ?_, ?_⟩, ?_, by (try dsimp only); omega, rfl⟩
          rotate_left 1
          focus
            conv => whnf
            repeat' (first
              | exact trivial
              | with_reducible rfl
              | (refine srcI ?_; kernel_rfl)
              | (refine nsI ?_; kernel_rfl)
              | (refine And.intro ?_ ?_ <;> conv => whnf; try dsimp only [St.after, St.afterAt, initSt, initT, numO, cellsA, Option.map, ren, renL, renO, St.setObj, headSt, List.cons_append, List.nil_append, List.length_nil]))
          rotate_right 1
          focus
            conv => whnf
            repeat' (first
              | exact trivial
              | with_reducible rfl
              | (refine srcI ?_; kernel_rfl)
              | (refine nsI ?_; kernel_rfl)
              | (refine And.intro ?_ ?_ <;> conv => whnf; try dsimp only [St.after, St.afterAt, initSt, initT, numO, cellsA, Option.map, ren, renL, renO, St.setObj, headSt, List.cons_append, List.nil_append, List.length_nil]))
          exact ⟨by omega, by omega⟩
      refine ⟨d + 1, ⟨[], (by kernel_rfl), (by kernel_rfl), (by kernel_rfl), ?_, ?_⟩, ?_, by (try dsimp only); omega, rfl⟩
      rotate_left 1
      focus
        conv => whnf
        repeat' (first
          | exact trivial
          | with_reducible rfl
          | (refine srcI ?_; kernel_rfl)
          | (refine nsI ?_; kernel_rfl)
          | (refine And.intro ?_ ?_ <;> conv => whnf; try dsimp only [St.after, St.afterAt, initSt, initT, numO, cellsA, Option.map, ren, renL, renO, St.setObj, headSt, List.cons_append, List.nil_append, List.length_nil]))
      rotate_right 1
      focus
        conv => whnf
        repeat' (first
          | exact trivial
          | with_reducible rfl
          | (refine srcI ?_; kernel_rfl)
          | (refine nsI ?_; kernel_rfl)
          | (refine And.intro ?_ ?_ <;> conv => whnf; try dsimp only [St.after, St.afterAt, initSt, initT, numO, cellsA, Option.map, ren, renL, renO, St.setObj, headSt, List.cons_append, List.nil_append, List.length_nil]))
      exact ⟨by omega, by omega⟩
    · have hfl : (nth f (n % b.cells)).length = (w * h).toNat := by rw [fn, List.length_map, ints_len]
      have hfm : ((nth f (n % b.cells)).map I).length = (nth f (n % b.cells)).length := List.length_map _
      repeat' ((first
        | (refine ifD (fun _ => ?_) (fun _ => ?_))
        | (refine ifE (fun _ => ?_) (fun _ => ?_))
        | (refine ifN (fun _ => ?_) (fun _ => ?_))
        | ((with_reducible refine ifNot ?_))
        | ((with_reducible refine ifAndD (fun _ _ => ?_) (fun _ => ?_)))
        | ((with_reducible refine ifAnd (fun _ _ => ?_) (fun _ => ?_)))
        | (refine ixM (by omega) (by first | omega | (simp only [List.length_set, List.length_map, List.length_append, List.length_cons, List.length_nil, List.length_replicate]; omega)) rfl ?_)
        | (refine ixA (by omega) (by first | omega | (simp only [List.length_set, List.length_map, List.length_append, List.length_cons, List.length_nil, List.length_replicate]; omega)) ?_)
        | (refine ltM (by omega) (by first | omega | (simp only [List.length_set, List.length_map, List.length_append, List.length_cons, List.length_nil, List.length_replicate]; omega)) ?_)
        | (refine calI (by omega) ?_)
        | (refine cu8 (by omega) ?_)
        | (refine cu64 (by omega) ?_)
        | (refine And.intro (by omega) ?_; refine crem (by omega) ?_)
        | (refine And.intro (by omega) ?_; refine cquo (by omega) ?_)
        | (refine ⟨_, _, ff, ?_⟩)
        | (refine .inl ?_; (conv => whnf); refine ⟨_, _, ff, ?_⟩)
        | ((with_reducible refine preI ?_); (first | refine preNil ?_ | refine preOp rfl rfl ?_ | refine preT rfl rfl rfl rfl ?_ | refine preF rfl rfl rfl rfl ?_ | refine preTS rfl rfl rfl rfl ?_ | refine preFS rfl rfl rfl rfl ?_ | refine preSkip rfl rfl rfl rfl ?_ | refine preGT rfl rfl rfl rfl ?_ | refine preGF rfl rfl rfl rfl ?_))
        | ((first | refine drawA (by decide +kernel) ?_ | refine drawA2 (by kernel_rfl) ?_); conv => whnf; (try dsimp only [St.after, St.afterAt, initSt, initT, numO, cellsA, Option.map, ren, renL, renO, St.setObj, headSt, List.cons_append, List.nil_append, List.length_nil]); try (conv => enter [7, 3]; whnf))
        | (refine ap1 (by decide) (by omega) rfl rfl ?_)
        | (refine ap0 (by decide) rfl ?_)
        | (refine apL (by decide) (by omega) (fun _ => rfl) ?_)
        | (refine apM (by decide) (by omega) (fun _ => rfl) ?_)
        | (refine setI (z := _) rfl ?_)
        | (refine And.intro (by omega) (And.intro (by omega) ?_))
        | (refine ifB_intro (fun _ => ?_) (fun _ => ?_))) <;> (conv => whnf; try dsimp only [St.after, St.afterAt, initSt, initT, numO, cellsA, Option.map, ren, renL, renO, St.setObj, headSt, List.cons_append, List.nil_append, List.length_nil]))
      all_goals try (exfalso; omega)
      refine .of (fun c => [(16, I c)]) (fun c => []) 2 (fun c => 0 ≤ c ∧ c ≤ w * h) (fun c => (w * h - c).toNat) 0 ?_
      conv => whnf
      refine ⟨⟨[], (by kernel_rfl), (by kernel_rfl), (by kernel_rfl), ?_, ?_⟩, ?_, fun c ⟨k0, k1⟩ => ?_⟩
      rotate_left 1
      focus
        conv => whnf
        repeat' (first
          | exact trivial
          | with_reducible rfl
          | (refine srcI ?_; kernel_rfl)
          | (refine nsI ?_; kernel_rfl)
          | (refine And.intro ?_ ?_ <;> conv => whnf; try dsimp only [St.after, St.afterAt, initSt, initT, numO, cellsA, Option.map, ren, renL, renO, St.setObj, headSt, List.cons_append, List.nil_append, List.length_nil])
          | rfl)
      rotate_right 1
      focus
        conv => whnf
        repeat' (first
          | exact trivial
          | with_reducible rfl
          | (refine srcI ?_; kernel_rfl)
          | (refine nsI ?_; kernel_rfl)
          | (refine And.intro ?_ ?_ <;> conv => whnf; try dsimp only [St.after, St.afterAt, initSt, initT, numO, cellsA, Option.map, ren, renL, renO, St.setObj, headSt, List.cons_append, List.nil_append, List.length_nil])
          | rfl)
      rotate_right 1
      focus
        conv => whnf
      rotate_left 1
      · exact ⟨by omega, by omega⟩
      have hv : c < w * h → nth (nth f (n % b.cells)) c = cheb w (n % b.cells) c := fun q => by rw [fn]; exact nth_map_ints k0 q
      have q1 := fun (q : c < w * h) => crd_rg w1 k0 q
      have q2 := crd_rg w1 c0 c1
      by_cases hc : c < w * h
      · have q1' := q1 hc
        have hv' := hv hc
        unfold cheb at hv'
        repeat' ((first
          | (refine ifNF (by omega) ?_)
          | (refine ifNT (by omega) ?_)
          | (refine ifET (by omega) ?_)
          | (refine ifEF (by omega) ?_)
          | (refine ifDT (by omega) ?_)
          | (refine ifDF (by omega) ?_)
          | (refine ifD (fun _ => ?_) (fun _ => ?_))
          | (refine ifE (fun _ => ?_) (fun _ => ?_))
          | (refine ifN (fun _ => ?_) (fun _ => ?_))
          | ((with_reducible refine ifNot ?_))
          | ((with_reducible refine ifAndD (fun _ _ => ?_) (fun _ => ?_)))
          | ((with_reducible refine ifAnd (fun _ _ => ?_) (fun _ => ?_)))
          | (refine ixM (by omega) (by first | omega | (simp only [List.length_set, List.length_map, List.length_append, List.length_cons, List.length_nil, List.length_replicate]; omega)) rfl ?_)
          | (refine ixA (by omega) (by first | omega | (simp only [List.length_set, List.length_map, List.length_append, List.length_cons, List.length_nil, List.length_replicate]; omega)) ?_)
          | (refine ltM (by omega) (by first | omega | (simp only [List.length_set, List.length_map, List.length_append, List.length_cons, List.length_nil, List.length_replicate]; omega)) ?_)
          | (refine calI (by omega) ?_)
          | (refine cu8 (by omega) ?_)
          | (refine cu64 (by omega) ?_)
          | (refine And.intro (by omega) ?_; refine crem (by omega) ?_)
          | (refine And.intro (by omega) ?_; refine cquo (by omega) ?_)
          | ((with_reducible refine preI ?_); (first | refine preNil ?_ | refine preOp rfl rfl ?_ | refine preT rfl rfl rfl rfl ?_ | refine preF rfl rfl rfl rfl ?_ | refine preTS rfl rfl rfl rfl ?_ | refine preFS rfl rfl rfl rfl ?_ | refine preSkip rfl rfl rfl rfl ?_ | refine preGT rfl rfl rfl rfl ?_ | refine preGF rfl rfl rfl rfl ?_))
          | ((first | refine drawA (by decide +kernel) ?_ | refine drawA2 (by kernel_rfl) ?_); conv => whnf; (try dsimp only [St.after, St.afterAt, initSt, initT, numO, cellsA, Option.map, ren, renL, renO, St.setObj, headSt, List.cons_append, List.nil_append, List.length_nil]); try (conv => enter [7, 3]; whnf))
          | (refine ap1 (by decide) (by omega) rfl rfl ?_)
          | (refine ap0 (by decide) rfl ?_)
          | (refine apL (by decide) (by omega) (fun _ => rfl) ?_)
          | (refine apM (by decide) (by omega) (fun _ => rfl) ?_)
          | (refine setI (z := _) rfl ?_)
          | (refine And.intro (by omega) (And.intro (by omega) ?_))
          | (refine ifB_intro (fun _ => ?_) (fun _ => ?_))
          | (refine exitA (by kernel_rfl) (by kernel_rfl) ⟨?_, trivial⟩ ?_ <;> (conv => whnf) <;> repeat' (first | exact trivial | with_reducible rfl | (refine srcI ?_; kernel_rfl) | (refine nsI ?_; kernel_rfl) | (refine And.intro ?_ ?_ <;> conv => whnf; try dsimp only [St.after, St.afterAt, initSt, initT, numO, cellsA, Option.map, ren, renL, renO, St.setObj, headSt, List.cons_append, List.nil_append, List.length_nil])))) <;> (conv => whnf; try dsimp only [St.after, St.afterAt, initSt, initT, numO, cellsA, Option.map, ren, renL, renO, St.setObj, headSt, List.cons_append, List.nil_append, List.length_nil]))
        refine ⟨c + 1, ⟨[], (by kernel_rfl), (by kernel_rfl), (by kernel_rfl), ?_, ?_⟩, ?_, by (try dsimp only); omega, rfl⟩
        rotate_left 1
        focus
          conv => whnf
          repeat' (first
            | exact trivial
            | with_reducible rfl
            | (refine srcI ?_; kernel_rfl)
            | (refine nsI ?_; kernel_rfl)
            | (refine And.intro ?_ ?_ <;> conv => whnf; try dsimp only [St.after, St.afterAt, initSt, initT, numO, cellsA, Option.map, ren, renL, renO, St.setObj, headSt, List.cons_append, List.nil_append, List.length_nil]))
        rotate_right 1
        focus
          conv => whnf
          repeat' (first
            | exact trivial
            | with_reducible rfl
            | (refine srcI ?_; kernel_rfl)
            | (refine nsI ?_; kernel_rfl)
            | (refine And.intro ?_ ?_ <;> conv => whnf; try dsimp only [St.after, St.afterAt, initSt, initT, numO, cellsA, Option.map, ren, renL, renO, St.setObj, headSt, List.cons_append, List.nil_append, List.length_nil]))
        exact ⟨by omega, by omega⟩
      · repeat' ((first
          | (refine ifNF (by omega) ?_)
          | (refine ifNT (by omega) ?_)
          | (refine ifET (by omega) ?_)
          | (refine ifEF (by omega) ?_)
          | (refine ifDT (by omega) ?_)
          | (refine ifDF (by omega) ?_)
          | (refine ifD (fun _ => ?_) (fun _ => ?_))
          | (refine ifE (fun _ => ?_) (fun _ => ?_))
          | (refine ifN (fun _ => ?_) (fun _ => ?_))
          | ((with_reducible refine ifNot ?_))
          | ((with_reducible refine ifAndD (fun _ _ => ?_) (fun _ => ?_)))
          | ((with_reducible refine ifAnd (fun _ _ => ?_) (fun _ => ?_)))
          | (refine ixM (by omega) (by first | omega | (simp only [List.length_set, List.length_map, List.length_append, List.length_cons, List.length_nil, List.length_replicate]; omega)) rfl ?_)
          | (refine ixA (by omega) (by first | omega | (simp only [List.length_set, List.length_map, List.length_append, List.length_cons, List.length_nil, List.length_replicate]; omega)) ?_)
          | (refine ltM (by omega) (by first | omega | (simp only [List.length_set, List.length_map, List.length_append, List.length_cons, List.length_nil, List.length_replicate]; omega)) ?_)
          | (refine calI (by omega) ?_)
          | (refine cu8 (by omega) ?_)
          | (refine cu64 (by omega) ?_)
          | (refine And.intro (by omega) ?_; refine crem (by omega) ?_)
          | (refine And.intro (by omega) ?_; refine cquo (by omega) ?_)
          | ((with_reducible refine preI ?_); (first | refine preNil ?_ | refine preOp rfl rfl ?_ | refine preT rfl rfl rfl rfl ?_ | refine preF rfl rfl rfl rfl ?_ | refine preTS rfl rfl rfl rfl ?_ | refine preFS rfl rfl rfl rfl ?_ | refine preSkip rfl rfl rfl rfl ?_ | refine preGT rfl rfl rfl rfl ?_ | refine preGF rfl rfl rfl rfl ?_))
          | ((first | refine drawA (by decide +kernel) ?_ | refine drawA2 (by kernel_rfl) ?_); conv => whnf; (try dsimp only [St.after, St.afterAt, initSt, initT, numO, cellsA, Option.map, ren, renL, renO, St.setObj, headSt, List.cons_append, List.nil_append, List.length_nil]); try (conv => enter [7, 3]; whnf))
          | (refine ap1 (by decide) (by omega) rfl rfl ?_)
          | (refine ap0 (by decide) rfl ?_)
          | (refine apL (by decide) (by omega) (fun _ => rfl) ?_)
          | (refine apM (by decide) (by omega) (fun _ => rfl) ?_)
          | (refine setI (z := _) rfl ?_)
          | (refine And.intro (by omega) (And.intro (by omega) ?_))
          | (refine ifB_intro (fun _ => ?_) (fun _ => ?_))
          | (refine exitA (by kernel_rfl) (by kernel_rfl) ⟨?_, trivial⟩ ?_ <;> (conv => whnf) <;> repeat' (first | exact trivial | with_reducible rfl | (refine srcI ?_; kernel_rfl) | (refine nsI ?_; kernel_rfl) | (refine And.intro ?_ ?_ <;> conv => whnf; try dsimp only [St.after, St.afterAt, initSt, initT, numO, cellsA, Option.map, ren, renL, renO, St.setObj, headSt, List.cons_append, List.nil_append, List.length_nil])))) <;> (conv => whnf; try dsimp only [St.after, St.afterAt, initSt, initT, numO, cellsA, Option.map, ren, renL, renO, St.setObj, headSt, List.cons_append, List.nil_append, List.length_nil]))
  · rw [show grid w h = (⟨0, [], []⟩, 1) from if_neg hf] at gr
    have sm := Same_p (⟨0, [], []⟩ : Bd) (⟨0, [], []⟩ : Bd) ⟨by simp, by simp, fun i _ h => by simp at h; omega⟩
    rw [decide_eq_true rfl] at sm
    refine fun_of tok D_ok Try.func10 rfl Try.ntmps10 Try.results10 (by kernel_rfl) (by simp) (by simp) ?_
    conv => whnf
    have hf' := mt fits_iff.2 hf
    repeat' ((first
      | (refine ifD (fun _ => ?_) (fun _ => ?_))
      | (refine ifE (fun _ => ?_) (fun _ => ?_))
      | (refine ifN (fun _ => ?_) (fun _ => ?_))
      | ((with_reducible refine ifNot ?_))
      | ((with_reducible refine ifAndD (fun _ _ => ?_) (fun _ => ?_)))
      | ((with_reducible refine ifAnd (fun _ _ => ?_) (fun _ => ?_)))
      | (refine ixM (by omega) (by first | omega | (simp only [List.length_set, List.length_map, List.length_append, List.length_cons, List.length_nil, List.length_replicate]; omega)) rfl ?_)
      | (refine ixA (by omega) (by first | omega | (simp only [List.length_set, List.length_map, List.length_append, List.length_cons, List.length_nil, List.length_replicate]; omega)) ?_)
      | (refine ltM (by omega) (by first | omega | (simp only [List.length_set, List.length_map, List.length_append, List.length_cons, List.length_nil, List.length_replicate]; omega)) ?_)
      | (refine calI (by omega) ?_)
      | (refine cu8 (by omega) ?_)
      | (refine cu64 (by omega) ?_)
      | (refine And.intro (by omega) ?_; refine crem (by omega) ?_)
      | (refine And.intro (by omega) ?_; refine cquo (by omega) ?_)
      | (refine ⟨_, _, sanity_p, ?_⟩)
      | (refine .inl ?_; (conv => whnf); refine ⟨_, _, sanity_p, ?_⟩)
      | (refine ⟨_, _, gr, ?_⟩)
      | (refine .inl ?_; (conv => whnf); refine ⟨_, _, gr, ?_⟩)
      | (refine ⟨_, _, sm, ?_⟩)
      | (refine .inl ?_; (conv => whnf); refine ⟨_, _, sm, ?_⟩)
      | ((with_reducible refine preI ?_); (first | refine preNil ?_ | refine preOp rfl rfl ?_ | refine preT rfl rfl rfl rfl ?_ | refine preF rfl rfl rfl rfl ?_ | refine preTS rfl rfl rfl rfl ?_ | refine preFS rfl rfl rfl rfl ?_ | refine preSkip rfl rfl rfl rfl ?_ | refine preGT rfl rfl rfl rfl ?_ | refine preGF rfl rfl rfl rfl ?_))
      | ((first | refine drawA (by decide +kernel) ?_ | refine drawA2 (by kernel_rfl) ?_); conv => whnf; (try dsimp only [St.after, initSt, initT, numO, cellsA, Option.map, ren, renL, renO, St.setObj, headSt, List.cons_append, List.nil_append, List.length_nil]); try (conv => enter [7, 3]; whnf))
      | (refine ap1 (by decide) (by omega) rfl rfl ?_)
      | (refine ap0 (by decide) rfl ?_)
      | (refine apL (by decide) (by omega) (fun _ => rfl) ?_)
      | (refine apM (by decide) (by omega) (fun _ => rfl) ?_)
      | (refine setI (z := _) rfl ?_)
      | (refine And.intro (by omega) (And.intro (by omega) ?_))
      | (refine ifB_intro (fun _ => ?_) (fun _ => ?_))) <;> (conv => whnf; try dsimp only [St.after, initSt, initT, numO, cellsA, Option.map, ren, renL, renO, St.setObj, headSt, List.cons_append, List.nil_append, List.length_nil]))
    all_goals try (exfalso; omega)
    all_goals
      refine exitS [] (by kernel_rfl) (by kernel_rfl) (by kernel_rfl) ?_ ?_
      rotate_left 1
      focus
        conv => whnf
        repeat' (first
          | exact trivial
          | with_reducible rfl
          | (refine srcI ?_; kernel_rfl)
          | (refine nsI ?_; kernel_rfl)
          | (refine And.intro ?_ ?_ <;> conv => whnf; try dsimp only [St.after, St.afterAt, initSt, initT, numO, cellsA, Option.map, ren, renL, renO, St.setObj, headSt, List.cons_append, List.nil_append, List.length_nil])
          | rfl)
      rotate_right 1
      focus
        conv => whnf
        repeat' (first
          | exact trivial
          | with_reducible rfl
          | (refine srcI ?_; kernel_rfl)
          | (refine nsI ?_; kernel_rfl)
          | (refine And.intro ?_ ?_ <;> conv => whnf; try dsimp only [St.after, St.afterAt, initSt, initT, numO, cellsA, Option.map, ren, renL, renO, St.setObj, headSt, List.cons_append, List.nil_append, List.length_nil])
          | rfl)
end Go.Proofs.Ytkecpgidolphfaa
