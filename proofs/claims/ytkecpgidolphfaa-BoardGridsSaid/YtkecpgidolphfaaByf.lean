/- Contracts of functions of the program, proved by the checker. -/
import Derived.Test.YtkecpgidolphfaaBw
import Derived.Test.YtkecpgidolphfaaBya
import Derived.Test.YtkecpgidolphfaaBp
namespace Go.Proofs.Ytkecpgidolphfaa
set_option linter.unusedVariables false
set_option linter.unusedSimpArgs false
open Go Go.Sk

/-! The law of distances. -/
def best1 (b : Bd) (f : List Int) (c : Int) (v k : Int) : Int := if 0 ≤ nth f k ∧ (b.near k).contains c = true ∧ (v < 0 ∨ nth f k < v) then nth f k else v
def bestC (b : Bd) (f : List Int) (c m : Int) : Int := (ints m).foldl (best1 b f c) (-1)
theorem bestC_succ {b : Bd} {f : List Int} {c m : Int} (h : 0 ≤ m) : bestC b f c (m + 1) = best1 b f c (bestC b f c m) m := by unfold bestC; rw [ints_succ h, List.foldl_append]; rfl
theorem bestC_spec {b : Bd} {f : List Int} {c : Int} : ∀ n : Nat, -1 ≤ bestC b f c n ∧ (∀ k : Int, 0 ≤ k → k < n → 0 ≤ nth f k → c ∈ b.near k → 0 ≤ bestC b f c n ∧ bestC b f c n ≤ nth f k) ∧ (0 ≤ bestC b f c n → ∃ k : Int, 0 ≤ k ∧ k < n ∧ 0 ≤ nth f k ∧ c ∈ b.near k ∧ bestC b f c n = nth f k)
  | 0 => ⟨Int.le_refl _, fun k _ h => by omega, fun h => absurd h (by show ¬ (0 : Int) ≤ -1; omega)⟩
  | n + 1 => by
    obtain ⟨h0, h1, h2⟩ := bestC_spec (b := b) (f := f) (c := c) n
    rw [show ((n + 1 : Nat) : Int) = (n : Int) + 1 by omega, bestC_succ (by omega)]
    unfold best1
    split
    · rename_i hc
      have hm := List.contains_iff_mem.1 hc.2.1
      refine ⟨by omega, fun k k0 k1 hk hck => ?_, fun h => ⟨n, by omega, by omega, hc.1, hm, rfl⟩⟩
      by_cases e : k = n
      · subst e; omega
      · have := h1 k k0 (by omega) hk hck; omega
    · rename_i hc
      refine ⟨h0, fun k k0 k1 hk hck => ?_, fun h => ?_⟩
      · by_cases e : k = n
        · subst e
          have : ¬ (bestC b f c n < 0 ∨ nth f n < bestC b f c n) := fun h => hc ⟨hk, List.contains_iff_mem.2 hck, h⟩
          omega
        · exact h1 k k0 (by omega) hk hck
      · obtain ⟨k, q0, q1, q2, q3, q4⟩ := h2 h
        exact ⟨k, q0, by omega, q2, q3, q4⟩
theorem Dist.vals {near : Int → List Int} {m a : Int} {f : List Int} (h : Dist near m a f) : ∀ (n : Nat) (c : Int), 0 ≤ c → c < m → nth f c = n → ∀ j : Int, 0 ≤ j → j ≤ n → j ∈ f
  | n, c, c0, c1, e, j, j0, j1 => by
    have hl := h.len
    by_cases q : j = n
    · rw [q, ← e]; exact nth_mem c0 (by omega)
    · obtain ⟨n', rfl⟩ : ∃ n', n = n' + 1 := ⟨n - 1, by omega⟩
      have hne : c ≠ a := fun q => by subst q; have := h.zero; omega
      obtain ⟨k, k0, k1, k2, k3, k4⟩ := h.dn c c0 c1 hne (by omega)
      exact Dist.vals h n' k k0 k1 (by omega) j j0 (by omega)
theorem ints_nodup (n : Int) : (ints n).Nodup := by
  unfold ints
  rw [List.nodup_iff_pairwise_ne, List.pairwise_map]
  exact List.Pairwise.imp (fun h => by omega) List.pairwise_lt_range
theorem Dist.lt {near : Int → List Int} {m a : Int} {f : List Int} (h : Dist near m a f) {c : Int} (c0 : 0 ≤ c) (c1 : c < m) : nth f c < m := by
  have hl := h.len
  rcases Int.lt_or_le (nth f c) 0 with q | q
  · omega
  · have := nodup_sub_len (a := ints (nth f c + 1)) (b := f) (ints_nodup _) fun x hx => by
      have := mem_ints.1 hx
      exact h.vals (nth f c).toNat c c0 c1 (by omega) x this.1 (by omega)
    rw [ints_len] at this
    omega
/-- What the law asks of a cell's distance. -/
theorem Dist.law {b : Bd} {a : Int} {f : List Int} (h : Dist b.near b.cells a f) (hb : b.ok) {c : Int} (c0 : 0 ≤ c) (c1 : c < b.cells) (hac : a ≠ c) (a0 : 0 ≤ a) (a1 : a < b.cells) :
    (0 ≤ bestC b f c b.cells → nth f c = bestC b f c b.cells + 1) ∧ (bestC b f c b.cells < 0 → nth f c = -1 ∧ bestC b f c b.cells = -1) ∧ ((b.near a).contains c = true ↔ nth f c = 1) := by
  have b1 := hb.c1
  obtain ⟨h0, h1, h2⟩ := bestC_spec (b := b) (f := f) (c := c) b.cells.toNat
  rw [show ((b.cells.toNat : Nat) : Int) = b.cells by omega] at h0 h1 h2
  have lo := h.lo c c0 c1
  refine ⟨fun hn => ?_, fun hn => ?_, fun hm => ?_, fun he => ?_⟩
  · obtain ⟨k, q0, q1, q2, q3, q4⟩ := h2 hn
    have h3 := h.up k q0 q1 q2 c q3
    obtain ⟨k', r0, r1, r2, r3, r4⟩ := h.dn c c0 c1 (Ne.symm hac) h3.1
    have := h1 k' r0 r1 r2 r4
    omega
  · refine ⟨?_, by omega⟩
    rcases Int.lt_or_le (nth f c) 0 with h3 | h3
    · omega
    · obtain ⟨k', r0, r1, r2, r3, r4⟩ := h.dn c c0 c1 (Ne.symm hac) h3
      have := h1 k' r0 r1 r2 r4
      omega
  · have h3 := h.up a a0 a1 (by rw [h.zero]; exact Int.le_refl _) c (List.contains_iff_mem.1 hm)
    rw [h.zero] at h3
    obtain ⟨k', r0, r1, r2, r3, r4⟩ := h.dn c c0 c1 (Ne.symm hac) h3.1
    omega
  · obtain ⟨k', r0, r1, r2, r3, r4⟩ := h.dn c c0 c1 (Ne.symm hac) (by omega)
    have hk : nth f k' = 0 := by omega
    by_cases e : k' = a
    · subst e; exact List.contains_iff_mem.2 r4
    · obtain ⟨k2, s0, s1, s2, s3, s4⟩ := h.dn k' r0 r1 e r2
      omega

def Bd.farA (b : Bd) : List (List Int) := (ints b.cells).map b.farQ
set_option maxHeartbeats 4000000 in
set_option maxRecDepth 10000 in
theorem BoardFar_p (x : Rw) (hx : x.ok) : Pure Try.prog 9 [x.av] (Bo true) none := by
  have hb := Rw.wild_ok hx
  have hw := Wild12_p x hx
  obtain ⟨b, hbe⟩ : ∃ b, b = x.wild := ⟨_, rfl⟩
  rw [← hbe] at hb hw
  obtain ⟨n0, n1, n2, n3, n4, n5, n6, n7, n8, n9, n10, n11, n12, n13, n14, n15, n16, n17, n18, n19, n20, n21, n22, n23, n24, n25, n26, n27, n28, n29, n30, n31, hns⟩ := list32 hx.l
  have hav : x.av = .ag [U x.cells, U x.dirs, U x.turn, U n0, U n1, U n2, U n3, U n4, U n5, U n6, U n7, U n8, U n9, U n10, U n11, U n12, U n13, U n14, U n15, U n16, U n17, U n18, U n19, U n20, U n21, U n22, U n23, U n24, U n25, U n26, U n27, U n28, U n29, U n30, U n31] := by unfold Rw.av; rw [hns]; rfl
  rw [hav] at hw ⊢
  clear hav hns 
  have c6 := hb.c64
  have b1 := hb.c1
  have n8 := hb.n8
  have fr := Far29_p b hb
  rw [show ((ints b.cells).map fun a => Is (b.farQ a)) = ((ints b.cells).map b.farQ).map Is by rw [List.map_map]; rfl] at fr
  have hds := fun a h0 h1 => farQ_dist b hb (a := a) h0 h1
  have hn := fun a h0 (h1 : a < b.cells) => nth_map_ints (n := b.cells) (i := a) (f := b.farQ) h0 h1
  have hl : ((ints b.cells).map b.farQ).length = b.cells.toNat := by rw [List.length_map, ints_len]
  generalize (ints b.cells).map b.farQ = f at *
  have fm : (f.map Is).length = f.length := List.length_map _
  refine fun_of tok D_ok Try.func9 rfl Try.ntmps9 Try.results9 (by kernel_rfl) (by simp) (by simp) ?_
  conv => whnf
  repeat' ((first
    | (refine ifD (fun _ => ?_) (fun _ => ?_))
    | (refine ifE (fun _ => ?_) (fun _ => ?_))
    | (refine ifN (fun _ => ?_) (fun _ => ?_))
    | ((with_reducible refine ifNot ?_))
    | ((with_reducible refine ifAndD (fun _ _ => ?_) (fun _ => ?_)))
    | ((with_reducible refine ifAnd (fun _ _ => ?_) (fun _ => ?_)))
    | (refine ixM (by omega) (by first | omega | (simp only [List.length_set, List.length_map, List.length_append, List.length_cons, List.length_nil, List.length_replicate]; omega)) rfl ?_)
    | (refine ixA (by omega) (by first | omega | (simp only [List.length_set, List.length_map, List.length_append, List.length_cons, List.length_nil, List.length_replicate]; omega)) ?_)
    | (refine ltM (by omega) (by first | omega | (simp only [List.length_set, List.length_map, List.length_append, List.length_cons, List.length_nil, List.length_replicate]; omega)) ?_)
    | (refine calI (by omega) ?_)
    | (refine cu8 (by omega) ?_)
    | (refine cu64 (by omega) ?_)
    | (refine And.intro (by omega) ?_; refine crem (by omega) ?_)
    | (refine And.intro (by omega) ?_; refine cquo (by omega) ?_)
    | (refine ⟨_, _, sanity_p, ?_⟩)
    | (refine .inl ?_; (conv => whnf); refine ⟨_, _, sanity_p, ?_⟩)
    | (refine ⟨_, _, hw, ?_⟩)
    | (refine .inl ?_; (conv => whnf); refine ⟨_, _, hw, ?_⟩)
    | (refine ⟨_, _, fr, ?_⟩)
    | (refine .inl ?_; (conv => whnf); refine ⟨_, _, fr, ?_⟩)
    | ((with_reducible refine preI ?_); (first | refine preNil ?_ | refine preOp rfl rfl ?_ | refine preT rfl rfl rfl rfl ?_ | refine preF rfl rfl rfl rfl ?_ | refine preTS rfl rfl rfl rfl ?_ | refine preFS rfl rfl rfl rfl ?_ | refine preSkip rfl rfl rfl rfl ?_ | refine preGT rfl rfl rfl rfl ?_ | refine preGF rfl rfl rfl rfl ?_))
    | ((first | refine drawA (by decide +kernel) ?_ | refine drawA2 (by kernel_rfl) ?_); conv => whnf; (try dsimp only [St.after, St.afterAt, initSt, initT, numO, cellsA, Option.map, ren, renL, renO, St.setObj, headSt, List.cons_append, List.nil_append, List.length_nil]); try (conv => enter [7, 3]; whnf))
    | (refine ap1 (by decide) (by omega) rfl rfl ?_)
    | (refine ap0 (by decide) rfl ?_)
    | (refine apL (by decide) (by omega) (fun _ => rfl) ?_)
    | (refine apM (by decide) (by omega) (fun _ => rfl) ?_)
    | (refine setI (z := _) rfl ?_)
    | (refine And.intro (by omega) (And.intro (by omega) ?_))
    | (refine ifB_intro (fun _ => ?_) (fun _ => ?_))) <;> (conv => whnf; try dsimp only [St.after, St.afterAt, initSt, initT, numO, cellsA, Option.map, ren, renL, renO, St.setObj, headSt, List.cons_append, List.nil_append, List.length_nil]))
  · omega
  refine .of (fun a => [(6, I a)]) (fun a => []) 3 (fun a => 0 ≤ a ∧ a ≤ b.cells) (fun a => (b.cells - a).toNat) 0 ?_
  conv => whnf
  refine ⟨⟨[], (by kernel_rfl), (by kernel_rfl), (by kernel_rfl), ?_, ?_⟩, ?_, fun a ⟨a0, a1⟩ => ?_⟩
  rotate_left 1
  focus
    conv => whnf
    repeat' (first
      | exact trivial
      | with_reducible rfl
      | (refine srcI ?_; kernel_rfl)
      | (refine nsI ?_; kernel_rfl)
      | (refine And.intro ?_ ?_ <;> conv => whnf; try dsimp only [St.after, St.afterAt, initSt, initT, numO, cellsA, Option.map, ren, renL, renO, St.setObj, headSt, List.cons_append, List.nil_append, List.length_nil])
      | rfl)
  rotate_right 1
  focus
    conv => whnf
    repeat' (first
      | exact trivial
      | with_reducible rfl
      | (refine srcI ?_; kernel_rfl)
      | (refine nsI ?_; kernel_rfl)
      | (refine And.intro ?_ ?_ <;> conv => whnf; try dsimp only [St.after, St.afterAt, initSt, initT, numO, cellsA, Option.map, ren, renL, renO, St.setObj, headSt, List.cons_append, List.nil_append, List.length_nil])
      | rfl)
  rotate_right 1
  focus
    conv => whnf
  rotate_left 1
  · exact ⟨by omega, by omega⟩
  have ea := fun h => hn a a0 h
  have ha : a < b.cells → Dist b.near b.cells a (nth f a) := fun h => by rw [ea h]; exact hds a a0 h
  have hln := fun h => (ha h).len
  have hz := fun h => (ha h).zero
  have gm : ((nth f a).map I).length = (nth f a).length := List.length_map _
  repeat' ((first
    | (refine ifD (fun _ => ?_) (fun _ => ?_))
    | (refine ifE (fun _ => ?_) (fun _ => ?_))
    | (refine ifN (fun _ => ?_) (fun _ => ?_))
    | ((with_reducible refine ifNot ?_))
    | ((with_reducible refine ifAndD (fun _ _ => ?_) (fun _ => ?_)))
    | ((with_reducible refine ifAnd (fun _ _ => ?_) (fun _ => ?_)))
    | (refine ixM (by omega) (by first | omega | (simp only [List.length_set, List.length_map, List.length_append, List.length_cons, List.length_nil, List.length_replicate]; omega)) rfl ?_)
    | (refine ixA (by omega) (by first | omega | (simp only [List.length_set, List.length_map, List.length_append, List.length_cons, List.length_nil, List.length_replicate]; omega)) ?_)
    | (refine ltM (by omega) (by first | omega | (simp only [List.length_set, List.length_map, List.length_append, List.length_cons, List.length_nil, List.length_replicate]; omega)) ?_)
    | (refine calI (by omega) ?_)
    | (refine cu8 (by omega) ?_)
    | (refine cu64 (by omega) ?_)
    | (refine And.intro (by omega) ?_; refine crem (by omega) ?_)
    | (refine And.intro (by omega) ?_; refine cquo (by omega) ?_)
    | ((with_reducible refine preI ?_); (first | refine preNil ?_ | refine preOp rfl rfl ?_ | refine preT rfl rfl rfl rfl ?_ | refine preF rfl rfl rfl rfl ?_ | refine preTS rfl rfl rfl rfl ?_ | refine preFS rfl rfl rfl rfl ?_ | refine preSkip rfl rfl rfl rfl ?_ | refine preGT rfl rfl rfl rfl ?_ | refine preGF rfl rfl rfl rfl ?_))
    | ((first | refine drawA (by decide +kernel) ?_ | refine drawA2 (by kernel_rfl) ?_); conv => whnf; (try dsimp only [St.after, St.afterAt, initSt, initT, numO, cellsA, Option.map, ren, renL, renO, St.setObj, headSt, List.cons_append, List.nil_append, List.length_nil]); try (conv => enter [7, 3]; whnf))
    | (refine ap1 (by decide) (by omega) rfl rfl ?_)
    | (refine ap0 (by decide) rfl ?_)
    | (refine apL (by decide) (by omega) (fun _ => rfl) ?_)
    | (refine apM (by decide) (by omega) (fun _ => rfl) ?_)
    | (refine setI (z := _) rfl ?_)
    | (refine And.intro (by omega) (And.intro (by omega) ?_))
    | (refine ifB_intro (fun _ => ?_) (fun _ => ?_))) <;> (conv => whnf; try dsimp only [St.after, St.afterAt, initSt, initT, numO, cellsA, Option.map, ren, renL, renO, St.setObj, headSt, List.cons_append, List.nil_append, List.length_nil]))
  all_goals try (exfalso; first | (have := hln (by omega); omega) | (have := hz (by omega); omega))
  · have al : a < b.cells := by omega
    have hla := hln al
    refine .of (fun c => [(7, I c)]) (fun c => []) 3 (fun c => 0 ≤ c ∧ c ≤ b.cells) (fun c => (b.cells - c).toNat) 0 ?_
    conv => whnf
    refine ⟨⟨[], (by kernel_rfl), (by kernel_rfl), (by kernel_rfl), ?_, ?_⟩, ?_, fun c ⟨c0, c1⟩ => ?_⟩
    rotate_left 1
    focus
      conv => whnf
      repeat' (first
        | exact trivial
        | with_reducible rfl
        | (refine srcI ?_; kernel_rfl)
        | (refine nsI ?_; kernel_rfl)
        | (refine And.intro ?_ ?_ <;> conv => whnf; try dsimp only [St.after, St.afterAt, initSt, initT, numO, cellsA, Option.map, ren, renL, renO, St.setObj, headSt, List.cons_append, List.nil_append, List.length_nil])
        | rfl)
    rotate_right 1
    focus
      conv => whnf
      repeat' (first
        | exact trivial
        | with_reducible rfl
        | (refine srcI ?_; kernel_rfl)
        | (refine nsI ?_; kernel_rfl)
        | (refine And.intro ?_ ?_ <;> conv => whnf; try dsimp only [St.after, St.afterAt, initSt, initT, numO, cellsA, Option.map, ren, renL, renO, St.setObj, headSt, List.cons_append, List.nil_append, List.length_nil])
        | rfl)
    rotate_right 1
    focus
      conv => whnf
    rotate_left 1
    · exact ⟨by omega, by omega⟩
    repeat' ((first
      | (refine ifD (fun _ => ?_) (fun _ => ?_))
      | (refine ifE (fun _ => ?_) (fun _ => ?_))
      | (refine ifN (fun _ => ?_) (fun _ => ?_))
      | ((with_reducible refine ifNot ?_))
      | ((with_reducible refine ifAndD (fun _ _ => ?_) (fun _ => ?_)))
      | ((with_reducible refine ifAnd (fun _ _ => ?_) (fun _ => ?_)))
      | (refine ixM (by omega) (by first | omega | (simp only [List.length_set, List.length_map, List.length_append, List.length_cons, List.length_nil, List.length_replicate]; omega)) rfl ?_)
      | (refine ixA (by omega) (by first | omega | (simp only [List.length_set, List.length_map, List.length_append, List.length_cons, List.length_nil, List.length_replicate]; omega)) ?_)
      | (refine ltM (by omega) (by first | omega | (simp only [List.length_set, List.length_map, List.length_append, List.length_cons, List.length_nil, List.length_replicate]; omega)) ?_)
      | (refine calI (by omega) ?_)
      | (refine cu8 (by omega) ?_)
      | (refine cu64 (by omega) ?_)
      | (refine And.intro (by omega) ?_; refine crem (by omega) ?_)
      | (refine And.intro (by omega) ?_; refine cquo (by omega) ?_)
      | ((with_reducible refine preI ?_); (first | refine preNil ?_ | refine preOp rfl rfl ?_ | refine preT rfl rfl rfl rfl ?_ | refine preF rfl rfl rfl rfl ?_ | refine preTS rfl rfl rfl rfl ?_ | refine preFS rfl rfl rfl rfl ?_ | refine preSkip rfl rfl rfl rfl ?_ | refine preGT rfl rfl rfl rfl ?_ | refine preGF rfl rfl rfl rfl ?_))
      | ((first | refine drawA (by decide +kernel) ?_ | refine drawA2 (by kernel_rfl) ?_); conv => whnf; (try dsimp only [St.after, St.afterAt, initSt, initT, numO, cellsA, Option.map, ren, renL, renO, St.setObj, headSt, List.cons_append, List.nil_append, List.length_nil]); try (conv => enter [7, 3]; whnf))
      | (refine ap1 (by decide) (by omega) rfl rfl ?_)
      | (refine ap0 (by decide) rfl ?_)
      | (refine apL (by decide) (by omega) (fun _ => rfl) ?_)
      | (refine apM (by decide) (by omega) (fun _ => rfl) ?_)
      | (refine setI (z := _) rfl ?_)
      | (refine And.intro (by omega) (And.intro (by omega) ?_))
      | (refine ifB_intro (fun _ => ?_) (fun _ => ?_))) <;> (conv => whnf; try dsimp only [St.after, St.afterAt, initSt, initT, numO, cellsA, Option.map, ren, renL, renO, St.setObj, headSt, List.cons_append, List.nil_append, List.length_nil]))
    ·
      refine .of (fun k => [(9, I k), (8, I (bestC b (nth f a) c k))]) (fun k => []) 3 (fun k => 0 ≤ k ∧ k ≤ b.cells) (fun k => (b.cells - k).toNat) 0 ?_
      conv => whnf
      refine ⟨⟨[], (by kernel_rfl), (by kernel_rfl), (by kernel_rfl), ?_, ?_⟩, ?_, fun k ⟨k0, k1⟩ => ?_⟩
      rotate_left 1
      focus
        conv => whnf
        repeat' (first
          | exact trivial
          | with_reducible rfl
          | (refine srcI ?_; kernel_rfl)
          | (refine nsI ?_; kernel_rfl)
          | (refine And.intro ?_ ?_ <;> conv => whnf; try dsimp only [St.after, St.afterAt, initSt, initT, numO, cellsA, Option.map, ren, renL, renO, St.setObj, headSt, List.cons_append, List.nil_append, List.length_nil])
          | rfl)
      rotate_right 1
      focus
        conv => whnf
        repeat' (first
          | exact trivial
          | with_reducible rfl
          | (refine srcI ?_; kernel_rfl)
          | (refine nsI ?_; kernel_rfl)
          | (refine And.intro ?_ ?_ <;> conv => whnf; try dsimp only [St.after, St.afterAt, initSt, initT, numO, cellsA, Option.map, ren, renL, renO, St.setObj, headSt, List.cons_append, List.nil_append, List.length_nil])
          | rfl)
      rotate_right 1
      focus
        conv => whnf
      rotate_left 1
      · exact ⟨by omega, by omega⟩
      have nl := near_len b k
      have na := near_len b a
      have hbs := bestC_succ (b := b) (f := nth f a) (c := c) k0
      unfold best1 at hbs
      by_cases hk : k < b.cells
      · repeat' ((first
          | (refine ifNF (by omega) ?_)
          | (refine ifNT (by omega) ?_)
          | (refine ifET (by omega) ?_)
          | (refine ifEF (by omega) ?_)
          | (refine ifDT (by omega) ?_)
          | (refine ifDF (by omega) ?_)
          | (refine ifD (fun _ => ?_) (fun _ => ?_))
          | (refine ifE (fun _ => ?_) (fun _ => ?_))
          | (refine ifN (fun _ => ?_) (fun _ => ?_))
          | ((with_reducible refine ifNot ?_))
          | ((with_reducible refine ifAndD (fun _ _ => ?_) (fun _ => ?_)))
          | ((with_reducible refine ifAnd (fun _ _ => ?_) (fun _ => ?_)))
          | (refine ixM (by omega) (by first | omega | (simp only [List.length_set, List.length_map, List.length_append, List.length_cons, List.length_nil, List.length_replicate]; omega)) rfl ?_)
          | (refine ixA (by omega) (by first | omega | (simp only [List.length_set, List.length_map, List.length_append, List.length_cons, List.length_nil, List.length_replicate]; omega)) ?_)
          | (refine ltM (by omega) (by first | omega | (simp only [List.length_set, List.length_map, List.length_append, List.length_cons, List.length_nil, List.length_replicate]; omega)) ?_)
          | (refine calI (by omega) ?_)
          | (refine cu8 (by omega) ?_)
          | (refine cu64 (by omega) ?_)
          | (refine And.intro (by omega) ?_; refine crem (by omega) ?_)
          | (refine And.intro (by omega) ?_; refine cquo (by omega) ?_)
          | (refine ⟨_, _, Near22_p b hb _, ?_⟩)
          | (refine .inl ?_; (conv => whnf); refine ⟨_, _, Near22_p b hb _, ?_⟩)
          | (refine .inl ?_; (conv => whnf); refine ⟨_, Has_p (b.near k) _ (by omega), rfl, ?_⟩)
          | (refine ⟨_, Has_p (b.near k) _ (by omega), rfl, ?_⟩)
          | ((with_reducible refine preI ?_); (first | refine preNil ?_ | refine preOp rfl rfl ?_ | refine preT rfl rfl rfl rfl ?_ | refine preF rfl rfl rfl rfl ?_ | refine preTS rfl rfl rfl rfl ?_ | refine preFS rfl rfl rfl rfl ?_ | refine preSkip rfl rfl rfl rfl ?_ | refine preGT rfl rfl rfl rfl ?_ | refine preGF rfl rfl rfl rfl ?_))
          | ((first | refine drawA (by decide +kernel) ?_ | refine drawA2 (by kernel_rfl) ?_); conv => whnf; (try dsimp only [St.after, St.afterAt, initSt, initT, numO, cellsA, Option.map, ren, renL, renO, St.setObj, headSt, List.cons_append, List.nil_append, List.length_nil]); try (conv => enter [7, 3]; whnf))
          | (refine ap1 (by decide) (by omega) rfl rfl ?_)
          | (refine ap0 (by decide) rfl ?_)
          | (refine apL (by decide) (by omega) (fun _ => rfl) ?_)
          | (refine apM (by decide) (by omega) (fun _ => rfl) ?_)
          | (refine setI (z := _) rfl ?_)
          | (refine And.intro (by omega) (And.intro (by omega) ?_))
          | (refine ifB_intro (fun _ => ?_) (fun _ => ?_))) <;> (conv => whnf; try dsimp only [St.after, St.afterAt, initSt, initT, numO, cellsA, Option.map, ren, renL, renO, St.setObj, headSt, List.cons_append, List.nil_append, List.length_nil]))
        · rename_i q1 q3 q4
          rw [if_pos ⟨by omega, q3, .inl q4⟩] at hbs
          refine ⟨k + 1, ⟨[], (by kernel_rfl), (by kernel_rfl), (by kernel_rfl), ?_, ?_⟩, ?_, by (try dsimp only); omega, rfl⟩
          rotate_left 1
          focus
            conv => whnf
            repeat' (first
              | exact trivial
              | with_reducible rfl
              | (refine srcI ?_; kernel_rfl)
              | (refine nsI ?_; kernel_rfl)
              | (refine And.intro ?_ ?_ <;> conv => whnf; try dsimp only [St.after, St.afterAt, initSt, initT, numO, cellsA, Option.map, ren, renL, renO, St.setObj, headSt, List.cons_append, List.nil_append, List.length_nil]))
          rotate_right 1
          focus
            conv => whnf
            repeat' (first
              | exact trivial
              | with_reducible rfl
              | (refine srcI ?_; kernel_rfl)
              | (refine nsI ?_; kernel_rfl)
              | (refine And.intro ?_ ?_ <;> conv => whnf; try dsimp only [St.after, St.afterAt, initSt, initT, numO, cellsA, Option.map, ren, renL, renO, St.setObj, headSt, List.cons_append, List.nil_append, List.length_nil]))
          · rw [hbs]
          · exact ⟨by omega, by omega⟩
        · rename_i q1 q3 q4 q5
          rw [if_pos ⟨by omega, q3, .inr q5⟩] at hbs
          refine ⟨k + 1, ⟨[], (by kernel_rfl), (by kernel_rfl), (by kernel_rfl), ?_, ?_⟩, ?_, by (try dsimp only); omega, rfl⟩
          rotate_left 1
          focus
            conv => whnf
            repeat' (first
              | exact trivial
              | with_reducible rfl
              | (refine srcI ?_; kernel_rfl)
              | (refine nsI ?_; kernel_rfl)
              | (refine And.intro ?_ ?_ <;> conv => whnf; try dsimp only [St.after, St.afterAt, initSt, initT, numO, cellsA, Option.map, ren, renL, renO, St.setObj, headSt, List.cons_append, List.nil_append, List.length_nil]))
          rotate_right 1
          focus
            conv => whnf
            repeat' (first
              | exact trivial
              | with_reducible rfl
              | (refine srcI ?_; kernel_rfl)
              | (refine nsI ?_; kernel_rfl)
              | (refine And.intro ?_ ?_ <;> conv => whnf; try dsimp only [St.after, St.afterAt, initSt, initT, numO, cellsA, Option.map, ren, renL, renO, St.setObj, headSt, List.cons_append, List.nil_append, List.length_nil]))
          · rw [hbs]
          · exact ⟨by omega, by omega⟩
        · rename_i q1 q3 q4 q5
          rw [if_neg (fun h => h.2.2.elim q4 q5)] at hbs
          refine ⟨k + 1, ⟨[], (by kernel_rfl), (by kernel_rfl), (by kernel_rfl), ?_, ?_⟩, ?_, by (try dsimp only); omega, rfl⟩
          rotate_left 1
          focus
            conv => whnf
            repeat' (first
              | exact trivial
              | with_reducible rfl
              | (refine srcI ?_; kernel_rfl)
              | (refine nsI ?_; kernel_rfl)
              | (refine And.intro ?_ ?_ <;> conv => whnf; try dsimp only [St.after, St.afterAt, initSt, initT, numO, cellsA, Option.map, ren, renL, renO, St.setObj, headSt, List.cons_append, List.nil_append, List.length_nil]))
          rotate_right 1
          focus
            conv => whnf
            repeat' (first
              | exact trivial
              | with_reducible rfl
              | (refine srcI ?_; kernel_rfl)
              | (refine nsI ?_; kernel_rfl)
              | (refine And.intro ?_ ?_ <;> conv => whnf; try dsimp only [St.after, St.afterAt, initSt, initT, numO, cellsA, Option.map, ren, renL, renO, St.setObj, headSt, List.cons_append, List.nil_append, List.length_nil]))
          · rw [hbs]
          · exact ⟨by omega, by omega⟩
        · rename_i q1 q3
          rw [if_neg (fun h => by rw [h.2.1] at q3; cases q3)] at hbs
          refine ⟨k + 1, ⟨[], (by kernel_rfl), (by kernel_rfl), (by kernel_rfl), ?_, ?_⟩, ?_, by (try dsimp only); omega, rfl⟩
          rotate_left 1
          focus
            conv => whnf
            repeat' (first
              | exact trivial
              | with_reducible rfl
              | (refine srcI ?_; kernel_rfl)
              | (refine nsI ?_; kernel_rfl)
              | (refine And.intro ?_ ?_ <;> conv => whnf; try dsimp only [St.after, St.afterAt, initSt, initT, numO, cellsA, Option.map, ren, renL, renO, St.setObj, headSt, List.cons_append, List.nil_append, List.length_nil]))
          rotate_right 1
          focus
            conv => whnf
            repeat' (first
              | exact trivial
              | with_reducible rfl
              | (refine srcI ?_; kernel_rfl)
              | (refine nsI ?_; kernel_rfl)
              | (refine And.intro ?_ ?_ <;> conv => whnf; try dsimp only [St.after, St.afterAt, initSt, initT, numO, cellsA, Option.map, ren, renL, renO, St.setObj, headSt, List.cons_append, List.nil_append, List.length_nil]))
          · rw [hbs]
          · exact ⟨by omega, by omega⟩
        · rename_i q2
          rw [if_neg (fun h => q2 h.1)] at hbs
          refine ⟨k + 1, ⟨[], (by kernel_rfl), (by kernel_rfl), (by kernel_rfl), ?_, ?_⟩, ?_, by (try dsimp only); omega, rfl⟩
          rotate_left 1
          focus
            conv => whnf
            repeat' (first
              | exact trivial
              | with_reducible rfl
              | (refine srcI ?_; kernel_rfl)
              | (refine nsI ?_; kernel_rfl)
              | (refine And.intro ?_ ?_ <;> conv => whnf; try dsimp only [St.after, St.afterAt, initSt, initT, numO, cellsA, Option.map, ren, renL, renO, St.setObj, headSt, List.cons_append, List.nil_append, List.length_nil]))
          rotate_right 1
          focus
            conv => whnf
            repeat' (first
              | exact trivial
              | with_reducible rfl
              | (refine srcI ?_; kernel_rfl)
              | (refine nsI ?_; kernel_rfl)
              | (refine And.intro ?_ ?_ <;> conv => whnf; try dsimp only [St.after, St.afterAt, initSt, initT, numO, cellsA, Option.map, ren, renL, renO, St.setObj, headSt, List.cons_append, List.nil_append, List.length_nil]))
          · rw [hbs]
          · exact ⟨by omega, by omega⟩
      · obtain rfl : k = b.cells := by omega
        clear hbs
        have cl : c < b.cells := by omega
        by_cases hac : a = c
        · repeat' ((first
            | (refine ifNF (by omega) ?_)
            | (refine ifNT (by omega) ?_)
            | (refine ifET (by omega) ?_)
            | (refine ifEF (by omega) ?_)
            | (refine ifDT (by omega) ?_)
            | (refine ifDF (by omega) ?_)
            | (refine ifD (fun _ => ?_) (fun _ => ?_))
            | (refine ifE (fun _ => ?_) (fun _ => ?_))
            | (refine ifN (fun _ => ?_) (fun _ => ?_))
            | ((with_reducible refine ifNot ?_))
            | ((with_reducible refine ifAndD (fun _ _ => ?_) (fun _ => ?_)))
            | ((with_reducible refine ifAnd (fun _ _ => ?_) (fun _ => ?_)))
            | (refine ixM (by omega) (by first | omega | (simp only [List.length_set, List.length_map, List.length_append, List.length_cons, List.length_nil, List.length_replicate]; omega)) rfl ?_)
            | (refine ixA (by omega) (by first | omega | (simp only [List.length_set, List.length_map, List.length_append, List.length_cons, List.length_nil, List.length_replicate]; omega)) ?_)
            | (refine ltM (by omega) (by first | omega | (simp only [List.length_set, List.length_map, List.length_append, List.length_cons, List.length_nil, List.length_replicate]; omega)) ?_)
            | (refine calI (by omega) ?_)
            | (refine cu8 (by omega) ?_)
            | (refine cu64 (by omega) ?_)
            | (refine And.intro (by omega) ?_; refine crem (by omega) ?_)
            | (refine And.intro (by omega) ?_; refine cquo (by omega) ?_)
            | ((with_reducible refine preI ?_); (first | refine preNil ?_ | refine preOp rfl rfl ?_ | refine preT rfl rfl rfl rfl ?_ | refine preF rfl rfl rfl rfl ?_ | refine preTS rfl rfl rfl rfl ?_ | refine preFS rfl rfl rfl rfl ?_ | refine preSkip rfl rfl rfl rfl ?_ | refine preGT rfl rfl rfl rfl ?_ | refine preGF rfl rfl rfl rfl ?_))
            | ((first | refine drawA (by decide +kernel) ?_ | refine drawA2 (by kernel_rfl) ?_); conv => whnf; (try dsimp only [St.after, St.afterAt, initSt, initT, numO, cellsA, Option.map, ren, renL, renO, St.setObj, headSt, List.cons_append, List.nil_append, List.length_nil]); try (conv => enter [7, 3]; whnf))
            | (refine ap1 (by decide) (by omega) rfl rfl ?_)
            | (refine ap0 (by decide) rfl ?_)
            | (refine apL (by decide) (by omega) (fun _ => rfl) ?_)
            | (refine apM (by decide) (by omega) (fun _ => rfl) ?_)
            | (refine setI (z := _) rfl ?_)
            | (refine And.intro (by omega) (And.intro (by omega) ?_))
            | (refine ifB_intro (fun _ => ?_) (fun _ => ?_))) <;> (conv => whnf; try dsimp only [St.after, St.afterAt, initSt, initT, numO, cellsA, Option.map, ren, renL, renO, St.setObj, headSt, List.cons_append, List.nil_append, List.length_nil]))
          all_goals
            refine ⟨c + 1, ⟨[], (by kernel_rfl), (by kernel_rfl), (by kernel_rfl), ?_, ?_⟩, ?_, by (try dsimp only); omega, rfl⟩
            rotate_left 1
            focus
              conv => whnf
              repeat' (first
                | exact trivial
                | with_reducible rfl
                | (refine srcI ?_; kernel_rfl)
                | (refine nsI ?_; kernel_rfl)
                | (refine And.intro ?_ ?_ <;> conv => whnf; try dsimp only [St.after, St.afterAt, initSt, initT, numO, cellsA, Option.map, ren, renL, renO, St.setObj, headSt, List.cons_append, List.nil_append, List.length_nil]))
            rotate_right 1
            focus
              conv => whnf
              repeat' (first
                | exact trivial
                | with_reducible rfl
                | (refine srcI ?_; kernel_rfl)
                | (refine nsI ?_; kernel_rfl)
                | (refine And.intro ?_ ?_ <;> conv => whnf; try dsimp only [St.after, St.afterAt, initSt, initT, numO, cellsA, Option.map, ren, renL, renO, St.setObj, headSt, List.cons_append, List.nil_append, List.length_nil]))
            exact ⟨by omega, by omega⟩
        · have hlt := (ha al).lt c0 cl
          obtain ⟨l1, l2, l3⟩ := (ha al).law hb c0 cl hac a0 al
          have hne : ((nth (nth f a) c == 1) == (b.near a).contains c) = true := by
            cases hcc : (b.near a).contains c with
            | true => rw [l3.1 hcc]; rfl
            | false =>
              have : nth (nth f a) c ≠ 1 := fun h => by rw [l3.2 h] at hcc; cases hcc
              rw [beq_eq_false_iff_ne.2 this]; rfl
          generalize bestC b (nth f a) c b.cells = v at *
          by_cases hv : 0 ≤ v
          · have l1' := l1 hv
            repeat' ((first
              | (refine ifNF (by omega) ?_)
              | (refine ifNT (by omega) ?_)
              | (refine ifET (by omega) ?_)
              | (refine ifEF (by omega) ?_)
              | (refine ifDT (by omega) ?_)
              | (refine ifDF (by omega) ?_)
              | (refine ifD (fun _ => ?_) (fun _ => ?_))
              | (refine ifE (fun _ => ?_) (fun _ => ?_))
              | (refine ifN (fun _ => ?_) (fun _ => ?_))
              | ((with_reducible refine ifNot ?_))
              | ((with_reducible refine ifAndD (fun _ _ => ?_) (fun _ => ?_)))
              | ((with_reducible refine ifAnd (fun _ _ => ?_) (fun _ => ?_)))
              | (refine ixM (by omega) (by first | omega | (simp only [List.length_set, List.length_map, List.length_append, List.length_cons, List.length_nil, List.length_replicate]; omega)) rfl ?_)
              | (refine ixA (by omega) (by first | omega | (simp only [List.length_set, List.length_map, List.length_append, List.length_cons, List.length_nil, List.length_replicate]; omega)) ?_)
              | (refine ltM (by omega) (by first | omega | (simp only [List.length_set, List.length_map, List.length_append, List.length_cons, List.length_nil, List.length_replicate]; omega)) ?_)
              | (refine calI (by omega) ?_)
              | (refine cu8 (by omega) ?_)
              | (refine cu64 (by omega) ?_)
              | (refine And.intro (by omega) ?_; refine crem (by omega) ?_)
              | (refine And.intro (by omega) ?_; refine cquo (by omega) ?_)
              | (refine ⟨_, _, Near22_p b hb _, ?_⟩)
              | (refine .inl ?_; (conv => whnf); refine ⟨_, _, Near22_p b hb _, ?_⟩)
              | (refine .inl ?_; (conv => whnf); refine ⟨_, Has_p (b.near a) _ (by omega), rfl, ?_⟩)
              | (refine ⟨_, Has_p (b.near a) _ (by omega), rfl, ?_⟩)
              | ((with_reducible refine preI ?_); (first | refine preNil ?_ | refine preOp rfl rfl ?_ | refine preT rfl rfl rfl rfl ?_ | refine preF rfl rfl rfl rfl ?_ | refine preTS rfl rfl rfl rfl ?_ | refine preFS rfl rfl rfl rfl ?_ | refine preSkip rfl rfl rfl rfl ?_ | refine preGT rfl rfl rfl rfl ?_ | refine preGF rfl rfl rfl rfl ?_))
              | ((first | refine drawA (by decide +kernel) ?_ | refine drawA2 (by kernel_rfl) ?_); conv => whnf; (try dsimp only [St.after, St.afterAt, initSt, initT, numO, cellsA, Option.map, ren, renL, renO, St.setObj, headSt, List.cons_append, List.nil_append, List.length_nil]); try (conv => enter [7, 3]; whnf))
              | (refine ap1 (by decide) (by omega) rfl rfl ?_)
              | (refine ap0 (by decide) rfl ?_)
              | (refine apL (by decide) (by omega) (fun _ => rfl) ?_)
              | (refine apM (by decide) (by omega) (fun _ => rfl) ?_)
              | (refine setI (z := _) rfl ?_)
              | (refine And.intro (by omega) (And.intro (by omega) ?_))
              | (refine ifB_intro (fun _ => ?_) (fun _ => ?_))) <;> (conv => whnf; try dsimp only [St.after, St.afterAt, initSt, initT, numO, cellsA, Option.map, ren, renL, renO, St.setObj, headSt, List.cons_append, List.nil_append, List.length_nil]))
            all_goals try (rename_i q; exfalso; exact q (eq_of_beq hne))
            all_goals
              refine ⟨c + 1, ⟨[], (by kernel_rfl), (by kernel_rfl), (by kernel_rfl), ?_, ?_⟩, ?_, by (try dsimp only); omega, rfl⟩
              rotate_left 1
              focus
                conv => whnf
                repeat' (first
                  | exact trivial
                  | with_reducible rfl
                  | (refine srcI ?_; kernel_rfl)
                  | (refine nsI ?_; kernel_rfl)
                  | (refine And.intro ?_ ?_ <;> conv => whnf; try dsimp only [St.after, St.afterAt, initSt, initT, numO, cellsA, Option.map, ren, renL, renO, St.setObj, headSt, List.cons_append, List.nil_append, List.length_nil]))
              rotate_right 1
              focus
                conv => whnf
                repeat' (first
                  | exact trivial
                  | with_reducible rfl
                  | (refine srcI ?_; kernel_rfl)
                  | (refine nsI ?_; kernel_rfl)
                  | (refine And.intro ?_ ?_ <;> conv => whnf; try dsimp only [St.after, St.afterAt, initSt, initT, numO, cellsA, Option.map, ren, renL, renO, St.setObj, headSt, List.cons_append, List.nil_append, List.length_nil]))
              exact ⟨by omega, by omega⟩
          · have l2' := l2 (by omega)
            repeat' ((first
              | (refine ifNF (by omega) ?_)
              | (refine ifNT (by omega) ?_)
              | (refine ifET (by omega) ?_)
              | (refine ifEF (by omega) ?_)
              | (refine ifDT (by omega) ?_)
              | (refine ifDF (by omega) ?_)
              | (refine ifD (fun _ => ?_) (fun _ => ?_))
              | (refine ifE (fun _ => ?_) (fun _ => ?_))
              | (refine ifN (fun _ => ?_) (fun _ => ?_))
              | ((with_reducible refine ifNot ?_))
              | ((with_reducible refine ifAndD (fun _ _ => ?_) (fun _ => ?_)))
              | ((with_reducible refine ifAnd (fun _ _ => ?_) (fun _ => ?_)))
              | (refine ixM (by omega) (by first | omega | (simp only [List.length_set, List.length_map, List.length_append, List.length_cons, List.length_nil, List.length_replicate]; omega)) rfl ?_)
              | (refine ixA (by omega) (by first | omega | (simp only [List.length_set, List.length_map, List.length_append, List.length_cons, List.length_nil, List.length_replicate]; omega)) ?_)
              | (refine ltM (by omega) (by first | omega | (simp only [List.length_set, List.length_map, List.length_append, List.length_cons, List.length_nil, List.length_replicate]; omega)) ?_)
              | (refine calI (by omega) ?_)
              | (refine cu8 (by omega) ?_)
              | (refine cu64 (by omega) ?_)
              | (refine And.intro (by omega) ?_; refine crem (by omega) ?_)
              | (refine And.intro (by omega) ?_; refine cquo (by omega) ?_)
              | (refine ⟨_, _, Near22_p b hb _, ?_⟩)
              | (refine .inl ?_; (conv => whnf); refine ⟨_, _, Near22_p b hb _, ?_⟩)
              | (refine .inl ?_; (conv => whnf); refine ⟨_, Has_p (b.near a) _ (by omega), rfl, ?_⟩)
              | (refine ⟨_, Has_p (b.near a) _ (by omega), rfl, ?_⟩)
              | ((with_reducible refine preI ?_); (first | refine preNil ?_ | refine preOp rfl rfl ?_ | refine preT rfl rfl rfl rfl ?_ | refine preF rfl rfl rfl rfl ?_ | refine preTS rfl rfl rfl rfl ?_ | refine preFS rfl rfl rfl rfl ?_ | refine preSkip rfl rfl rfl rfl ?_ | refine preGT rfl rfl rfl rfl ?_ | refine preGF rfl rfl rfl rfl ?_))
              | ((first | refine drawA (by decide +kernel) ?_ | refine drawA2 (by kernel_rfl) ?_); conv => whnf; (try dsimp only [St.after, St.afterAt, initSt, initT, numO, cellsA, Option.map, ren, renL, renO, St.setObj, headSt, List.cons_append, List.nil_append, List.length_nil]); try (conv => enter [7, 3]; whnf))
              | (refine ap1 (by decide) (by omega) rfl rfl ?_)
              | (refine ap0 (by decide) rfl ?_)
              | (refine apL (by decide) (by omega) (fun _ => rfl) ?_)
              | (refine apM (by decide) (by omega) (fun _ => rfl) ?_)
              | (refine setI (z := _) rfl ?_)
              | (refine And.intro (by omega) (And.intro (by omega) ?_))
              | (refine ifB_intro (fun _ => ?_) (fun _ => ?_))) <;> (conv => whnf; try dsimp only [St.after, St.afterAt, initSt, initT, numO, cellsA, Option.map, ren, renL, renO, St.setObj, headSt, List.cons_append, List.nil_append, List.length_nil]))
            all_goals try (rename_i q; exfalso; exact q (eq_of_beq hne))
            all_goals
              refine ⟨c + 1, ⟨[], (by kernel_rfl), (by kernel_rfl), (by kernel_rfl), ?_, ?_⟩, ?_, by (try dsimp only); omega, rfl⟩
              rotate_left 1
              focus
                conv => whnf
                repeat' (first
                  | exact trivial
                  | with_reducible rfl
                  | (refine srcI ?_; kernel_rfl)
                  | (refine nsI ?_; kernel_rfl)
                  | (refine And.intro ?_ ?_ <;> conv => whnf; try dsimp only [St.after, St.afterAt, initSt, initT, numO, cellsA, Option.map, ren, renL, renO, St.setObj, headSt, List.cons_append, List.nil_append, List.length_nil]))
              rotate_right 1
              focus
                conv => whnf
                repeat' (first
                  | exact trivial
                  | with_reducible rfl
                  | (refine srcI ?_; kernel_rfl)
                  | (refine nsI ?_; kernel_rfl)
                  | (refine And.intro ?_ ?_ <;> conv => whnf; try dsimp only [St.after, St.afterAt, initSt, initT, numO, cellsA, Option.map, ren, renL, renO, St.setObj, headSt, List.cons_append, List.nil_append, List.length_nil]))
              exact ⟨by omega, by omega⟩
    · refine ⟨a + 1, ⟨[], (by kernel_rfl), (by kernel_rfl), (by kernel_rfl), ?_, ?_⟩, ?_, by (try dsimp only); omega, rfl⟩
      rotate_left 1
      focus
        conv => whnf
        repeat' (first
          | exact trivial
          | with_reducible rfl
          | (refine srcI ?_; kernel_rfl)
          | (refine nsI ?_; kernel_rfl)
          | (refine And.intro ?_ ?_ <;> conv => whnf; try dsimp only [St.after, St.afterAt, initSt, initT, numO, cellsA, Option.map, ren, renL, renO, St.setObj, headSt, List.cons_append, List.nil_append, List.length_nil]))
      rotate_right 1
      focus
        conv => whnf
        repeat' (first
          | exact trivial
          | with_reducible rfl
          | (refine srcI ?_; kernel_rfl)
          | (refine nsI ?_; kernel_rfl)
          | (refine And.intro ?_ ?_ <;> conv => whnf; try dsimp only [St.after, St.afterAt, initSt, initT, numO, cellsA, Option.map, ren, renL, renO, St.setObj, headSt, List.cons_append, List.nil_append, List.length_nil]))
      exact ⟨by omega, by omega⟩
  · repeat' ((first
      | (refine ifD (fun _ => ?_) (fun _ => ?_))
      | (refine ifE (fun _ => ?_) (fun _ => ?_))
      | (refine ifN (fun _ => ?_) (fun _ => ?_))
      | ((with_reducible refine ifNot ?_))
      | ((with_reducible refine ifAndD (fun _ _ => ?_) (fun _ => ?_)))
      | ((with_reducible refine ifAnd (fun _ _ => ?_) (fun _ => ?_)))
      | (refine ixM (by omega) (by first | omega | (simp only [List.length_set, List.length_map, List.length_append, List.length_cons, List.length_nil, List.length_replicate]; omega)) rfl ?_)
      | (refine ixA (by omega) (by first | omega | (simp only [List.length_set, List.length_map, List.length_append, List.length_cons, List.length_nil, List.length_replicate]; omega)) ?_)
      | (refine ltM (by omega) (by first | omega | (simp only [List.length_set, List.length_map, List.length_append, List.length_cons, List.length_nil, List.length_replicate]; omega)) ?_)
      | (refine calI (by omega) ?_)
      | (refine cu8 (by omega) ?_)
      | (refine cu64 (by omega) ?_)
      | (refine And.intro (by omega) ?_; refine crem (by omega) ?_)
      | (refine And.intro (by omega) ?_; refine cquo (by omega) ?_)
      | ((with_reducible refine preI ?_); (first | refine preNil ?_ | refine preOp rfl rfl ?_ | refine preT rfl rfl rfl rfl ?_ | refine preF rfl rfl rfl rfl ?_ | refine preTS rfl rfl rfl rfl ?_ | refine preFS rfl rfl rfl rfl ?_ | refine preSkip rfl rfl rfl rfl ?_ | refine preGT rfl rfl rfl rfl ?_ | refine preGF rfl rfl rfl rfl ?_))
      | ((first | refine drawA (by decide +kernel) ?_ | refine drawA2 (by kernel_rfl) ?_); conv => whnf; (try dsimp only [St.after, St.afterAt, initSt, initT, numO, cellsA, Option.map, ren, renL, renO, St.setObj, headSt, List.cons_append, List.nil_append, List.length_nil]); try (conv => enter [7, 3]; whnf))
      | (refine ap1 (by decide) (by omega) rfl rfl ?_)
      | (refine ap0 (by decide) rfl ?_)
      | (refine apL (by decide) (by omega) (fun _ => rfl) ?_)
      | (refine apM (by decide) (by omega) (fun _ => rfl) ?_)
      | (refine setI (z := _) rfl ?_)
      | (refine And.intro (by omega) (And.intro (by omega) ?_))
      | (refine ifB_intro (fun _ => ?_) (fun _ => ?_))
      | (refine exitA (by kernel_rfl) (by kernel_rfl) ⟨?_, trivial⟩ ?_ <;> (conv => whnf) <;> repeat' (first | exact trivial | with_reducible rfl | (refine srcI ?_; kernel_rfl) | (refine nsI ?_; kernel_rfl) | (refine And.intro ?_ ?_ <;> conv => whnf; try dsimp only [St.after, St.afterAt, initSt, initT, numO, cellsA, Option.map, ren, renL, renO, St.setObj, headSt, List.cons_append, List.nil_append, List.length_nil])))) <;> (conv => whnf; try dsimp only [St.after, St.afterAt, initSt, initT, numO, cellsA, Option.map, ren, renL, renO, St.setObj, headSt, List.cons_append, List.nil_append, List.length_nil]))
end Go.Proofs.Ytkecpgidolphfaa
