/- Contracts of functions of the program, proved by the checker; and plain laws. -/
import Derived.Test.YtceeabnmleemiaaZ23
import Derived.Test.YtceeabnmleemiaaZ21
import Derived.Test.YtceeabnmleemiaaZ19
import Derived.Test.YtceeabnmleemiaaZ24
import Derived.Test.YtceeabnmleemiaaZ25
import Derived.Test.YtceeabnmleemiaaZ00
set_option linter.unusedVariables false
set_option linter.unusedSimpArgs false
namespace Go.Proofs.Ytceeabnmleemiaa
open Go Go.Sk
def lenL (g : Gm) (i : Int) : Int := (leadR g i).length
theorem ofR_eq (g : Gm) (k1 : 1 ≤ g.nk) (h2 : g.nk ≤ 2) : (ints g.nk).map (lenL g) = g.ofR := by
  unfold Gm.ofR
  by_cases h : g.nk = 1
  · rw [if_pos h, h]
    have : ints 1 = [0] := by decide
    rw [this]
    unfold lenL leadR vL
    rw [h]; rfl
  · have h2 : g.nk = 2 := by omega
    have : ints 2 = [0, 1] := by decide
    rw [if_neg h, h2, this]
    unfold lenL leadR vL b01 b10
    rw [h2]
    simp only [List.map_cons, List.map_nil, decide_true, Bool.true_and, show (1 : Int) - 0 = 1 from rfl, show (1 : Int) - 1 = 0 from rfl]
    cases g.becR 0 1 <;> cases g.becR 1 0 <;> rfl
set_option maxHeartbeats 8000000 in
set_option maxRecDepth 10000 in
theorem ROf_p (g : Gm) (hg : g.ok) (h2 : g.nk ≤ 2) : Pure Try.prog 9 [g.av] (msAv g.ofR) none := by
  have ek : (g.kinds.map Kn).length = g.kinds.length := List.length_map _
  have hnk : (g.kinds.length : Int) = g.nk := rfl
  have hl := Leads_p g hg h2
  have k1 := hg.k1
  unfold msAv
  rw [← ofR_eq g k1 h2]
  refine fun_of tok D_ok Try.func9 rfl Try.ntmps9 Try.results9 (by kernel_rfl) (by simp) (by simp) ?_
  conv => whnf
  repeat' (first
    | (refine lvK (k := ?_); apply Cj.mk <;> first | exact trivial | intros)
    | (refine lvE (k := ?_); apply Cj.mk <;> first | exact trivial | intros)
    | fail)
  refine .of (fun i => [(4, I i)]) (fun i => [(2, .box [.ref 3]), (3, .arr 1 (((ints i).map (lenL g)).map I))]) 4 (fun i => 0 ≤ i ∧ i ≤ g.nk) (fun i => (g.nk - i).toNat) 0 ?_
  conv => whnf
  refine ⟨⟨[], (by kernel_rfl), (by kernel_rfl), (by kernel_rfl), lvL (k := ?_), lvL (k := ?_)⟩, ?_, fun i ⟨i0, i1⟩ => lvN (k := ?_)⟩ <;> (first | (apply Cj.mk <;> first | exact trivial | intros) | skip)
  · exact ⟨by omega, by omega⟩
  have hll : ((ints i).map (lenL g)).length = i.toNat := by rw [List.length_map, ints_len]
  by_cases hi : i < g.nk
  · have hli := hl i i0 hi
    have em : ((leadR g i).map I).length = (leadR g i).length := List.length_map _
    have hs := map_ints_succ (f := lenL g) i0
    have hlen : (leadR g i).length ≤ 2 := by unfold leadR; split <;> simp
    repeat' (first
      | (refine lvK (k := ?_); apply Cj.mk <;> first | exact trivial | intros)
      | (refine ⟨_, _, hli, lvN (k := ?_)⟩; apply Cj.mk <;> first | exact trivial | intros)
      | (refine .inl ?_; (conv => whnf); refine ⟨_, _, hli, lvN (k := ?_)⟩; apply Cj.mk <;> first | exact trivial | intros)
      | (refine ap1 (f := I) (a := (((leadR g i).map I).length : Int)) (by decide) (by omega) rfl rfl (lvN (k := ?_)); apply Cj.mk <;> first | exact trivial | intros)
      | (refine lvE (k := ?_); apply Cj.mk <;> first | exact trivial | intros)
      | fail)
    refine ⟨i + 1, ⟨[], (by kernel_rfl), (by kernel_rfl), (by kernel_rfl), lvL (k := ?_), lvL (k := ?_)⟩, ?_, by (try dsimp only); omega, rfl⟩ <;> (first | (apply Cj.mk <;> first | exact trivial | intros) | skip)
    · rw [hs, em]; rfl
    · exact ⟨by omega, by omega⟩
  · obtain rfl : i = g.nk := by omega
    repeat' (first
      | (refine lvK (k := ?_); apply Cj.mk <;> first | exact trivial | intros)
      | (refine lvE (k := ?_); apply Cj.mk <;> first | exact trivial | intros)
      | fail)
set_option maxHeartbeats 8000000 in
set_option maxRecDepth 10000 in
theorem Some_p (g : Gm) (hg : g.ok) (h2 : g.nk ≤ 2) (w0 w1 w2 w3 w4 w5 : Int) (h : b8 w0 ∧ b8 w1) : Pure Try.prog 10 [g.av, .ag [U8 w0, U8 w1, U8 w2, U8 w3, U8 w4, U8 w5]] (msAv ((ints g.nk).map fun i => nth [w0, w1] i % 8)) none := by
  have ek : (g.kinds.map Kn).length = g.kinds.length := List.length_map _
  have hnk : (g.kinds.length : Int) = g.nk := rfl
  have k1 := hg.k1
  unfold b8 at h
  unfold msAv
  refine fun_of tok D_ok Try.func10 rfl Try.ntmps10 Try.results10 (by kernel_rfl) (by simp) (by simp) ?_
  conv => whnf
  repeat' (first
    | (refine lvK (k := ?_); apply Cj.mk <;> first | exact trivial | intros)
    | (refine lvE (k := ?_); apply Cj.mk <;> first | exact trivial | intros)
    | fail)
  refine .of (fun i => [(6, I i)]) (fun i => [(3, .box [.ref 4]), (4, .arr 1 (((ints i).map fun i => nth [w0, w1] i % 8).map I))]) 5 (fun i => 0 ≤ i ∧ i ≤ g.nk) (fun i => (g.nk - i).toNat) 0 ?_
  conv => whnf
  refine ⟨⟨[], (by kernel_rfl), (by kernel_rfl), (by kernel_rfl), lvL (k := ?_), lvL (k := ?_)⟩, ?_, fun i ⟨i0, i1⟩ => lvN (k := ?_)⟩ <;> (first | (apply Cj.mk <;> first | exact trivial | intros) | skip)
  · exact ⟨by omega, by omega⟩
  have hll : ((ints i).map fun i => nth [w0, w1] i % 8).length = i.toNat := by rw [List.length_map, ints_len]
  by_cases hi : i < g.nk
  · have hs := map_ints_succ (f := fun i => nth [w0, w1] i % 8) i0
    have hii : i = 0 ∨ i = 1 := by omega
    rcases hii with rfl | rfl
    · repeat' (first
        | (refine lvK (k := ?_); apply Cj.mk <;> first | exact trivial | intros)
        | (refine lvE (k := ?_); apply Cj.mk <;> first | exact trivial | intros)
        | fail)
      refine ⟨0 + 1, ⟨[], (by kernel_rfl), (by kernel_rfl), (by kernel_rfl), lvL (k := ?_), lvL (k := ?_)⟩, ?_, by (try dsimp only); omega, rfl⟩ <;> (first | (apply Cj.mk <;> first | exact trivial | intros) | skip)
      all_goals first | exact ⟨by omega, by omega⟩ | (rw [hs]; rfl)
    · repeat' (first
        | (refine lvK (k := ?_); apply Cj.mk <;> first | exact trivial | intros)
        | (refine lvE (k := ?_); apply Cj.mk <;> first | exact trivial | intros)
        | fail)
      refine ⟨1 + 1, ⟨[], (by kernel_rfl), (by kernel_rfl), (by kernel_rfl), lvL (k := ?_), lvL (k := ?_)⟩, ?_, by (try dsimp only); omega, rfl⟩ <;> (first | (apply Cj.mk <;> first | exact trivial | intros) | skip)
      all_goals first | exact ⟨by omega, by omega⟩ | (rw [hs]; rfl)
  · obtain rfl : i = g.nk := by omega
    repeat' (first
      | (refine lvK (k := ?_); apply Cj.mk <;> first | exact trivial | intros)
      | (refine lvE (k := ?_); apply Cj.mk <;> first | exact trivial | intros)
      | fail)
set_option maxHeartbeats 8000000 in
set_option maxRecDepth 10000 in
theorem RValid12_p (g : Gm) (hg : g.ok) (m : List Int) (hm : m.length ≤ 1000) (v : Bool) (hv : v = true ↔ ValidM g m) : Pure Try.prog 11 [g.av, msAv m] (Bo v) none := by
  have ek : (g.kinds.map Kn).length = g.kinds.length := List.length_map _
  have em : (m.map I).length = m.length := List.length_map _
  have hnk : (g.kinds.length : Int) = g.nk := rfl
  have k1 := hg.k1
  have k6 := hg.k6
  have hrb := Rbec_p g hg
  unfold msAv
  refine fun_of tok D_ok Try.func11 rfl Try.ntmps11 Try.results11 (by kernel_rfl) (by simp) (by simp) ?_
  conv => whnf
  by_cases hl : m.length = g.kinds.length
  case neg =>
    have : v = false := by
      rw [Bool.eq_false_iff]; intro h; have := (hv.1 h).len; omega
    subst this
    repeat' (first
      | (refine lvK (k := ?_); apply Cj.mk <;> first | exact trivial | intros)
      | (refine lvE (k := ?_); apply Cj.mk <;> first | exact trivial | intros)
      | fail)
  repeat' (first
    | (refine lvK (k := ?_); apply Cj.mk <;> first | exact trivial | intros)
    | (refine lvE (k := ?_); apply Cj.mk <;> first | exact trivial | intros)
    | fail)
  refine .of (fun i => [(5, I i)]) (fun i => []) 2 (fun i => 0 ≤ i ∧ i ≤ g.nk ∧ ∀ a : Int, 0 ≤ a → a < i → (1 ≤ nth m a ∧ nth m a ≤ 6) ∧ okR g m a g.nk) (fun i => (g.nk - i).toNat) 0 ?_
  conv => whnf
  refine ⟨⟨[], (by kernel_rfl), (by kernel_rfl), (by kernel_rfl), lvL (k := ?_), lvL (k := ?_)⟩, ?_, fun i ⟨i0, i1, hi0⟩ => lvN (k := ?_)⟩ <;> (first | (apply Cj.mk <;> first | exact trivial | intros) | skip)
  · exact ⟨by omega, by omega, fun a a0 a1 => by omega⟩
  by_cases hi : i < g.nk
  · have hst : (1 ≤ nth m i ∧ nth m i ≤ 6) ∧ okR g m i g.nk → ∀ a : Int, 0 ≤ a → a < i + 1 → (1 ≤ nth m a ∧ nth m a ≤ 6) ∧ okR g m a g.nk := fun h a a0 a1 => by
      by_cases he : a = i
      · subst he; exact h
      · exact hi0 a a0 (by omega)
    have hno : ∀ j : Int, 0 ≤ j → j < g.nk → g.becR i j = true → nth m j > nth m i → v = false := fun j j0 j1 hb hgt => by
      rw [Bool.eq_false_iff]; intro h; have := (hv.1 h).d i j i0 hi j0 j1 hb; omega
    have hnv : ¬ (1 ≤ nth m i ∧ nth m i ≤ 6) → v = false := fun hn => by
      rw [Bool.eq_false_iff]; intro h; exact hn ((hv.1 h).v i i0 hi)
    clear hi0
    by_cases hr : 1 ≤ nth m i ∧ nth m i ≤ 6
    · repeat' (first
        | (refine lvK (k := ?_); apply Cj.mk <;> first | exact trivial | intros)
        | (refine lvE (k := ?_); apply Cj.mk <;> first | exact trivial | intros)
        | fail)
      refine .of (fun j => [(6, I j)]) (fun j => []) 2 (fun j => 0 ≤ j ∧ j ≤ g.nk ∧ okR g m i j) (fun j => (g.nk - j).toNat) 0 ?_
      conv => whnf
      refine ⟨⟨[], (by kernel_rfl), (by kernel_rfl), (by kernel_rfl), lvL (k := ?_), lvL (k := ?_)⟩, ?_, fun j ⟨j0, j1, hj0⟩ => lvN (k := ?_)⟩ <;> (first | (apply Cj.mk <;> first | exact trivial | intros) | skip)
      · exact ⟨by omega, by omega, fun b b0 b1 => by omega⟩
      by_cases hj : j < g.nk
      · have hc := hrb i j i0 hi
        have hnj := hno j j0 hj
        obtain ⟨w, hw⟩ : ∃ w, g.becR i j = w := ⟨_, rfl⟩
        rw [hw] at hc hnj
        cases w
        · repeat' (first
            | (refine lvK (k := ?_); apply Cj.mk <;> first | exact trivial | intros)
            | (refine ⟨_, _, hc, lvN (k := ?_)⟩; apply Cj.mk <;> first | exact trivial | intros)
            | (refine .inl ?_; (conv => whnf); refine ⟨_, _, hc, lvN (k := ?_)⟩; apply Cj.mk <;> first | exact trivial | intros)
            | (refine lvE (k := ?_); apply Cj.mk <;> first | exact trivial | intros)
            | fail)
          refine ⟨j + 1, ⟨[], (by kernel_rfl), (by kernel_rfl), (by kernel_rfl), lvL (k := ?_), lvL (k := ?_)⟩, ?_, by (try dsimp only); omega, rfl⟩ <;> (first | (apply Cj.mk <;> first | exact trivial | intros) | skip)
          exact ⟨by omega, by omega, okR_succ hj0 fun hb => by rw [hw] at hb; cases hb⟩
        · by_cases hgt : nth m j > nth m i
          · rw [hnj rfl hgt]
            repeat' (first
              | (refine lvK (k := ?_); apply Cj.mk <;> first | exact trivial | intros)
              | (refine ⟨_, _, hc, lvN (k := ?_)⟩; apply Cj.mk <;> first | exact trivial | intros)
              | (refine .inl ?_; (conv => whnf); refine ⟨_, _, hc, lvN (k := ?_)⟩; apply Cj.mk <;> first | exact trivial | intros)
              | (refine lvE (k := ?_); apply Cj.mk <;> first | exact trivial | intros)
              | fail)
          · repeat' (first
              | (refine lvK (k := ?_); apply Cj.mk <;> first | exact trivial | intros)
              | (refine ⟨_, _, hc, lvN (k := ?_)⟩; apply Cj.mk <;> first | exact trivial | intros)
              | (refine .inl ?_; (conv => whnf); refine ⟨_, _, hc, lvN (k := ?_)⟩; apply Cj.mk <;> first | exact trivial | intros)
              | (refine lvE (k := ?_); apply Cj.mk <;> first | exact trivial | intros)
              | fail)
            refine ⟨j + 1, ⟨[], (by kernel_rfl), (by kernel_rfl), (by kernel_rfl), lvL (k := ?_), lvL (k := ?_)⟩, ?_, by (try dsimp only); omega, rfl⟩ <;> (first | (apply Cj.mk <;> first | exact trivial | intros) | skip)
            exact ⟨by omega, by omega, okR_succ hj0 fun hb => by omega⟩
      · obtain rfl : j = g.nk := by omega
        repeat' (first
          | (refine lvK (k := ?_); apply Cj.mk <;> first | exact trivial | intros)
          | (refine lvE (k := ?_); apply Cj.mk <;> first | exact trivial | intros)
          | fail)
        refine ⟨i + 1, ⟨[], (by kernel_rfl), (by kernel_rfl), (by kernel_rfl), lvL (k := ?_), lvL (k := ?_)⟩, ?_, by (try dsimp only); omega, rfl⟩ <;> (first | (apply Cj.mk <;> first | exact trivial | intros) | skip)
        exact ⟨by omega, by omega, hst ⟨hr, hj0⟩⟩
    · rw [hnv hr]
      by_cases hr1 : 1 ≤ nth m i
      · repeat' (first
          | (refine lvK (k := ?_); apply Cj.mk <;> first | exact trivial | intros)
          | (refine lvE (k := ?_); apply Cj.mk <;> first | exact trivial | intros)
          | fail)
      · repeat' (first
          | (refine lvK (k := ?_); apply Cj.mk <;> first | exact trivial | intros)
          | (refine lvE (k := ?_); apply Cj.mk <;> first | exact trivial | intros)
          | fail)
  · obtain rfl : i = g.nk := by omega
    have : v = true := hv.2 ⟨by omega, fun a a0 a1 => (hi0 a a0 a1).1, fun a b a0 a1 b0 b1 hb => (hi0 a a0 a1).2 b b0 b1 hb⟩
    subst this
    repeat' (first
      | (refine lvK (k := ?_); apply Cj.mk <;> first | exact trivial | intros)
      | (refine lvE (k := ?_); apply Cj.mk <;> first | exact trivial | intros)
      | fail)
end Go.Proofs.Ytceeabnmleemiaa
namespace Go.Proofs.Ytceeabnmleemiaa
open Go Go.Sk
theorem SOf_p (g : Gm) (hg : g.ok) (h2 : g.nk ≤ 2) : Pure Try.prog 18 [g.av] (msAv g.ofR) none := by
  have k1 := hg.k1
  by_cases h : g.nk = 1
  · exact Of_1 g hg h
  · exact Of_2 g hg (by omega)
def gS : Gm := ⟨⟨3, [[1, 2, -1]], [0]⟩, [⟨⟨#[97]⟩, [[⟨1, 0⟩, ⟨8, 1⟩]], false⟩, ⟨⟨#[98]⟩, [], false⟩], 1, false, [], 3, 2⟩
def pS : Ps := ⟨[1, 0, 4], [0, 0], [0, 0], 1, 0⟩
def qS : Ps := ⟨[3, 0, 4], [0, 0], [0, 0], 0, 0⟩
theorem gS_ok : gS.ok := by
  have hbd : gS.b.ok := ⟨by decide, by decide, by decide, by decide, by decide, fun d d0 d1 => by
      have : gS.b.next.length = 1 := rfl
      obtain rfl : d = 0 := by omega
      rfl, fun d c d0 d1 c0 c1 => by
      have : gS.b.next.length = 1 := rfl
      have : gS.b.cells = 3 := rfl
      obtain rfl : d = 0 := by omega
      have : c = 0 ∨ c = 1 ∨ c = 2 := by omega
      rcases this with rfl | rfl | rfl <;> decide, fun d d0 d1 => by
      have : gS.b.next.length = 1 := rfl
      obtain rfl : d = 0 := by omega
      decide⟩
  refine ⟨hbd, by decide, by decide, by decide, fun k k0 k1 => ?_, fun k k0 k1 => ?_, by decide, by decide, by decide, fun c hc => (by simp [gS] at hc), by decide, by decide⟩
  · have : k = 0 ∨ k = 1 := by have : gS.nk = 2 := rfl; omega
    rcases this with rfl | rfl <;> decide
  · have : k = 0 ∨ k = 1 := by have : gS.nk = 2 := rfl; omega
    rcases this with rfl | rfl
    · intro p hp
      have : p = [⟨1, 0⟩, ⟨8, 1⟩] := by simpa [gS, nth] using hp
      subst this
      refine ⟨by decide, by decide, fun x hx => ?_⟩
      simp at hx
      rcases hx with rfl | rfl
      · exact .inl ⟨by decide, by decide, by decide⟩
      · exact .inr (.inr (.inl ⟨by decide, by decide, by decide⟩))
    · intro p hp; cases hp
theorem pS_ok : pS.ok gS := by decide +kernel
theorem qS_ok : qS.ok gS := by decide +kernel
theorem msS_ok : MsOk gS [2, 1] := ⟨by decide, fun k k0 k1 => by
  have : k = 0 ∨ k = 1 := by have : gS.nk = 2 := rfl; omega
  rcases this with rfl | rfl <;> decide⟩
theorem ofRS : gS.ofR = [2, 1] := by decide +kernel
theorem cutS : cutR (levL [2, 1] [pS, qS, pS]) = [[1], [0, 2]] := by
  have hl : levL [2, 1] [pS, qS, pS] = [4, 2, 4] := by decide +kernel
  have hk : keysN [4, 2, 4] (([4, 2, 4] : List Int).length : Nat) = [4, 2] := by decide +kernel
  have hs : sortI [4, 2] = [2, 4] := by
    rw [sortI_perm (List.Perm.swap 2 4 [])]
    exact List.mergeSort_of_pairwise (by simp)
  rw [hl]
  unfold cutR
  rw [hk, hs]
  decide +kernel
theorem drawS {P : Program} {T : TypeId → Option TI} {σ : St} {ops : Array Oper} {K : St → Prop} (τ : St) (h : σ = τ) (k : vcDrawF P T ops τ K) : vcDrawF P T ops σ K := h ▸ k
theorem vS (m : List Int) (v : Bool) (h : v = (decide ((m.length : Int) = gS.nk) && (decide (1 ≤ nth m 0 ∧ nth m 0 ≤ 6) && decide (1 ≤ nth m 1 ∧ nth m 1 ≤ 6) && decide (nth m 1 ≤ nth m 0)))) : v = true ↔ ValidM gS m := by
  have hn : gS.nk = 2 := rfl
  rw [h]
  simp only [Bool.and_eq_true, decide_eq_true_eq]
  constructor
  · rintro ⟨h1, ⟨h2, h3⟩, h4⟩
    refine ⟨h1, fun a a0 a1 => ?_, fun a b a0 a1 b0 b1 hb => ?_⟩
    · have : a = 0 ∨ a = 1 := by omega
      rcases this with rfl | rfl <;> assumption
    · have ha : a = 0 ∨ a = 1 := by omega
      have hb' : b = 0 ∨ b = 1 := by omega
      rcases ha with rfl | rfl <;> rcases hb' with rfl | rfl
      · omega
      · exact h4
      · rw [show gS.becR 1 0 = false from by decide] at hb; cases hb
      · omega
  · intro h
    exact ⟨h.len, ⟨h.v 0 (by omega) (by omega), h.v 1 (by omega) (by omega)⟩, h.d 0 1 (by omega) (by omega) (by omega) (by omega) (by decide)⟩
def tailC : Nat → Code → Code
  | 0, c => c
  | n + 1, .seq _ b => tailC n b
  | _, c => c
theorem vcS {P : Program} {T : TypeId → Option TI} {D : Draw} {c : Code} {σ : St} {K : Exit → St → Prop} (τ : St) (h : σ = τ) (k : vcC P T D c τ K) : vcC P T D c σ K := h ▸ k
def sS : St := { tmps := [(3, AV.ptr 10 0), (4, AV.ptr 11 0), (0, Bo false), (8, AV.ref 0), (9, AV.ref 1), (10, AV.ref 2), (11, AV.ag [I 3, AV.ref 1, AV.ref 2]), (12, AV.ag [I 1, I 0]), (13, AV.ag [I 8, I 1]), (14, AV.ref 3), (15, AV.ref 4), (16, AV.ag [AV.v (Value.string ⟨#[97]⟩), AV.ref 4, Bo false]), (17, AV.ag [AV.v (Value.string ⟨#[98]⟩), AV.nils, Bo false]), (18, AV.ref 5), (19, AV.ag [I 3, AV.ref 1, AV.ref 2, AV.ref 5, I 1, Bo false, AV.nils, I 3, I 2]), (1, AV.ptr 6 0), (20, AV.ref 7), (21, AV.ref 8), (22, AV.ag [AV.ref 7, AV.ref 8]), (2, AV.ptr 9 0)], objs := [(10, AO.box [AV.ref 12, AV.ref 7, AV.ref 8, I 1, I 0]), (11, AO.box [AV.ref 13, AV.ref 7, AV.ref 8, I 0, I 0]), (12, AO.arr 1 [I 1, I 0, I 4]), (13, AO.arr 1 [I 3, I 0, I 4]), (0, AO.pub [I 1, I 2, I (-1)]), (1, AO.arr 1 [AV.sl [I 1, I 2, I (-1)]]), (2, AO.arr 1 [I 0]), (3, AO.pub [AV.ag [I 1, I 0], AV.ag [I 8, I 1]]), (4, AO.pub [AV.sl [AV.ag [I 1, I 0], AV.ag [I 8, I 1]]]), (5, AO.arr 3 [AV.ag [AV.v (Value.string ⟨#[97]⟩), AV.sl [AV.sl [AV.ag [I 1, I 0], AV.ag [I 8, I 1]]], Bo false], AV.ag [AV.v (Value.string ⟨#[98]⟩), AV.sl [], Bo false]]), (6, AO.box [I 3, AV.ref 1, AV.ref 2, AV.ref 5, I 1, Bo false, AV.nils, I 3, I 2]), (9, AO.box [AV.ref 7, AV.ref 8]), (7, AO.pub [I 0, I 0]), (8, AO.pub [I 0, I 0])], next := 14, size := 109 }
set_option maxHeartbeats 8000000 in
set_option maxRecDepth 10000 in
theorem sanityB : vcC Try.prog tab D (tailC 4 (Try.f7.body.getD .skip)) sS (exitOK tab Try.f7.results.toList (Bo true) []) := by
  have c1 := SOf_p gS gS_ok (by decide)
  rw [ofRS] at c1
  have c2 := Cut_p gS gS_ok [2, 1] msS_ok [pS, qS, pS] (by decide) (fun p hp => by simp at hp; rcases hp with rfl | rfl | rfl <;> first | exact pS_ok | exact qS_ok)
  rw [cutS] at c2
  have v1 := Valid_p gS gS_ok (by decide) [1, 2] (by decide) false (vS _ _ (by decide +kernel))
  have v2 := Valid_p gS gS_ok (by decide) [1, 1] (by decide) true (vS _ _ (by decide +kernel))
  have v3 := Valid_p gS gS_ok (by decide) [6, 6] (by decide) true (vS _ _ (by decide +kernel))
  have v4 := Valid_p gS gS_ok (by decide) [] (by decide) false (vS _ _ (by decide +kernel))
  have l1 := Level_p gS gS_ok [2, 1] msS_ok pS pS_ok
  have l2 := Level_p gS gS_ok [2, 1] msS_ok qS qS_ok
  rw [show levR [2, 1] pS = 4 from by decide +kernel] at l1
  rw [show levR [2, 1] qS = 2 from by decide +kernel] at l2
  have e1 := Leaves_p gS gS_ok [2, 1] msS_ok pS qS pS_ok qS_ok
  have e2 := Leaves_p gS gS_ok [2, 1] msS_ok pS pS pS_ok pS_ok
  rw [show decide (levR [2, 1] qS < levR [2, 1] pS) = true from by decide +kernel] at e1
  rw [show decide (levR [2, 1] pS < levR [2, 1] pS) = false from by decide +kernel] at e2
  have i1 := Ints_p [2, 1] [2, 1] (by decide)
  have i2 := Ints_p [1] [1] (by decide)
  have i3 := Ints_p [0, 2] [0, 2] (by decide)
  rw [decide_eq_true rfl] at i1 i2 i3
  conv => whnf
  repeat' (first
    | (refine lvK (k := ?_); apply Cj.mk <;> first | exact trivial | intros)
    | (refine .inr (.inl ?_); (conv => whnf); refine ⟨_, _, c1, lvN (k := ?_)⟩; apply Cj.mk <;> first | exact trivial | intros)
    | (refine .inr (.inl ?_); (conv => whnf); refine ⟨_, _, c2, lvN (k := ?_)⟩; apply Cj.mk <;> first | exact trivial | intros)
    | (refine ⟨_, _, v1, lvN (k := ?_)⟩; apply Cj.mk <;> first | exact trivial | intros)
    | (refine .inl ?_; (conv => whnf); refine ⟨_, _, v1, lvN (k := ?_)⟩; apply Cj.mk <;> first | exact trivial | intros)
    | (refine ⟨_, _, v2, lvN (k := ?_)⟩; apply Cj.mk <;> first | exact trivial | intros)
    | (refine .inl ?_; (conv => whnf); refine ⟨_, _, v2, lvN (k := ?_)⟩; apply Cj.mk <;> first | exact trivial | intros)
    | (refine ⟨_, _, v3, lvN (k := ?_)⟩; apply Cj.mk <;> first | exact trivial | intros)
    | (refine .inl ?_; (conv => whnf); refine ⟨_, _, v3, lvN (k := ?_)⟩; apply Cj.mk <;> first | exact trivial | intros)
    | (refine ⟨_, _, v4, lvN (k := ?_)⟩; apply Cj.mk <;> first | exact trivial | intros)
    | (refine .inl ?_; (conv => whnf); refine ⟨_, _, v4, lvN (k := ?_)⟩; apply Cj.mk <;> first | exact trivial | intros)
    | (refine ⟨_, _, l1, lvN (k := ?_)⟩; apply Cj.mk <;> first | exact trivial | intros)
    | (refine .inl ?_; (conv => whnf); refine ⟨_, _, l1, lvN (k := ?_)⟩; apply Cj.mk <;> first | exact trivial | intros)
    | (refine ⟨_, _, l2, lvN (k := ?_)⟩; apply Cj.mk <;> first | exact trivial | intros)
    | (refine .inl ?_; (conv => whnf); refine ⟨_, _, l2, lvN (k := ?_)⟩; apply Cj.mk <;> first | exact trivial | intros)
    | (refine ⟨_, _, e1, lvN (k := ?_)⟩; apply Cj.mk <;> first | exact trivial | intros)
    | (refine .inl ?_; (conv => whnf); refine ⟨_, _, e1, lvN (k := ?_)⟩; apply Cj.mk <;> first | exact trivial | intros)
    | (refine ⟨_, _, e2, lvN (k := ?_)⟩; apply Cj.mk <;> first | exact trivial | intros)
    | (refine .inl ?_; (conv => whnf); refine ⟨_, _, e2, lvN (k := ?_)⟩; apply Cj.mk <;> first | exact trivial | intros)
    | (refine ⟨_, _, i1, lvN (k := ?_)⟩; apply Cj.mk <;> first | exact trivial | intros)
    | (refine .inl ?_; (conv => whnf); refine ⟨_, _, i1, lvN (k := ?_)⟩; apply Cj.mk <;> first | exact trivial | intros)
    | (refine ⟨_, _, i2, lvN (k := ?_)⟩; apply Cj.mk <;> first | exact trivial | intros)
    | (refine .inl ?_; (conv => whnf); refine ⟨_, _, i2, lvN (k := ?_)⟩; apply Cj.mk <;> first | exact trivial | intros)
    | (refine ⟨_, _, i3, lvN (k := ?_)⟩; apply Cj.mk <;> first | exact trivial | intros)
    | (refine .inl ?_; (conv => whnf); refine ⟨_, _, i3, lvN (k := ?_)⟩; apply Cj.mk <;> first | exact trivial | intros)
    | (refine .inl ?_; (conv => whnf); refine ⟨_, v1, rfl, lvN (k := ?_)⟩; apply Cj.mk <;> first | exact trivial | intros)
    | (refine ⟨_, v1, rfl, lvN (k := ?_)⟩; apply Cj.mk <;> first | exact trivial | intros)
    | (refine .inl ?_; (conv => whnf); refine ⟨_, v2, rfl, lvN (k := ?_)⟩; apply Cj.mk <;> first | exact trivial | intros)
    | (refine ⟨_, v2, rfl, lvN (k := ?_)⟩; apply Cj.mk <;> first | exact trivial | intros)
    | (refine .inl ?_; (conv => whnf); refine ⟨_, v3, rfl, lvN (k := ?_)⟩; apply Cj.mk <;> first | exact trivial | intros)
    | (refine ⟨_, v3, rfl, lvN (k := ?_)⟩; apply Cj.mk <;> first | exact trivial | intros)
    | (refine .inl ?_; (conv => whnf); refine ⟨_, v4, rfl, lvN (k := ?_)⟩; apply Cj.mk <;> first | exact trivial | intros)
    | (refine ⟨_, v4, rfl, lvN (k := ?_)⟩; apply Cj.mk <;> first | exact trivial | intros)
    | (refine .inl ?_; (conv => whnf); refine ⟨_, l1, rfl, lvN (k := ?_)⟩; apply Cj.mk <;> first | exact trivial | intros)
    | (refine ⟨_, l1, rfl, lvN (k := ?_)⟩; apply Cj.mk <;> first | exact trivial | intros)
    | (refine .inl ?_; (conv => whnf); refine ⟨_, l2, rfl, lvN (k := ?_)⟩; apply Cj.mk <;> first | exact trivial | intros)
    | (refine ⟨_, l2, rfl, lvN (k := ?_)⟩; apply Cj.mk <;> first | exact trivial | intros)
    | (refine .inl ?_; (conv => whnf); refine ⟨_, e1, rfl, lvN (k := ?_)⟩; apply Cj.mk <;> first | exact trivial | intros)
    | (refine ⟨_, e1, rfl, lvN (k := ?_)⟩; apply Cj.mk <;> first | exact trivial | intros)
    | (refine .inl ?_; (conv => whnf); refine ⟨_, e2, rfl, lvN (k := ?_)⟩; apply Cj.mk <;> first | exact trivial | intros)
    | (refine ⟨_, e2, rfl, lvN (k := ?_)⟩; apply Cj.mk <;> first | exact trivial | intros)
    | (refine .inl ?_; (conv => whnf); refine ⟨_, i1, rfl, lvN (k := ?_)⟩; apply Cj.mk <;> first | exact trivial | intros)
    | (refine ⟨_, i1, rfl, lvN (k := ?_)⟩; apply Cj.mk <;> first | exact trivial | intros)
    | (refine .inl ?_; (conv => whnf); refine ⟨_, i2, rfl, lvN (k := ?_)⟩; apply Cj.mk <;> first | exact trivial | intros)
    | (refine ⟨_, i2, rfl, lvN (k := ?_)⟩; apply Cj.mk <;> first | exact trivial | intros)
    | (refine .inl ?_; (conv => whnf); refine ⟨_, i3, rfl, lvN (k := ?_)⟩; apply Cj.mk <;> first | exact trivial | intros)
    | (refine ⟨_, i3, rfl, lvN (k := ?_)⟩; apply Cj.mk <;> first | exact trivial | intros)
    | (refine lvE (k := ?_); apply Cj.mk <;> first | exact trivial | intros)
    | fail)
end Go.Proofs.Ytceeabnmleemiaa
