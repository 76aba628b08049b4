/- Contracts of functions of the program, proved by the checker. -/
import Derived.Test.YtkecpgidolphfaaBw
import Derived.Test.YtkecpgidolphfaaByb
import Derived.Test.YtkecpgidolphfaaBp
namespace Go.Proofs.Ytkecpgidolphfaa
set_option linter.unusedVariables false
set_option linter.unusedSimpArgs false
open Go Go.Sk

/-! The cells that are linked with one. -/
def Bd.lnk1 (b : Bd) (q : Int) (o : List Int) (x : Int) : List Int := if o.contains x = false ∧ ((b.near q).contains x = true ∨ (b.near x).contains q = true) then o ++ [x] else o
def Bd.lnkC (b : Bd) (q : Int) (o : List Int) (x : Int) : List Int := (ints x).foldl (b.lnk1 q) o
def Bd.lnkR (b : Bd) : Nat → Int → List Int → List Int
  | 0, _, o => o
  | k + 1, i, o => if i < o.length then b.lnkR k (i + 1) (b.lnkC (nth o i) o b.cells) else o
def Bd.linked (b : Bd) (c : Int) : List Int := b.lnkR 65 0 [c]

/-- What a round keeps: o came from o0. -/
structure LkP (b : Bd) (o0 o : List Int) : Prop where
  nd : o.Nodup
  rg : ∀ y, y ∈ o → 0 ≤ y ∧ y < b.cells
  pre : ∃ t, o = o0 ++ t
theorem LkP.len {b : Bd} (hb : b.ok) {o0 o : List Int} (h : LkP b o0 o) : o.length ≤ 64 ∧ o0.length ≤ o.length := by
  have h1 := cells_len h.nd h.rg
  have := hb.c64
  obtain ⟨t, rfl⟩ := h.pre
  rw [List.length_append] at h1 ⊢
  omega
theorem LkP.at {b : Bd} {o0 o : List Int} (h : LkP b o0 o) {i : Int} (i0 : 0 ≤ i) (i1 : i < o0.length) : nth o i = nth o0 i := by
  obtain ⟨t, rfl⟩ := h.pre
  exact nth_append_left i0 i1
theorem LkP.one {b : Bd} {o0 o : List Int} (h : LkP b o0 o) (q : Int) {x : Int} (x0 : 0 ≤ x) (x1 : x < b.cells) : LkP b o0 (b.lnk1 q o x) := by
  unfold Bd.lnk1
  split
  · rename_i hc
    have hn : x ∉ o := fun h => by rw [List.contains_iff_mem.2 h] at hc; cases hc.1
    refine ⟨?_, fun y hy => ?_, ?_⟩
    · rw [List.nodup_append]
      exact ⟨h.nd, by simp, fun a ha y hy => by simp at hy; subst hy; rintro rfl; exact hn ha⟩
    · rcases List.mem_append.1 hy with hy | hy
      · exact h.rg y hy
      · simp at hy; subst hy; exact ⟨x0, x1⟩
    · obtain ⟨t, rfl⟩ := h.pre
      exact ⟨t ++ [x], by simp⟩
  · exact h
theorem Bd.lnkC_succ {b : Bd} {q : Int} {o : List Int} {x : Int} (x0 : 0 ≤ x) : b.lnkC q o (x + 1) = b.lnk1 q (b.lnkC q o x) x := by
  unfold Bd.lnkC; rw [ints_succ x0, List.foldl_append]; rfl
theorem LkP.row {b : Bd} {o0 o : List Int} (h : LkP b o0 o) (q : Int) : ∀ n : Nat, (n : Int) ≤ b.cells → LkP b o0 (b.lnkC q o n)
  | 0, _ => h
  | n + 1, hn => by
    rw [show ((n + 1 : Nat) : Int) = (n : Int) + 1 by omega, Bd.lnkC_succ (by omega)]
    exact (LkP.row h q n (by omega)).one q (by omega) (by omega)
theorem LkP.rowI {b : Bd} {o0 o : List Int} (h : LkP b o0 o) (q : Int) {x : Int} (x0 : 0 ≤ x) (x1 : x ≤ b.cells) : LkP b o0 (b.lnkC q o x) := by
  have := h.row q x.toNat (by omega)
  rwa [show ((x.toNat : Nat) : Int) = x by omega] at this
theorem lnk1_mem {b : Bd} {q : Int} {o : List Int} {x y : Int} (h : y ∈ o) : y ∈ b.lnk1 q o x := by unfold Bd.lnk1; split <;> simp [h]
theorem lnkC_mem {b : Bd} {q : Int} {o : List Int} : ∀ n : Nat, (∀ y : Int, y ∈ o → y ∈ b.lnkC q o n) ∧ ∀ y : Int, 0 ≤ y → y < n → b.adj q y → y ∈ b.lnkC q o n
  | 0 => ⟨fun y h => h, fun y _ _ => by omega⟩
  | n + 1 => by
    have ih := lnkC_mem (b := b) (q := q) (o := o) n
    rw [show ((n + 1 : Nat) : Int) = (n : Int) + 1 by omega, Bd.lnkC_succ (by omega)]
    refine ⟨fun y h => lnk1_mem (ih.1 y h), fun y y0 y1 ha => ?_⟩
    by_cases e : y = n
    · subst e
      unfold Bd.lnk1
      split
      · simp
      · rename_i hc
        refine Classical.byContradiction fun hn => hc ⟨?_, ?_⟩
        · rw [Bool.eq_false_iff]; intro h; exact hn (List.contains_iff_mem.1 h)
        · rcases ha with ha | ha
          · exact .inl (List.contains_iff_mem.2 ha)
          · exact .inr (List.contains_iff_mem.2 ha)
    · exact lnk1_mem (ih.2 y y0 (by omega) ha)
structure LkS where
  k : Nat
  i : Int
  o : List Int
structure LkI (b : Bd) (c : Int) (s : LkS) : Prop where
  p : LkP b [c] s.o
  k : s.k + s.i = 65
  i0 : 0 ≤ s.i
  i1 : s.i ≤ s.o.length
  eq : b.lnkR s.k s.i s.o = b.linked c
  cl : ∀ j : Int, 0 ≤ j → j < s.i → ∀ y, b.adj (nth s.o j) y → y ∈ s.o
theorem LkI.zero {b : Bd} {c : Int} (c0 : 0 ≤ c) (c1 : c < b.cells) : LkI b c ⟨65, 0, [c]⟩ := ⟨⟨by simp, fun y hy => by simp at hy; omega, [], by simp⟩, rfl, by simp, by simp, rfl, fun j _ h => by simp only at h; omega⟩
theorem LkI.next {b : Bd} (hb : b.ok) {c : Int} {s : LkS} (h : LkI b c s) (hi : s.i < s.o.length) : LkI b c ⟨s.k - 1, s.i + 1, b.lnkC (nth s.o s.i) s.o b.cells⟩ := by
  have c1 := hb.c1
  have hl := h.p.len hb
  have hk := h.k
  have i0 := h.i0
  have hp : LkP b s.o (b.lnkC (nth s.o s.i) s.o b.cells) := LkP.rowI ⟨h.p.nd, h.p.rg, [], by simp⟩ _ (by omega) (Int.le_refl _)
  have hl2 := hp.len hb
  have hm := lnkC_mem (b := b) (q := nth s.o s.i) (o := s.o) b.cells.toNat
  rw [show ((b.cells.toNat : Nat) : Int) = b.cells by omega] at hm
  refine ⟨⟨hp.nd, hp.rg, ?_⟩, by simp only; omega, by simp only; omega, by simp only; omega, ?_, fun j j0 j1 y hy => ?_⟩
  · obtain ⟨t, e⟩ := h.p.pre
    obtain ⟨t', e'⟩ := hp.pre
    exact ⟨t ++ t', by simp only; rw [e', e]; simp⟩
  · simp only
    rw [← h.eq, show s.k = (s.k - 1) + 1 by omega]
    simp only [Bd.lnkR, if_pos hi, Nat.add_sub_cancel]
  · simp only at j1 hy ⊢
    rw [hp.at j0 (by omega)] at hy
    by_cases e : j = s.i
    · subst e
      exact hm.2 y (b.adj_rg hy).2.1 (b.adj_rg hy).2.2 hy
    · exact hm.1 y (h.cl j j0 (by omega) y hy)
theorem LkI.done {b : Bd} {c : Int} {s : LkS} (h : LkI b c s) (hi : ¬ s.i < s.o.length) : s.o = b.linked c := by
  rw [← h.eq]
  cases s.k with
  | zero => rfl
  | succ k => simp only [Bd.lnkR, if_neg hi]
theorem linked_I {b : Bd} (hb : b.ok) {c : Int} (c0 : 0 ≤ c) (c1 : c < b.cells) : ∀ (n : Nat) (s : LkS), s.k = n → LkI b c s → ∃ s', LkI b c s' ∧ ¬ s'.i < s'.o.length
  | n, s, e, h => by
    by_cases hi : s.i < s.o.length
    · have hl := h.p.len hb
      have hk := h.k
      obtain ⟨n', rfl⟩ : ∃ n', n = n' + 1 := ⟨n - 1, by omega⟩
      exact linked_I hb c0 c1 n' _ (by simp only; omega) (h.next hb hi)
    · exact ⟨s, h, hi⟩
theorem linked_con {b : Bd} (hb : b.ok) {c : Int} (c0 : 0 ≤ c) (c1 : c < b.cells) {y : Int} (h : Con b.adj c y) : y ∈ b.linked c := by
  obtain ⟨s, hs, hi⟩ := linked_I hb c0 c1 65 _ rfl (LkI.zero c0 c1)
  rw [← hs.done hi]
  induction h with
  | refl => obtain ⟨t, e⟩ := hs.p.pre; rw [e]; simp
  | step _ r ih =>
    obtain ⟨i, i0, i1, e⟩ := mem_nth ih
    exact hs.cl i i0 (by omega) _ (by rw [e]; exact r)

theorem linked_len {b : Bd} (hb : b.ok) {c : Int} (c0 : 0 ≤ c) (c1 : c < b.cells) : (b.linked c).length ≤ 64 := by
  obtain ⟨s, hs, hi⟩ := linked_I hb c0 c1 65 _ rfl (LkI.zero c0 c1)
  rw [← hs.done hi]
  exact (hs.p.len hb).1

set_option maxHeartbeats 4000000 in
set_option maxRecDepth 10000 in
theorem linked_p (b : Bd) (hb : b.ok) (c : Int) (c0 : 0 ≤ c) (c1 : c < b.cells) : Pure Try.prog 19 [b.av, I c] (.ref 0) (some (.arr 1 ((b.linked c).map I))) := by
  have c6 := hb.c64
  have b1 := hb.c1
  refine fun_of tok D_ok Try.func19 rfl Try.ntmps19 Try.results19 (by kernel_rfl) (by simp) (by simp) ?_
  conv => whnf
  refine .of (fun s => [(6, I s.i), (5, .ref 1)]) (fun s => [(1, .arr 1 (s.o.map I))]) 2 (fun s => LkI b c s) (fun s => s.k) (⟨65, 0, [c]⟩ : LkS) ?_
  conv => whnf
  refine ⟨⟨[], (by kernel_rfl), (by kernel_rfl), (by kernel_rfl), ?_, ?_⟩, ?_, fun s hs => ?_⟩
  rotate_left 1
  focus
    conv => whnf
    repeat' (first
      | exact trivial
      | with_reducible rfl
      | (refine srcI ?_; kernel_rfl)
      | (refine nsI ?_; kernel_rfl)
      | (refine And.intro ?_ ?_ <;> conv => whnf; try dsimp only [St.after, St.afterAt, initSt, initT, numO, cellsA, Option.map, ren, renL, renO, St.setObj, headSt, List.cons_append, List.nil_append, List.length_nil])
      | rfl)
  rotate_right 1
  focus
    conv => whnf
    repeat' (first
      | exact trivial
      | with_reducible rfl
      | (refine srcI ?_; kernel_rfl)
      | (refine nsI ?_; kernel_rfl)
      | (refine And.intro ?_ ?_ <;> conv => whnf; try dsimp only [St.after, St.afterAt, initSt, initT, numO, cellsA, Option.map, ren, renL, renO, St.setObj, headSt, List.cons_append, List.nil_append, List.length_nil])
      | rfl)
  rotate_right 1
  focus
    conv => whnf
  rotate_left 1
  · exact LkI.zero c0 c1
  have i0 := hs.i0
  have i1 := hs.i1
  have hk := hs.k
  have hl := hs.p.len hb
  have lm : (s.o.map I).length = s.o.length := List.length_map _
  repeat' ((first
    | (refine ifD (fun _ => ?_) (fun _ => ?_))
    | (refine ifE (fun _ => ?_) (fun _ => ?_))
    | (refine ifN (fun _ => ?_) (fun _ => ?_))
    | ((with_reducible refine ifNot ?_))
    | ((with_reducible refine ifAndD (fun _ _ => ?_) (fun _ => ?_)))
    | ((with_reducible refine ifAnd (fun _ _ => ?_) (fun _ => ?_)))
    | (refine ixM (by omega) (by first | omega | (simp only [List.length_set, List.length_map, List.length_append, List.length_cons, List.length_nil, List.length_replicate]; omega)) rfl ?_)
    | (refine ixA (by omega) (by first | omega | (simp only [List.length_set, List.length_map, List.length_append, List.length_cons, List.length_nil, List.length_replicate]; omega)) ?_)
    | (refine ltM (by omega) (by first | omega | (simp only [List.length_set, List.length_map, List.length_append, List.length_cons, List.length_nil, List.length_replicate]; omega)) ?_)
    | (refine calI (by omega) ?_)
    | (refine cu8 (by omega) ?_)
    | (refine cu64 (by omega) ?_)
    | (refine And.intro (by omega) ?_; refine crem (by omega) ?_)
    | (refine And.intro (by omega) ?_; refine cquo (by omega) ?_)
    | ((with_reducible refine preI ?_); (first | refine preNil ?_ | refine preOp rfl rfl ?_ | refine preT rfl rfl rfl rfl ?_ | refine preF rfl rfl rfl rfl ?_ | refine preTS rfl rfl rfl rfl ?_ | refine preFS rfl rfl rfl rfl ?_ | refine preSkip rfl rfl rfl rfl ?_ | refine preGT rfl rfl rfl rfl ?_ | refine preGF rfl rfl rfl rfl ?_))
    | ((first | refine drawA (by decide +kernel) ?_ | refine drawA2 (by kernel_rfl) ?_); conv => whnf; (try dsimp only [St.after, St.afterAt, initSt, initT, numO, cellsA, Option.map, ren, renL, renO, St.setObj, headSt, List.cons_append, List.nil_append, List.length_nil]); try (conv => enter [7, 3]; whnf))
    | (refine ap1 (by decide) (by omega) rfl rfl ?_)
    | (refine ap0 (by decide) rfl ?_)
    | (refine apL (by decide) (by omega) (fun _ => rfl) ?_)
    | (refine apM (by decide) (by omega) (fun _ => rfl) ?_)
    | (refine setI (z := _) rfl ?_)
    | (refine And.intro (by omega) (And.intro (by omega) ?_))
    | (refine ifB_intro (fun _ => ?_) (fun _ => ?_))) <;> (conv => whnf; try dsimp only [St.after, St.afterAt, initSt, initT, numO, cellsA, Option.map, ren, renL, renO, St.setObj, headSt, List.cons_append, List.nil_append, List.length_nil]))
  · have hi : s.i < s.o.length := by omega
    have hq := hs.p.rg _ (nth_mem i0 hi)
    have hp0 : LkP b s.o s.o := ⟨hs.p.nd, hs.p.rg, [], by simp⟩
    refine .of (fun x => [(7, I x), (5, .ref 1)]) (fun x => [(1, .arr 1 ((b.lnkC (nth s.o s.i) s.o x).map I))]) 2 (fun x => 0 ≤ x ∧ x ≤ b.cells) (fun x => (b.cells - x).toNat) 0 ?_
    conv => whnf
    refine ⟨⟨[], (by kernel_rfl), (by kernel_rfl), (by kernel_rfl), ?_, ?_⟩, ?_, fun x ⟨x0, x1⟩ => ?_⟩
    rotate_left 1
    focus
      conv => whnf
      repeat' (first
        | exact trivial
        | with_reducible rfl
        | (refine srcI ?_; kernel_rfl)
        | (refine nsI ?_; kernel_rfl)
        | (refine And.intro ?_ ?_ <;> conv => whnf; try dsimp only [St.after, St.afterAt, initSt, initT, numO, cellsA, Option.map, ren, renL, renO, St.setObj, headSt, List.cons_append, List.nil_append, List.length_nil])
        | rfl)
    rotate_right 1
    focus
      conv => whnf
      repeat' (first
        | exact trivial
        | with_reducible rfl
        | (refine srcI ?_; kernel_rfl)
        | (refine nsI ?_; kernel_rfl)
        | (refine And.intro ?_ ?_ <;> conv => whnf; try dsimp only [St.after, St.afterAt, initSt, initT, numO, cellsA, Option.map, ren, renL, renO, St.setObj, headSt, List.cons_append, List.nil_append, List.length_nil])
        | rfl)
    rotate_right 1
    focus
      conv => whnf
    rotate_left 1
    · exact ⟨by omega, by omega⟩
    have hp := hp0.rowI (nth s.o s.i) x0 x1
    have hpl := hp.len hb
    have hpa := hp.at i0 hi
    have hsu := Bd.lnkC_succ (b := b) (q := nth s.o s.i) (o := s.o) x0
    have n1 := near_len b (nth s.o s.i)
    have n2 := near_len b x
    generalize ho : b.lnkC (nth s.o s.i) s.o x = o at *
    have om : (o.map I).length = o.length := List.length_map _
    repeat' ((first
      | (refine ifD (fun _ => ?_) (fun _ => ?_))
      | (refine ifE (fun _ => ?_) (fun _ => ?_))
      | (refine ifN (fun _ => ?_) (fun _ => ?_))
      | ((with_reducible refine ifNot ?_))
      | ((with_reducible refine ifAndD (fun _ _ => ?_) (fun _ => ?_)))
      | ((with_reducible refine ifAnd (fun _ _ => ?_) (fun _ => ?_)))
      | (refine ixM (by omega) (by first | omega | (simp only [List.length_set, List.length_map, List.length_append, List.length_cons, List.length_nil, List.length_replicate]; omega)) rfl ?_)
      | (refine ixA (by omega) (by first | omega | (simp only [List.length_set, List.length_map, List.length_append, List.length_cons, List.length_nil, List.length_replicate]; omega)) ?_)
      | (refine ltM (by omega) (by first | omega | (simp only [List.length_set, List.length_map, List.length_append, List.length_cons, List.length_nil, List.length_replicate]; omega)) ?_)
      | (refine calI (by omega) ?_)
      | (refine cu8 (by omega) ?_)
      | (refine cu64 (by omega) ?_)
      | (refine And.intro (by omega) ?_; refine crem (by omega) ?_)
      | (refine And.intro (by omega) ?_; refine cquo (by omega) ?_)
      | (refine ⟨_, _, Near26_p b hb _, ?_⟩)
      | (refine .inl ?_; (conv => whnf); refine ⟨_, _, Near26_p b hb _, ?_⟩)
      | (refine .inl ?_; (conv => whnf); refine ⟨_, Has_p o _ (by omega), rfl, ?_⟩)
      | (refine ⟨_, Has_p o _ (by omega), rfl, ?_⟩)
      | (refine .inl ?_; (conv => whnf); refine ⟨_, Has_p (b.near (nth o s.i)) _ (by rw [hpa]; omega), rfl, ?_⟩)
      | (refine ⟨_, Has_p (b.near (nth o s.i)) _ (by rw [hpa]; omega), rfl, ?_⟩)
      | (refine .inl ?_; (conv => whnf); refine ⟨_, Has_p (b.near x) _ (by omega), rfl, ?_⟩)
      | (refine ⟨_, Has_p (b.near x) _ (by omega), rfl, ?_⟩)
      | ((with_reducible refine preI ?_); (first | refine preNil ?_ | refine preOp rfl rfl ?_ | refine preT rfl rfl rfl rfl ?_ | refine preF rfl rfl rfl rfl ?_ | refine preTS rfl rfl rfl rfl ?_ | refine preFS rfl rfl rfl rfl ?_ | refine preSkip rfl rfl rfl rfl ?_ | refine preGT rfl rfl rfl rfl ?_ | refine preGF rfl rfl rfl rfl ?_))
      | ((first | refine drawA (by decide +kernel) ?_ | refine drawA2 (by kernel_rfl) ?_); conv => whnf; (try dsimp only [St.after, St.afterAt, initSt, initT, numO, cellsA, Option.map, ren, renL, renO, St.setObj, headSt, List.cons_append, List.nil_append, List.length_nil]); try (conv => enter [7, 3]; whnf))
      | (refine ap1 (by decide) (by omega) rfl rfl ?_)
      | (refine ap0 (by decide) rfl ?_)
      | (refine apL (by decide) (by omega) (fun _ => rfl) ?_)
      | (refine apM (by decide) (by omega) (fun _ => rfl) ?_)
      | (refine setI (z := _) rfl ?_)
      | (refine And.intro (by omega) (And.intro (by omega) ?_))
      | (refine ifB_intro (fun _ => ?_) (fun _ => ?_))) <;> (conv => whnf; try dsimp only [St.after, St.afterAt, initSt, initT, numO, cellsA, Option.map, ren, renL, renO, St.setObj, headSt, List.cons_append, List.nil_append, List.length_nil]))
    · rename_i q
      have he : b.lnk1 (nth s.o s.i) o x = o := if_neg (by rintro ⟨h, _⟩; rw [h] at q; cases q)
      refine ⟨x + 1, ⟨[], (by kernel_rfl), (by kernel_rfl), (by kernel_rfl), ?_, ?_⟩, ?_, by (try dsimp only); omega, rfl⟩
      rotate_left 1
      focus
        conv => whnf
        repeat' (first
          | exact trivial
          | with_reducible rfl
          | (refine srcI ?_; kernel_rfl)
          | (refine nsI ?_; kernel_rfl)
          | (refine And.intro ?_ ?_ <;> conv => whnf; try dsimp only [St.after, St.afterAt, initSt, initT, numO, cellsA, Option.map, ren, renL, renO, St.setObj, headSt, List.cons_append, List.nil_append, List.length_nil]))
      rotate_right 1
      focus
        conv => whnf
        repeat' (first
          | exact trivial
          | with_reducible rfl
          | (refine srcI ?_; kernel_rfl)
          | (refine nsI ?_; kernel_rfl)
          | (refine And.intro ?_ ?_ <;> conv => whnf; try dsimp only [St.after, St.afterAt, initSt, initT, numO, cellsA, Option.map, ren, renL, renO, St.setObj, headSt, List.cons_append, List.nil_append, List.length_nil]))
      · rw [hsu, he]
      · exact ⟨by omega, by omega⟩
    · rename_i q1 q2
      have he : b.lnk1 (nth s.o s.i) o x = o ++ [x] := if_pos ⟨by simpa using q1, .inl (by rw [← hpa]; exact q2)⟩
      refine ⟨x + 1, ⟨[], (by kernel_rfl), (by kernel_rfl), (by kernel_rfl), ?_, ?_⟩, ?_, by (try dsimp only); omega, rfl⟩
      rotate_left 1
      focus
        conv => whnf
        repeat' (first
          | exact trivial
          | with_reducible rfl
          | (refine srcI ?_; kernel_rfl)
          | (refine nsI ?_; kernel_rfl)
          | (refine And.intro ?_ ?_ <;> conv => whnf; try dsimp only [St.after, St.afterAt, initSt, initT, numO, cellsA, Option.map, ren, renL, renO, St.setObj, headSt, List.cons_append, List.nil_append, List.length_nil]))
      rotate_right 1
      focus
        conv => whnf
        repeat' (first
          | exact trivial
          | with_reducible rfl
          | (refine srcI ?_; kernel_rfl)
          | (refine nsI ?_; kernel_rfl)
          | (refine And.intro ?_ ?_ <;> conv => whnf; try dsimp only [St.after, St.afterAt, initSt, initT, numO, cellsA, Option.map, ren, renL, renO, St.setObj, headSt, List.cons_append, List.nil_append, List.length_nil]))
      · rw [hsu, he]
      · exact ⟨by omega, by omega⟩
    · rename_i q1 q2 q3
      have he : b.lnk1 (nth s.o s.i) o x = o ++ [x] := if_pos ⟨by simpa using q1, .inr (by rw [← hpa]; exact q3)⟩
      refine ⟨x + 1, ⟨[], (by kernel_rfl), (by kernel_rfl), (by kernel_rfl), ?_, ?_⟩, ?_, by (try dsimp only); omega, rfl⟩
      rotate_left 1
      focus
        conv => whnf
        repeat' (first
          | exact trivial
          | with_reducible rfl
          | (refine srcI ?_; kernel_rfl)
          | (refine nsI ?_; kernel_rfl)
          | (refine And.intro ?_ ?_ <;> conv => whnf; try dsimp only [St.after, St.afterAt, initSt, initT, numO, cellsA, Option.map, ren, renL, renO, St.setObj, headSt, List.cons_append, List.nil_append, List.length_nil]))
      rotate_right 1
      focus
        conv => whnf
        repeat' (first
          | exact trivial
          | with_reducible rfl
          | (refine srcI ?_; kernel_rfl)
          | (refine nsI ?_; kernel_rfl)
          | (refine And.intro ?_ ?_ <;> conv => whnf; try dsimp only [St.after, St.afterAt, initSt, initT, numO, cellsA, Option.map, ren, renL, renO, St.setObj, headSt, List.cons_append, List.nil_append, List.length_nil]))
      · rw [hsu, he]
      · exact ⟨by omega, by omega⟩
    · rename_i q1 q2 q3
      have he : b.lnk1 (nth s.o s.i) o x = o := if_neg (by rw [← hpa]; rintro ⟨_, h⟩; rcases h with h | h; (rw [h] at q2; cases q2); (rw [h] at q3; cases q3))
      refine ⟨x + 1, ⟨[], (by kernel_rfl), (by kernel_rfl), (by kernel_rfl), ?_, ?_⟩, ?_, by (try dsimp only); omega, rfl⟩
      rotate_left 1
      focus
        conv => whnf
        repeat' (first
          | exact trivial
          | with_reducible rfl
          | (refine srcI ?_; kernel_rfl)
          | (refine nsI ?_; kernel_rfl)
          | (refine And.intro ?_ ?_ <;> conv => whnf; try dsimp only [St.after, St.afterAt, initSt, initT, numO, cellsA, Option.map, ren, renL, renO, St.setObj, headSt, List.cons_append, List.nil_append, List.length_nil]))
      rotate_right 1
      focus
        conv => whnf
        repeat' (first
          | exact trivial
          | with_reducible rfl
          | (refine srcI ?_; kernel_rfl)
          | (refine nsI ?_; kernel_rfl)
          | (refine And.intro ?_ ?_ <;> conv => whnf; try dsimp only [St.after, St.afterAt, initSt, initT, numO, cellsA, Option.map, ren, renL, renO, St.setObj, headSt, List.cons_append, List.nil_append, List.length_nil]))
      · rw [hsu, he]
      · exact ⟨by omega, by omega⟩
    · obtain rfl : x = b.cells := by omega
      refine ⟨(⟨s.k - 1, s.i + 1, o⟩ : LkS), ⟨[], (by kernel_rfl), (by kernel_rfl), (by kernel_rfl), ?_, ?_⟩, ?_, by (try dsimp only); omega, rfl⟩
      rotate_left 1
      focus
        conv => whnf
        repeat' (first
          | exact trivial
          | with_reducible rfl
          | (refine srcI ?_; kernel_rfl)
          | (refine nsI ?_; kernel_rfl)
          | (refine And.intro ?_ ?_ <;> conv => whnf; try dsimp only [St.after, St.afterAt, initSt, initT, numO, cellsA, Option.map, ren, renL, renO, St.setObj, headSt, List.cons_append, List.nil_append, List.length_nil]))
      rotate_right 1
      focus
        conv => whnf
        repeat' (first
          | exact trivial
          | with_reducible rfl
          | (refine srcI ?_; kernel_rfl)
          | (refine nsI ?_; kernel_rfl)
          | (refine And.intro ?_ ?_ <;> conv => whnf; try dsimp only [St.after, St.afterAt, initSt, initT, numO, cellsA, Option.map, ren, renL, renO, St.setObj, headSt, List.cons_append, List.nil_append, List.length_nil]))
      have := hs.next hb hi
      rwa [ho] at this
  ·
    repeat' ((first
      | (refine ifD (fun _ => ?_) (fun _ => ?_))
      | (refine ifE (fun _ => ?_) (fun _ => ?_))
      | (refine ifN (fun _ => ?_) (fun _ => ?_))
      | ((with_reducible refine ifNot ?_))
      | ((with_reducible refine ifAndD (fun _ _ => ?_) (fun _ => ?_)))
      | ((with_reducible refine ifAnd (fun _ _ => ?_) (fun _ => ?_)))
      | (refine ixM (by omega) (by first | omega | (simp only [List.length_set, List.length_map, List.length_append, List.length_cons, List.length_nil, List.length_replicate]; omega)) rfl ?_)
      | (refine ixA (by omega) (by first | omega | (simp only [List.length_set, List.length_map, List.length_append, List.length_cons, List.length_nil, List.length_replicate]; omega)) ?_)
      | (refine ltM (by omega) (by first | omega | (simp only [List.length_set, List.length_map, List.length_append, List.length_cons, List.length_nil, List.length_replicate]; omega)) ?_)
      | (refine calI (by omega) ?_)
      | (refine cu8 (by omega) ?_)
      | (refine cu64 (by omega) ?_)
      | (refine And.intro (by omega) ?_; refine crem (by omega) ?_)
      | (refine And.intro (by omega) ?_; refine cquo (by omega) ?_)
      | ((with_reducible refine preI ?_); (first | refine preNil ?_ | refine preOp rfl rfl ?_ | refine preT rfl rfl rfl rfl ?_ | refine preF rfl rfl rfl rfl ?_ | refine preTS rfl rfl rfl rfl ?_ | refine preFS rfl rfl rfl rfl ?_ | refine preSkip rfl rfl rfl rfl ?_ | refine preGT rfl rfl rfl rfl ?_ | refine preGF rfl rfl rfl rfl ?_))
      | ((first | refine drawA (by decide +kernel) ?_ | refine drawA2 (by kernel_rfl) ?_); conv => whnf; (try dsimp only [St.after, St.afterAt, initSt, initT, numO, cellsA, Option.map, ren, renL, renO, St.setObj, headSt, List.cons_append, List.nil_append, List.length_nil]); try (conv => enter [7, 3]; whnf))
      | (refine ap1 (by decide) (by omega) rfl rfl ?_)
      | (refine ap0 (by decide) rfl ?_)
      | (refine apL (by decide) (by omega) (fun _ => rfl) ?_)
      | (refine apM (by decide) (by omega) (fun _ => rfl) ?_)
      | (refine setI (z := _) rfl ?_)
      | (refine And.intro (by omega) (And.intro (by omega) ?_))
      | (refine ifB_intro (fun _ => ?_) (fun _ => ?_))
      | (refine exitA (by kernel_rfl) (by kernel_rfl) ⟨?_, trivial⟩ ?_ <;> (conv => whnf) <;> repeat' (first | exact trivial | with_reducible rfl | (refine srcI ?_; kernel_rfl) | (refine nsI ?_; kernel_rfl) | (refine And.intro ?_ ?_ <;> conv => whnf; try dsimp only [St.after, St.afterAt, initSt, initT, numO, cellsA, Option.map, ren, renL, renO, St.setObj, headSt, List.cons_append, List.nil_append, List.length_nil])))) <;> (conv => whnf; try dsimp only [St.after, St.afterAt, initSt, initT, numO, cellsA, Option.map, ren, renL, renO, St.setObj, headSt, List.cons_append, List.nil_append, List.length_nil]))
    rw [← hs.done (by omega)]

set_option maxHeartbeats 4000000 in
set_option maxRecDepth 10000 in
theorem BoardParts_p (x : Rw) (hx : x.ok) : Pure Try.prog 6 [x.av] (Bo true) none := by
  have hb := Rw.wild_ok hx
  have hw := Wild12_p x hx
  obtain ⟨b, hbe⟩ : ∃ b, b = x.wild := ⟨_, rfl⟩
  rw [← hbe] at hb hw
  obtain ⟨n0, n1, n2, n3, n4, n5, n6, n7, n8, n9, n10, n11, n12, n13, n14, n15, n16, n17, n18, n19, n20, n21, n22, n23, n24, n25, n26, n27, n28, n29, n30, n31, hns⟩ := list32 hx.l
  have hav : x.av = .ag [U x.cells, U x.dirs, U x.turn, U n0, U n1, U n2, U n3, U n4, U n5, U n6, U n7, U n8, U n9, U n10, U n11, U n12, U n13, U n14, U n15, U n16, U n17, U n18, U n19, U n20, U n21, U n22, U n23, U n24, U n25, U n26, U n27, U n28, U n29, U n30, U n31] := by unfold Rw.av; rw [hns]; rfl
  rw [hav] at hw ⊢
  clear hav hns 
  have c6 := hb.c64
  have b1 := hb.c1
  have n8 := hb.n8
  have en : (b.next.map Is).length = b.next.length := List.length_map _
  have pp := Parts18_p b hb
  have hp := partsQ_part b hb
  obtain ⟨p, hpe⟩ : ∃ p, p = b.partsQ := ⟨_, rfl⟩
  rw [← hpe] at pp hp
  have pl := hp.len
  have pm : (p.map I).length = p.length := List.length_map _
  refine fun_of tok D_ok Try.func6 rfl Try.ntmps6 Try.results6 (by kernel_rfl) (by simp) (by simp) ?_
  conv => whnf
  repeat' ((first
    | (refine ifD (fun _ => ?_) (fun _ => ?_))
    | (refine ifE (fun _ => ?_) (fun _ => ?_))
    | (refine ifN (fun _ => ?_) (fun _ => ?_))
    | ((with_reducible refine ifNot ?_))
    | ((with_reducible refine ifAndD (fun _ _ => ?_) (fun _ => ?_)))
    | ((with_reducible refine ifAnd (fun _ _ => ?_) (fun _ => ?_)))
    | (refine ixM (by omega) (by first | omega | (simp only [List.length_set, List.length_map, List.length_append, List.length_cons, List.length_nil, List.length_replicate]; omega)) rfl ?_)
    | (refine ixA (by omega) (by first | omega | (simp only [List.length_set, List.length_map, List.length_append, List.length_cons, List.length_nil, List.length_replicate]; omega)) ?_)
    | (refine ltM (by omega) (by first | omega | (simp only [List.length_set, List.length_map, List.length_append, List.length_cons, List.length_nil, List.length_replicate]; omega)) ?_)
    | (refine calI (by omega) ?_)
    | (refine cu8 (by omega) ?_)
    | (refine cu64 (by omega) ?_)
    | (refine And.intro (by omega) ?_; refine crem (by omega) ?_)
    | (refine And.intro (by omega) ?_; refine cquo (by omega) ?_)
    | (refine ⟨_, _, sanity_p, ?_⟩)
    | (refine .inl ?_; (conv => whnf); refine ⟨_, _, sanity_p, ?_⟩)
    | (refine ⟨_, _, hw, ?_⟩)
    | (refine .inl ?_; (conv => whnf); refine ⟨_, _, hw, ?_⟩)
    | (refine ⟨_, _, pp, ?_⟩)
    | (refine .inl ?_; (conv => whnf); refine ⟨_, _, pp, ?_⟩)
    | ((with_reducible refine preI ?_); (first | refine preNil ?_ | refine preOp rfl rfl ?_ | refine preT rfl rfl rfl rfl ?_ | refine preF rfl rfl rfl rfl ?_ | refine preTS rfl rfl rfl rfl ?_ | refine preFS rfl rfl rfl rfl ?_ | refine preSkip rfl rfl rfl rfl ?_ | refine preGT rfl rfl rfl rfl ?_ | refine preGF rfl rfl rfl rfl ?_))
    | ((first | refine drawA (by decide +kernel) ?_ | refine drawA2 (by kernel_rfl) ?_); conv => whnf; (try dsimp only [St.after, St.afterAt, initSt, initT, numO, cellsA, Option.map, ren, renL, renO, St.setObj, headSt, List.cons_append, List.nil_append, List.length_nil]); try (conv => enter [7, 3]; whnf))
    | (refine ap1 (by decide) (by omega) rfl rfl ?_)
    | (refine ap0 (by decide) rfl ?_)
    | (refine apL (by decide) (by omega) (fun _ => rfl) ?_)
    | (refine apM (by decide) (by omega) (fun _ => rfl) ?_)
    | (refine setI (z := _) rfl ?_)
    | (refine And.intro (by omega) (And.intro (by omega) ?_))
    | (refine ifB_intro (fun _ => ?_) (fun _ => ?_))) <;> (conv => whnf; try dsimp only [St.after, St.afterAt, initSt, initT, numO, cellsA, Option.map, ren, renL, renO, St.setObj, headSt, List.cons_append, List.nil_append, List.length_nil]))
  · omega
  refine .of (fun c => [(6, I c)]) (fun c => []) 3 (fun c => 0 ≤ c ∧ c ≤ b.cells) (fun c => (b.cells - c).toNat) 0 ?_
  conv => whnf
  refine ⟨⟨[], (by kernel_rfl), (by kernel_rfl), (by kernel_rfl), ?_, ?_⟩, ?_, fun c ⟨c0, c1⟩ => ?_⟩
  rotate_left 1
  focus
    conv => whnf
    repeat' (first
      | exact trivial
      | with_reducible rfl
      | (refine srcI ?_; kernel_rfl)
      | (refine nsI ?_; kernel_rfl)
      | (refine And.intro ?_ ?_ <;> conv => whnf; try dsimp only [St.after, St.afterAt, initSt, initT, numO, cellsA, Option.map, ren, renL, renO, St.setObj, headSt, List.cons_append, List.nil_append, List.length_nil])
      | rfl)
  rotate_right 1
  focus
    conv => whnf
    repeat' (first
      | exact trivial
      | with_reducible rfl
      | (refine srcI ?_; kernel_rfl)
      | (refine nsI ?_; kernel_rfl)
      | (refine And.intro ?_ ?_ <;> conv => whnf; try dsimp only [St.after, St.afterAt, initSt, initT, numO, cellsA, Option.map, ren, renL, renO, St.setObj, headSt, List.cons_append, List.nil_append, List.length_nil])
      | rfl)
  rotate_right 1
  focus
    conv => whnf
  rotate_left 1
  · exact ⟨by omega, by omega⟩
  have f1 := hp.le c c0
  have f2 := fun h => hp.path (hp.con c c0 h)
  repeat' ((first
    | (refine ifD (fun _ => ?_) (fun _ => ?_))
    | (refine ifE (fun _ => ?_) (fun _ => ?_))
    | (refine ifN (fun _ => ?_) (fun _ => ?_))
    | ((with_reducible refine ifNot ?_))
    | ((with_reducible refine ifAndD (fun _ _ => ?_) (fun _ => ?_)))
    | ((with_reducible refine ifAnd (fun _ _ => ?_) (fun _ => ?_)))
    | (refine ixM (by omega) (by first | omega | (simp only [List.length_set, List.length_map, List.length_append, List.length_cons, List.length_nil, List.length_replicate]; omega)) rfl ?_)
    | (refine ixA (by omega) (by first | omega | (simp only [List.length_set, List.length_map, List.length_append, List.length_cons, List.length_nil, List.length_replicate]; omega)) ?_)
    | (refine ltM (by omega) (by first | omega | (simp only [List.length_set, List.length_map, List.length_append, List.length_cons, List.length_nil, List.length_replicate]; omega)) ?_)
    | (refine calI (by omega) ?_)
    | (refine cu8 (by omega) ?_)
    | (refine cu64 (by omega) ?_)
    | (refine And.intro (by omega) ?_; refine crem (by omega) ?_)
    | (refine And.intro (by omega) ?_; refine cquo (by omega) ?_)
    | ((with_reducible refine preI ?_); (first | refine preNil ?_ | refine preOp rfl rfl ?_ | refine preT rfl rfl rfl rfl ?_ | refine preF rfl rfl rfl rfl ?_ | refine preTS rfl rfl rfl rfl ?_ | refine preFS rfl rfl rfl rfl ?_ | refine preSkip rfl rfl rfl rfl ?_ | refine preGT rfl rfl rfl rfl ?_ | refine preGF rfl rfl rfl rfl ?_))
    | ((first | refine drawA (by decide +kernel) ?_ | refine drawA2 (by kernel_rfl) ?_); conv => whnf; (try dsimp only [St.after, St.afterAt, initSt, initT, numO, cellsA, Option.map, ren, renL, renO, St.setObj, headSt, List.cons_append, List.nil_append, List.length_nil]); try (conv => enter [7, 3]; whnf))
    | (refine ap1 (by decide) (by omega) rfl rfl ?_)
    | (refine ap0 (by decide) rfl ?_)
    | (refine apL (by decide) (by omega) (fun _ => rfl) ?_)
    | (refine apM (by decide) (by omega) (fun _ => rfl) ?_)
    | (refine setI (z := _) rfl ?_)
    | (refine And.intro (by omega) (And.intro (by omega) ?_))
    | (refine ifB_intro (fun _ => ?_) (fun _ => ?_))) <;> (conv => whnf; try dsimp only [St.after, St.afterAt, initSt, initT, numO, cellsA, Option.map, ren, renL, renO, St.setObj, headSt, List.cons_append, List.nil_append, List.length_nil]))
  · have := f1 (by omega); omega
  · have := f1 (by omega); omega
  · have := f2 (by omega); omega
  ·
    refine .of (fun d => [(7, I d)]) (fun d => []) 3 (fun d => 0 ≤ d ∧ d ≤ b.next.length) (fun d => (b.next.length - d).toNat) 0 ?_
    conv => whnf
    refine ⟨⟨[], (by kernel_rfl), (by kernel_rfl), (by kernel_rfl), ?_, ?_⟩, ?_, fun d ⟨d0, d1⟩ => ?_⟩
    rotate_left 1
    focus
      conv => whnf
      repeat' (first
        | exact trivial
        | with_reducible rfl
        | (refine srcI ?_; kernel_rfl)
        | (refine nsI ?_; kernel_rfl)
        | (refine And.intro ?_ ?_ <;> conv => whnf; try dsimp only [St.after, St.afterAt, initSt, initT, numO, cellsA, Option.map, ren, renL, renO, St.setObj, headSt, List.cons_append, List.nil_append, List.length_nil])
        | rfl)
    rotate_right 1
    focus
      conv => whnf
      repeat' (first
        | exact trivial
        | with_reducible rfl
        | (refine srcI ?_; kernel_rfl)
        | (refine nsI ?_; kernel_rfl)
        | (refine And.intro ?_ ?_ <;> conv => whnf; try dsimp only [St.after, St.afterAt, initSt, initT, numO, cellsA, Option.map, ren, renL, renO, St.setObj, headSt, List.cons_append, List.nil_append, List.length_nil])
        | rfl)
    rotate_right 1
    focus
      conv => whnf
    rotate_left 1
    · exact ⟨by omega, by omega⟩
    have hll := hb.ll d d0
    have eln : ((nth b.next d).map I).length = (nth b.next d).length := List.length_map _
    have hlx := fun h1 h2 => hb.lx d c d0 h1 c0 h2
    unfold Bd.nx at hlx
    repeat' ((first
      | (refine ifD (fun _ => ?_) (fun _ => ?_))
      | (refine ifE (fun _ => ?_) (fun _ => ?_))
      | (refine ifN (fun _ => ?_) (fun _ => ?_))
      | ((with_reducible refine ifNot ?_))
      | ((with_reducible refine ifAndD (fun _ _ => ?_) (fun _ => ?_)))
      | ((with_reducible refine ifAnd (fun _ _ => ?_) (fun _ => ?_)))
      | (refine ixM (by omega) (by first | omega | (simp only [List.length_set, List.length_map, List.length_append, List.length_cons, List.length_nil, List.length_replicate]; omega)) rfl ?_)
      | (refine ixA (by omega) (by first | omega | (simp only [List.length_set, List.length_map, List.length_append, List.length_cons, List.length_nil, List.length_replicate]; omega)) ?_)
      | (refine ltM (by omega) (by first | omega | (simp only [List.length_set, List.length_map, List.length_append, List.length_cons, List.length_nil, List.length_replicate]; omega)) ?_)
      | (refine calI (by omega) ?_)
      | (refine cu8 (by omega) ?_)
      | (refine cu64 (by omega) ?_)
      | (refine And.intro (by omega) ?_; refine crem (by omega) ?_)
      | (refine And.intro (by omega) ?_; refine cquo (by omega) ?_)
      | ((with_reducible refine preI ?_); (first | refine preNil ?_ | refine preOp rfl rfl ?_ | refine preT rfl rfl rfl rfl ?_ | refine preF rfl rfl rfl rfl ?_ | refine preTS rfl rfl rfl rfl ?_ | refine preFS rfl rfl rfl rfl ?_ | refine preSkip rfl rfl rfl rfl ?_ | refine preGT rfl rfl rfl rfl ?_ | refine preGF rfl rfl rfl rfl ?_))
      | ((first | refine drawA (by decide +kernel) ?_ | refine drawA2 (by kernel_rfl) ?_); conv => whnf; (try dsimp only [St.after, St.afterAt, initSt, initT, numO, cellsA, Option.map, ren, renL, renO, St.setObj, headSt, List.cons_append, List.nil_append, List.length_nil]); try (conv => enter [7, 3]; whnf))
      | (refine ap1 (by decide) (by omega) rfl rfl ?_)
      | (refine ap0 (by decide) rfl ?_)
      | (refine apL (by decide) (by omega) (fun _ => rfl) ?_)
      | (refine apM (by decide) (by omega) (fun _ => rfl) ?_)
      | (refine setI (z := _) rfl ?_)
      | (refine And.intro (by omega) (And.intro (by omega) ?_))
      | (refine ifB_intro (fun _ => ?_) (fun _ => ?_))) <;> (conv => whnf; try dsimp only [St.after, St.afterAt, initSt, initT, numO, cellsA, Option.map, ren, renL, renO, St.setObj, headSt, List.cons_append, List.nil_append, List.length_nil]))
    · rename_i q0 q1 q2
      exfalso
      refine q2 ?_
      have hx' := hlx (by omega) (by omega)
      by_cases e : b.nx d c = c
      · unfold Bd.nx at e; rw [e]
      · exact hp.eq c _ (nx_adj d0 (by omega) c0 (by omega) (by unfold Bd.nx; omega) (by unfold Bd.nx; omega) e)
    · refine ⟨d + 1, ⟨[], (by kernel_rfl), (by kernel_rfl), (by kernel_rfl), ?_, ?_⟩, ?_, by (try dsimp only); omega, rfl⟩
      rotate_left 1
      focus
        conv => whnf
        repeat' (first
          | exact trivial
          | with_reducible rfl
          | (refine srcI ?_; kernel_rfl)
          | (refine nsI ?_; kernel_rfl)
          | (refine And.intro ?_ ?_ <;> conv => whnf; try dsimp only [St.after, St.afterAt, initSt, initT, numO, cellsA, Option.map, ren, renL, renO, St.setObj, headSt, List.cons_append, List.nil_append, List.length_nil]))
      rotate_right 1
      focus
        conv => whnf
        repeat' (first
          | exact trivial
          | with_reducible rfl
          | (refine srcI ?_; kernel_rfl)
          | (refine nsI ?_; kernel_rfl)
          | (refine And.intro ?_ ?_ <;> conv => whnf; try dsimp only [St.after, St.afterAt, initSt, initT, numO, cellsA, Option.map, ren, renL, renO, St.setObj, headSt, List.cons_append, List.nil_append, List.length_nil]))
      exact ⟨by omega, by omega⟩
    · refine ⟨d + 1, ⟨[], (by kernel_rfl), (by kernel_rfl), (by kernel_rfl), ?_, ?_⟩, ?_, by (try dsimp only); omega, rfl⟩
      rotate_left 1
      focus
        conv => whnf
        repeat' (first
          | exact trivial
          | with_reducible rfl
          | (refine srcI ?_; kernel_rfl)
          | (refine nsI ?_; kernel_rfl)
          | (refine And.intro ?_ ?_ <;> conv => whnf; try dsimp only [St.after, St.afterAt, initSt, initT, numO, cellsA, Option.map, ren, renL, renO, St.setObj, headSt, List.cons_append, List.nil_append, List.length_nil]))
      rotate_right 1
      focus
        conv => whnf
        repeat' (first
          | exact trivial
          | with_reducible rfl
          | (refine srcI ?_; kernel_rfl)
          | (refine nsI ?_; kernel_rfl)
          | (refine And.intro ?_ ?_ <;> conv => whnf; try dsimp only [St.after, St.afterAt, initSt, initT, numO, cellsA, Option.map, ren, renL, renO, St.setObj, headSt, List.cons_append, List.nil_append, List.length_nil]))
      exact ⟨by omega, by omega⟩
    · have cl : c < b.cells := by omega
      have lk := linked_p b hb (nth p c) (f1 cl).1 (by have := f1 cl; omega)
      have ll := linked_len hb (f1 cl).1 (show nth p c < b.cells by have := f1 cl; omega)
      have lc := linked_con hb (f1 cl).1 (show nth p c < b.cells by have := f1 cl; omega) (hp.con c c0 cl)
      repeat' ((first
        | (refine ifD (fun _ => ?_) (fun _ => ?_))
        | (refine ifE (fun _ => ?_) (fun _ => ?_))
        | (refine ifN (fun _ => ?_) (fun _ => ?_))
        | ((with_reducible refine ifNot ?_))
        | ((with_reducible refine ifAndD (fun _ _ => ?_) (fun _ => ?_)))
        | ((with_reducible refine ifAnd (fun _ _ => ?_) (fun _ => ?_)))
        | (refine ixM (by omega) (by first | omega | (simp only [List.length_set, List.length_map, List.length_append, List.length_cons, List.length_nil, List.length_replicate]; omega)) rfl ?_)
        | (refine ixA (by omega) (by first | omega | (simp only [List.length_set, List.length_map, List.length_append, List.length_cons, List.length_nil, List.length_replicate]; omega)) ?_)
        | (refine ltM (by omega) (by first | omega | (simp only [List.length_set, List.length_map, List.length_append, List.length_cons, List.length_nil, List.length_replicate]; omega)) ?_)
        | (refine calI (by omega) ?_)
        | (refine cu8 (by omega) ?_)
        | (refine cu64 (by omega) ?_)
        | (refine And.intro (by omega) ?_; refine crem (by omega) ?_)
        | (refine And.intro (by omega) ?_; refine cquo (by omega) ?_)
        | (refine ⟨_, _, lk, ?_⟩)
        | (refine .inl ?_; (conv => whnf); refine ⟨_, _, lk, ?_⟩)
        | (refine .inl ?_; (conv => whnf); refine ⟨_, Has_p (b.linked (nth p c)) _ (by omega), rfl, ?_⟩)
        | (refine ⟨_, Has_p (b.linked (nth p c)) _ (by omega), rfl, ?_⟩)
        | ((with_reducible refine preI ?_); (first | refine preNil ?_ | refine preOp rfl rfl ?_ | refine preT rfl rfl rfl rfl ?_ | refine preF rfl rfl rfl rfl ?_ | refine preTS rfl rfl rfl rfl ?_ | refine preFS rfl rfl rfl rfl ?_ | refine preSkip rfl rfl rfl rfl ?_ | refine preGT rfl rfl rfl rfl ?_ | refine preGF rfl rfl rfl rfl ?_))
        | ((first | refine drawA (by decide +kernel) ?_ | refine drawA2 (by kernel_rfl) ?_); conv => whnf; (try dsimp only [St.after, St.afterAt, initSt, initT, numO, cellsA, Option.map, ren, renL, renO, St.setObj, headSt, List.cons_append, List.nil_append, List.length_nil]); try (conv => enter [7, 3]; whnf))
        | (refine ap1 (by decide) (by omega) rfl rfl ?_)
        | (refine ap0 (by decide) rfl ?_)
        | (refine apL (by decide) (by omega) (fun _ => rfl) ?_)
        | (refine apM (by decide) (by omega) (fun _ => rfl) ?_)
        | (refine setI (z := _) rfl ?_)
        | (refine And.intro (by omega) (And.intro (by omega) ?_))
        | (refine ifB_intro (fun _ => ?_) (fun _ => ?_))) <;> (conv => whnf; try dsimp only [St.after, St.afterAt, initSt, initT, numO, cellsA, Option.map, ren, renL, renO, St.setObj, headSt, List.cons_append, List.nil_append, List.length_nil]))
      · refine ⟨c + 1, ⟨[], (by kernel_rfl), (by kernel_rfl), (by kernel_rfl), ?_, ?_⟩, ?_, by (try dsimp only); omega, rfl⟩
        rotate_left 1
        focus
          conv => whnf
          repeat' (first
            | exact trivial
            | with_reducible rfl
            | (refine srcI ?_; kernel_rfl)
            | (refine nsI ?_; kernel_rfl)
            | (refine And.intro ?_ ?_ <;> conv => whnf; try dsimp only [St.after, St.afterAt, initSt, initT, numO, cellsA, Option.map, ren, renL, renO, St.setObj, headSt, List.cons_append, List.nil_append, List.length_nil]))
        rotate_right 1
        focus
          conv => whnf
          repeat' (first
            | exact trivial
            | with_reducible rfl
            | (refine srcI ?_; kernel_rfl)
            | (refine nsI ?_; kernel_rfl)
            | (refine And.intro ?_ ?_ <;> conv => whnf; try dsimp only [St.after, St.afterAt, initSt, initT, numO, cellsA, Option.map, ren, renL, renO, St.setObj, headSt, List.cons_append, List.nil_append, List.length_nil]))
        exact ⟨by omega, by omega⟩
      · rename_i q
        rw [List.contains_iff_mem.2 lc] at q
        cases q
  · repeat' ((first
      | (refine ifD (fun _ => ?_) (fun _ => ?_))
      | (refine ifE (fun _ => ?_) (fun _ => ?_))
      | (refine ifN (fun _ => ?_) (fun _ => ?_))
      | ((with_reducible refine ifNot ?_))
      | ((with_reducible refine ifAndD (fun _ _ => ?_) (fun _ => ?_)))
      | ((with_reducible refine ifAnd (fun _ _ => ?_) (fun _ => ?_)))
      | (refine ixM (by omega) (by first | omega | (simp only [List.length_set, List.length_map, List.length_append, List.length_cons, List.length_nil, List.length_replicate]; omega)) rfl ?_)
      | (refine ixA (by omega) (by first | omega | (simp only [List.length_set, List.length_map, List.length_append, List.length_cons, List.length_nil, List.length_replicate]; omega)) ?_)
      | (refine ltM (by omega) (by first | omega | (simp only [List.length_set, List.length_map, List.length_append, List.length_cons, List.length_nil, List.length_replicate]; omega)) ?_)
      | (refine calI (by omega) ?_)
      | (refine cu8 (by omega) ?_)
      | (refine cu64 (by omega) ?_)
      | (refine And.intro (by omega) ?_; refine crem (by omega) ?_)
      | (refine And.intro (by omega) ?_; refine cquo (by omega) ?_)
      | ((with_reducible refine preI ?_); (first | refine preNil ?_ | refine preOp rfl rfl ?_ | refine preT rfl rfl rfl rfl ?_ | refine preF rfl rfl rfl rfl ?_ | refine preTS rfl rfl rfl rfl ?_ | refine preFS rfl rfl rfl rfl ?_ | refine preSkip rfl rfl rfl rfl ?_ | refine preGT rfl rfl rfl rfl ?_ | refine preGF rfl rfl rfl rfl ?_))
      | ((first | refine drawA (by decide +kernel) ?_ | refine drawA2 (by kernel_rfl) ?_); conv => whnf; (try dsimp only [St.after, St.afterAt, initSt, initT, numO, cellsA, Option.map, ren, renL, renO, St.setObj, headSt, List.cons_append, List.nil_append, List.length_nil]); try (conv => enter [7, 3]; whnf))
      | (refine ap1 (by decide) (by omega) rfl rfl ?_)
      | (refine ap0 (by decide) rfl ?_)
      | (refine apL (by decide) (by omega) (fun _ => rfl) ?_)
      | (refine apM (by decide) (by omega) (fun _ => rfl) ?_)
      | (refine setI (z := _) rfl ?_)
      | (refine And.intro (by omega) (And.intro (by omega) ?_))
      | (refine ifB_intro (fun _ => ?_) (fun _ => ?_))
      | (refine exitA (by kernel_rfl) (by kernel_rfl) ⟨?_, trivial⟩ ?_ <;> (conv => whnf) <;> repeat' (first | exact trivial | with_reducible rfl | (refine srcI ?_; kernel_rfl) | (refine nsI ?_; kernel_rfl) | (refine And.intro ?_ ?_ <;> conv => whnf; try dsimp only [St.after, St.afterAt, initSt, initT, numO, cellsA, Option.map, ren, renL, renO, St.setObj, headSt, List.cons_append, List.nil_append, List.length_nil])))) <;> (conv => whnf; try dsimp only [St.after, St.afterAt, initSt, initT, numO, cellsA, Option.map, ren, renL, renO, St.setObj, headSt, List.cons_append, List.nil_append, List.length_nil]))
end Go.Proofs.Ytkecpgidolphfaa
