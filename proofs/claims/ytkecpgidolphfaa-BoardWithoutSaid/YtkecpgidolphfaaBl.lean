/- Contracts of functions of the program, proved by the checker. -/
import Derived.Test.YtkecpgidolphfaaBd
import Derived.Test.YtkecpgidolphfaaBk
namespace Go.Proofs.Ytkecpgidolphfaa
set_option linter.unusedVariables false
set_option linter.unusedSimpArgs false
open Go Go.Sk

def idx (l : List Int) (n : Int) : Int := match l.findIdx? (fun x => x == n) with | some i => (i : Int) | none => -1
theorem idx_ge (l : List Int) (n : Int) : decide (idx l n ≥ 0) = l.contains n := by
  unfold idx
  cases hf : l.findIdx? (fun x => x == n) with
  | none =>
    rw [List.findIdx?_eq_none_iff] at hf
    have : l.contains n = false := by
      rw [Bool.eq_false_iff]
      intro h
      rw [List.contains_iff_mem] at h
      have := hf n h
      simp at this
    rw [this]; rfl
  | some i =>
    obtain ⟨h1, h2, _⟩ := List.findIdx?_eq_some_iff_getElem.1 hf
    have : l.contains n = true := List.contains_iff_mem.2 (by rw [← eq_of_beq h2]; exact List.getElem_mem _)
    rw [this]
    exact decide_eq_true (show (i : Int) ≥ 0 by omega)

set_option maxRecDepth 10000 in
theorem Index_p (l : List Int) (n : Int) (hl : l.length ≤ 4611686018427387904) : Pure Try.prog 46 [Is l, I n] (I (idx l n)) none := by
  refine fun_of tok D_ok Try.func46 rfl Try.ntmps46 Try.results46 (by kernel_rfl) (by simp) (by simp) ?_
  have e : l.length = (l.map I).length := by simp
  conv => whnf
  refine .of (fun i => [(8, I i)]) (fun i => []) 0 (fun i => 0 ≤ i ∧ i ≤ l.length ∧ n ∉ l.take i.toNat) (fun i => (l.length - i).toNat) 0 ?_
  conv => whnf
  refine ⟨⟨[], (by kernel_rfl), (by kernel_rfl), (by kernel_rfl), ?_, ?_⟩, ?_, fun i ⟨h0, h1, ht⟩ => ?_⟩
  rotate_left 1
  focus
    conv => whnf
    repeat' (first
      | exact trivial
      | with_reducible rfl
      | (refine srcI ?_; kernel_rfl)
      | (refine nsI ?_; kernel_rfl)
      | (refine And.intro ?_ ?_ <;> conv => whnf; try dsimp only [St.after, St.afterAt, initSt, initT, numO, cellsA, Option.map, ren, renL, renO, St.setObj, headSt, List.cons_append, List.nil_append, List.length_nil])
      | rfl)
  rotate_right 1
  focus
    conv => whnf
    repeat' (first
      | exact trivial
      | with_reducible rfl
      | (refine srcI ?_; kernel_rfl)
      | (refine nsI ?_; kernel_rfl)
      | (refine And.intro ?_ ?_ <;> conv => whnf; try dsimp only [St.after, St.afterAt, initSt, initT, numO, cellsA, Option.map, ren, renL, renO, St.setObj, headSt, List.cons_append, List.nil_append, List.length_nil])
      | rfl)
  rotate_right 1
  focus
    conv => whnf
  rotate_left 1
  · exact ⟨by omega, by omega, by simp⟩
  repeat' ((first
    | (refine ifD (fun _ => ?_) (fun _ => ?_))
    | (refine ifE (fun _ => ?_) (fun _ => ?_))
    | (refine ifN (fun _ => ?_) (fun _ => ?_))
    | ((with_reducible refine ifNot ?_))
    | ((with_reducible refine ifAndD (fun _ _ => ?_) (fun _ => ?_)))
    | ((with_reducible refine ifAnd (fun _ _ => ?_) (fun _ => ?_)))
    | (refine ixM (by omega) (by first | omega | (simp only [List.length_set, List.length_map, List.length_append, List.length_cons, List.length_nil, List.length_replicate]; omega)) rfl ?_)
    | (refine ixA (by omega) (by first | omega | (simp only [List.length_set, List.length_map, List.length_append, List.length_cons, List.length_nil, List.length_replicate]; omega)) ?_)
    | (refine ltM (by omega) (by first | omega | (simp only [List.length_set, List.length_map, List.length_append, List.length_cons, List.length_nil, List.length_replicate]; omega)) ?_)
    | (refine calI (by omega) ?_)
    | (refine cu8 (by omega) ?_)
    | (refine cu64 (by omega) ?_)
    | (refine And.intro (by omega) ?_; refine crem (by omega) ?_)
    | (refine And.intro (by omega) ?_; refine cquo (by omega) ?_)
    | ((with_reducible refine preI ?_); (first | refine preNil ?_ | refine preOp rfl rfl ?_ | refine preT rfl rfl rfl rfl ?_ | refine preF rfl rfl rfl rfl ?_ | refine preTS rfl rfl rfl rfl ?_ | refine preFS rfl rfl rfl rfl ?_ | refine preSkip rfl rfl rfl rfl ?_ | refine preGT rfl rfl rfl rfl ?_ | refine preGF rfl rfl rfl rfl ?_))
    | ((first | refine drawA (by decide +kernel) ?_ | refine drawA2 (by kernel_rfl) ?_); conv => whnf; (try dsimp only [St.after, St.afterAt, initSt, initT, numO, cellsA, Option.map, ren, renL, renO, St.setObj, headSt, List.cons_append, List.nil_append, List.length_nil]); try (conv => enter [7, 3]; whnf))
    | (refine ap1 (by decide) (by omega) rfl rfl ?_)
    | (refine ap0 (by decide) rfl ?_)
    | (refine apL (by decide) (by omega) (fun _ => rfl) ?_)
    | (refine apM (by decide) (by omega) (fun _ => rfl) ?_)
    | (refine setI (z := _) rfl ?_)
    | (refine And.intro (by omega) (And.intro (by omega) ?_))
    | (refine ifB_intro (fun _ => ?_) (fun _ => ?_))
    | (refine exitA (by kernel_rfl) (by kernel_rfl) ⟨?_, trivial⟩ ?_ <;> (conv => whnf) <;> repeat' (first | exact trivial | with_reducible rfl | (refine srcI ?_; kernel_rfl) | (refine nsI ?_; kernel_rfl) | (refine And.intro ?_ ?_ <;> conv => whnf; try dsimp only [St.after, St.afterAt, initSt, initT, numO, cellsA, Option.map, ren, renL, renO, St.setObj, headSt, List.cons_append, List.nil_append, List.length_nil])))) <;> (conv => whnf; try dsimp only [St.after, St.afterAt, initSt, initT, numO, cellsA, Option.map, ren, renL, renO, St.setObj, headSt, List.cons_append, List.nil_append, List.length_nil]))
  · rename_i h
    have hf : l.findIdx? (fun x => x == n) = some i.toNat := by
      rw [List.findIdx?_eq_some_iff_getElem]
      refine ⟨by omega, ?_, fun j hj => ?_⟩
      · have := nth_some h0 (show i < l.length by omega)
        rw [List.getElem?_eq_getElem (by omega)] at this
        injection this with this
        rw [this, h]; simp
      · intro he
        exact ht (List.mem_take_iff_getElem.2 ⟨j, by omega, eq_of_beq he⟩)
    unfold idx
    rw [hf]
    show Value.int .i64 i = Value.int .i64 ((i.toNat : Int))
    rw [Int.toNat_of_nonneg h0]
  · rename_i h
    refine ⟨i + 1, ⟨[], (by kernel_rfl), (by kernel_rfl), (by kernel_rfl), ?_, ?_⟩, ?_, by (try dsimp only); omega, rfl⟩
    rotate_left 1
    focus
      conv => whnf
      repeat' (first
        | exact trivial
        | with_reducible rfl
        | (refine srcI ?_; kernel_rfl)
        | (refine nsI ?_; kernel_rfl)
        | (refine And.intro ?_ ?_ <;> conv => whnf; try dsimp only [St.after, St.afterAt, initSt, initT, numO, cellsA, Option.map, ren, renL, renO, St.setObj, headSt, List.cons_append, List.nil_append, List.length_nil]))
    rotate_right 1
    focus
      conv => whnf
      repeat' (first
        | exact trivial
        | with_reducible rfl
        | (refine srcI ?_; kernel_rfl)
        | (refine nsI ?_; kernel_rfl)
        | (refine And.intro ?_ ?_ <;> conv => whnf; try dsimp only [St.after, St.afterAt, initSt, initT, numO, cellsA, Option.map, ren, renL, renO, St.setObj, headSt, List.cons_append, List.nil_append, List.length_nil]))
    refine ⟨by omega, by omega, ?_⟩
    rw [take_snoc h0 (by omega)]
    simp [ht, h]
  · have hf : l.findIdx? (fun x => x == n) = none := by
      rw [List.findIdx?_eq_none_iff]
      intro c hc
      rw [take_all (by omega)] at ht
      simp only [beq_eq_false_iff_ne]
      rintro rfl
      exact ht hc
    unfold idx
    rw [hf]
set_option maxRecDepth 10000 in
theorem Contains_p (l : List Int) (n : Int) (hl : l.length ≤ 4611686018427387904) : Pure Try.prog 37 [Is l, I n] (Bo (l.contains n)) none := by
  refine fun_of tok D_ok Try.func37 rfl Try.ntmps37 Try.results37 (by kernel_rfl) (by simp) (by simp) ?_
  conv => whnf
  repeat' ((first
    | (refine ifD (fun _ => ?_) (fun _ => ?_))
    | (refine ifE (fun _ => ?_) (fun _ => ?_))
    | (refine ifN (fun _ => ?_) (fun _ => ?_))
    | ((with_reducible refine ifNot ?_))
    | ((with_reducible refine ifAndD (fun _ _ => ?_) (fun _ => ?_)))
    | ((with_reducible refine ifAnd (fun _ _ => ?_) (fun _ => ?_)))
    | (refine ixM (by omega) (by first | omega | (simp only [List.length_set, List.length_map, List.length_append, List.length_cons, List.length_nil, List.length_replicate]; omega)) rfl ?_)
    | (refine ixA (by omega) (by first | omega | (simp only [List.length_set, List.length_map, List.length_append, List.length_cons, List.length_nil, List.length_replicate]; omega)) ?_)
    | (refine ltM (by omega) (by first | omega | (simp only [List.length_set, List.length_map, List.length_append, List.length_cons, List.length_nil, List.length_replicate]; omega)) ?_)
    | (refine calI (by omega) ?_)
    | (refine cu8 (by omega) ?_)
    | (refine cu64 (by omega) ?_)
    | (refine And.intro (by omega) ?_; refine crem (by omega) ?_)
    | (refine And.intro (by omega) ?_; refine cquo (by omega) ?_)
    | (refine ⟨_, _, Index_p l n hl, ?_⟩)
    | (refine .inl ?_; (conv => whnf); refine ⟨_, _, Index_p l n hl, ?_⟩)
    | ((with_reducible refine preI ?_); (first | refine preNil ?_ | refine preOp rfl rfl ?_ | refine preT rfl rfl rfl rfl ?_ | refine preF rfl rfl rfl rfl ?_ | refine preTS rfl rfl rfl rfl ?_ | refine preFS rfl rfl rfl rfl ?_ | refine preSkip rfl rfl rfl rfl ?_ | refine preGT rfl rfl rfl rfl ?_ | refine preGF rfl rfl rfl rfl ?_))
    | ((first | refine drawA (by decide +kernel) ?_ | refine drawA2 (by kernel_rfl) ?_); conv => whnf; (try dsimp only [St.after, St.afterAt, initSt, initT, numO, cellsA, Option.map, ren, renL, renO, St.setObj, headSt, List.cons_append, List.nil_append, List.length_nil]); try (conv => enter [7, 3]; whnf))
    | (refine ap1 (by decide) (by omega) rfl rfl ?_)
    | (refine ap0 (by decide) rfl ?_)
    | (refine apL (by decide) (by omega) (fun _ => rfl) ?_)
    | (refine apM (by decide) (by omega) (fun _ => rfl) ?_)
    | (refine setI (z := _) rfl ?_)
    | (refine And.intro (by omega) (And.intro (by omega) ?_))
    | (refine ifB_intro (fun _ => ?_) (fun _ => ?_))
    | (refine exitA (by kernel_rfl) (by kernel_rfl) ⟨?_, trivial⟩ ?_ <;> (conv => whnf) <;> repeat' (first | exact trivial | with_reducible rfl | (refine srcI ?_; kernel_rfl) | (refine nsI ?_; kernel_rfl) | (refine And.intro ?_ ?_ <;> conv => whnf; try dsimp only [St.after, St.afterAt, initSt, initT, numO, cellsA, Option.map, ren, renL, renO, St.setObj, headSt, List.cons_append, List.nil_append, List.length_nil])))) <;> (conv => whnf; try dsimp only [St.after, St.afterAt, initSt, initT, numO, cellsA, Option.map, ren, renL, renO, St.setObj, headSt, List.cons_append, List.nil_append, List.length_nil]))
  rw [← idx_ge]

theorem nodup_sub_len : ∀ {a b : List Int}, a.Nodup → (∀ x, x ∈ a → x ∈ b) → a.length ≤ b.length
  | [], _, _, _ => by simp
  | x :: a, b, hn, hs => by
    rw [List.nodup_cons] at hn
    have hb := hs x (by simp)
    have := nodup_sub_len (b := b.erase x) hn.2 fun y hy => by
      have hne : y ≠ x := fun e => hn.1 (e ▸ hy)
      exact (List.mem_erase_of_ne hne).2 (hs y (by simp [hy]))
    rw [List.length_erase_of_mem hb] at this
    have := List.length_pos_of_mem hb
    simp only [List.length_cons]
    omega
theorem cells_len {l : List Int} {n : Int} (hn : l.Nodup) (h : ∀ x, x ∈ l → 0 ≤ x ∧ x < n) : l.length ≤ n.toNat := by
  have := nodup_sub_len hn (b := ints n) fun x hx => mem_ints.2 (h x hx)
  rwa [ints_len] at this

/-- A line goes on. -/
def Bd.lineFrom (b : Bd) (s d c : Int) : Nat → List Int → Int → List Int
  | 0, out, _ => out
  | n + 1, out, x => if 0 ≤ x ∧ x ≠ c ∧ x ∉ out then b.lineFrom s d c n (out ++ [x]) (b.to s d x) else out
def Bd.line (b : Bd) (s d c : Int) : List Int := b.lineFrom s d c 65 [] (b.to s d c)

structure Bd.lineI (b : Bd) (s d c : Int) (out : List Int) (x : Int) : Prop where
  nd : out.Nodup
  rg : ∀ y, y ∈ out → 0 ≤ y ∧ y < b.cells
  xl : x < b.cells
  eq : b.lineFrom s d c (65 - out.length) out x = b.line s d c
theorem Bd.lineI_zero {b : Bd} (hb : b.ok) (s d c : Int) : b.lineI s d c [] (b.to s d c) := ⟨List.nodup_nil, by simp, (b.to_lt hb s d c).2, rfl⟩
theorem Bd.lineI_len {b : Bd} (hb : b.ok) {s d c : Int} {out : List Int} {x : Int} (h : b.lineI s d c out x) : out.length ≤ b.cells.toNat ∧ out.length ≤ 64 := by
  have := cells_len h.nd h.rg
  have := hb.c64
  omega
theorem Bd.lineFrom_go (b : Bd) {s d c : Int} {n : Nat} {out : List Int} {x : Int} (h : 0 ≤ x ∧ x ≠ c ∧ x ∉ out) : b.lineFrom s d c (n + 1) out x = b.lineFrom s d c n (out ++ [x]) (b.to s d x) := if_pos h
theorem Bd.lineFrom_end (b : Bd) {s d c : Int} {n : Nat} {out : List Int} {x : Int} (h : ¬ (0 ≤ x ∧ x ≠ c ∧ x ∉ out)) : b.lineFrom s d c (n + 1) out x = out := if_neg h
theorem Bd.lineI_succ {b : Bd} (hb : b.ok) {s d c : Int} {out : List Int} {x : Int} (h : b.lineI s d c out x) (h1 : 0 ≤ x) (h2 : x ≠ c) (h3 : x ∉ out) : b.lineI s d c (out ++ [x]) (b.to s d x) := by
  have hl := (b.lineI_len hb h).2
  refine ⟨?_, fun y hy => ?_, (b.to_lt hb s d x).2, ?_⟩
  · rw [List.nodup_append]
    exact ⟨h.nd, by simp, fun a ha b hb => by simp at hb; subst hb; rintro rfl; exact h3 ha⟩
  · rcases List.mem_append.1 hy with hy | hy
    · exact h.rg y hy
    · simp at hy; subst hy; exact ⟨h1, h.xl⟩
  · rw [← h.eq, show 65 - out.length = (64 - out.length) + 1 by omega, b.lineFrom_go ⟨h1, h2, h3⟩, List.length_append]
    have : 65 - (out.length + [x].length) = 64 - out.length := by simp only [List.length_cons, List.length_nil]; omega
    rw [this]
theorem Bd.lineI_end {b : Bd} (hb : b.ok) {s d c : Int} {out : List Int} {x : Int} (h : b.lineI s d c out x) (h1 : ¬ (0 ≤ x ∧ x ≠ c ∧ x ∉ out)) : out = b.line s d c := by
  have hl := (b.lineI_len hb h).2
  rw [← h.eq, show 65 - out.length = (64 - out.length) + 1 by omega, b.lineFrom_end h1]

set_option maxHeartbeats 4000000 in
set_option maxRecDepth 10000 in
theorem Line25_p (b : Bd) (hb : b.ok) (s d c : Int) : Pure Try.prog 25 [b.av, I s, I d, I c] (.ref 0) (some (.arr 1 ((b.line s d c).map I))) := by
  refine fun_of tok D_ok Try.func25 rfl Try.ntmps25 Try.results25 (by kernel_rfl) (by simp) (by simp) ?_
  conv => whnf
  repeat' ((first
    | (refine ifD (fun _ => ?_) (fun _ => ?_))
    | (refine ifE (fun _ => ?_) (fun _ => ?_))
    | (refine ifN (fun _ => ?_) (fun _ => ?_))
    | ((with_reducible refine ifNot ?_))
    | ((with_reducible refine ifAndD (fun _ _ => ?_) (fun _ => ?_)))
    | ((with_reducible refine ifAnd (fun _ _ => ?_) (fun _ => ?_)))
    | (refine ixM (by omega) (by first | omega | (simp only [List.length_set, List.length_map, List.length_append, List.length_cons, List.length_nil, List.length_replicate]; omega)) rfl ?_)
    | (refine ixA (by omega) (by first | omega | (simp only [List.length_set, List.length_map, List.length_append, List.length_cons, List.length_nil, List.length_replicate]; omega)) ?_)
    | (refine ltM (by omega) (by first | omega | (simp only [List.length_set, List.length_map, List.length_append, List.length_cons, List.length_nil, List.length_replicate]; omega)) ?_)
    | (refine calI (by omega) ?_)
    | (refine cu8 (by omega) ?_)
    | (refine cu64 (by omega) ?_)
    | (refine And.intro (by omega) ?_; refine crem (by omega) ?_)
    | (refine And.intro (by omega) ?_; refine cquo (by omega) ?_)
    | (refine ⟨_, _, To23_p b hb _ _ _, ?_⟩)
    | (refine .inl ?_; (conv => whnf); refine ⟨_, _, To23_p b hb _ _ _, ?_⟩)
    | ((with_reducible refine preI ?_); (first | refine preNil ?_ | refine preOp rfl rfl ?_ | refine preT rfl rfl rfl rfl ?_ | refine preF rfl rfl rfl rfl ?_ | refine preTS rfl rfl rfl rfl ?_ | refine preFS rfl rfl rfl rfl ?_ | refine preSkip rfl rfl rfl rfl ?_ | refine preGT rfl rfl rfl rfl ?_ | refine preGF rfl rfl rfl rfl ?_))
    | ((first | refine drawA (by decide +kernel) ?_ | refine drawA2 (by kernel_rfl) ?_); conv => whnf; (try dsimp only [St.after, St.afterAt, initSt, initT, numO, cellsA, Option.map, ren, renL, renO, St.setObj, headSt, List.cons_append, List.nil_append, List.length_nil]); try (conv => enter [7, 3]; whnf))
    | (refine ap1 (by decide) (by omega) rfl rfl ?_)
    | (refine ap0 (by decide) rfl ?_)
    | (refine apL (by decide) (by omega) (fun _ => rfl) ?_)
    | (refine apM (by decide) (by omega) (fun _ => rfl) ?_)
    | (refine setI (z := _) rfl ?_)
    | (refine And.intro (by omega) (And.intro (by omega) ?_))
    | (refine ifB_intro (fun _ => ?_) (fun _ => ?_))) <;> (conv => whnf; try dsimp only [St.after, St.afterAt, initSt, initT, numO, cellsA, Option.map, ren, renL, renO, St.setObj, headSt, List.cons_append, List.nil_append, List.length_nil]))
  refine .of (fun p => [(10, I p.2), (9, .ref 1)]) (fun p => [(1, .arr 1 (p.1.map I))]) 2 (fun p => b.lineI s d c p.1 p.2) (fun p => (b.cells - p.1.length).toNat) (([] : List Int), b.to s d c) ?_
  conv => whnf
  refine ⟨⟨[], (by kernel_rfl), (by kernel_rfl), (by kernel_rfl), ?_, ?_⟩, ?_, fun p hp => ?_⟩
  rotate_left 1
  focus
    conv => whnf
    repeat' (first
      | exact trivial
      | with_reducible rfl
      | (refine srcI ?_; kernel_rfl)
      | (refine nsI ?_; kernel_rfl)
      | (refine And.intro ?_ ?_ <;> conv => whnf; try dsimp only [St.after, St.afterAt, initSt, initT, numO, cellsA, Option.map, ren, renL, renO, St.setObj, headSt, List.cons_append, List.nil_append, List.length_nil])
      | rfl)
  rotate_right 1
  focus
    conv => whnf
    repeat' (first
      | exact trivial
      | with_reducible rfl
      | (refine srcI ?_; kernel_rfl)
      | (refine nsI ?_; kernel_rfl)
      | (refine And.intro ?_ ?_ <;> conv => whnf; try dsimp only [St.after, St.afterAt, initSt, initT, numO, cellsA, Option.map, ren, renL, renO, St.setObj, headSt, List.cons_append, List.nil_append, List.length_nil])
      | rfl)
  rotate_right 1
  focus
    conv => whnf
  rotate_left 1
  · exact b.lineI_zero hb s d c
  have hl := b.lineI_len hb hp
  have c1 := hb.c1
  repeat' ((first
    | (refine ifD (fun _ => ?_) (fun _ => ?_))
    | (refine ifE (fun _ => ?_) (fun _ => ?_))
    | (refine ifN (fun _ => ?_) (fun _ => ?_))
    | ((with_reducible refine ifNot ?_))
    | ((with_reducible refine ifAndD (fun _ _ => ?_) (fun _ => ?_)))
    | ((with_reducible refine ifAnd (fun _ _ => ?_) (fun _ => ?_)))
    | (refine ixM (by omega) (by first | omega | (simp only [List.length_set, List.length_map, List.length_append, List.length_cons, List.length_nil, List.length_replicate]; omega)) rfl ?_)
    | (refine ixA (by omega) (by first | omega | (simp only [List.length_set, List.length_map, List.length_append, List.length_cons, List.length_nil, List.length_replicate]; omega)) ?_)
    | (refine ltM (by omega) (by first | omega | (simp only [List.length_set, List.length_map, List.length_append, List.length_cons, List.length_nil, List.length_replicate]; omega)) ?_)
    | (refine calI (by omega) ?_)
    | (refine cu8 (by omega) ?_)
    | (refine cu64 (by omega) ?_)
    | (refine And.intro (by omega) ?_; refine crem (by omega) ?_)
    | (refine And.intro (by omega) ?_; refine cquo (by omega) ?_)
    | (refine ⟨_, _, To23_p b hb _ _ _, ?_⟩)
    | (refine .inl ?_; (conv => whnf); refine ⟨_, _, To23_p b hb _ _ _, ?_⟩)
    | (refine .inl ?_; (conv => whnf); refine ⟨_, Has_p p.1 p.2 (by omega), rfl, ?_⟩; conv => whnf)
    | ((with_reducible refine preI ?_); (first | refine preNil ?_ | refine preOp rfl rfl ?_ | refine preT rfl rfl rfl rfl ?_ | refine preF rfl rfl rfl rfl ?_ | refine preTS rfl rfl rfl rfl ?_ | refine preFS rfl rfl rfl rfl ?_ | refine preSkip rfl rfl rfl rfl ?_ | refine preGT rfl rfl rfl rfl ?_ | refine preGF rfl rfl rfl rfl ?_))
    | ((first | refine drawA (by decide +kernel) ?_ | refine drawA2 (by kernel_rfl) ?_); conv => whnf; (try dsimp only [St.after, St.afterAt, initSt, initT, numO, cellsA, Option.map, ren, renL, renO, St.setObj, headSt, List.cons_append, List.nil_append, List.length_nil]); try (conv => enter [7, 3]; whnf))
    | (refine ap1 (by decide) (by omega) rfl rfl ?_)
    | (refine ap0 (by decide) rfl ?_)
    | (refine apL (by decide) (by omega) (fun _ => rfl) ?_)
    | (refine apM (by decide) (by omega) (fun _ => rfl) ?_)
    | (refine setI (z := _) rfl ?_)
    | (refine And.intro (by omega) (And.intro (by omega) ?_))
    | (refine ifB_intro (fun _ => ?_) (fun _ => ?_))) <;> (conv => whnf; try dsimp only [St.after, St.afterAt, initSt, initT, numO, cellsA, Option.map, ren, renL, renO, St.setObj, headSt, List.cons_append, List.nil_append, List.length_nil]))
  · rename_i h4
    repeat' ((first
      | (refine ifD (fun _ => ?_) (fun _ => ?_))
      | (refine ifE (fun _ => ?_) (fun _ => ?_))
      | (refine ifN (fun _ => ?_) (fun _ => ?_))
      | ((with_reducible refine ifNot ?_))
      | ((with_reducible refine ifAndD (fun _ _ => ?_) (fun _ => ?_)))
      | ((with_reducible refine ifAnd (fun _ _ => ?_) (fun _ => ?_)))
      | (refine ixM (by omega) (by first | omega | (simp only [List.length_set, List.length_map, List.length_append, List.length_cons, List.length_nil, List.length_replicate]; omega)) rfl ?_)
      | (refine ixA (by omega) (by first | omega | (simp only [List.length_set, List.length_map, List.length_append, List.length_cons, List.length_nil, List.length_replicate]; omega)) ?_)
      | (refine ltM (by omega) (by first | omega | (simp only [List.length_set, List.length_map, List.length_append, List.length_cons, List.length_nil, List.length_replicate]; omega)) ?_)
      | (refine calI (by omega) ?_)
      | (refine cu8 (by omega) ?_)
      | (refine cu64 (by omega) ?_)
      | (refine And.intro (by omega) ?_; refine crem (by omega) ?_)
      | (refine And.intro (by omega) ?_; refine cquo (by omega) ?_)
      | ((with_reducible refine preI ?_); (first | refine preNil ?_ | refine preOp rfl rfl ?_ | refine preT rfl rfl rfl rfl ?_ | refine preF rfl rfl rfl rfl ?_ | refine preTS rfl rfl rfl rfl ?_ | refine preFS rfl rfl rfl rfl ?_ | refine preSkip rfl rfl rfl rfl ?_ | refine preGT rfl rfl rfl rfl ?_ | refine preGF rfl rfl rfl rfl ?_))
      | ((first | refine drawA (by decide +kernel) ?_ | refine drawA2 (by kernel_rfl) ?_); conv => whnf; (try dsimp only [St.after, St.afterAt, initSt, initT, numO, cellsA, Option.map, ren, renL, renO, St.setObj, headSt, List.cons_append, List.nil_append, List.length_nil]); try (conv => enter [7, 3]; whnf))
      | (refine ap1 (by decide) (by omega) rfl rfl ?_)
      | (refine ap0 (by decide) rfl ?_)
      | (refine apL (by decide) (by omega) (fun _ => rfl) ?_)
      | (refine apM (by decide) (by omega) (fun _ => rfl) ?_)
      | (refine setI (z := _) rfl ?_)
      | (refine And.intro (by omega) (And.intro (by omega) ?_))
      | (refine ifB_intro (fun _ => ?_) (fun _ => ?_))
      | (refine exitA (by kernel_rfl) (by kernel_rfl) ⟨?_, trivial⟩ ?_ <;> (conv => whnf) <;> repeat' (first | exact trivial | with_reducible rfl | (refine srcI ?_; kernel_rfl) | (refine nsI ?_; kernel_rfl) | (refine And.intro ?_ ?_ <;> conv => whnf; try dsimp only [St.after, St.afterAt, initSt, initT, numO, cellsA, Option.map, ren, renL, renO, St.setObj, headSt, List.cons_append, List.nil_append, List.length_nil])))) <;> (conv => whnf; try dsimp only [St.after, St.afterAt, initSt, initT, numO, cellsA, Option.map, ren, renL, renO, St.setObj, headSt, List.cons_append, List.nil_append, List.length_nil]))
    rw [b.lineI_end hb hp]
    rintro ⟨h1, h2, h3⟩
    rw [List.contains_iff_mem] at h4; exact h3 h4
  · rename_i h1 h2 h3
    have hn : p.2 ∉ p.1 := fun h => by rw [List.contains_iff_mem.2 h] at h3; cases h3
    refine ⟨(p.1 ++ [p.2], b.to s d p.2), ⟨[], rfl, rfl, rfl, ?_, ?_⟩, b.lineI_succ hb hp h1 h2 hn, ?_, rfl⟩
    · conv => whnf
      repeat' (first
        | exact trivial
        | with_reducible rfl
        | (refine srcI ?_; kernel_rfl)
        | (refine nsI ?_; kernel_rfl)
        | (refine And.intro ?_ ?_ <;> conv => whnf; try dsimp only [St.after, St.afterAt, initSt, initT, numO, cellsA, Option.map, ren, renL, renO, St.setObj, headSt, List.cons_append, List.nil_append, List.length_nil]))
    ·
      conv => whnf
      repeat' (first
        | exact trivial
        | with_reducible rfl
        | (refine srcI ?_; kernel_rfl)
        | (refine nsI ?_; kernel_rfl)
        | (refine And.intro ?_ ?_ <;> conv => whnf; try dsimp only [St.after, St.afterAt, initSt, initT, numO, cellsA, Option.map, ren, renL, renO, St.setObj, headSt, List.cons_append, List.nil_append, List.length_nil]))
    · have := (b.lineI_len hb (b.lineI_succ hb hp h1 h2 hn)).1
      simp only [List.length_append, List.length_cons, List.length_nil] at this ⊢
      omega
  iterate 2
    ·
      repeat' ((first
        | (refine ifD (fun _ => ?_) (fun _ => ?_))
        | (refine ifE (fun _ => ?_) (fun _ => ?_))
        | (refine ifN (fun _ => ?_) (fun _ => ?_))
        | ((with_reducible refine ifNot ?_))
        | ((with_reducible refine ifAndD (fun _ _ => ?_) (fun _ => ?_)))
        | ((with_reducible refine ifAnd (fun _ _ => ?_) (fun _ => ?_)))
        | (refine ixM (by omega) (by first | omega | (simp only [List.length_set, List.length_map, List.length_append, List.length_cons, List.length_nil, List.length_replicate]; omega)) rfl ?_)
        | (refine ixA (by omega) (by first | omega | (simp only [List.length_set, List.length_map, List.length_append, List.length_cons, List.length_nil, List.length_replicate]; omega)) ?_)
        | (refine ltM (by omega) (by first | omega | (simp only [List.length_set, List.length_map, List.length_append, List.length_cons, List.length_nil, List.length_replicate]; omega)) ?_)
        | (refine calI (by omega) ?_)
        | (refine cu8 (by omega) ?_)
        | (refine cu64 (by omega) ?_)
        | (refine And.intro (by omega) ?_; refine crem (by omega) ?_)
        | (refine And.intro (by omega) ?_; refine cquo (by omega) ?_)
        | ((with_reducible refine preI ?_); (first | refine preNil ?_ | refine preOp rfl rfl ?_ | refine preT rfl rfl rfl rfl ?_ | refine preF rfl rfl rfl rfl ?_ | refine preTS rfl rfl rfl rfl ?_ | refine preFS rfl rfl rfl rfl ?_ | refine preSkip rfl rfl rfl rfl ?_ | refine preGT rfl rfl rfl rfl ?_ | refine preGF rfl rfl rfl rfl ?_))
        | ((first | refine drawA (by decide +kernel) ?_ | refine drawA2 (by kernel_rfl) ?_); conv => whnf; (try dsimp only [St.after, St.afterAt, initSt, initT, numO, cellsA, Option.map, ren, renL, renO, St.setObj, headSt, List.cons_append, List.nil_append, List.length_nil]); try (conv => enter [7, 3]; whnf))
        | (refine ap1 (by decide) (by omega) rfl rfl ?_)
        | (refine ap0 (by decide) rfl ?_)
        | (refine apL (by decide) (by omega) (fun _ => rfl) ?_)
        | (refine apM (by decide) (by omega) (fun _ => rfl) ?_)
        | (refine setI (z := _) rfl ?_)
        | (refine And.intro (by omega) (And.intro (by omega) ?_))
        | (refine ifB_intro (fun _ => ?_) (fun _ => ?_))
        | (refine exitA (by kernel_rfl) (by kernel_rfl) ⟨?_, trivial⟩ ?_ <;> (conv => whnf) <;> repeat' (first | exact trivial | with_reducible rfl | (refine srcI ?_; kernel_rfl) | (refine nsI ?_; kernel_rfl) | (refine And.intro ?_ ?_ <;> conv => whnf; try dsimp only [St.after, St.afterAt, initSt, initT, numO, cellsA, Option.map, ren, renL, renO, St.setObj, headSt, List.cons_append, List.nil_append, List.length_nil])))) <;> (conv => whnf; try dsimp only [St.after, St.afterAt, initSt, initT, numO, cellsA, Option.map, ren, renL, renO, St.setObj, headSt, List.cons_append, List.nil_append, List.length_nil]))
      rw [b.lineI_end hb hp]
      rintro ⟨h1, h2, h3⟩
      omega
end Go.Proofs.Ytkecpgidolphfaa
