/- Contracts of functions of the program, proved by the checker. -/
import Derived.Test.YtkecpgidolphfaaTab
namespace Go.Proofs.Ytkecpgidolphfaa
set_option linter.unusedVariables false
set_option linter.unusedSimpArgs false
open Go Go.Sk

def D : Draw := vcDrawE Try.prog tab
theorem D_ok : DOK Try.prog D := vcDrawE_ok tok (by kernel_rfl)

def I (n : Int) : AV := .v (.int .i64 n)
def Bo (b : Bool) : AV := .v (.bool b)
def Is (l : List Int) : AV := .sl (l.map I)
def Iss (l : List (List Int)) : AV := .sl (l.map Is)

theorem nth_mem {α : Type} [Inhabited α] {l : List α} {i : Int} (h0 : 0 ≤ i) (h : i < l.length) : nth l i ∈ l := List.mem_of_getElem? (nth_some h0 h)
theorem take_snoc {α : Type} [Inhabited α] {l : List α} {i : Int} (h0 : 0 ≤ i) (h : i < l.length) : l.take (i + 1).toNat = l.take i.toNat ++ [nth l i] := by
  rw [show (i + 1).toNat = i.toNat + 1 by omega, List.take_succ_eq_append_getElem (by omega)]
  unfold nth; rw [List.getD_eq_getElem?_getD, List.getElem?_eq_getElem (by omega)]; rfl
theorem take_all {α : Type} {l : List α} {i : Int} (h : l.length ≤ i) : l.take i.toNat = l := List.take_of_length_le (by omega)
theorem mem_nth {α : Type} [Inhabited α] {l : List α} {x : α} (h : x ∈ l) : ∃ i : Int, 0 ≤ i ∧ i < l.length ∧ nth l i = x := by
  obtain ⟨i, h1, h2⟩ := List.mem_iff_getElem.1 h
  refine ⟨i, by omega, by omega, ?_⟩
  have := nth_some (l := l) (i := (i : Int)) (by omega) (by omega)
  rw [show ((i : Int)).toNat = i by omega, List.getElem?_eq_getElem h1] at this
  injection this with this
  rw [← this, h2]
theorem all_nth {α : Type} [Inhabited α] {l : List α} {p : α → Prop} : (∀ x, x ∈ l → p x) ↔ ∀ i : Int, 0 ≤ i → i < l.length → p (nth l i) :=
  ⟨fun h i h0 h1 => h _ (nth_mem h0 h1), fun h x hx => by obtain ⟨i, h0, h1, rfl⟩ := mem_nth hx; exact h i h0 h1⟩
theorem nth_map {α β : Type} [Inhabited α] [Inhabited β] {l : List α} {f : α → β} {i : Int} (h0 : 0 ≤ i) (h : i < l.length) : nth (l.map f) i = f (nth l i) := by
  have h1 := nth_some (l := l.map f) (i := i) h0 (by rw [List.length_map]; exact h)
  rw [List.getElem?_map, nth_some h0 h] at h1
  injection h1 with h1
  exact h1.symm
theorem ext_nth {α : Type} [Inhabited α] {l r : List α} (hl : l.length = r.length) (h : ∀ i : Int, 0 ≤ i → i < l.length → nth l i = nth r i) : l = r := by
  refine List.ext_getElem? fun k => ?_
  rcases Nat.lt_or_ge k l.length with hk | hk
  · have h1 := nth_some (l := l) (i := (k : Int)) (by omega) (by omega)
    have h2 := nth_some (l := r) (i := (k : Int)) (by omega) (by omega)
    rw [show ((k : Int)).toNat = k by omega] at h1 h2
    rw [h1, h2, h k (by omega) (by omega)]
  · rw [List.getElem?_eq_none hk, List.getElem?_eq_none (by omega)]
theorem nth_append_left {α : Type} [Inhabited α] {l r : List α} {i : Int} (h0 : 0 ≤ i) (h : i < l.length) : nth (l ++ r) i = nth l i := by
  unfold nth; rw [List.getD_eq_getElem?_getD, List.getD_eq_getElem?_getD, List.getElem?_append_left (by omega)]
theorem nth_append_len {α : Type} [Inhabited α] {l : List α} {x : α} {i : Int} (h : i = l.length) : nth (l ++ [x]) i = x := by
  subst h; unfold nth; rw [List.getD_eq_getElem?_getD, show ((l.length : Int)).toNat = l.length by omega, List.getElem?_append_right (Nat.le_refl _)]; simp
theorem nth_set_eq {α : Type} [Inhabited α] {l : List α} {x : α} {i : Int} (h0 : 0 ≤ i) (h : i < l.length) : nth (l.set i.toNat x) i = x := by
  unfold nth; rw [List.getD_eq_getElem?_getD, List.getElem?_set_self (by omega)]; rfl
theorem nth_set_ne {α : Type} [Inhabited α] {l : List α} {x : α} {i j : Int} (h0 : 0 ≤ i) (h1 : 0 ≤ j) (h : i ≠ j) : nth (l.set i.toNat x) j = nth l j := by
  unfold nth; rw [List.getD_eq_getElem?_getD, List.getD_eq_getElem?_getD, List.getElem?_set_ne (by omega)]
/-- An element is appended to an own row. -/
theorem ap1 {α : Type} {l : List α} {f : α → AV} {y : AV} {a : α} {n b : Nat} {K : List AV → Prop} (hb : b ≤ 4096) (hl : l.length ≤ 34359738367) (hy : (cellsA y).length = n) (ha : y = f a) (k : K ((l ++ [a]).map f)) :
    (∀ e, e ∈ [y] → (cellsA e).length = n) ∧ ((l.map f).length + [y].length) * b ≤ 140737488355328 ∧ (l.map f).length + [y].length ≤ 4611686018427387904 ∧ CalcL (l.map f ++ [y]) K := by
  refine ⟨fun e he => by simp at he; subst he; exact hy, ?_, by simp; omega, .mk _ (by rw [List.map_append, ha]; rfl) k⟩
  simp only [List.length_map, List.length_cons, List.length_nil]
  calc (l.length + (0 + 1)) * b ≤ 34359738368 * 4096 := Nat.mul_le_mul (by omega) hb
    _ ≤ _ := by decide
/-- An element is appended to a nil slice. -/
theorem ap0 {y : AV} {n b : Nat} {K : Prop} (hb : b ≤ 4096) (hy : (cellsA y).length = n) (k : K) :
    (∀ e, e ∈ [y] → (cellsA e).length = n) ∧ [y].length * b ≤ 140737488355328 ∧ [y].length ≤ 4611686018427387904 ∧ K := by
  refine ⟨fun e he => by simp at he; subst he; exact hy, ?_, by simp, k⟩
  simp only [List.length_cons, List.length_nil]; omega

/-- A row is appended to a nil slice; to an own row. -/
theorem apL {α : Type} {l : List α} {f : α → AV} {n b : Nat} {K : Prop} (hb : b ≤ 4096) (hl : l.length ≤ 34359738368) (hy : ∀ x, (cellsA (f x)).length = n) (k : K) :
    (∀ e, e ∈ l.map f → (cellsA e).length = n) ∧ (l.map f).length * b ≤ 140737488355328 ∧ (l.map f).length ≤ 4611686018427387904 ∧ K := by
  refine ⟨fun e he => by obtain ⟨x, _, rfl⟩ := List.mem_map.1 he; exact hy x, ?_, by rw [List.length_map]; omega, k⟩
  rw [List.length_map]
  calc l.length * b ≤ 34359738368 * 4096 := Nat.mul_le_mul hl hb
    _ ≤ _ := by decide
theorem apM {α : Type} {l r : List α} {f : α → AV} {n b : Nat} {K : List AV → Prop} (hb : b ≤ 4096) (hl : l.length + r.length ≤ 34359738368) (hy : ∀ x, (cellsA (f x)).length = n) (k : K ((l ++ r).map f)) :
    (∀ e, e ∈ r.map f → (cellsA e).length = n) ∧ ((l.map f).length + (r.map f).length) * b ≤ 140737488355328 ∧ (l.map f).length + (r.map f).length ≤ 4611686018427387904 ∧ CalcL (l.map f ++ r.map f) K := by
  refine ⟨fun e he => by obtain ⟨x, _, rfl⟩ := List.mem_map.1 he; exact hy x, ?_, by rw [List.length_map, List.length_map]; omega, .mk _ (by rw [List.map_append]) k⟩
  rw [List.length_map, List.length_map]
  calc (l.length + r.length) * b ≤ 34359738368 * 4096 := Nat.mul_le_mul hl hb
    _ ≤ _ := by decide

structure Bd where
  cells : Int
  next : List (List Int)
  turn : List Int
def Bd.av (b : Bd) : AV := .ag [I b.cells, Iss b.next, Is b.turn]
instance : Inhabited Bd := ⟨⟨0, [], []⟩⟩

/-- The step that is noted for a direction and a cell. -/
def Bd.nx (b : Bd) (d c : Int) : Int := nth (nth b.next d) c
def Bd.tn (b : Bd) (d : Int) : Int := nth b.turn d

structure Bd.ok (b : Bd) : Prop where
  c1 : 1 ≤ b.cells
  c64 : b.cells ≤ 64
  n1 : 1 ≤ b.next.length
  n8 : b.next.length ≤ 8
  tl : b.turn.length = b.next.length
  ll : ∀ d : Int, 0 ≤ d → d < b.next.length → ((nth b.next d).length : Int) = b.cells
  lx : ∀ d c : Int, 0 ≤ d → d < b.next.length → 0 ≤ c → c < b.cells → -1 ≤ b.nx d c ∧ b.nx d c < b.cells
  t0 : ∀ d : Int, 0 ≤ d → d < b.next.length → 0 ≤ b.tn d ∧ b.tn d < b.next.length ∧ b.tn (b.tn d) = d
def Bd.to (b : Bd) (side d c : Int) : Int :=
  if side < 0 ∨ side > 1 ∨ d < 0 ∨ d ≥ b.next.length ∨ c < 0 ∨ c ≥ b.cells then -1 else b.nx (if side = 1 then b.tn d else d) c

set_option maxRecDepth 10000 in
theorem Has_p (l : List Int) (n : Int) (hl : l.length ≤ 4611686018427387904) : Pure Try.prog 17 [Is l, I n] (Bo (l.contains n)) none := by
  refine fun_of tok D_ok Try.func17 rfl Try.ntmps17 Try.results17 (by kernel_rfl) (by simp) (by simp) ?_
  have e : l.length = (l.map I).length := by simp
  conv => whnf
  refine .of (fun i => [(5, I i)]) (fun _ => []) 0 (fun i => 0 ≤ i ∧ i ≤ l.length ∧ n ∉ l.take i.toNat) (fun i => (l.length - i).toNat) 0 ?_
  conv => whnf
  refine ⟨⟨[], rfl, rfl, rfl, ⟨rfl, trivial⟩, trivial⟩, ⟨by omega, by omega, by simp⟩, fun i ⟨hi0, hi1, hi⟩ => ?_⟩
  conv => whnf
  repeat' ((first
    | (refine ifD (fun _ => ?_) (fun _ => ?_))
    | (refine ifE (fun _ => ?_) (fun _ => ?_))
    | (refine ifN (fun _ => ?_) (fun _ => ?_))
    | ((with_reducible refine ifNot ?_))
    | ((with_reducible refine ifAndD (fun _ _ => ?_) (fun _ => ?_)))
    | ((with_reducible refine ifAnd (fun _ _ => ?_) (fun _ => ?_)))
    | (refine ixM (by omega) (by first | omega | (simp only [List.length_set, List.length_map, List.length_append, List.length_cons, List.length_nil, List.length_replicate]; omega)) rfl ?_)
    | (refine ixA (by omega) (by first | omega | (simp only [List.length_set, List.length_map, List.length_append, List.length_cons, List.length_nil, List.length_replicate]; omega)) ?_)
    | (refine ltM (by omega) (by first | omega | (simp only [List.length_set, List.length_map, List.length_append, List.length_cons, List.length_nil, List.length_replicate]; omega)) ?_)
    | (refine calI (by omega) ?_)
    | (refine cu8 (by omega) ?_)
    | (refine cu64 (by omega) ?_)
    | (refine And.intro (by omega) ?_; refine crem (by omega) ?_)
    | (refine And.intro (by omega) ?_; refine cquo (by omega) ?_)
    | ((with_reducible refine preI ?_); (first | refine preNil ?_ | refine preOp rfl rfl ?_ | refine preT rfl rfl rfl rfl ?_ | refine preF rfl rfl rfl rfl ?_ | refine preTS rfl rfl rfl rfl ?_ | refine preFS rfl rfl rfl rfl ?_ | refine preSkip rfl rfl rfl rfl ?_ | refine preGT rfl rfl rfl rfl ?_ | refine preGF rfl rfl rfl rfl ?_))
    | ((first | refine drawA (by decide +kernel) ?_ | refine drawA2 (by kernel_rfl) ?_); conv => whnf; (try dsimp only [St.after, St.afterAt, initSt, initT, numO, cellsA, Option.map, ren, renL, renO, St.setObj, headSt, List.cons_append, List.nil_append, List.length_nil]); try (conv => enter [7, 3]; whnf))
    | (refine ap1 (by decide) (by omega) rfl rfl ?_)
    | (refine ap0 (by decide) rfl ?_)
    | (refine apL (by decide) (by omega) (fun _ => rfl) ?_)
    | (refine apM (by decide) (by omega) (fun _ => rfl) ?_)
    | (refine setI (z := _) rfl ?_)
    | (refine And.intro (by omega) (And.intro (by omega) ?_))
    | (refine ifB_intro (fun _ => ?_) (fun _ => ?_))
    | (refine exitA (by kernel_rfl) (by kernel_rfl) ⟨?_, trivial⟩ ?_ <;> (conv => whnf) <;> repeat' (first | exact trivial | with_reducible rfl | (refine srcI ?_; kernel_rfl) | (refine nsI ?_; kernel_rfl) | (refine And.intro ?_ ?_ <;> conv => whnf; try dsimp only [St.after, St.afterAt, initSt, initT, numO, cellsA, Option.map, ren, renL, renO, St.setObj, headSt, List.cons_append, List.nil_append, List.length_nil])))) <;> (conv => whnf; try dsimp only [St.after, St.afterAt, initSt, initT, numO, cellsA, Option.map, ren, renL, renO, St.setObj, headSt, List.cons_append, List.nil_append, List.length_nil]))
  · rename_i h
    rw [show l.contains n = true from List.contains_iff_mem.2 (by rw [← h]; exact nth_mem (by omega) (by omega))]
  · rename_i h
    refine ⟨i + 1, ⟨[], rfl, rfl, rfl, ⟨rfl, trivial⟩, trivial⟩, ⟨by omega, by omega, ?_⟩, ?_, rfl⟩
    · rw [take_snoc (by omega) (by omega)]
      simp [hi, Ne.symm h]
    · show (l.length - (i + 1)).toNat < (l.length - i).toNat
      omega
  · rw [take_all (by omega)] at hi
    simp [hi]
set_option maxRecDepth 10000 in
theorem To15_p (b : Bd) (hb : b.ok) (side d c : Int) : Pure Try.prog 15 [b.av, I side, I d, I c] (I (b.to side d c)) none := by
  refine fun_of tok D_ok Try.func15 rfl Try.ntmps15 Try.results15 (by kernel_rfl) (by simp) (by simp) ?_
  have tl := hb.tl
  have t0 := hb.t0 d
  have l0 := hb.ll d
  have l1 := hb.ll (b.tn d)
  have e : b.next.length = (b.next.map Is).length := by simp
  unfold Bd.tn at t0 l1
  conv => whnf
  repeat' ((first
    | (refine ifD (fun _ => ?_) (fun _ => ?_))
    | (refine ifE (fun _ => ?_) (fun _ => ?_))
    | (refine ifN (fun _ => ?_) (fun _ => ?_))
    | ((with_reducible refine ifNot ?_))
    | ((with_reducible refine ifAndD (fun _ _ => ?_) (fun _ => ?_)))
    | ((with_reducible refine ifAnd (fun _ _ => ?_) (fun _ => ?_)))
    | (refine ixM (by omega) (by first | omega | (simp only [List.length_set, List.length_map, List.length_append, List.length_cons, List.length_nil, List.length_replicate]; omega)) rfl ?_)
    | (refine ixA (by omega) (by first | omega | (simp only [List.length_set, List.length_map, List.length_append, List.length_cons, List.length_nil, List.length_replicate]; omega)) ?_)
    | (refine ltM (by omega) (by first | omega | (simp only [List.length_set, List.length_map, List.length_append, List.length_cons, List.length_nil, List.length_replicate]; omega)) ?_)
    | (refine calI (by omega) ?_)
    | (refine cu8 (by omega) ?_)
    | (refine cu64 (by omega) ?_)
    | (refine And.intro (by omega) ?_; refine crem (by omega) ?_)
    | (refine And.intro (by omega) ?_; refine cquo (by omega) ?_)
    | ((with_reducible refine preI ?_); (first | refine preNil ?_ | refine preOp rfl rfl ?_ | refine preT rfl rfl rfl rfl ?_ | refine preF rfl rfl rfl rfl ?_ | refine preTS rfl rfl rfl rfl ?_ | refine preFS rfl rfl rfl rfl ?_ | refine preSkip rfl rfl rfl rfl ?_ | refine preGT rfl rfl rfl rfl ?_ | refine preGF rfl rfl rfl rfl ?_))
    | ((first | refine drawA (by decide +kernel) ?_ | refine drawA2 (by kernel_rfl) ?_); conv => whnf; (try dsimp only [St.after, St.afterAt, initSt, initT, numO, cellsA, Option.map, ren, renL, renO, St.setObj, headSt, List.cons_append, List.nil_append, List.length_nil]); try (conv => enter [7, 3]; whnf))
    | (refine ap1 (by decide) (by omega) rfl rfl ?_)
    | (refine ap0 (by decide) rfl ?_)
    | (refine apL (by decide) (by omega) (fun _ => rfl) ?_)
    | (refine apM (by decide) (by omega) (fun _ => rfl) ?_)
    | (refine setI (z := _) rfl ?_)
    | (refine And.intro (by omega) (And.intro (by omega) ?_))
    | (refine ifB_intro (fun _ => ?_) (fun _ => ?_))
    | (refine exitA (by kernel_rfl) (by kernel_rfl) ⟨?_, trivial⟩ ?_ <;> (conv => whnf) <;> repeat' (first | exact trivial | with_reducible rfl | (refine srcI ?_; kernel_rfl) | (refine nsI ?_; kernel_rfl) | (refine And.intro ?_ ?_ <;> conv => whnf; try dsimp only [St.after, St.afterAt, initSt, initT, numO, cellsA, Option.map, ren, renL, renO, St.setObj, headSt, List.cons_append, List.nil_append, List.length_nil])))) <;> (conv => whnf; try dsimp only [St.after, St.afterAt, initSt, initT, numO, cellsA, Option.map, ren, renL, renO, St.setObj, headSt, List.cons_append, List.nil_append, List.length_nil]))
  iterate 6 (unfold Bd.to; rw [if_pos (by omega)])
  · unfold Bd.to; rw [if_neg (by omega), if_pos (by omega)]; rfl
  · unfold Bd.to; rw [if_neg (by omega), if_neg (by omega)]; rfl
set_option maxRecDepth 10000 in
theorem To23_p (b : Bd) (hb : b.ok) (side d c : Int) : Pure Try.prog 23 [b.av, I side, I d, I c] (I (b.to side d c)) none := by
  refine fun_of tok D_ok Try.func23 rfl Try.ntmps23 Try.results23 (by kernel_rfl) (by simp) (by simp) ?_
  have tl := hb.tl
  have t0 := hb.t0 d
  have l0 := hb.ll d
  have l1 := hb.ll (b.tn d)
  have e : b.next.length = (b.next.map Is).length := by simp
  unfold Bd.tn at t0 l1
  conv => whnf
  repeat' ((first
    | (refine ifD (fun _ => ?_) (fun _ => ?_))
    | (refine ifE (fun _ => ?_) (fun _ => ?_))
    | (refine ifN (fun _ => ?_) (fun _ => ?_))
    | ((with_reducible refine ifNot ?_))
    | ((with_reducible refine ifAndD (fun _ _ => ?_) (fun _ => ?_)))
    | ((with_reducible refine ifAnd (fun _ _ => ?_) (fun _ => ?_)))
    | (refine ixM (by omega) (by first | omega | (simp only [List.length_set, List.length_map, List.length_append, List.length_cons, List.length_nil, List.length_replicate]; omega)) rfl ?_)
    | (refine ixA (by omega) (by first | omega | (simp only [List.length_set, List.length_map, List.length_append, List.length_cons, List.length_nil, List.length_replicate]; omega)) ?_)
    | (refine ltM (by omega) (by first | omega | (simp only [List.length_set, List.length_map, List.length_append, List.length_cons, List.length_nil, List.length_replicate]; omega)) ?_)
    | (refine calI (by omega) ?_)
    | (refine cu8 (by omega) ?_)
    | (refine cu64 (by omega) ?_)
    | (refine And.intro (by omega) ?_; refine crem (by omega) ?_)
    | (refine And.intro (by omega) ?_; refine cquo (by omega) ?_)
    | ((with_reducible refine preI ?_); (first | refine preNil ?_ | refine preOp rfl rfl ?_ | refine preT rfl rfl rfl rfl ?_ | refine preF rfl rfl rfl rfl ?_ | refine preTS rfl rfl rfl rfl ?_ | refine preFS rfl rfl rfl rfl ?_ | refine preSkip rfl rfl rfl rfl ?_ | refine preGT rfl rfl rfl rfl ?_ | refine preGF rfl rfl rfl rfl ?_))
    | ((first | refine drawA (by decide +kernel) ?_ | refine drawA2 (by kernel_rfl) ?_); conv => whnf; (try dsimp only [St.after, St.afterAt, initSt, initT, numO, cellsA, Option.map, ren, renL, renO, St.setObj, headSt, List.cons_append, List.nil_append, List.length_nil]); try (conv => enter [7, 3]; whnf))
    | (refine ap1 (by decide) (by omega) rfl rfl ?_)
    | (refine ap0 (by decide) rfl ?_)
    | (refine apL (by decide) (by omega) (fun _ => rfl) ?_)
    | (refine apM (by decide) (by omega) (fun _ => rfl) ?_)
    | (refine setI (z := _) rfl ?_)
    | (refine And.intro (by omega) (And.intro (by omega) ?_))
    | (refine ifB_intro (fun _ => ?_) (fun _ => ?_))
    | (refine exitA (by kernel_rfl) (by kernel_rfl) ⟨?_, trivial⟩ ?_ <;> (conv => whnf) <;> repeat' (first | exact trivial | with_reducible rfl | (refine srcI ?_; kernel_rfl) | (refine nsI ?_; kernel_rfl) | (refine And.intro ?_ ?_ <;> conv => whnf; try dsimp only [St.after, St.afterAt, initSt, initT, numO, cellsA, Option.map, ren, renL, renO, St.setObj, headSt, List.cons_append, List.nil_append, List.length_nil])))) <;> (conv => whnf; try dsimp only [St.after, St.afterAt, initSt, initT, numO, cellsA, Option.map, ren, renL, renO, St.setObj, headSt, List.cons_append, List.nil_append, List.length_nil]))
  iterate 6 (unfold Bd.to; rw [if_pos (by omega)])
  · unfold Bd.to; rw [if_neg (by omega), if_pos (by omega)]; rfl
  · unfold Bd.to; rw [if_neg (by omega), if_neg (by omega)]; rfl
end Go.Proofs.Ytkecpgidolphfaa
