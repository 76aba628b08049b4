/- Contracts of functions of the program, proved by the checker; and plain laws. -/
import Derived.Test.YtkecpgidolphfaaTab
set_option linter.unusedVariables false
set_option linter.unusedSimpArgs false
namespace Go.Proofs.Ytkecpgidolphfaa
open Go Go.Sk
def D : Draw := vcDrawF Try.prog tab
theorem D_ok : DOK Try.prog D := vcDrawF_ok tok (by kernel_rfl)
def I (n : Int) : AV := .v (.int .i64 n)
def Bo (b : Bool) : AV := .v (.bool b)
def Is (l : List Int) : AV := .sl (l.map I)
def Iss (l : List (List Int)) : AV := .sl (l.map Is)
theorem nth_mem {α : Type} [Inhabited α] {l : List α} {i : Int} (h0 : 0 ≤ i) (h : i < l.length) : nth l i ∈ l := List.mem_of_getElem? (nth_some h0 h)
theorem take_snoc {α : Type} [Inhabited α] {l : List α} {i : Int} (h0 : 0 ≤ i) (h : i < l.length) : l.take (i + 1).toNat = l.take i.toNat ++ [nth l i] := by
  rw [show (i + 1).toNat = i.toNat + 1 by omega, List.take_succ_eq_append_getElem (by omega)]
  unfold nth; rw [List.getD_eq_getElem?_getD, List.getElem?_eq_getElem (by omega)]; rfl
theorem take_all {α : Type} {l : List α} {i : Int} (h : l.length ≤ i) : l.take i.toNat = l := List.take_of_length_le (by omega)
theorem mem_nth {α : Type} [Inhabited α] {l : List α} {x : α} (h : x ∈ l) : ∃ i : Int, 0 ≤ i ∧ i < l.length ∧ nth l i = x := by
  obtain ⟨i, h1, h2⟩ := List.mem_iff_getElem.1 h
  refine ⟨i, by omega, by omega, ?_⟩
  have := nth_some (l := l) (i := (i : Int)) (by omega) (by omega)
  rw [show ((i : Int)).toNat = i by omega, List.getElem?_eq_getElem h1] at this
  injection this with this
  rw [← this, h2]
theorem nth_map {α β : Type} [Inhabited α] [Inhabited β] {l : List α} {f : α → β} {i : Int} (h0 : 0 ≤ i) (h : i < l.length) : nth (l.map f) i = f (nth l i) := by
  have h1 := nth_some (l := l.map f) (i := i) h0 (by rw [List.length_map]; exact h)
  rw [List.getElem?_map, nth_some h0 h] at h1
  injection h1 with h1
  exact h1.symm
theorem ext_nth {α : Type} [Inhabited α] {l r : List α} (hl : l.length = r.length) (h : ∀ i : Int, 0 ≤ i → i < l.length → nth l i = nth r i) : l = r := by
  refine List.ext_getElem? fun k => ?_
  rcases Nat.lt_or_ge k l.length with hk | hk
  · have h1 := nth_some (l := l) (i := (k : Int)) (by omega) (by omega)
    have h2 := nth_some (l := r) (i := (k : Int)) (by omega) (by omega)
    rw [show ((k : Int)).toNat = k by omega] at h1 h2
    rw [h1, h2, h k (by omega) (by omega)]
  · rw [List.getElem?_eq_none hk, List.getElem?_eq_none (by omega)]
theorem nth_append_left {α : Type} [Inhabited α] {l r : List α} {i : Int} (h0 : 0 ≤ i) (h : i < l.length) : nth (l ++ r) i = nth l i := by
  unfold nth; rw [List.getD_eq_getElem?_getD, List.getD_eq_getElem?_getD, List.getElem?_append_left (by omega)]
theorem nth_append_len {α : Type} [Inhabited α] {l : List α} {x : α} {i : Int} (h : i = l.length) : nth (l ++ [x]) i = x := by
  subst h; unfold nth; rw [List.getD_eq_getElem?_getD, show ((l.length : Int)).toNat = l.length by omega, List.getElem?_append_right (Nat.le_refl _)]; simp
theorem nth_set_eq {α : Type} [Inhabited α] {l : List α} {x : α} {i : Int} (h0 : 0 ≤ i) (h : i < l.length) : nth (l.set i.toNat x) i = x := by
  unfold nth; rw [List.getD_eq_getElem?_getD, List.getElem?_set_self (by omega)]; rfl
theorem nth_set_ne {α : Type} [Inhabited α] {l : List α} {x : α} {i j : Int} (h0 : 0 ≤ i) (h1 : 0 ≤ j) (h : i ≠ j) : nth (l.set i.toNat x) j = nth l j := by
  unfold nth; rw [List.getD_eq_getElem?_getD, List.getD_eq_getElem?_getD, List.getElem?_set_ne (by omega)]
structure Bd where
  cells : Int
  next : List (List Int)
  turn : List Int
def Bd.av (b : Bd) : AV := .ag [I b.cells, Iss b.next, Is b.turn]
instance : Inhabited Bd := ⟨⟨0, [], []⟩⟩
def Bd.nx (b : Bd) (d c : Int) : Int := nth (nth b.next d) c
def Bd.tn (b : Bd) (d : Int) : Int := nth b.turn d
structure Bd.ok (b : Bd) : Prop where
  c1 : 1 ≤ b.cells
  c64 : b.cells ≤ 64
  n1 : 1 ≤ b.next.length
  n8 : b.next.length ≤ 8
  tl : b.turn.length = b.next.length
  ll : ∀ d : Int, 0 ≤ d → d < b.next.length → ((nth b.next d).length : Int) = b.cells
  lx : ∀ d c : Int, 0 ≤ d → d < b.next.length → 0 ≤ c → c < b.cells → -1 ≤ b.nx d c ∧ b.nx d c < b.cells
  t0 : ∀ d : Int, 0 ≤ d → d < b.next.length → 0 ≤ b.tn d ∧ b.tn d < b.next.length ∧ b.tn (b.tn d) = d
def Bd.to (b : Bd) (side d c : Int) : Int :=
  if side < 0 ∨ side > 1 ∨ d < 0 ∨ d ≥ b.next.length ∨ c < 0 ∨ c ≥ b.cells then -1 else b.nx (if side = 1 then b.tn d else d) c
end Go.Proofs.Ytkecpgidolphfaa
namespace Go.Proofs.Ytkecpgidolphfaa
open Go Go.Sk
def ints (n : Int) : List Int := (List.range n.toNat).map fun (k : Nat) => (k : Int)
theorem ints_zero : ints 0 = [] := rfl
theorem ints_succ {i : Int} (h : 0 ≤ i) : ints (i + 1) = ints i ++ [i] := by
  unfold ints
  rw [show (i + 1).toNat = i.toNat + 1 by omega, List.range_succ, List.map_append]
  simp; omega
theorem mem_ints {n x : Int} : x ∈ ints n ↔ 0 ≤ x ∧ x < n := by
  unfold ints
  simp only [List.mem_map, List.mem_range]
  exact ⟨fun ⟨k, h1, h2⟩ => by omega, fun ⟨h1, h2⟩ => ⟨x.toNat, by omega, by omega⟩⟩
theorem ints_len (n : Int) : (ints n).length = n.toNat := by simp [ints]
theorem nth_ints {n i : Int} (h0 : 0 ≤ i) (h : i < n) : nth (ints n) i = i := by
  unfold nth ints
  rw [List.getD_eq_getElem?_getD, List.getElem?_map, List.getElem?_range (by omega)]
  simp; omega
theorem map_ints_succ {β : Type} {i : Int} (h : 0 ≤ i) (f : Int → β) : (ints (i + 1)).map f = (ints i).map f ++ [f i] := by rw [ints_succ h]; simp
theorem nth_map_ints {β : Type} [Inhabited β] {n i : Int} {f : Int → β} (h0 : 0 ≤ i) (h : i < n) : nth ((ints n).map f) i = f i := by
  rw [nth_map h0 (by rw [ints_len]; omega), nth_ints h0 h]
theorem filter_ints_le (n : Int) (p : Int → Bool) : ((ints n).filter p).length ≤ n.toNat := by
  have := List.length_filter_le p (ints n); rwa [ints_len] at this
end Go.Proofs.Ytkecpgidolphfaa
namespace Go.Proofs.Ytkecpgidolphfaa
open Go Go.Sk
end Go.Proofs.Ytkecpgidolphfaa
namespace Go.Proofs.Ytkecpgidolphfaa
open Go Go.Sk
end Go.Proofs.Ytkecpgidolphfaa
namespace Go.Proofs.Ytkecpgidolphfaa
open Go Go.Sk
set_option maxRecDepth 10000 in
theorem To15_p (b : Bd) (hb : b.ok) (side d c : Int) : Pure Try.prog 15 [b.av, I side, I d, I c] (I (b.to side d c)) none := by
  refine fun_of tok D_ok Try.func15 rfl Try.ntmps15 Try.results15 (by kernel_rfl) (by simp) (by simp) ?_
  have tl := hb.tl
  have t0 := hb.t0 d
  have l0 := hb.ll d
  have l1 := hb.ll (b.tn d)
  have e : b.next.length = (b.next.map Is).length := by simp
  unfold Bd.tn at t0 l1
  conv => whnf
  repeat' (first
    | (refine lvA (k := ?_); apply Cj.mk <;> first | exact trivial | intros)
    | (refine lvE (k := ?_); apply Cj.mk <;> first | exact trivial | intros)
    | fail)
  iterate 6 (unfold Bd.to; rw [if_pos (by omega)])
  · unfold Bd.to; rw [if_neg (by omega), if_pos (by omega)]; rfl
  · unfold Bd.to; rw [if_neg (by omega), if_neg (by omega)]; rfl
end Go.Proofs.Ytkecpgidolphfaa
namespace Go.Proofs.Ytkecpgidolphfaa
open Go Go.Sk
set_option maxRecDepth 10000 in
theorem Clone_p (l : List Int) (hl : l.length * 8 ≤ 140737488355328) : Pure Try.prog 39 [Is l] (.ref 0) (some (.arr 1 (l.map I))) := by
  have hint : OwnHint := ⟨⟩
  have el : (l.map I).length = l.length := List.length_map _
  refine fun_of tok D_ok Try.func39 rfl Try.ntmps39 Try.results39 (by kernel_rfl) (by simp) (by simp) ?_
  conv => whnf
  repeat' (first
    | (refine lvK (k := ?_); apply Cj.mk <;> first | exact trivial | intros)
    | (refine ⟨by show (List.map I l).length * 8 ≤ _; omega, by omega, lvN (k := ?_)⟩; apply Cj.mk <;> first | exact trivial | intros)
    | (refine lvE (k := ?_); apply Cj.mk <;> first | exact trivial | intros)
    | fail)
  · rename_i h
    exact h
end Go.Proofs.Ytkecpgidolphfaa
namespace Go.Proofs.Ytkecpgidolphfaa
open Go Go.Sk
def Ow (l : List Int) : AV := .own 1 (l.map I)
theorem pubOw (l : List (List Int)) : PubL (l.map Ow) (l.map Is) := ⟨by rw [List.length_map, List.length_map], fun i e e' h1 h2 => by
  rw [List.getElem?_map] at h1 h2
  cases h : l[i]? with
  | none => rw [h] at h1; cases h1
  | some x => rw [h] at h1 h2; cases h1; cases h2; rfl⟩
theorem bdOw (l : List (List Int)) : ∀ e, e ∈ l.map Ow → bdL (fun _ => False) (cellsA e) := fun e he => by
  obtain ⟨x, _, rfl⟩ := List.mem_map.1 he
  exact ⟨trivial, trivial⟩
theorem okOw (l : List (List Int)) : ∀ e, e ∈ l.map Ow → rowOK e := fun e he => by
  obtain ⟨x, _, rfl⟩ := List.mem_map.1 he
  trivial
theorem lendOw (l : List (List Int)) : (l.map Ow).map rowA = l.map Is := by
  rw [List.map_map]; rfl
theorem tApp {l : List (List Int)} {r : List Int} {n : Nat} {K : List AV → Prop} (hn : n = 24) (hl : l.length ≤ 1000000) (k : K ((l ++ [r]).map Ow)) :
    ((l.map Ow).length + [AV.own 1 (r.map I)].length) * n ≤ 140737488355328 ∧ (l.map Ow).length + [AV.own 1 (r.map I)].length ≤ 4611686018427387904 ∧ CalcL (l.map Ow ++ [AV.own 1 (r.map I)]) K := by
  subst hn
  rw [List.length_map]
  refine ⟨by simp only [List.length_cons, List.length_nil]; omega, by simp only [List.length_cons, List.length_nil]; omega, .mk _ ?_ k⟩
  rw [List.map_append]; rfl
end Go.Proofs.Ytkecpgidolphfaa
namespace Go.Proofs.Ytkecpgidolphfaa
open Go Go.Sk
theorem take_eq_all {α : Type} {a b : List α} {i : Int} (hl : a.length = b.length) (h : a.length ≤ i) (ht : a.take i.toNat = b.take i.toNat) : a = b := by
  rwa [take_all h, take_all (by omega)] at ht
theorem take_eq_succ {α : Type} [Inhabited α] {a b : List α} {i : Int} (h0 : 0 ≤ i) (h1 : i < a.length) (h2 : i < b.length) (ht : a.take i.toNat = b.take i.toNat) (h : nth a i = nth b i) : a.take (i + 1).toNat = b.take (i + 1).toNat := by
  rw [take_snoc h0 h1, take_snoc h0 h2, ht, h]
set_option maxRecDepth 10000 in
theorem Ints_p (a b : List Int) (ha : a.length ≤ 4611686018427387904) : Pure Try.prog 24 [Is a, Is b] (Bo (decide (a = b))) none := by
  refine fun_of tok D_ok Try.func24 rfl Try.ntmps24 Try.results24 (by kernel_rfl) (by simp) (by simp) ?_
  have e1 : a.length = (a.map I).length := by simp
  have e2 : b.length = (b.map I).length := by simp
  conv => whnf
  repeat' ((first
    | (refine Ck.mk ?_)
    | (refine ifD (fun _ => ?_) (fun _ => ?_))
    | (refine ifE (fun _ => ?_) (fun _ => ?_))
    | (refine ifN (fun _ => ?_) (fun _ => ?_))
    | ((with_reducible refine natI ?_))
    | ((with_reducible refine ifNot ?_))
    | ((with_reducible refine ifAndD (fun _ _ => ?_) (fun _ => ?_)))
    | ((with_reducible refine ifAnd (fun _ _ => ?_) (fun _ => ?_)))
    | (refine ixM (by omega) (by first | omega | (simp only [List.length_set, List.length_map, List.length_append, List.length_cons, List.length_nil, List.length_replicate]; omega)) rfl ?_)
    | (refine ixA (by omega) (by first | omega | (simp only [List.length_set, List.length_map, List.length_append, List.length_cons, List.length_nil, List.length_replicate]; omega)) ?_)
    | (refine ltM (by omega) (by first | omega | (simp only [List.length_set, List.length_map, List.length_append, List.length_cons, List.length_nil, List.length_replicate]; omega)) ?_)
    | (refine calI (by omega) ?_)
    | (refine cu8 (by omega) ?_)
    | (refine cu64 (by omega) ?_)
    | (refine And.intro (by omega) ?_; refine crem (by omega) ?_)
    | (refine And.intro (by omega) ?_; refine cquo (by omega) ?_)
    | ((with_reducible refine preI ?_); (first | refine preNil ?_ | refine preOp rfl rfl ?_ | refine preT rfl rfl rfl rfl ?_ | refine preF rfl rfl rfl rfl ?_ | refine preTS rfl rfl rfl rfl ?_ | refine preFS rfl rfl rfl rfl ?_ | refine preSkip rfl rfl rfl rfl ?_ | refine preGT rfl rfl rfl rfl ?_ | refine preGF rfl rfl rfl rfl ?_))
    | (refine AltS.own (by assumption) ?_)
    | (refine AltS.im ?_)
    | (refine AltT.own (by assumption) ?_)
    | (refine AltT.im ?_)
    | (refine NilK.mk (fun _ => ?_) ?_)
    | (refine AltV.own (by assumption) ?_)
    | (refine AltV.im ?_)
    | ((first | refine drawA2 (by decide +kernel) ?_ | refine drawA (by decide +kernel) ?_ | refine drawL (by decide +kernel) ?_); conv => whnf; (try dsimp only [St.after, St.afterAt, St.pin, St.unpin, initSt, initT, numO, cellsA, Option.map, ren, renL, renO, St.setObj, headSt, List.cons_append, List.nil_append, List.length_nil, Nat.reduceAdd]); try (conv => enter [7, 3]; whnf))
    | (refine ap1 (by decide) (by omega) rfl rfl ?_)
    | (refine ap0 (by decide) rfl ?_)
    | (refine apL (by decide) (by omega) (fun _ => rfl) ?_)
    | (refine apM (by decide) (by omega) (fun _ => rfl) ?_)
    | (refine setI (z := _) rfl ?_)
    | (refine And.intro (by omega) (And.intro (by omega) ?_))
    | (refine ifB_intro (fun _ => ?_) (fun _ => ?_))) <;> (conv => whnf; try dsimp only [St.after, St.afterAt, St.pin, St.unpin, initSt, initT, numO, cellsA, Option.map, ren, renL, renO, St.setObj, headSt, List.cons_append, List.nil_append, List.length_nil, Nat.reduceAdd]))
  · rename_i h
    repeat' ((first
      | (refine Ck.mk ?_)
      | (refine ifD (fun _ => ?_) (fun _ => ?_))
      | (refine ifE (fun _ => ?_) (fun _ => ?_))
      | (refine ifN (fun _ => ?_) (fun _ => ?_))
      | ((with_reducible refine natI ?_))
      | ((with_reducible refine ifNot ?_))
      | ((with_reducible refine ifAndD (fun _ _ => ?_) (fun _ => ?_)))
      | ((with_reducible refine ifAnd (fun _ _ => ?_) (fun _ => ?_)))
      | (refine ixM (by omega) (by first | omega | (simp only [List.length_set, List.length_map, List.length_append, List.length_cons, List.length_nil, List.length_replicate]; omega)) rfl ?_)
      | (refine ixA (by omega) (by first | omega | (simp only [List.length_set, List.length_map, List.length_append, List.length_cons, List.length_nil, List.length_replicate]; omega)) ?_)
      | (refine ltM (by omega) (by first | omega | (simp only [List.length_set, List.length_map, List.length_append, List.length_cons, List.length_nil, List.length_replicate]; omega)) ?_)
      | (refine calI (by omega) ?_)
      | (refine cu8 (by omega) ?_)
      | (refine cu64 (by omega) ?_)
      | (refine And.intro (by omega) ?_; refine crem (by omega) ?_)
      | (refine And.intro (by omega) ?_; refine cquo (by omega) ?_)
      | ((with_reducible refine preI ?_); (first | refine preNil ?_ | refine preOp rfl rfl ?_ | refine preT rfl rfl rfl rfl ?_ | refine preF rfl rfl rfl rfl ?_ | refine preTS rfl rfl rfl rfl ?_ | refine preFS rfl rfl rfl rfl ?_ | refine preSkip rfl rfl rfl rfl ?_ | refine preGT rfl rfl rfl rfl ?_ | refine preGF rfl rfl rfl rfl ?_))
      | (refine AltS.own (by assumption) ?_)
      | (refine AltS.im ?_)
      | (refine AltT.own (by assumption) ?_)
      | (refine AltT.im ?_)
      | (refine NilK.mk (fun _ => ?_) ?_)
      | (refine AltV.own (by assumption) ?_)
      | (refine AltV.im ?_)
      | ((first | refine drawA2 (by decide +kernel) ?_ | refine drawA (by decide +kernel) ?_ | refine drawL (by decide +kernel) ?_); conv => whnf; (try dsimp only [St.after, St.afterAt, St.pin, St.unpin, initSt, initT, numO, cellsA, Option.map, ren, renL, renO, St.setObj, headSt, List.cons_append, List.nil_append, List.length_nil, Nat.reduceAdd]); try (conv => enter [7, 3]; whnf))
      | (refine ap1 (by decide) (by omega) rfl rfl ?_)
      | (refine ap0 (by decide) rfl ?_)
      | (refine apL (by decide) (by omega) (fun _ => rfl) ?_)
      | (refine apM (by decide) (by omega) (fun _ => rfl) ?_)
      | (refine setI (z := _) rfl ?_)
      | (refine And.intro (by omega) (And.intro (by omega) ?_))
      | (refine ifB_intro (fun _ => ?_) (fun _ => ?_))
      | (refine exitA (by kernel_rfl) (by kernel_rfl) ⟨?_, trivial⟩ ?_ <;> (conv => whnf) <;> repeat' (first | exact trivial | with_reducible rfl | (refine srcI ?_; kernel_rfl) | (refine nsI ?_; kernel_rfl) | (refine And.intro ?_ ?_ <;> conv => whnf; try dsimp only [St.after, St.afterAt, St.pin, St.unpin, initSt, initT, numO, cellsA, Option.map, ren, renL, renO, St.setObj, headSt, List.cons_append, List.nil_append, List.length_nil, Nat.reduceAdd])))) <;> (conv => whnf; try dsimp only [St.after, St.afterAt, St.pin, St.unpin, initSt, initT, numO, cellsA, Option.map, ren, renL, renO, St.setObj, headSt, List.cons_append, List.nil_append, List.length_nil, Nat.reduceAdd]))
    rw [decide_eq_false]
    intro h'; subst h'; exact h rfl
  rename_i h
  refine .of (fun i => [(5, I i)]) (fun i => []) 0 (fun i => 0 ≤ i ∧ i ≤ a.length ∧ a.take i.toNat = b.take i.toNat) (fun i => (a.length - i).toNat) 0 ?_
  conv => whnf
  refine ⟨⟨[], (by kernel_rfl), (by kernel_rfl), (by kernel_rfl), ?_, ?_⟩, ?_, fun i ⟨h0, h1, ht⟩ => ?_⟩
  rotate_left 1
  focus
    conv => whnf
    repeat' (first
      | exact trivial
      | with_reducible rfl
      | (refine srcI ?_; kernel_rfl)
      | (refine nsI ?_; kernel_rfl)
      | (refine And.intro ?_ ?_ <;> conv => whnf; try dsimp only [St.after, St.afterAt, St.pin, St.unpin, initSt, initT, numO, cellsA, Option.map, ren, renL, renO, St.setObj, headSt, List.cons_append, List.nil_append, List.length_nil, Nat.reduceAdd])
      | rfl)
  rotate_right 1
  focus
    conv => whnf
    repeat' (first
      | exact trivial
      | with_reducible rfl
      | (refine srcI ?_; kernel_rfl)
      | (refine nsI ?_; kernel_rfl)
      | (refine And.intro ?_ ?_ <;> conv => whnf; try dsimp only [St.after, St.afterAt, St.pin, St.unpin, initSt, initT, numO, cellsA, Option.map, ren, renL, renO, St.setObj, headSt, List.cons_append, List.nil_append, List.length_nil, Nat.reduceAdd])
      | rfl)
  rotate_right 1
  focus
    conv => whnf
  rotate_left 1
  · exact ⟨by omega, by omega, rfl⟩
  repeat' ((first
    | (refine Ck.mk ?_)
    | (refine ifD (fun _ => ?_) (fun _ => ?_))
    | (refine ifE (fun _ => ?_) (fun _ => ?_))
    | (refine ifN (fun _ => ?_) (fun _ => ?_))
    | ((with_reducible refine natI ?_))
    | ((with_reducible refine ifNot ?_))
    | ((with_reducible refine ifAndD (fun _ _ => ?_) (fun _ => ?_)))
    | ((with_reducible refine ifAnd (fun _ _ => ?_) (fun _ => ?_)))
    | (refine ixM (by omega) (by first | omega | (simp only [List.length_set, List.length_map, List.length_append, List.length_cons, List.length_nil, List.length_replicate]; omega)) rfl ?_)
    | (refine ixA (by omega) (by first | omega | (simp only [List.length_set, List.length_map, List.length_append, List.length_cons, List.length_nil, List.length_replicate]; omega)) ?_)
    | (refine ltM (by omega) (by first | omega | (simp only [List.length_set, List.length_map, List.length_append, List.length_cons, List.length_nil, List.length_replicate]; omega)) ?_)
    | (refine calI (by omega) ?_)
    | (refine cu8 (by omega) ?_)
    | (refine cu64 (by omega) ?_)
    | (refine And.intro (by omega) ?_; refine crem (by omega) ?_)
    | (refine And.intro (by omega) ?_; refine cquo (by omega) ?_)
    | ((with_reducible refine preI ?_); (first | refine preNil ?_ | refine preOp rfl rfl ?_ | refine preT rfl rfl rfl rfl ?_ | refine preF rfl rfl rfl rfl ?_ | refine preTS rfl rfl rfl rfl ?_ | refine preFS rfl rfl rfl rfl ?_ | refine preSkip rfl rfl rfl rfl ?_ | refine preGT rfl rfl rfl rfl ?_ | refine preGF rfl rfl rfl rfl ?_))
    | (refine AltS.own (by assumption) ?_)
    | (refine AltS.im ?_)
    | (refine AltT.own (by assumption) ?_)
    | (refine AltT.im ?_)
    | (refine NilK.mk (fun _ => ?_) ?_)
    | (refine AltV.own (by assumption) ?_)
    | (refine AltV.im ?_)
    | ((first | refine drawA2 (by decide +kernel) ?_ | refine drawA (by decide +kernel) ?_ | refine drawL (by decide +kernel) ?_); conv => whnf; (try dsimp only [St.after, St.afterAt, St.pin, St.unpin, initSt, initT, numO, cellsA, Option.map, ren, renL, renO, St.setObj, headSt, List.cons_append, List.nil_append, List.length_nil, Nat.reduceAdd]); try (conv => enter [7, 3]; whnf))
    | (refine ap1 (by decide) (by omega) rfl rfl ?_)
    | (refine ap0 (by decide) rfl ?_)
    | (refine apL (by decide) (by omega) (fun _ => rfl) ?_)
    | (refine apM (by decide) (by omega) (fun _ => rfl) ?_)
    | (refine setI (z := _) rfl ?_)
    | (refine And.intro (by omega) (And.intro (by omega) ?_))
    | (refine ifB_intro (fun _ => ?_) (fun _ => ?_))
    | (refine exitA (by kernel_rfl) (by kernel_rfl) ⟨?_, trivial⟩ ?_ <;> (conv => whnf) <;> repeat' (first | exact trivial | with_reducible rfl | (refine srcI ?_; kernel_rfl) | (refine nsI ?_; kernel_rfl) | (refine And.intro ?_ ?_ <;> conv => whnf; try dsimp only [St.after, St.afterAt, St.pin, St.unpin, initSt, initT, numO, cellsA, Option.map, ren, renL, renO, St.setObj, headSt, List.cons_append, List.nil_append, List.length_nil, Nat.reduceAdd])))) <;> (conv => whnf; try dsimp only [St.after, St.afterAt, St.pin, St.unpin, initSt, initT, numO, cellsA, Option.map, ren, renL, renO, St.setObj, headSt, List.cons_append, List.nil_append, List.length_nil, Nat.reduceAdd]))
  · rename_i h4
    rw [decide_eq_false]
    intro h'; subst h'; exact h4 rfl
  · rename_i h4
    refine ⟨i + 1, ⟨[], (by kernel_rfl), (by kernel_rfl), (by kernel_rfl), ?_, ?_⟩, ?_, by (try dsimp only); omega, rfl⟩
    rotate_left 1
    focus
      conv => whnf
      repeat' (first
        | exact trivial
        | with_reducible rfl
        | (refine srcI ?_; kernel_rfl)
        | (refine nsI ?_; kernel_rfl)
        | (refine And.intro ?_ ?_ <;> conv => whnf; try dsimp only [St.after, St.afterAt, St.pin, St.unpin, initSt, initT, numO, cellsA, Option.map, ren, renL, renO, St.setObj, headSt, List.cons_append, List.nil_append, List.length_nil, Nat.reduceAdd]))
    rotate_right 1
    focus
      conv => whnf
      repeat' (first
        | exact trivial
        | with_reducible rfl
        | (refine srcI ?_; kernel_rfl)
        | (refine nsI ?_; kernel_rfl)
        | (refine And.intro ?_ ?_ <;> conv => whnf; try dsimp only [St.after, St.afterAt, St.pin, St.unpin, initSt, initT, numO, cellsA, Option.map, ren, renL, renO, St.setObj, headSt, List.cons_append, List.nil_append, List.length_nil, Nat.reduceAdd]))
    exact ⟨by omega, by omega, take_eq_succ h0 (by omega) (by omega) ht h4⟩
  · rw [decide_eq_true (take_eq_all (by omega) (by omega) ht)]
end Go.Proofs.Ytkecpgidolphfaa
