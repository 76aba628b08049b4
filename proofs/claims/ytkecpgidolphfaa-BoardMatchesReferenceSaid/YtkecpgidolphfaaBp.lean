/- Contracts of functions of the program, proved by the checker. -/
import Derived.Test.YtkecpgidolphfaaBk
namespace Go.Proofs.Ytkecpgidolphfaa
set_option linter.unusedVariables false
set_option linter.unusedSimpArgs false
open Go Go.Sk

def U (n : Int) : AV := .v (.int .u8 n)
/-- What describes a board with arbitrary steps. -/
structure Rw where
  cells : Int
  dirs : Int
  turn : Int
  ns : List Int
def Rw.av (x : Rw) : AV := .ag (U x.cells :: U x.dirs :: U x.turn :: x.ns.map U)
def u8 (n : Int) : Prop := 0 ≤ n ∧ n ≤ 255
structure Rw.ok (x : Rw) : Prop where
  c : u8 x.cells
  d : u8 x.dirs
  t : u8 x.turn
  n : ∀ i : Int, 0 ≤ i → i < 32 → u8 (nth x.ns i)
  l : x.ns.length = 32
def Rw.cs (x : Rw) : Int := 1 + x.cells % 8
def Rw.ds (x : Rw) : Int := 1 + x.dirs % 4
def Rw.to (x : Rw) (d c : Int) : Int := if nth x.ns (8 * d + c) % (x.cs + 2) - 1 = x.cs then -1 else nth x.ns (8 * d + c) % (x.cs + 2) - 1
/-- Is the pair that begins with direction e turned? -/
def Rw.bit (x : Rw) (e : Int) : Int := IntKind.u8.wrap (BitVec.ofInt IntKind.u8.bits (x.turn.fdiv (2 ^ (min e.toNat IntKind.u8.bits))) &&& BitVec.ofInt IntKind.u8.bits 1).toNat
def Rw.fin (x : Rw) (d : Int) : Int := if d % 2 = 0 then (if d + 1 < x.ds ∧ x.bit d = 1 then d + 1 else d) else (if x.bit (d - 1) = 1 then d - 1 else d)
def Rw.tl (x : Rw) (e : Int) : List Int := (ints x.ds).map fun d => if d < e then x.fin d else d
theorem Rw.tl_nth (x : Rw) {e i : Int} (h0 : 0 ≤ i) (h1 : i < x.ds) : nth (x.tl e) i = if i < e then x.fin i else i := nth_map_ints h0 h1
theorem Rw.tl_len (x : Rw) (e : Int) : (x.tl e).length = x.ds.toNat := by unfold Rw.tl; rw [List.length_map, ints_len]
theorem Rw.tl_swap (x : Rw) {e : Int} (h0 : 0 ≤ e) (h2 : e % 2 = 0) (h1 : e + 1 < x.ds) (hb : x.bit e = 1) : ((x.tl e).set e.toNat (e + 1)).set (e + 1).toNat e = x.tl (e + 2) := by
  have hl := x.tl_len e
  refine ext_nth (by rw [List.length_set, List.length_set, hl, x.tl_len]) fun i i0 i1 => ?_
  rw [List.length_set, List.length_set, hl] at i1
  rw [x.tl_nth i0 (by omega)]
  have f1 : x.fin e = e + 1 := by unfold Rw.fin; rw [if_pos h2, if_pos ⟨h1, hb⟩]
  have f2 : x.fin (e + 1) = e := by unfold Rw.fin; rw [if_neg (by omega), show e + 1 - 1 = e by omega, if_pos hb]
  by_cases e1 : e + 1 = i
  · rw [← e1, nth_set_eq (by omega) (by rw [List.length_set, hl]; omega), if_pos (by omega), f2]
  · rw [nth_set_ne (by omega) i0 e1]
    by_cases e2 : e = i
    · rw [← e2, nth_set_eq h0 (by rw [hl]; omega), if_pos (by omega), f1]
    · rw [nth_set_ne h0 i0 e2, x.tl_nth i0 (by omega)]
      by_cases e3 : i < e
      · rw [if_pos e3, if_pos (by omega)]
      · rw [if_neg e3, if_neg (by omega)]
theorem Rw.tl_keep (x : Rw) {e : Int} (h0 : 0 ≤ e) (h2 : e % 2 = 0) (hb : x.bit e ≠ 1) : x.tl e = x.tl (e + 2) := by
  refine ext_nth (by rw [x.tl_len, x.tl_len]) fun i i0 i1 => ?_
  rw [x.tl_len] at i1
  rw [x.tl_nth i0 (by omega), x.tl_nth i0 (by omega)]
  by_cases e3 : i < e
  · rw [if_pos e3, if_pos (by omega)]
  · rw [if_neg e3]
    split
    · unfold Rw.fin
      by_cases e4 : i = e
      · subst e4; rw [if_pos h2, if_neg (fun h => hb h.2)]
      · obtain rfl : i = e + 1 := by omega
        rw [if_neg (by omega), show e + 1 - 1 = e by omega, if_neg hb]
    · rfl
theorem Rw.tl_zero (x : Rw) : x.tl 0 = ints x.ds := by
  refine ext_nth (by rw [x.tl_len, ints_len]) fun i i0 i1 => ?_
  rw [x.tl_len] at i1
  rw [x.tl_nth i0 (by omega), if_neg (by omega), nth_ints i0 (by omega)]
theorem Rw.tl_end (x : Rw) {e : Int} (h0 : 0 ≤ e) (h2 : e % 2 = 0) (h1 : ¬ e + 1 < x.ds) : x.tl e = (ints x.ds).map x.fin := by
  refine ext_nth (by rw [x.tl_len, List.length_map, ints_len]) fun i i0 i1 => ?_
  rw [x.tl_len] at i1
  rw [x.tl_nth i0 (by omega), nth_map_ints i0 (by omega)]
  split
  · rfl
  · unfold Rw.fin
    rw [if_pos (by omega), if_neg (fun h => by omega)]
def Rw.row (x : Rw) (d c : Int) : List Int := (ints c).map (x.to d)

theorem list32 {α : Type} : ∀ {l : List α}, l.length = 32 → ∃ n0 n1 n2 n3 n4 n5 n6 n7 n8 n9 n10 n11 n12 n13 n14 n15 n16 n17 n18 n19 n20 n21 n22 n23 n24 n25 n26 n27 n28 n29 n30 n31, l = [n0, n1, n2, n3, n4, n5, n6, n7, n8, n9, n10, n11, n12, n13, n14, n15, n16, n17, n18, n19, n20, n21, n22, n23, n24, n25, n26, n27, n28, n29, n30, n31]
  | [n0, n1, n2, n3, n4, n5, n6, n7, n8, n9, n10, n11, n12, n13, n14, n15, n16, n17, n18, n19, n20, n21, n22, n23, n24, n25, n26, n27, n28, n29, n30, n31], _ => ⟨_, _, _, _, _, _, _, _, _, _, _, _, _, _, _, _, _, _, _, _, _, _, _, _, _, _, _, _, _, _, _, _, rfl⟩
/-- An array's element behind its pointer. -/
theorem Rw.get {x : Rw} {n0 n1 n2 n3 n4 n5 n6 n7 n8 n9 n10 n11 n12 n13 n14 n15 n16 n17 n18 n19 n20 n21 n22 n23 n24 n25 n26 n27 n28 n29 n30 n31 : Int} (h : x.ns = [n0, n1, n2, n3, n4, n5, n6, n7, n8, n9, n10, n11, n12, n13, n14, n15, n16, n17, n18, n19, n20, n21, n22, n23, n24, n25, n26, n27, n28, n29, n30, n31]) {i : Int} (h0 : 0 ≤ i) (h1 : i < 32) : (List.drop (3 + i.toNat * 1) [U x.cells, U x.dirs, U x.turn, U n0, U n1, U n2, U n3, U n4, U n5, U n6, U n7, U n8, U n9, U n10, U n11, U n12, U n13, U n14, U n15, U n16, U n17, U n18, U n19, U n20, U n21, U n22, U n23, U n24, U n25, U n26, U n27, U n28, U n29, U n30, U n31])[0]? = some (U (nth x.ns i)) := by
  have e : [U x.cells, U x.dirs, U x.turn, U n0, U n1, U n2, U n3, U n4, U n5, U n6, U n7, U n8, U n9, U n10, U n11, U n12, U n13, U n14, U n15, U n16, U n17, U n18, U n19, U n20, U n21, U n22, U n23, U n24, U n25, U n26, U n27, U n28, U n29, U n30, U n31] = [U x.cells, U x.dirs, U x.turn] ++ x.ns.map U := by rw [h]; rfl
  have hl : x.ns.length = 32 := by rw [h]; rfl
  rw [e, List.getElem?_drop, List.getElem?_append_right (by simp), List.getElem?_map]
  have : 3 + i.toNat * 1 + 0 - [U x.cells, U x.dirs, U x.turn].length = i.toNat := by simp
  rw [this, nth_some h0 (by omega)]; rfl

theorem Rw.row_succ (x : Rw) (d : Int) {c : Int} (h : 0 ≤ c) : x.row d (c + 1) = x.row d c ++ [x.to d c] := map_ints_succ h _
def Rw.wild (x : Rw) : Bd := ⟨x.cs, (ints x.ds).map fun d => x.row d x.cs, (ints x.ds).map x.fin⟩

set_option maxHeartbeats 4000000 in
set_option maxRecDepth 10000 in
theorem Wild12_p (x : Rw) (hx : x.ok) : Pure Try.prog 12 [x.av] x.wild.av none := by
  obtain ⟨n0, n1, n2, n3, n4, n5, n6, n7, n8, n9, n10, n11, n12, n13, n14, n15, n16, n17, n18, n19, n20, n21, n22, n23, n24, n25, n26, n27, n28, n29, n30, n31, hns⟩ := list32 hx.l
  have hav : x.av = .ag [U x.cells, U x.dirs, U x.turn, U n0, U n1, U n2, U n3, U n4, U n5, U n6, U n7, U n8, U n9, U n10, U n11, U n12, U n13, U n14, U n15, U n16, U n17, U n18, U n19, U n20, U n21, U n22, U n23, U n24, U n25, U n26, U n27, U n28, U n29, U n30, U n31] := by unfold Rw.av; rw [hns]; rfl
  rw [hav]
  refine fun_of tok D_ok Try.func12 rfl Try.ntmps12 Try.results12 (by kernel_rfl) (by simp) (by simp) ?_
  have hc := hx.c
  have hd := hx.d
  unfold u8 at hc hd
  conv => whnf
  repeat' ((first
    | (refine ifD (fun _ => ?_) (fun _ => ?_))
    | (refine ifE (fun _ => ?_) (fun _ => ?_))
    | (refine ifN (fun _ => ?_) (fun _ => ?_))
    | ((with_reducible refine ifNot ?_))
    | ((with_reducible refine ifAndD (fun _ _ => ?_) (fun _ => ?_)))
    | ((with_reducible refine ifAnd (fun _ _ => ?_) (fun _ => ?_)))
    | (refine ixM (by omega) (by first | omega | (simp only [List.length_set, List.length_map, List.length_append, List.length_cons, List.length_nil, List.length_replicate]; omega)) rfl ?_)
    | (refine ixA (by omega) (by first | omega | (simp only [List.length_set, List.length_map, List.length_append, List.length_cons, List.length_nil, List.length_replicate]; omega)) ?_)
    | (refine ltM (by omega) (by first | omega | (simp only [List.length_set, List.length_map, List.length_append, List.length_cons, List.length_nil, List.length_replicate]; omega)) ?_)
    | (refine calI (by omega) ?_)
    | (refine cu8 (by omega) ?_)
    | (refine cu64 (by omega) ?_)
    | (refine And.intro (by omega) ?_; refine crem (by omega) ?_)
    | (refine And.intro (by omega) ?_; refine cquo (by omega) ?_)
    | ((with_reducible refine preI ?_); (first | refine preNil ?_ | refine preOp rfl rfl ?_ | refine preT rfl rfl rfl rfl ?_ | refine preF rfl rfl rfl rfl ?_ | refine preTS rfl rfl rfl rfl ?_ | refine preFS rfl rfl rfl rfl ?_ | refine preSkip rfl rfl rfl rfl ?_ | refine preGT rfl rfl rfl rfl ?_ | refine preGF rfl rfl rfl rfl ?_))
    | ((first | refine drawA (by decide +kernel) ?_ | refine drawA2 (by kernel_rfl) ?_); conv => whnf; (try dsimp only [St.after, St.afterAt, initSt, initT, numO, cellsA, Option.map, ren, renL, renO, St.setObj, headSt, List.cons_append, List.nil_append, List.length_nil]); try (conv => enter [7, 3]; whnf))
    | (refine ap1 (by decide) (by omega) rfl rfl ?_)
    | (refine ap0 (by decide) rfl ?_)
    | (refine apL (by decide) (by omega) (fun _ => rfl) ?_)
    | (refine apM (by decide) (by omega) (fun _ => rfl) ?_)
    | (refine setI (z := _) rfl ?_)
    | (refine And.intro (by omega) (And.intro (by omega) ?_))
    | (refine ifB_intro (fun _ => ?_) (fun _ => ?_))) <;> (conv => whnf; try dsimp only [St.after, St.afterAt, initSt, initT, numO, cellsA, Option.map, ren, renL, renO, St.setObj, headSt, List.cons_append, List.nil_append, List.length_nil]))
  have hcs : x.cs = 1 + x.cells % 8 := rfl
  have hds : x.ds = 1 + x.dirs % 4 := rfl
  refine .of (fun d => [(5, I d)]) (fun d => [(2, .box [I x.cs, .ref 3, .ref 4]), (3, .arr 1 (((ints d).map fun d => x.row d x.cs).map Is)), (4, .arr 1 ((ints d).map I))]) 5 (fun d => 0 ≤ d ∧ d ≤ x.ds) (fun d => (x.ds - d).toNat) 0 ?_
  conv => whnf
  refine ⟨⟨[], (by kernel_rfl), (by kernel_rfl), (by kernel_rfl), ?_, ?_⟩, ?_, fun d ⟨d0, d1⟩ => ?_⟩
  rotate_left 1
  focus
    conv => whnf
    repeat' (first
      | exact trivial
      | with_reducible rfl
      | (refine srcI ?_; kernel_rfl)
      | (refine nsI ?_; kernel_rfl)
      | (refine And.intro ?_ ?_ <;> conv => whnf; try dsimp only [St.after, St.afterAt, initSt, initT, numO, cellsA, Option.map, ren, renL, renO, St.setObj, headSt, List.cons_append, List.nil_append, List.length_nil])
      | rfl)
  rotate_right 1
  focus
    conv => whnf
    repeat' (first
      | exact trivial
      | with_reducible rfl
      | (refine srcI ?_; kernel_rfl)
      | (refine nsI ?_; kernel_rfl)
      | (refine And.intro ?_ ?_ <;> conv => whnf; try dsimp only [St.after, St.afterAt, initSt, initT, numO, cellsA, Option.map, ren, renL, renO, St.setObj, headSt, List.cons_append, List.nil_append, List.length_nil])
      | rfl)
  rotate_right 1
  focus
    conv => whnf
  rotate_left 1
  · exact ⟨by omega, by omega⟩
  have hl1 := ints_len d
  repeat' ((first
    | (refine ifD (fun _ => ?_) (fun _ => ?_))
    | (refine ifE (fun _ => ?_) (fun _ => ?_))
    | (refine ifN (fun _ => ?_) (fun _ => ?_))
    | ((with_reducible refine ifNot ?_))
    | ((with_reducible refine ifAndD (fun _ _ => ?_) (fun _ => ?_)))
    | ((with_reducible refine ifAnd (fun _ _ => ?_) (fun _ => ?_)))
    | (refine ixM (by omega) (by first | omega | (simp only [List.length_set, List.length_map, List.length_append, List.length_cons, List.length_nil, List.length_replicate]; omega)) rfl ?_)
    | (refine ixA (by omega) (by first | omega | (simp only [List.length_set, List.length_map, List.length_append, List.length_cons, List.length_nil, List.length_replicate]; omega)) ?_)
    | (refine ltM (by omega) (by first | omega | (simp only [List.length_set, List.length_map, List.length_append, List.length_cons, List.length_nil, List.length_replicate]; omega)) ?_)
    | (refine calI (by omega) ?_)
    | (refine cu8 (by omega) ?_)
    | (refine cu64 (by omega) ?_)
    | (refine And.intro (by omega) ?_; refine crem (by omega) ?_)
    | (refine And.intro (by omega) ?_; refine cquo (by omega) ?_)
    | ((with_reducible refine preI ?_); (first | refine preNil ?_ | refine preOp rfl rfl ?_ | refine preT rfl rfl rfl rfl ?_ | refine preF rfl rfl rfl rfl ?_ | refine preTS rfl rfl rfl rfl ?_ | refine preFS rfl rfl rfl rfl ?_ | refine preSkip rfl rfl rfl rfl ?_ | refine preGT rfl rfl rfl rfl ?_ | refine preGF rfl rfl rfl rfl ?_))
    | ((first | refine drawA (by decide +kernel) ?_ | refine drawA2 (by kernel_rfl) ?_); conv => whnf; (try dsimp only [St.after, St.afterAt, initSt, initT, numO, cellsA, Option.map, ren, renL, renO, St.setObj, headSt, List.cons_append, List.nil_append, List.length_nil]); try (conv => enter [7, 3]; whnf))
    | (refine ap1 (by decide) (by omega) rfl rfl ?_)
    | (refine ap0 (by decide) rfl ?_)
    | (refine apL (by decide) (by omega) (fun _ => rfl) ?_)
    | (refine apM (by decide) (by omega) (fun _ => rfl) ?_)
    | (refine setI (z := _) rfl ?_)
    | (refine And.intro (by omega) (And.intro (by omega) ?_))
    | (refine ifB_intro (fun _ => ?_) (fun _ => ?_))) <;> (conv => whnf; try dsimp only [St.after, St.afterAt, initSt, initT, numO, cellsA, Option.map, ren, renL, renO, St.setObj, headSt, List.cons_append, List.nil_append, List.length_nil]))
  ·
    refine .of (fun c => [(7, I c), (6, .ref 5)]) (fun c => [(5, .arr 1 ((x.row d c).map I))]) 6 (fun c => 0 ≤ c ∧ c ≤ x.cs) (fun c => (x.cs - c).toNat) 0 ?_
    conv => whnf
    refine ⟨⟨[], (by kernel_rfl), (by kernel_rfl), (by kernel_rfl), ?_, ?_⟩, ?_, fun c ⟨c0, c1⟩ => ?_⟩
    rotate_left 1
    focus
      conv => whnf
      repeat' (first
        | exact trivial
        | with_reducible rfl
        | (refine srcI ?_; kernel_rfl)
        | (refine nsI ?_; kernel_rfl)
        | (refine And.intro ?_ ?_ <;> conv => whnf; try dsimp only [St.after, St.afterAt, initSt, initT, numO, cellsA, Option.map, ren, renL, renO, St.setObj, headSt, List.cons_append, List.nil_append, List.length_nil])
        | rfl)
    rotate_right 1
    focus
      conv => whnf
      repeat' (first
        | exact trivial
        | with_reducible rfl
        | (refine srcI ?_; kernel_rfl)
        | (refine nsI ?_; kernel_rfl)
        | (refine And.intro ?_ ?_ <;> conv => whnf; try dsimp only [St.after, St.afterAt, initSt, initT, numO, cellsA, Option.map, ren, renL, renO, St.setObj, headSt, List.cons_append, List.nil_append, List.length_nil])
        | rfl)
    rotate_right 1
    focus
      conv => whnf
    rotate_left 1
    · exact ⟨by omega, by omega⟩
    have hl2 : (x.row d c).length = c.toNat := by unfold Rw.row; rw [List.length_map, ints_len]
    repeat' ((first
      | (refine ifD (fun _ => ?_) (fun _ => ?_))
      | (refine ifE (fun _ => ?_) (fun _ => ?_))
      | (refine ifN (fun _ => ?_) (fun _ => ?_))
      | ((with_reducible refine ifNot ?_))
      | ((with_reducible refine ifAndD (fun _ _ => ?_) (fun _ => ?_)))
      | ((with_reducible refine ifAnd (fun _ _ => ?_) (fun _ => ?_)))
      | (refine ixM (by omega) (by first | omega | (simp only [List.length_set, List.length_map, List.length_append, List.length_cons, List.length_nil, List.length_replicate]; omega)) rfl ?_)
      | (refine ixA (by omega) (by first | omega | (simp only [List.length_set, List.length_map, List.length_append, List.length_cons, List.length_nil, List.length_replicate]; omega)) ?_)
      | (refine ltM (by omega) (by first | omega | (simp only [List.length_set, List.length_map, List.length_append, List.length_cons, List.length_nil, List.length_replicate]; omega)) ?_)
      | (refine calI (by omega) ?_)
      | (refine cu8 (by omega) ?_)
      | (refine cu64 (by omega) ?_)
      | (refine And.intro (by omega) ?_; refine crem (by omega) ?_)
      | (refine And.intro (by omega) ?_; refine cquo (by omega) ?_)
      | ((with_reducible refine preI ?_); (first | refine preNil ?_ | refine preOp rfl rfl ?_ | refine preT rfl rfl rfl rfl ?_ | refine preF rfl rfl rfl rfl ?_ | refine preTS rfl rfl rfl rfl ?_ | refine preFS rfl rfl rfl rfl ?_ | refine preSkip rfl rfl rfl rfl ?_ | refine preGT rfl rfl rfl rfl ?_ | refine preGF rfl rfl rfl rfl ?_))
      | ((first | refine drawA (by decide +kernel) ?_ | refine drawA2 (by kernel_rfl) ?_); conv => whnf; (try dsimp only [St.after, St.afterAt, initSt, initT, numO, cellsA, Option.map, ren, renL, renO, St.setObj, headSt, List.cons_append, List.nil_append, List.length_nil]); try (conv => enter [7, 3]; whnf))
      | (refine ap1 (by decide) (by omega) rfl rfl ?_)
      | (refine ap0 (by decide) rfl ?_)
      | (refine apL (by decide) (by omega) (fun _ => rfl) ?_)
      | (refine apM (by decide) (by omega) (fun _ => rfl) ?_)
      | (refine setI (z := _) rfl ?_)
      | (refine And.intro (by omega) (And.intro (by omega) ?_))
      | (refine ifB_intro (fun _ => ?_) (fun _ => ?_))) <;> (conv => whnf; try dsimp only [St.after, St.afterAt, initSt, initT, numO, cellsA, Option.map, ren, renL, renO, St.setObj, headSt, List.cons_append, List.nil_append, List.length_nil]))
    · refine ldA (Rw.get hns (i := 8 * d + c) (by omega) (by omega)) ?_
      conv => whnf
      have hn := hx.n (8 * d + c) (by omega) (by omega)
      unfold u8 at hn
      have m0 : 0 ≤ nth x.ns (8 * d + c) % (x.cs + 2) := Int.emod_nonneg _ (by omega)
      have m1 : nth x.ns (8 * d + c) % (x.cs + 2) < x.cs + 2 := Int.emod_lt_of_pos _ (by omega)
      have hat : nth (x.row d c ++ [nth x.ns (8 * d + c) % (x.cs + 2) - 1]) c = nth x.ns (8 * d + c) % (x.cs + 2) - 1 := nth_append_len (by omega)
      repeat' ((first
        | (refine ifD (fun _ => ?_) (fun _ => ?_))
        | (refine ifE (fun _ => ?_) (fun _ => ?_))
        | (refine ifN (fun _ => ?_) (fun _ => ?_))
        | ((with_reducible refine ifNot ?_))
        | ((with_reducible refine ifAndD (fun _ _ => ?_) (fun _ => ?_)))
        | ((with_reducible refine ifAnd (fun _ _ => ?_) (fun _ => ?_)))
        | (refine ixM (by omega) (by first | omega | (simp only [List.length_set, List.length_map, List.length_append, List.length_cons, List.length_nil, List.length_replicate]; omega)) rfl ?_)
        | (refine ixA (by omega) (by first | omega | (simp only [List.length_set, List.length_map, List.length_append, List.length_cons, List.length_nil, List.length_replicate]; omega)) ?_)
        | (refine ltM (by omega) (by first | omega | (simp only [List.length_set, List.length_map, List.length_append, List.length_cons, List.length_nil, List.length_replicate]; omega)) ?_)
        | (refine calI (by omega) ?_)
        | (refine cu8 (by omega) ?_)
        | (refine cu64 (by omega) ?_)
        | (refine And.intro (by omega) ?_; refine crem (by omega) ?_)
        | (refine And.intro (by omega) ?_; refine cquo (by omega) ?_)
        | ((with_reducible refine preI ?_); (first | refine preNil ?_ | refine preOp rfl rfl ?_ | refine preT rfl rfl rfl rfl ?_ | refine preF rfl rfl rfl rfl ?_ | refine preTS rfl rfl rfl rfl ?_ | refine preFS rfl rfl rfl rfl ?_ | refine preSkip rfl rfl rfl rfl ?_ | refine preGT rfl rfl rfl rfl ?_ | refine preGF rfl rfl rfl rfl ?_))
        | ((first | refine drawA (by decide +kernel) ?_ | refine drawA2 (by kernel_rfl) ?_); conv => whnf; (try dsimp only [St.after, St.afterAt, initSt, initT, numO, cellsA, Option.map, ren, renL, renO, St.setObj, headSt, List.cons_append, List.nil_append, List.length_nil]); try (conv => enter [7, 3]; whnf))
        | (refine ap1 (by decide) (by omega) rfl rfl ?_)
        | (refine ap0 (by decide) rfl ?_)
        | (refine apL (by decide) (by omega) (fun _ => rfl) ?_)
        | (refine apM (by decide) (by omega) (fun _ => rfl) ?_)
        | (refine setI (z := _) rfl ?_)
        | (refine And.intro (by omega) (And.intro (by omega) ?_))
        | (refine ifB_intro (fun _ => ?_) (fun _ => ?_))) <;> (conv => whnf; try dsimp only [St.after, St.afterAt, initSt, initT, numO, cellsA, Option.map, ren, renL, renO, St.setObj, headSt, List.cons_append, List.nil_append, List.length_nil]))
      · rename_i q
        rw [hat] at q
        refine ⟨c + 1, ⟨[], (by kernel_rfl), (by kernel_rfl), (by kernel_rfl), ?_, ?_⟩, ?_, by (try dsimp only); omega, rfl⟩
        rotate_left 1
        focus
          conv => whnf
          repeat' (first
            | exact trivial
            | with_reducible rfl
            | (refine srcI ?_; kernel_rfl)
            | (refine nsI ?_; kernel_rfl)
            | (refine And.intro ?_ ?_ <;> conv => whnf; try dsimp only [St.after, St.afterAt, initSt, initT, numO, cellsA, Option.map, ren, renL, renO, St.setObj, headSt, List.cons_append, List.nil_append, List.length_nil]))
        rotate_right 1
        focus
          conv => whnf
          repeat' (first
            | exact trivial
            | with_reducible rfl
            | (refine srcI ?_; kernel_rfl)
            | (refine nsI ?_; kernel_rfl)
            | (refine And.intro ?_ ?_ <;> conv => whnf; try dsimp only [St.after, St.afterAt, initSt, initT, numO, cellsA, Option.map, ren, renL, renO, St.setObj, headSt, List.cons_append, List.nil_append, List.length_nil]))
        · rw [x.row_succ d c0, List.set_append_right _ _ (by omega), hl2, Nat.sub_self]
          unfold Rw.to
          rw [if_pos q]; rfl
        · exact ⟨by omega, by omega⟩
      · rename_i q
        rw [hat] at q
        refine ⟨c + 1, ⟨[], (by kernel_rfl), (by kernel_rfl), (by kernel_rfl), ?_, ?_⟩, ?_, by (try dsimp only); omega, rfl⟩
        rotate_left 1
        focus
          conv => whnf
          repeat' (first
            | exact trivial
            | with_reducible rfl
            | (refine srcI ?_; kernel_rfl)
            | (refine nsI ?_; kernel_rfl)
            | (refine And.intro ?_ ?_ <;> conv => whnf; try dsimp only [St.after, St.afterAt, initSt, initT, numO, cellsA, Option.map, ren, renL, renO, St.setObj, headSt, List.cons_append, List.nil_append, List.length_nil]))
        rotate_right 1
        focus
          conv => whnf
          repeat' (first
            | exact trivial
            | with_reducible rfl
            | (refine srcI ?_; kernel_rfl)
            | (refine nsI ?_; kernel_rfl)
            | (refine And.intro ?_ ?_ <;> conv => whnf; try dsimp only [St.after, St.afterAt, initSt, initT, numO, cellsA, Option.map, ren, renL, renO, St.setObj, headSt, List.cons_append, List.nil_append, List.length_nil]))
        · rw [x.row_succ d c0]
          unfold Rw.to
          rw [if_neg q]
        · exact ⟨by omega, by omega⟩
    · obtain rfl : c = x.cs := by omega
      have hl3 : ((ints d).map fun d => x.row d x.cs).length = d.toNat := by rw [List.length_map, ints_len]
      repeat' ((first
        | (refine ifD (fun _ => ?_) (fun _ => ?_))
        | (refine ifE (fun _ => ?_) (fun _ => ?_))
        | (refine ifN (fun _ => ?_) (fun _ => ?_))
        | ((with_reducible refine ifNot ?_))
        | ((with_reducible refine ifAndD (fun _ _ => ?_) (fun _ => ?_)))
        | ((with_reducible refine ifAnd (fun _ _ => ?_) (fun _ => ?_)))
        | (refine ixM (by omega) (by first | omega | (simp only [List.length_set, List.length_map, List.length_append, List.length_cons, List.length_nil, List.length_replicate]; omega)) rfl ?_)
        | (refine ixA (by omega) (by first | omega | (simp only [List.length_set, List.length_map, List.length_append, List.length_cons, List.length_nil, List.length_replicate]; omega)) ?_)
        | (refine ltM (by omega) (by first | omega | (simp only [List.length_set, List.length_map, List.length_append, List.length_cons, List.length_nil, List.length_replicate]; omega)) ?_)
        | (refine calI (by omega) ?_)
        | (refine cu8 (by omega) ?_)
        | (refine cu64 (by omega) ?_)
        | (refine And.intro (by omega) ?_; refine crem (by omega) ?_)
        | (refine And.intro (by omega) ?_; refine cquo (by omega) ?_)
        | ((with_reducible refine preI ?_); (first | refine preNil ?_ | refine preOp rfl rfl ?_ | refine preT rfl rfl rfl rfl ?_ | refine preF rfl rfl rfl rfl ?_ | refine preTS rfl rfl rfl rfl ?_ | refine preFS rfl rfl rfl rfl ?_ | refine preSkip rfl rfl rfl rfl ?_ | refine preGT rfl rfl rfl rfl ?_ | refine preGF rfl rfl rfl rfl ?_))
        | ((first | refine drawA (by decide +kernel) ?_ | refine drawA2 (by kernel_rfl) ?_); conv => whnf; (try dsimp only [St.after, St.afterAt, initSt, initT, numO, cellsA, Option.map, ren, renL, renO, St.setObj, headSt, List.cons_append, List.nil_append, List.length_nil]); try (conv => enter [7, 3]; whnf))
        | (refine ap1 (by decide) (by omega) rfl rfl ?_)
        | (refine ap0 (by decide) rfl ?_)
        | (refine apL (by decide) (by omega) (fun _ => rfl) ?_)
        | (refine apM (by decide) (by omega) (fun _ => rfl) ?_)
        | (refine setI (z := _) rfl ?_)
        | (refine And.intro (by omega) (And.intro (by omega) ?_))
        | (refine ifB_intro (fun _ => ?_) (fun _ => ?_))) <;> (conv => whnf; try dsimp only [St.after, St.afterAt, initSt, initT, numO, cellsA, Option.map, ren, renL, renO, St.setObj, headSt, List.cons_append, List.nil_append, List.length_nil]))
      refine ⟨d + 1, ⟨[], (by kernel_rfl), (by kernel_rfl), (by kernel_rfl), ?_, ?_⟩, ?_, by (try dsimp only); omega, rfl⟩
      rotate_left 1
      focus
        conv => whnf
        repeat' (first
          | exact trivial
          | with_reducible rfl
          | (refine srcI ?_; kernel_rfl)
          | (refine nsI ?_; kernel_rfl)
          | (refine And.intro ?_ ?_ <;> conv => whnf; try dsimp only [St.after, St.afterAt, initSt, initT, numO, cellsA, Option.map, ren, renL, renO, St.setObj, headSt, List.cons_append, List.nil_append, List.length_nil]))
      rotate_right 1
      focus
        conv => whnf
        repeat' (first
          | exact trivial
          | with_reducible rfl
          | (refine srcI ?_; kernel_rfl)
          | (refine nsI ?_; kernel_rfl)
          | (refine And.intro ?_ ?_ <;> conv => whnf; try dsimp only [St.after, St.afterAt, initSt, initT, numO, cellsA, Option.map, ren, renL, renO, St.setObj, headSt, List.cons_append, List.nil_append, List.length_nil]))
      · rw [map_ints_succ d0]
      · rw [ints_succ d0]
      · exact ⟨by omega, by omega⟩
  · obtain rfl : d = x.ds := by omega
    refine .of (fun e => [(8, I e)]) (fun e => [(4, .arr 1 ((x.tl e).map I))]) 5 (fun e => 0 ≤ e ∧ e % 2 = 0 ∧ e ≤ x.ds + 1) (fun e => (x.ds + 1 - e).toNat) 0 ?_
    conv => whnf
    refine ⟨⟨[], (by kernel_rfl), (by kernel_rfl), (by kernel_rfl), ?_, ?_⟩, ?_, fun e ⟨e0, e2, e3⟩ => ?_⟩
    rotate_left 1
    focus
      conv => whnf
      repeat' (first
        | exact trivial
        | with_reducible rfl
        | (refine srcI ?_; kernel_rfl)
        | (refine nsI ?_; kernel_rfl)
        | (refine And.intro ?_ ?_ <;> conv => whnf; try dsimp only [St.after, St.afterAt, initSt, initT, numO, cellsA, Option.map, ren, renL, renO, St.setObj, headSt, List.cons_append, List.nil_append, List.length_nil])
        | rfl)
    rotate_right 1
    focus
      conv => whnf
      repeat' (first
        | exact trivial
        | with_reducible rfl
        | (refine srcI ?_; kernel_rfl)
        | (refine nsI ?_; kernel_rfl)
        | (refine And.intro ?_ ?_ <;> conv => whnf; try dsimp only [St.after, St.afterAt, initSt, initT, numO, cellsA, Option.map, ren, renL, renO, St.setObj, headSt, List.cons_append, List.nil_append, List.length_nil])
        | rfl)
    rotate_right 1
    focus
      conv => whnf
    rotate_left 1
    · rw [x.tl_zero]
    · exact ⟨by omega, by omega, by omega⟩
    have htl := x.tl_len e
    have hbit : x.bit e = IntKind.u8.wrap (BitVec.ofInt IntKind.u8.bits (x.turn.fdiv (2 ^ (min e.toNat IntKind.u8.bits))) &&& BitVec.ofInt IntKind.u8.bits 1).toNat := rfl
    repeat' ((first
      | (refine ifD (fun _ => ?_) (fun _ => ?_))
      | (refine ifE (fun _ => ?_) (fun _ => ?_))
      | (refine ifN (fun _ => ?_) (fun _ => ?_))
      | ((with_reducible refine ifNot ?_))
      | ((with_reducible refine ifAndD (fun _ _ => ?_) (fun _ => ?_)))
      | ((with_reducible refine ifAnd (fun _ _ => ?_) (fun _ => ?_)))
      | (refine ixM (by omega) (by first | omega | (simp only [List.length_set, List.length_map, List.length_append, List.length_cons, List.length_nil, List.length_replicate]; omega)) rfl ?_)
      | (refine ixA (by omega) (by first | omega | (simp only [List.length_set, List.length_map, List.length_append, List.length_cons, List.length_nil, List.length_replicate]; omega)) ?_)
      | (refine ltM (by omega) (by first | omega | (simp only [List.length_set, List.length_map, List.length_append, List.length_cons, List.length_nil, List.length_replicate]; omega)) ?_)
      | (refine calI (by omega) ?_)
      | (refine cu8 (by omega) ?_)
      | (refine cu64 (by omega) ?_)
      | (refine And.intro (by omega) ?_; refine crem (by omega) ?_)
      | (refine And.intro (by omega) ?_; refine cquo (by omega) ?_)
      | (refine And.intro (by omega) (Calc.mk _ rfl ?_); conv => whnf)
      | (refine Calc.mk _ hbit.symm ?_; conv => whnf)
      | ((with_reducible refine preI ?_); (first | refine preNil ?_ | refine preOp rfl rfl ?_ | refine preT rfl rfl rfl rfl ?_ | refine preF rfl rfl rfl rfl ?_ | refine preTS rfl rfl rfl rfl ?_ | refine preFS rfl rfl rfl rfl ?_ | refine preSkip rfl rfl rfl rfl ?_ | refine preGT rfl rfl rfl rfl ?_ | refine preGF rfl rfl rfl rfl ?_))
      | ((first | refine drawA (by decide +kernel) ?_ | refine drawA2 (by kernel_rfl) ?_); conv => whnf; (try dsimp only [St.after, St.afterAt, initSt, initT, numO, cellsA, Option.map, ren, renL, renO, St.setObj, headSt, List.cons_append, List.nil_append, List.length_nil]); try (conv => enter [7, 3]; whnf))
      | (refine ap1 (by decide) (by omega) rfl rfl ?_)
      | (refine ap0 (by decide) rfl ?_)
      | (refine apL (by decide) (by omega) (fun _ => rfl) ?_)
      | (refine apM (by decide) (by omega) (fun _ => rfl) ?_)
      | (refine setI (z := _) rfl ?_)
      | (refine And.intro (by omega) (And.intro (by omega) ?_))
      | (refine ifB_intro (fun _ => ?_) (fun _ => ?_))) <;> (conv => whnf; try dsimp only [St.after, St.afterAt, initSt, initT, numO, cellsA, Option.map, ren, renL, renO, St.setObj, headSt, List.cons_append, List.nil_append, List.length_nil]))
    · rename_i q1 q2
      refine ⟨e + 2, ⟨[], (by kernel_rfl), (by kernel_rfl), (by kernel_rfl), ?_, ?_⟩, ?_, by (try dsimp only); omega, rfl⟩
      rotate_left 1
      focus
        conv => whnf
        repeat' (first
          | exact trivial
          | with_reducible rfl
          | (refine srcI ?_; kernel_rfl)
          | (refine nsI ?_; kernel_rfl)
          | (refine And.intro ?_ ?_ <;> conv => whnf; try dsimp only [St.after, St.afterAt, initSt, initT, numO, cellsA, Option.map, ren, renL, renO, St.setObj, headSt, List.cons_append, List.nil_append, List.length_nil]))
      rotate_right 1
      focus
        conv => whnf
        repeat' (first
          | exact trivial
          | with_reducible rfl
          | (refine srcI ?_; kernel_rfl)
          | (refine nsI ?_; kernel_rfl)
          | (refine And.intro ?_ ?_ <;> conv => whnf; try dsimp only [St.after, St.afterAt, initSt, initT, numO, cellsA, Option.map, ren, renL, renO, St.setObj, headSt, List.cons_append, List.nil_append, List.length_nil]))
      · rw [x.tl_swap e0 e2 (by omega) q2]
      · exact ⟨by omega, by omega, by omega⟩
    · rename_i q1 q2
      refine ⟨e + 2, ⟨[], (by kernel_rfl), (by kernel_rfl), (by kernel_rfl), ?_, ?_⟩, ?_, by (try dsimp only); omega, rfl⟩
      rotate_left 1
      focus
        conv => whnf
        repeat' (first
          | exact trivial
          | with_reducible rfl
          | (refine srcI ?_; kernel_rfl)
          | (refine nsI ?_; kernel_rfl)
          | (refine And.intro ?_ ?_ <;> conv => whnf; try dsimp only [St.after, St.afterAt, initSt, initT, numO, cellsA, Option.map, ren, renL, renO, St.setObj, headSt, List.cons_append, List.nil_append, List.length_nil]))
      rotate_right 1
      focus
        conv => whnf
        repeat' (first
          | exact trivial
          | with_reducible rfl
          | (refine srcI ?_; kernel_rfl)
          | (refine nsI ?_; kernel_rfl)
          | (refine And.intro ?_ ?_ <;> conv => whnf; try dsimp only [St.after, St.afterAt, initSt, initT, numO, cellsA, Option.map, ren, renL, renO, St.setObj, headSt, List.cons_append, List.nil_append, List.length_nil]))
      · rw [← x.tl_keep e0 e2 q2]
      · exact ⟨by omega, by omega, by omega⟩
    ·
      repeat' ((first
        | (refine ifD (fun _ => ?_) (fun _ => ?_))
        | (refine ifE (fun _ => ?_) (fun _ => ?_))
        | (refine ifN (fun _ => ?_) (fun _ => ?_))
        | ((with_reducible refine ifNot ?_))
        | ((with_reducible refine ifAndD (fun _ _ => ?_) (fun _ => ?_)))
        | ((with_reducible refine ifAnd (fun _ _ => ?_) (fun _ => ?_)))
        | (refine ixM (by omega) (by first | omega | (simp only [List.length_set, List.length_map, List.length_append, List.length_cons, List.length_nil, List.length_replicate]; omega)) rfl ?_)
        | (refine ixA (by omega) (by first | omega | (simp only [List.length_set, List.length_map, List.length_append, List.length_cons, List.length_nil, List.length_replicate]; omega)) ?_)
        | (refine ltM (by omega) (by first | omega | (simp only [List.length_set, List.length_map, List.length_append, List.length_cons, List.length_nil, List.length_replicate]; omega)) ?_)
        | (refine calI (by omega) ?_)
        | (refine cu8 (by omega) ?_)
        | (refine cu64 (by omega) ?_)
        | (refine And.intro (by omega) ?_; refine crem (by omega) ?_)
        | (refine And.intro (by omega) ?_; refine cquo (by omega) ?_)
        | ((with_reducible refine preI ?_); (first | refine preNil ?_ | refine preOp rfl rfl ?_ | refine preT rfl rfl rfl rfl ?_ | refine preF rfl rfl rfl rfl ?_ | refine preTS rfl rfl rfl rfl ?_ | refine preFS rfl rfl rfl rfl ?_ | refine preSkip rfl rfl rfl rfl ?_ | refine preGT rfl rfl rfl rfl ?_ | refine preGF rfl rfl rfl rfl ?_))
        | ((first | refine drawA (by decide +kernel) ?_ | refine drawA2 (by kernel_rfl) ?_); conv => whnf; (try dsimp only [St.after, St.afterAt, initSt, initT, numO, cellsA, Option.map, ren, renL, renO, St.setObj, headSt, List.cons_append, List.nil_append, List.length_nil]); try (conv => enter [7, 3]; whnf))
        | (refine ap1 (by decide) (by omega) rfl rfl ?_)
        | (refine ap0 (by decide) rfl ?_)
        | (refine apL (by decide) (by omega) (fun _ => rfl) ?_)
        | (refine apM (by decide) (by omega) (fun _ => rfl) ?_)
        | (refine setI (z := _) rfl ?_)
        | (refine And.intro (by omega) (And.intro (by omega) ?_))
        | (refine ifB_intro (fun _ => ?_) (fun _ => ?_))
        | (refine exitA (by kernel_rfl) (by kernel_rfl) ⟨?_, trivial⟩ ?_ <;> (conv => whnf) <;> repeat' (first | exact trivial | with_reducible rfl | (refine srcI ?_; kernel_rfl) | (refine nsI ?_; kernel_rfl) | (refine And.intro ?_ ?_ <;> conv => whnf; try dsimp only [St.after, St.afterAt, initSt, initT, numO, cellsA, Option.map, ren, renL, renO, St.setObj, headSt, List.cons_append, List.nil_append, List.length_nil])))) <;> (conv => whnf; try dsimp only [St.after, St.afterAt, initSt, initT, numO, cellsA, Option.map, ren, renL, renO, St.setObj, headSt, List.cons_append, List.nil_append, List.length_nil]))
      · rfl
      · rfl
      · rw [x.tl_end e0 e2 (by omega)]; rfl
theorem Rw.fin_ok (x : Rw) {d : Int} (h0 : 0 ≤ d) (h1 : d < x.ds) : 0 ≤ x.fin d ∧ x.fin d < x.ds ∧ x.fin (x.fin d) = d := by
  unfold Rw.fin
  by_cases e : d % 2 = 0
  · rw [if_pos e]
    by_cases h : d + 1 < x.ds ∧ x.bit d = 1
    · rw [if_pos h, if_neg (by omega), show d + 1 - 1 = d by omega, if_pos h.2]
      omega
    · rw [if_neg h, if_pos e, if_neg h]
      omega
  · rw [if_neg e]
    by_cases h : x.bit (d - 1) = 1
    · rw [if_pos h, if_pos (by omega), if_pos ⟨by omega, h⟩]
      omega
    · rw [if_neg h, if_neg e, if_neg h]
      omega
theorem Rw.wild_ok {x : Rw} (hx : x.ok) : x.wild.ok := by
  have hc := hx.c
  have hd := hx.d
  unfold u8 at hc hd
  have hcs : x.cs = 1 + x.cells % 8 := rfl
  have hds : x.ds = 1 + x.dirs % 4 := rfl
  have nl : (x.wild.next.length : Int) = x.ds := by unfold Rw.wild; simp only; rw [List.length_map, ints_len]; omega
  have tl : (x.wild.turn.length : Int) = x.ds := by unfold Rw.wild; simp only; rw [List.length_map, ints_len]; omega
  have wc : x.wild.cells = x.cs := rfl
  have row : ∀ d : Int, 0 ≤ d → d < x.ds → nth x.wild.next d = x.row d x.cs := fun d h0 h1 => nth_map_ints h0 h1
  have rl : ∀ d : Int, ((x.row d x.cs).length : Int) = x.cs := fun d => by unfold Rw.row; rw [List.length_map, ints_len]; omega
  have trn : ∀ d : Int, 0 ≤ d → d < x.ds → x.wild.tn d = x.fin d := fun d h0 h1 => nth_map_ints h0 h1
  refine ⟨by omega, by omega, by omega, by omega, by omega, fun d h0 h1 => ?_, fun d c h0 h1 h2 h3 => ?_, fun d h0 h1 => ?_⟩
  · rw [row d h0 (by omega), rl, wc]
  · have e : x.wild.nx d c = x.to d c := by
      unfold Bd.nx
      rw [row d h0 (by omega)]
      exact nth_map_ints h2 (by omega)
    rw [e, wc]
    have m0 : 0 ≤ nth x.ns (8 * d + c) % (x.cs + 2) := Int.emod_nonneg _ (by omega)
    have m1 : nth x.ns (8 * d + c) % (x.cs + 2) < x.cs + 2 := Int.emod_lt_of_pos _ (by omega)
    unfold Rw.to
    split <;> omega
  · have h := x.fin_ok h0 (by omega)
    rw [trn d h0 (by omega), trn _ h.1 h.2.1]
    exact ⟨h.1, by omega, h.2.2⟩
end Go.Proofs.Ytkecpgidolphfaa
