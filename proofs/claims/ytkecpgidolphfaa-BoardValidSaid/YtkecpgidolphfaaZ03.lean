/- Contracts of functions of the program, proved by the checker; and plain laws. -/
import Derived.Test.YtkecpgidolphfaaZ02
import Derived.Test.YtkecpgidolphfaaZ00
import Derived.Test.YtkecpgidolphfaaZ01
import Derived.Test.YtkecpgidolphfaaRows
import Derived.Test.YtkecpgidolphfaaSk17
set_option linter.unusedVariables false
set_option linter.unusedSimpArgs false
namespace Go.Proofs.Ytkecpgidolphfaa
open Go Go.Sk
def U (n : Int) : AV := .v (.int .u8 n)
structure Rw where
  cells : Int
  dirs : Int
  turn : Int
  ns : List Int
def Rw.av (x : Rw) : AV := .ag (U x.cells :: U x.dirs :: U x.turn :: x.ns.map U)
def u8 (n : Int) : Prop := 0 ≤ n ∧ n ≤ 255
structure Rw.ok (x : Rw) : Prop where
  c : u8 x.cells
  d : u8 x.dirs
  t : u8 x.turn
  n : ∀ i : Int, 0 ≤ i → i < 32 → u8 (nth x.ns i)
  l : x.ns.length = 32
def Rw.cs (x : Rw) : Int := 1 + x.cells % 8
def Rw.ds (x : Rw) : Int := 1 + x.dirs % 4
def Rw.to (x : Rw) (d c : Int) : Int := if nth x.ns (8 * d + c) % (x.cs + 2) - 1 = x.cs then -1 else nth x.ns (8 * d + c) % (x.cs + 2) - 1
def Rw.bit (x : Rw) (e : Int) : Int := IntKind.u8.wrap (BitVec.ofInt IntKind.u8.bits (x.turn.fdiv (2 ^ (min e.toNat IntKind.u8.bits))) &&& BitVec.ofInt IntKind.u8.bits 1).toNat
def Rw.fin (x : Rw) (d : Int) : Int := if d % 2 = 0 then (if d + 1 < x.ds ∧ x.bit d = 1 then d + 1 else d) else (if x.bit (d - 1) = 1 then d - 1 else d)
def Rw.tl (x : Rw) (e : Int) : List Int := (ints x.ds).map fun d => if d < e then x.fin d else d
theorem Rw.tl_nth (x : Rw) {e i : Int} (h0 : 0 ≤ i) (h1 : i < x.ds) : nth (x.tl e) i = if i < e then x.fin i else i := nth_map_ints h0 h1
theorem Rw.tl_len (x : Rw) (e : Int) : (x.tl e).length = x.ds.toNat := by unfold Rw.tl; rw [List.length_map, ints_len]
theorem Rw.tl_swap (x : Rw) {e : Int} (h0 : 0 ≤ e) (h2 : e % 2 = 0) (h1 : e + 1 < x.ds) (hb : x.bit e = 1) : ((x.tl e).set e.toNat (e + 1)).set (e + 1).toNat e = x.tl (e + 2) := by
  have hl := x.tl_len e
  refine ext_nth (by rw [List.length_set, List.length_set, hl, x.tl_len]) fun i i0 i1 => ?_
  rw [List.length_set, List.length_set, hl] at i1
  rw [x.tl_nth i0 (by omega)]
  have f1 : x.fin e = e + 1 := by unfold Rw.fin; rw [if_pos h2, if_pos ⟨h1, hb⟩]
  have f2 : x.fin (e + 1) = e := by unfold Rw.fin; rw [if_neg (by omega), show e + 1 - 1 = e by omega, if_pos hb]
  by_cases e1 : e + 1 = i
  · rw [← e1, nth_set_eq (by omega) (by rw [List.length_set, hl]; omega), if_pos (by omega), f2]
  · rw [nth_set_ne (by omega) i0 e1]
    by_cases e2 : e = i
    · rw [← e2, nth_set_eq h0 (by rw [hl]; omega), if_pos (by omega), f1]
    · rw [nth_set_ne h0 i0 e2, x.tl_nth i0 (by omega)]
      by_cases e3 : i < e
      · rw [if_pos e3, if_pos (by omega)]
      · rw [if_neg e3, if_neg (by omega)]
theorem Rw.tl_keep (x : Rw) {e : Int} (h0 : 0 ≤ e) (h2 : e % 2 = 0) (hb : x.bit e ≠ 1) : x.tl e = x.tl (e + 2) := by
  refine ext_nth (by rw [x.tl_len, x.tl_len]) fun i i0 i1 => ?_
  rw [x.tl_len] at i1
  rw [x.tl_nth i0 (by omega), x.tl_nth i0 (by omega)]
  by_cases e3 : i < e
  · rw [if_pos e3, if_pos (by omega)]
  · rw [if_neg e3]
    split
    · unfold Rw.fin
      by_cases e4 : i = e
      · subst e4; rw [if_pos h2, if_neg (fun h => hb h.2)]
      · obtain rfl : i = e + 1 := by omega
        rw [if_neg (by omega), show e + 1 - 1 = e by omega, if_neg hb]
    · rfl
theorem Rw.tl_zero (x : Rw) : x.tl 0 = ints x.ds := by
  refine ext_nth (by rw [x.tl_len, ints_len]) fun i i0 i1 => ?_
  rw [x.tl_len] at i1
  rw [x.tl_nth i0 (by omega), if_neg (by omega), nth_ints i0 (by omega)]
theorem Rw.tl_end (x : Rw) {e : Int} (h0 : 0 ≤ e) (h2 : e % 2 = 0) (h1 : ¬ e + 1 < x.ds) : x.tl e = (ints x.ds).map x.fin := by
  refine ext_nth (by rw [x.tl_len, List.length_map, ints_len]) fun i i0 i1 => ?_
  rw [x.tl_len] at i1
  rw [x.tl_nth i0 (by omega), nth_map_ints i0 (by omega)]
  split
  · rfl
  · unfold Rw.fin
    rw [if_pos (by omega), if_neg (fun h => by omega)]
def Rw.row (x : Rw) (d c : Int) : List Int := (ints c).map (x.to d)
theorem list32 {α : Type} : ∀ {l : List α}, l.length = 32 → ∃ n0 n1 n2 n3 n4 n5 n6 n7 n8 n9 n10 n11 n12 n13 n14 n15 n16 n17 n18 n19 n20 n21 n22 n23 n24 n25 n26 n27 n28 n29 n30 n31, l = [n0, n1, n2, n3, n4, n5, n6, n7, n8, n9, n10, n11, n12, n13, n14, n15, n16, n17, n18, n19, n20, n21, n22, n23, n24, n25, n26, n27, n28, n29, n30, n31]
  | [n0, n1, n2, n3, n4, n5, n6, n7, n8, n9, n10, n11, n12, n13, n14, n15, n16, n17, n18, n19, n20, n21, n22, n23, n24, n25, n26, n27, n28, n29, n30, n31], _ => ⟨_, _, _, _, _, _, _, _, _, _, _, _, _, _, _, _, _, _, _, _, _, _, _, _, _, _, _, _, _, _, _, _, rfl⟩
theorem Rw.get {x : Rw} {n0 n1 n2 n3 n4 n5 n6 n7 n8 n9 n10 n11 n12 n13 n14 n15 n16 n17 n18 n19 n20 n21 n22 n23 n24 n25 n26 n27 n28 n29 n30 n31 : Int} (h : x.ns = [n0, n1, n2, n3, n4, n5, n6, n7, n8, n9, n10, n11, n12, n13, n14, n15, n16, n17, n18, n19, n20, n21, n22, n23, n24, n25, n26, n27, n28, n29, n30, n31]) {i : Int} (h0 : 0 ≤ i) (h1 : i < 32) : (List.drop (3 + i.toNat * 1) [U x.cells, U x.dirs, U x.turn, U n0, U n1, U n2, U n3, U n4, U n5, U n6, U n7, U n8, U n9, U n10, U n11, U n12, U n13, U n14, U n15, U n16, U n17, U n18, U n19, U n20, U n21, U n22, U n23, U n24, U n25, U n26, U n27, U n28, U n29, U n30, U n31])[0]? = some (U (nth x.ns i)) := by
  have e : [U x.cells, U x.dirs, U x.turn, U n0, U n1, U n2, U n3, U n4, U n5, U n6, U n7, U n8, U n9, U n10, U n11, U n12, U n13, U n14, U n15, U n16, U n17, U n18, U n19, U n20, U n21, U n22, U n23, U n24, U n25, U n26, U n27, U n28, U n29, U n30, U n31] = [U x.cells, U x.dirs, U x.turn] ++ x.ns.map U := by rw [h]; rfl
  have hl : x.ns.length = 32 := by rw [h]; rfl
  rw [e, List.getElem?_drop, List.getElem?_append_right (by simp), List.getElem?_map]
  have : 3 + i.toNat * 1 + 0 - [U x.cells, U x.dirs, U x.turn].length = i.toNat := by simp
  rw [this, nth_some h0 (by omega)]; rfl
theorem partGet {cs : List AV} {m : Nat} {x : AV} (h : (List.drop (3 + m * 1) cs)[0]? = some x) : partA (List.drop (3 + m * ti5.size) cs) ti5 0 = some x := h
theorem Rw.row_succ (x : Rw) (d : Int) {c : Int} (h : 0 ≤ c) : x.row d (c + 1) = x.row d c ++ [x.to d c] := map_ints_succ h _
def Rw.wild (x : Rw) : Bd := ⟨x.cs, (ints x.ds).map fun d => x.row d x.cs, (ints x.ds).map x.fin⟩
theorem Rw.fin_ok (x : Rw) {d : Int} (h0 : 0 ≤ d) (h1 : d < x.ds) : 0 ≤ x.fin d ∧ x.fin d < x.ds ∧ x.fin (x.fin d) = d := by
  unfold Rw.fin
  by_cases e : d % 2 = 0
  · rw [if_pos e]
    by_cases h : d + 1 < x.ds ∧ x.bit d = 1
    · rw [if_pos h, if_neg (by omega), show d + 1 - 1 = d by omega, if_pos h.2]
      omega
    · rw [if_neg h, if_pos e, if_neg h]
      omega
  · rw [if_neg e]
    by_cases h : x.bit (d - 1) = 1
    · rw [if_pos h, if_pos (by omega), if_pos ⟨by omega, h⟩]
      omega
    · rw [if_neg h, if_neg e, if_neg h]
      omega
theorem Rw.wild_ok {x : Rw} (hx : x.ok) : x.wild.ok := by
  have hc := hx.c
  have hd := hx.d
  unfold u8 at hc hd
  have hcs : x.cs = 1 + x.cells % 8 := rfl
  have hds : x.ds = 1 + x.dirs % 4 := rfl
  have nl : (x.wild.next.length : Int) = x.ds := by unfold Rw.wild; simp only; rw [List.length_map, ints_len]; omega
  have tl : (x.wild.turn.length : Int) = x.ds := by unfold Rw.wild; simp only; rw [List.length_map, ints_len]; omega
  have wc : x.wild.cells = x.cs := rfl
  have row : ∀ d : Int, 0 ≤ d → d < x.ds → nth x.wild.next d = x.row d x.cs := fun d h0 h1 => nth_map_ints h0 h1
  have rl : ∀ d : Int, ((x.row d x.cs).length : Int) = x.cs := fun d => by unfold Rw.row; rw [List.length_map, ints_len]; omega
  have trn : ∀ d : Int, 0 ≤ d → d < x.ds → x.wild.tn d = x.fin d := fun d h0 h1 => nth_map_ints h0 h1
  refine ⟨by omega, by omega, by omega, by omega, by omega, fun d h0 h1 => ?_, fun d c h0 h1 h2 h3 => ?_, fun d h0 h1 => ?_⟩
  · rw [row d h0 (by omega), rl, wc]
  · have e : x.wild.nx d c = x.to d c := by
      unfold Bd.nx
      rw [row d h0 (by omega)]
      exact nth_map_ints h2 (by omega)
    rw [e, wc]
    have m0 : 0 ≤ nth x.ns (8 * d + c) % (x.cs + 2) := Int.emod_nonneg _ (by omega)
    have m1 : nth x.ns (8 * d + c) % (x.cs + 2) < x.cs + 2 := Int.emod_lt_of_pos _ (by omega)
    unfold Rw.to
    split <;> omega
  · have h := x.fin_ok h0 (by omega)
    rw [trn d h0 (by omega), trn _ h.1 h.2.1]
    exact ⟨h.1, by omega, h.2.2⟩
end Go.Proofs.Ytkecpgidolphfaa
namespace Go.Proofs.Ytkecpgidolphfaa
open Go Go.Sk
set_option maxHeartbeats 4000000 in
set_option maxRecDepth 10000 in
theorem WildO_p (x : Rw) (hx : x.ok) : Fun Try.prog 12 [] [x.av] (.ag [I x.wild.cells, .ref 0, .ref 1]) [.tre 1 (x.wild.next.map Ow), .arr 1 (x.wild.turn.map I)] := by
  have tre : TreHint := ⟨⟩
  obtain ⟨n0, n1, n2, n3, n4, n5, n6, n7, n8, n9, n10, n11, n12, n13, n14, n15, n16, n17, n18, n19, n20, n21, n22, n23, n24, n25, n26, n27, n28, n29, n30, n31, hns⟩ := list32 hx.l
  have hav : x.av = .ag [U x.cells, U x.dirs, U x.turn, U n0, U n1, U n2, U n3, U n4, U n5, U n6, U n7, U n8, U n9, U n10, U n11, U n12, U n13, U n14, U n15, U n16, U n17, U n18, U n19, U n20, U n21, U n22, U n23, U n24, U n25, U n26, U n27, U n28, U n29, U n30, U n31] := by unfold Rw.av; rw [hns]; rfl
  rw [hav]
  refine fun_of tok D_ok Try.func12 rfl Try.ntmps12 Try.results12 (by kernel_rfl) (by simp) (by simp) ?_
  have hc := hx.c
  have hd := hx.d
  unfold u8 at hc hd
  conv => whnf
  repeat' (first
    | (refine lvK (k := ?_); apply Cj.mk <;> first | exact trivial | intros)
    | fail)
  have hcs : x.cs = 1 + x.cells % 8 := rfl
  have hds : x.ds = 1 + x.dirs % 4 := rfl
  refine .of (fun d => [(5, I d)]) (fun d => [(2, .box [I x.cs, .ref 3, .ref 4]), (3, .tre 1 (((ints d).map fun d => x.row d x.cs).map Ow)), (4, .arr 1 ((ints d).map I))]) 5 (fun d => 0 ≤ d ∧ d ≤ x.ds) (fun d => (x.ds - d).toNat) 0 ?_
  conv => whnf
  refine ⟨⟨[], (by kernel_rfl), (by kernel_rfl), (by kernel_rfl), lvL (k := ?_), lvL (k := ?_)⟩, ?_, fun d ⟨d0, d1⟩ => lvN (k := ?_)⟩ <;> (first | (apply Cj.mk <;> first | exact trivial | intros) | skip)
  · exact ⟨by omega, by omega⟩
  have hl1 := ints_len d
  have hl3 : ((ints d).map fun d => x.row d x.cs).length = d.toNat := by rw [List.length_map, ints_len]
  repeat' (first
    | (refine lvK (k := ?_); apply Cj.mk <;> first | exact trivial | intros)
    | (refine AltT.own (by assumption) (lvN (k := ?_)); apply Cj.mk <;> first | exact trivial | intros)
    | (refine tApp (by decide) (by omega) (lvN (k := ?_)); apply Cj.mk <;> first | exact trivial | intros)
    | fail)
  ·
    refine .of (fun c => [(7, I c), (6, .ref 5)]) (fun c => [(3, .tre 1 (((ints d).map fun d => x.row d x.cs).map Ow)), (5, .arr 1 ((x.row d c).map I))]) 6 (fun c => 0 ≤ c ∧ c ≤ x.cs) (fun c => (x.cs - c).toNat) 0 ?_
    conv => whnf
    refine ⟨⟨[], (by kernel_rfl), (by kernel_rfl), (by kernel_rfl), lvL (k := ?_), lvL (k := ?_)⟩, ?_, fun c ⟨c0, c1⟩ => lvN (k := ?_)⟩ <;> (first | (apply Cj.mk <;> first | exact trivial | intros) | skip)
    · exact bdOw _ _ ‹_›
    · exact ⟨by omega, by omega⟩
    have hl2 : (x.row d c).length = c.toNat := by unfold Rw.row; rw [List.length_map, ints_len]
    repeat' (first
      | (refine lvK (k := ?_); apply Cj.mk <;> first | exact trivial | intros)
      | (refine AltT.own (by assumption) (lvN (k := ?_)); apply Cj.mk <;> first | exact trivial | intros)
      | (refine tApp (by decide) (by omega) (lvN (k := ?_)); apply Cj.mk <;> first | exact trivial | intros)
      | fail)
    · refine natI (n := 3 + (8 * d + c).toNat * ti5.size) ?_
      conv => whnf
      repeat' (first
        | (refine lvK (k := ?_); apply Cj.mk <;> first | exact trivial | intros)
        | (refine AltT.own (by assumption) (lvN (k := ?_)); apply Cj.mk <;> first | exact trivial | intros)
        | (refine tApp (by decide) (by omega) (lvN (k := ?_)); apply Cj.mk <;> first | exact trivial | intros)
        | fail)
      refine ldA (partGet (Rw.get hns (i := 8 * d + c) (by omega) (by omega))) ?_
      conv => whnf
      have hn := hx.n (8 * d + c) (by omega) (by omega)
      unfold u8 at hn
      have m0 : 0 ≤ nth x.ns (8 * d + c) % (x.cs + 2) := Int.emod_nonneg _ (by omega)
      have m1 : nth x.ns (8 * d + c) % (x.cs + 2) < x.cs + 2 := Int.emod_lt_of_pos _ (by omega)
      have hat : nth (x.row d c ++ [nth x.ns (8 * d + c) % (x.cs + 2) - 1]) c = nth x.ns (8 * d + c) % (x.cs + 2) - 1 := nth_append_len (by omega)
      repeat' (first
        | (refine lvK (k := ?_); apply Cj.mk <;> first | exact trivial | intros)
        | (refine AltT.own (by assumption) (lvN (k := ?_)); apply Cj.mk <;> first | exact trivial | intros)
        | (refine tApp (by decide) (by omega) (lvN (k := ?_)); apply Cj.mk <;> first | exact trivial | intros)
        | fail)
      · rename_i q
        rw [hat] at q
        refine ⟨c + 1, ⟨[], (by kernel_rfl), (by kernel_rfl), (by kernel_rfl), lvL (k := ?_), lvL (k := ?_)⟩, ?_, by (try dsimp only); omega, rfl⟩ <;> (first | (apply Cj.mk <;> first | exact trivial | intros) | skip)
        · exact bdOw _ _ ‹_›
        · rw [x.row_succ d c0, List.set_append_right _ _ (by omega), hl2, Nat.sub_self]
          unfold Rw.to
          rw [if_pos q]; rfl
        · exact ⟨by omega, by omega⟩
      · rename_i q
        rw [hat] at q
        refine ⟨c + 1, ⟨[], (by kernel_rfl), (by kernel_rfl), (by kernel_rfl), lvL (k := ?_), lvL (k := ?_)⟩, ?_, by (try dsimp only); omega, rfl⟩ <;> (first | (apply Cj.mk <;> first | exact trivial | intros) | skip)
        · exact bdOw _ _ ‹_›
        · rw [x.row_succ d c0]
          unfold Rw.to
          rw [if_neg q]
        · exact ⟨by omega, by omega⟩
    · obtain rfl : c = x.cs := by omega
      repeat' (first
        | (refine lvK (k := ?_); apply Cj.mk <;> first | exact trivial | intros)
        | (refine AltT.own (by assumption) (lvN (k := ?_)); apply Cj.mk <;> first | exact trivial | intros)
        | (refine tApp (by decide) (by omega) (lvN (k := ?_)); apply Cj.mk <;> first | exact trivial | intros)
        | fail)
      refine ⟨d + 1, ⟨[], (by kernel_rfl), (by kernel_rfl), (by kernel_rfl), lvL (k := ?_), lvL (k := ?_)⟩, ?_, by (try dsimp only); omega, rfl⟩ <;> (first | (apply Cj.mk <;> first | exact trivial | intros) | skip)
      · rw [map_ints_succ d0]
      · exact bdOw _ _ ‹_›
      · rw [ints_succ d0]
      · exact ⟨by omega, by omega⟩
  · obtain rfl : d = x.ds := by omega
    refine .of (fun e => [(8, I e)]) (fun e => [(3, .tre 1 (((ints x.ds).map fun d => x.row d x.cs).map Ow)), (4, .arr 1 ((x.tl e).map I))]) 5 (fun e => 0 ≤ e ∧ e % 2 = 0 ∧ e ≤ x.ds + 1) (fun e => (x.ds + 1 - e).toNat) 0 ?_
    conv => whnf
    refine ⟨⟨[], (by kernel_rfl), (by kernel_rfl), (by kernel_rfl), lvL (k := ?_), lvL (k := ?_)⟩, ?_, fun e ⟨e0, e2, e3⟩ => lvN (k := ?_)⟩ <;> (first | (apply Cj.mk <;> first | exact trivial | intros) | skip)
    · exact bdOw _ _ ‹_›
    · rw [x.tl_zero]
    · exact ⟨by omega, by omega, by omega⟩
    have htl := x.tl_len e
    have hbit2 : x.bit e = x.turn.fdiv (2 ^ (min e.toNat IntKind.u8.bits)) % 2 := (cand8 (K := fun v => v = x.turn.fdiv (2 ^ (min e.toNat IntKind.u8.bits)) % 2) rfl).elim
    have hbit : x.bit e = IntKind.u8.wrap (BitVec.ofInt IntKind.u8.bits (x.turn.fdiv (2 ^ (min e.toNat IntKind.u8.bits))) &&& BitVec.ofInt IntKind.u8.bits 1).toNat := rfl
    repeat' (first
      | (refine lvK (k := ?_); apply Cj.mk <;> first | exact trivial | intros)
      | (refine AltT.own (by assumption) (lvN (k := ?_)); apply Cj.mk <;> first | exact trivial | intros)
      | (refine tApp (by decide) (by omega) (lvN (k := ?_)); apply Cj.mk <;> first | exact trivial | intros)
      | (refine And.intro (by omega) (Calc.mk _ rfl ?_); conv => whnf)
      | (refine Calc.mk _ hbit.symm ?_; conv => whnf)
      | fail)
    · rename_i q1 q2
      rw [← hbit2] at q2
      refine ⟨e + 2, ⟨[], (by kernel_rfl), (by kernel_rfl), (by kernel_rfl), lvL (k := ?_), lvL (k := ?_)⟩, ?_, by (try dsimp only); omega, rfl⟩ <;> (first | (apply Cj.mk <;> first | exact trivial | intros) | skip)
      · exact bdOw _ _ ‹_›
      · rw [x.tl_swap e0 e2 (by omega) q2]
      · exact ⟨by omega, by omega, by omega⟩
    · rename_i q1 q2
      rw [← hbit2] at q2
      refine ⟨e + 2, ⟨[], (by kernel_rfl), (by kernel_rfl), (by kernel_rfl), lvL (k := ?_), lvL (k := ?_)⟩, ?_, by (try dsimp only); omega, rfl⟩ <;> (first | (apply Cj.mk <;> first | exact trivial | intros) | skip)
      · exact bdOw _ _ ‹_›
      · rw [← x.tl_keep e0 e2 q2]
      · exact ⟨by omega, by omega, by omega⟩
    ·
      repeat' (first
        | (refine lvA (k := ?_); apply Cj.mk <;> first | exact trivial | intros)
        | (refine lvE (k := ?_); apply Cj.mk <;> first | exact trivial | intros)
        | fail)
      · exact bdOw _ _ ‹_›
      · rw [x.tl_end e0 e2 (by omega)]; rfl
end Go.Proofs.Ytkecpgidolphfaa
namespace Go.Proofs.Ytkecpgidolphfaa
open Go Go.Sk
def idx (l : List Int) (n : Int) : Int := match l.findIdx? (fun x => x == n) with | some i => (i : Int) | none => -1
theorem idx_ge (l : List Int) (n : Int) : decide (idx l n ≥ 0) = l.contains n := by
  unfold idx
  cases hf : l.findIdx? (fun x => x == n) with
  | none =>
    rw [List.findIdx?_eq_none_iff] at hf
    have : l.contains n = false := by
      rw [Bool.eq_false_iff]
      intro h
      rw [List.contains_iff_mem] at h
      have := hf n h
      simp at this
    rw [this]; rfl
  | some i =>
    obtain ⟨h1, h2, _⟩ := List.findIdx?_eq_some_iff_getElem.1 hf
    have : l.contains n = true := List.contains_iff_mem.2 (by rw [← eq_of_beq h2]; exact List.getElem_mem _)
    rw [this]
    exact decide_eq_true (show (i : Int) ≥ 0 by omega)
set_option maxRecDepth 10000 in
theorem Index_p (l : List Int) (n : Int) (hl : l.length ≤ 4611686018427387904) : Pure Try.prog 46 [Is l, I n] (I (idx l n)) none := by
  refine fun_of tok D_ok Try.func46 rfl Try.ntmps46 Try.results46 (by kernel_rfl) (by simp) (by simp) ?_
  have e : l.length = (l.map I).length := by simp
  conv => whnf
  refine .of (fun i => [(8, I i)]) (fun i => []) 0 (fun i => 0 ≤ i ∧ i ≤ l.length ∧ n ∉ l.take i.toNat) (fun i => (l.length - i).toNat) 0 ?_
  conv => whnf
  refine ⟨⟨[], (by kernel_rfl), (by kernel_rfl), (by kernel_rfl), ?_, ?_⟩, ?_, fun i ⟨h0, h1, ht⟩ => ?_⟩
  rotate_left 1
  focus
    conv => whnf
    repeat' (first
      | exact trivial
      | with_reducible rfl
      | (refine srcI ?_; kernel_rfl)
      | (refine nsI ?_; kernel_rfl)
      | (refine And.intro ?_ ?_ <;> conv => whnf; try dsimp only [St.after, St.afterAt, St.pin, St.unpin, initSt, initT, numO, cellsA, Option.map, ren, renL, renO, St.setObj, headSt, List.cons_append, List.nil_append, List.length_nil, Nat.reduceAdd])
      | rfl)
  rotate_right 1
  focus
    conv => whnf
    repeat' (first
      | exact trivial
      | with_reducible rfl
      | (refine srcI ?_; kernel_rfl)
      | (refine nsI ?_; kernel_rfl)
      | (refine And.intro ?_ ?_ <;> conv => whnf; try dsimp only [St.after, St.afterAt, St.pin, St.unpin, initSt, initT, numO, cellsA, Option.map, ren, renL, renO, St.setObj, headSt, List.cons_append, List.nil_append, List.length_nil, Nat.reduceAdd])
      | rfl)
  rotate_right 1
  focus
    conv => whnf
  rotate_left 1
  · exact ⟨by omega, by omega, by simp⟩
  repeat' ((first
    | (refine Ck.mk ?_)
    | (refine ifD (fun _ => ?_) (fun _ => ?_))
    | (refine ifE (fun _ => ?_) (fun _ => ?_))
    | (refine ifN (fun _ => ?_) (fun _ => ?_))
    | ((with_reducible refine natI ?_))
    | ((with_reducible refine ifNot ?_))
    | ((with_reducible refine ifAndD (fun _ _ => ?_) (fun _ => ?_)))
    | ((with_reducible refine ifAnd (fun _ _ => ?_) (fun _ => ?_)))
    | (refine ixM (by omega) (by first | omega | (simp only [List.length_set, List.length_map, List.length_append, List.length_cons, List.length_nil, List.length_replicate]; omega)) rfl ?_)
    | (refine ixA (by omega) (by first | omega | (simp only [List.length_set, List.length_map, List.length_append, List.length_cons, List.length_nil, List.length_replicate]; omega)) ?_)
    | (refine ltM (by omega) (by first | omega | (simp only [List.length_set, List.length_map, List.length_append, List.length_cons, List.length_nil, List.length_replicate]; omega)) ?_)
    | (refine calI (by omega) ?_)
    | (refine cu8 (by omega) ?_)
    | (refine cu64 (by omega) ?_)
    | (refine And.intro (by omega) ?_; refine crem (by omega) ?_)
    | (refine And.intro (by omega) ?_; refine cquo (by omega) ?_)
    | ((with_reducible refine preI ?_); (first | refine preNil ?_ | refine preOp rfl rfl ?_ | refine preT rfl rfl rfl rfl ?_ | refine preF rfl rfl rfl rfl ?_ | refine preTS rfl rfl rfl rfl ?_ | refine preFS rfl rfl rfl rfl ?_ | refine preSkip rfl rfl rfl rfl ?_ | refine preGT rfl rfl rfl rfl ?_ | refine preGF rfl rfl rfl rfl ?_))
    | (refine AltS.own (by assumption) ?_)
    | (refine AltS.im ?_)
    | (refine AltT.own (by assumption) ?_)
    | (refine AltT.im ?_)
    | (refine NilK.mk (fun _ => ?_) ?_)
    | (refine AltV.own (by assumption) ?_)
    | (refine AltV.im ?_)
    | ((first | refine drawA2 (by decide +kernel) ?_ | refine drawA (by decide +kernel) ?_ | refine drawL (by decide +kernel) ?_); conv => whnf; (try dsimp only [St.after, St.afterAt, St.pin, St.unpin, initSt, initT, numO, cellsA, Option.map, ren, renL, renO, St.setObj, headSt, List.cons_append, List.nil_append, List.length_nil, Nat.reduceAdd]); try (conv => enter [7, 3]; whnf))
    | (refine ap1 (by decide) (by omega) rfl rfl ?_)
    | (refine ap0 (by decide) rfl ?_)
    | (refine apL (by decide) (by omega) (fun _ => rfl) ?_)
    | (refine apM (by decide) (by omega) (fun _ => rfl) ?_)
    | (refine setI (z := _) rfl ?_)
    | (refine And.intro (by omega) (And.intro (by omega) ?_))
    | (refine ifB_intro (fun _ => ?_) (fun _ => ?_))
    | (refine exitA (by kernel_rfl) (by kernel_rfl) ⟨?_, trivial⟩ ?_ <;> (conv => whnf) <;> repeat' (first | exact trivial | with_reducible rfl | (refine srcI ?_; kernel_rfl) | (refine nsI ?_; kernel_rfl) | (refine And.intro ?_ ?_ <;> conv => whnf; try dsimp only [St.after, St.afterAt, St.pin, St.unpin, initSt, initT, numO, cellsA, Option.map, ren, renL, renO, St.setObj, headSt, List.cons_append, List.nil_append, List.length_nil, Nat.reduceAdd])))) <;> (conv => whnf; try dsimp only [St.after, St.afterAt, St.pin, St.unpin, initSt, initT, numO, cellsA, Option.map, ren, renL, renO, St.setObj, headSt, List.cons_append, List.nil_append, List.length_nil, Nat.reduceAdd]))
  · rename_i h
    have hf : l.findIdx? (fun x => x == n) = some i.toNat := by
      rw [List.findIdx?_eq_some_iff_getElem]
      refine ⟨by omega, ?_, fun j hj => ?_⟩
      · have := nth_some h0 (show i < l.length by omega)
        rw [List.getElem?_eq_getElem (by omega)] at this
        injection this with this
        rw [this, h]; simp
      · intro he
        exact ht (List.mem_take_iff_getElem.2 ⟨j, by omega, eq_of_beq he⟩)
    unfold idx
    rw [hf]
    show Value.int .i64 i = Value.int .i64 ((i.toNat : Int))
    rw [Int.toNat_of_nonneg h0]
  · rename_i h
    refine ⟨i + 1, ⟨[], (by kernel_rfl), (by kernel_rfl), (by kernel_rfl), ?_, ?_⟩, ?_, by (try dsimp only); omega, rfl⟩
    rotate_left 1
    focus
      conv => whnf
      repeat' (first
        | exact trivial
        | with_reducible rfl
        | (refine srcI ?_; kernel_rfl)
        | (refine nsI ?_; kernel_rfl)
        | (refine And.intro ?_ ?_ <;> conv => whnf; try dsimp only [St.after, St.afterAt, St.pin, St.unpin, initSt, initT, numO, cellsA, Option.map, ren, renL, renO, St.setObj, headSt, List.cons_append, List.nil_append, List.length_nil, Nat.reduceAdd]))
    rotate_right 1
    focus
      conv => whnf
      repeat' (first
        | exact trivial
        | with_reducible rfl
        | (refine srcI ?_; kernel_rfl)
        | (refine nsI ?_; kernel_rfl)
        | (refine And.intro ?_ ?_ <;> conv => whnf; try dsimp only [St.after, St.afterAt, St.pin, St.unpin, initSt, initT, numO, cellsA, Option.map, ren, renL, renO, St.setObj, headSt, List.cons_append, List.nil_append, List.length_nil, Nat.reduceAdd]))
    refine ⟨by omega, by omega, ?_⟩
    rw [take_snoc h0 (by omega)]
    simp [ht, h]
  · have hf : l.findIdx? (fun x => x == n) = none := by
      rw [List.findIdx?_eq_none_iff]
      intro c hc
      rw [take_all (by omega)] at ht
      simp only [beq_eq_false_iff_ne]
      rintro rfl
      exact ht hc
    unfold idx
    rw [hf]
set_option maxRecDepth 10000 in
theorem Contains_p (l : List Int) (n : Int) (hl : l.length ≤ 4611686018427387904) : Pure Try.prog 37 [Is l, I n] (Bo (l.contains n)) none := by
  refine fun_of tok D_ok Try.func37 rfl Try.ntmps37 Try.results37 (by kernel_rfl) (by simp) (by simp) ?_
  conv => whnf
  repeat' ((first
    | (refine Ck.mk ?_)
    | (refine ifD (fun _ => ?_) (fun _ => ?_))
    | (refine ifE (fun _ => ?_) (fun _ => ?_))
    | (refine ifN (fun _ => ?_) (fun _ => ?_))
    | ((with_reducible refine natI ?_))
    | ((with_reducible refine ifNot ?_))
    | ((with_reducible refine ifAndD (fun _ _ => ?_) (fun _ => ?_)))
    | ((with_reducible refine ifAnd (fun _ _ => ?_) (fun _ => ?_)))
    | (refine ixM (by omega) (by first | omega | (simp only [List.length_set, List.length_map, List.length_append, List.length_cons, List.length_nil, List.length_replicate]; omega)) rfl ?_)
    | (refine ixA (by omega) (by first | omega | (simp only [List.length_set, List.length_map, List.length_append, List.length_cons, List.length_nil, List.length_replicate]; omega)) ?_)
    | (refine ltM (by omega) (by first | omega | (simp only [List.length_set, List.length_map, List.length_append, List.length_cons, List.length_nil, List.length_replicate]; omega)) ?_)
    | (refine calI (by omega) ?_)
    | (refine cu8 (by omega) ?_)
    | (refine cu64 (by omega) ?_)
    | (refine And.intro (by omega) ?_; refine crem (by omega) ?_)
    | (refine And.intro (by omega) ?_; refine cquo (by omega) ?_)
    | (refine ⟨_, _, Index_p l n hl, ?_⟩)
    | (refine .inl ?_; (conv => whnf); refine ⟨_, _, Index_p l n hl, ?_⟩)
    | ((with_reducible refine preI ?_); (first | refine preNil ?_ | refine preOp rfl rfl ?_ | refine preT rfl rfl rfl rfl ?_ | refine preF rfl rfl rfl rfl ?_ | refine preTS rfl rfl rfl rfl ?_ | refine preFS rfl rfl rfl rfl ?_ | refine preSkip rfl rfl rfl rfl ?_ | refine preGT rfl rfl rfl rfl ?_ | refine preGF rfl rfl rfl rfl ?_))
    | (refine AltS.own (by assumption) ?_)
    | (refine AltS.im ?_)
    | (refine AltT.own (by assumption) ?_)
    | (refine AltT.im ?_)
    | (refine NilK.mk (fun _ => ?_) ?_)
    | (refine AltV.own (by assumption) ?_)
    | (refine AltV.im ?_)
    | ((first | refine drawA2 (by decide +kernel) ?_ | refine drawA (by decide +kernel) ?_ | refine drawL (by decide +kernel) ?_); conv => whnf; (try dsimp only [St.after, St.afterAt, St.pin, St.unpin, initSt, initT, numO, cellsA, Option.map, ren, renL, renO, St.setObj, headSt, List.cons_append, List.nil_append, List.length_nil, Nat.reduceAdd]); try (conv => enter [7, 3]; whnf))
    | (refine ap1 (by decide) (by omega) rfl rfl ?_)
    | (refine ap0 (by decide) rfl ?_)
    | (refine apL (by decide) (by omega) (fun _ => rfl) ?_)
    | (refine apM (by decide) (by omega) (fun _ => rfl) ?_)
    | (refine setI (z := _) rfl ?_)
    | (refine And.intro (by omega) (And.intro (by omega) ?_))
    | (refine ifB_intro (fun _ => ?_) (fun _ => ?_))
    | (refine exitA (by kernel_rfl) (by kernel_rfl) ⟨?_, trivial⟩ ?_ <;> (conv => whnf) <;> repeat' (first | exact trivial | with_reducible rfl | (refine srcI ?_; kernel_rfl) | (refine nsI ?_; kernel_rfl) | (refine And.intro ?_ ?_ <;> conv => whnf; try dsimp only [St.after, St.afterAt, St.pin, St.unpin, initSt, initT, numO, cellsA, Option.map, ren, renL, renO, St.setObj, headSt, List.cons_append, List.nil_append, List.length_nil, Nat.reduceAdd])))) <;> (conv => whnf; try dsimp only [St.after, St.afterAt, St.pin, St.unpin, initSt, initT, numO, cellsA, Option.map, ren, renL, renO, St.setObj, headSt, List.cons_append, List.nil_append, List.length_nil, Nat.reduceAdd]))
  rw [← idx_ge]
end Go.Proofs.Ytkecpgidolphfaa
namespace Go.Proofs.Ytkecpgidolphfaa
open Go Go.Sk
def Bd.seq (b : Bd) (s d : Int) : Nat → Int → List Int
  | 0, _ => []
  | n + 1, x => if x < 0 then [] else x :: b.seq s d n (b.to s d x)
theorem Bd.seq_len (b : Bd) (s d : Int) : ∀ (n : Nat) (x : Int), (b.seq s d n x).length ≤ n
  | 0, _ => Nat.le_refl _
  | n + 1, x => by
    unfold Bd.seq
    split
    · simp
    · have := b.seq_len s d n (b.to s d x)
      simp; omega
theorem Bd.seq_neg (b : Bd) (s d : Int) {n : Nat} {x : Int} (h : x < 0) : b.seq s d (n + 1) x = [] := if_pos h
theorem Bd.seq_pos (b : Bd) (s d : Int) {n : Nat} {x : Int} (h : 0 ≤ x) : b.seq s d (n + 1) x = x :: b.seq s d n (b.to s d x) := if_neg (by omega)
def Bd.seqL (b : Bd) (s d c : Int) : List Int := b.seq s d 66 (b.to s d c)
structure SeqS where
  k : Nat
  x : Int
structure SeqI (b : Bd) (s d c : Int) (p : SeqS) : Prop where
  k : p.k < 66
  drop : (b.seqL s d c).drop p.k = b.seq s d (66 - p.k) p.x
  lo : -1 ≤ p.x
  kl : p.k ≤ (b.seqL s d c).length
theorem SeqI.zero {b : Bd} (hb : b.ok) (s d c : Int) : SeqI b s d c ⟨0, b.to s d c⟩ := ⟨by simp, rfl, (b.to_lt hb s d c).1, Nat.zero_le _⟩
theorem SeqI.done {b : Bd} {s d c : Int} {p : SeqS} (h : SeqI b s d c p) (hx : p.x < 0) : (b.seqL s d c).length ≤ p.k := by
  have h1 := h.drop
  have := h.k
  rw [show 66 - p.k = (65 - p.k) + 1 by omega, b.seq_neg s d hx] at h1
  exact List.drop_eq_nil_iff.1 h1
theorem SeqI.at {b : Bd} {s d c : Int} {p : SeqS} (h : SeqI b s d c p) (hx : 0 ≤ p.x) : ∃ hk : p.k < (b.seqL s d c).length, (b.seqL s d c)[p.k] = p.x := by
  have h1 := h.drop
  have := h.k
  rw [show 66 - p.k = (65 - p.k) + 1 by omega, b.seq_pos s d hx] at h1
  have hk : p.k < (b.seqL s d c).length := by
    rcases Nat.lt_or_ge p.k (b.seqL s d c).length with q | q
    · exact q
    · rw [List.drop_eq_nil_of_le q] at h1; cases h1
  refine ⟨hk, ?_⟩
  rw [List.drop_eq_getElem_cons hk] at h1
  injection h1
theorem SeqI.next {b : Bd} (hb : b.ok) {s d c : Int} {p : SeqS} (h : SeqI b s d c p) (hx : 0 ≤ p.x) (hk : p.k + 1 < 66) : SeqI b s d c ⟨p.k + 1, b.to s d p.x⟩ := by
  have h1 := h.drop
  rw [show 66 - p.k = (65 - p.k) + 1 by omega, b.seq_pos s d hx] at h1
  refine ⟨hk, ?_, (b.to_lt hb s d p.x).1, (h.at hx).1⟩
  show (b.seqL s d c).drop (p.k + 1) = b.seq s d (66 - (p.k + 1)) (b.to s d p.x)
  have h2 := congrArg (List.drop 1) h1
  rw [List.drop_drop, List.drop_one, List.tail_cons] at h2
  rw [show 66 - (p.k + 1) = 65 - p.k by omega, ← h2]
set_option maxRecDepth 10000 in
theorem steps_p (b : Bd) (s d c : Int) : Fun Try.prog 36 [] [b.av, I s, I d, I c] (.fn (.func 45) [] [.ptr 0 0, .ptr 1 0, .ptr 2 0, .ptr 3 0]) [.box [I b.cells, Iss b.next, Is b.turn], .box [I s], .box [I d], .box [I c]] := by
  refine fun_of tok D_ok Try.func36 rfl Try.ntmps36 Try.results36 (by kernel_rfl) (by simp) (by simp) ?_
  conv => whnf
  refine exitS [.obj 0, .obj 1, .obj 2, .obj 3] (by kernel_rfl) (by kernel_rfl) (by kernel_rfl) ?_ ?_
  rotate_left 1
  focus
    conv => whnf
    repeat' (first
      | exact trivial
      | with_reducible rfl
      | (refine srcI ?_; kernel_rfl)
      | (refine nsI ?_; kernel_rfl)
      | (refine And.intro ?_ ?_ <;> conv => whnf; try dsimp only [St.after, St.afterAt, St.pin, St.unpin, initSt, initT, numO, cellsA, Option.map, ren, renL, renO, St.setObj, headSt, List.cons_append, List.nil_append, List.length_nil, Nat.reduceAdd])
      | rfl)
  rotate_right 1
  focus
    conv => whnf
    repeat' (first
      | exact trivial
      | with_reducible rfl
      | (refine srcI ?_; kernel_rfl)
      | (refine nsI ?_; kernel_rfl)
      | (refine And.intro ?_ ?_ <;> conv => whnf; try dsimp only [St.after, St.afterAt, St.pin, St.unpin, initSt, initT, numO, cellsA, Option.map, ren, renL, renO, St.setObj, headSt, List.cons_append, List.nil_append, List.length_nil, Nat.reduceAdd])
      | rfl)
set_option maxHeartbeats 1000000 in
set_option maxRecDepth 10000 in
theorem steps1_it (b : Bd) (hb : b.ok) (s d c : Int) : IterC Try.prog 45 [.box [I b.cells, Iss b.next, Is b.turn], .box [I s], .box [I d], .box [I c]] [] [.ptr 0 0, .ptr 1 0, .ptr 2 0, .ptr 3 0]
    ((b.seqL s d c).map fun y => [I y]) (decide ((b.seqL s d c).length < 66)) := by
  intro l Gh hY hG
  have hY' : ∀ (k : Nat) (x : Int) (hk : k < (b.seqL s d c).length), (b.seqL s d c)[k] = x → YCall Try.prog l (Gh k false) [I x] fun b => Gh (k + 1) (!b) := fun k x hk e => by
    have := hY k (by rw [List.length_map]; exact hk)
    rw [List.getElem_map, e] at this
    exact this
  rw [List.length_map] at hG ⊢
  refine funx_of tok D_ok Try.func45 rfl Try.ntmps45 Try.results45 (by kernel_rfl) (by simp) ?_
  conv => whnf
  repeat' ((first
    | (refine Ck.mk ?_)
    | (refine ifD (fun _ => ?_) (fun _ => ?_))
    | (refine ifE (fun _ => ?_) (fun _ => ?_))
    | (refine ifN (fun _ => ?_) (fun _ => ?_))
    | ((with_reducible refine natI ?_))
    | ((with_reducible refine ifNot ?_))
    | ((with_reducible refine ifAndD (fun _ _ => ?_) (fun _ => ?_)))
    | ((with_reducible refine ifAnd (fun _ _ => ?_) (fun _ => ?_)))
    | (refine ixM (by omega) (by first | omega | (simp only [List.length_set, List.length_map, List.length_append, List.length_cons, List.length_nil, List.length_replicate]; omega)) rfl ?_)
    | (refine ixA (by omega) (by first | omega | (simp only [List.length_set, List.length_map, List.length_append, List.length_cons, List.length_nil, List.length_replicate]; omega)) ?_)
    | (refine ltM (by omega) (by first | omega | (simp only [List.length_set, List.length_map, List.length_append, List.length_cons, List.length_nil, List.length_replicate]; omega)) ?_)
    | (refine calI (by omega) ?_)
    | (refine cu8 (by omega) ?_)
    | (refine cu64 (by omega) ?_)
    | (refine And.intro (by omega) ?_; refine crem (by omega) ?_)
    | (refine And.intro (by omega) ?_; refine cquo (by omega) ?_)
    | (refine ⟨_, _, To15_p b hb _ _ _, ?_⟩)
    | (refine .inl ?_; (conv => whnf); refine ⟨_, _, To15_p b hb _ _ _, ?_⟩)
    | ((with_reducible refine preI ?_); (first | refine preNil ?_ | refine preOp rfl rfl ?_ | refine preT rfl rfl rfl rfl ?_ | refine preF rfl rfl rfl rfl ?_ | refine preTS rfl rfl rfl rfl ?_ | refine preFS rfl rfl rfl rfl ?_ | refine preSkip rfl rfl rfl rfl ?_ | refine preGT rfl rfl rfl rfl ?_ | refine preGF rfl rfl rfl rfl ?_))
    | (refine AltS.own (by assumption) ?_)
    | (refine AltS.im ?_)
    | (refine AltT.own (by assumption) ?_)
    | (refine AltT.im ?_)
    | (refine NilK.mk (fun _ => ?_) ?_)
    | (refine AltV.own (by assumption) ?_)
    | (refine AltV.im ?_)
    | ((first | refine drawA2 (by decide +kernel) ?_ | refine drawA (by decide +kernel) ?_ | refine drawL (by decide +kernel) ?_); conv => whnf; (try dsimp only [St.after, St.afterAt, St.pin, St.unpin, initSt, initT, numO, cellsA, Option.map, ren, renL, renO, St.setObj, headSt, List.cons_append, List.nil_append, List.length_nil, Nat.reduceAdd]); try (conv => enter [7, 3]; whnf))
    | (refine ap1 (by decide) (by omega) rfl rfl ?_)
    | (refine ap0 (by decide) rfl ?_)
    | (refine apL (by decide) (by omega) (fun _ => rfl) ?_)
    | (refine apM (by decide) (by omega) (fun _ => rfl) ?_)
    | (refine setI (z := _) rfl ?_)
    | (refine And.intro (by omega) (And.intro (by omega) ?_))
    | (refine ifB_intro (fun _ => ?_) (fun _ => ?_))) <;> (conv => whnf; try dsimp only [St.after, St.afterAt, St.pin, St.unpin, initSt, initT, numO, cellsA, Option.map, ren, renL, renO, St.setObj, headSt, List.cons_append, List.nil_append, List.length_nil, Nat.reduceAdd]))
  refine .of (fun p => [(6, I p.x)]) (fun p => [(4, .gh (Gh p.k false))]) 5 (fun p => SeqI b s d c p) (fun p => 66 - p.k) (⟨0, b.to s d c⟩ : SeqS) ?_
  conv => whnf
  refine ⟨⟨[], (by kernel_rfl), (by kernel_rfl), (by kernel_rfl), ?_, ?_⟩, ?_, fun p hp => ?_⟩
  rotate_left 1
  focus
    conv => whnf
    repeat' (first
      | exact trivial
      | with_reducible rfl
      | (refine srcI ?_; kernel_rfl)
      | (refine nsI ?_; kernel_rfl)
      | (refine And.intro ?_ ?_ <;> conv => whnf; try dsimp only [St.after, St.afterAt, St.pin, St.unpin, initSt, initT, numO, cellsA, Option.map, ren, renL, renO, St.setObj, headSt, List.cons_append, List.nil_append, List.length_nil, Nat.reduceAdd])
      | rfl)
  rotate_right 1
  focus
    conv => whnf
    repeat' (first
      | exact trivial
      | with_reducible rfl
      | (refine srcI ?_; kernel_rfl)
      | (refine nsI ?_; kernel_rfl)
      | (refine And.intro ?_ ?_ <;> conv => whnf; try dsimp only [St.after, St.afterAt, St.pin, St.unpin, initSt, initT, numO, cellsA, Option.map, ren, renL, renO, St.setObj, headSt, List.cons_append, List.nil_append, List.length_nil, Nat.reduceAdd])
      | rfl)
  rotate_right 1
  focus
    conv => whnf
  rotate_left 1
  · exact SeqI.zero hb s d c
  repeat' ((first
    | (refine Ck.mk ?_)
    | (refine ifD (fun _ => ?_) (fun _ => ?_))
    | (refine ifE (fun _ => ?_) (fun _ => ?_))
    | (refine ifN (fun _ => ?_) (fun _ => ?_))
    | ((with_reducible refine natI ?_))
    | ((with_reducible refine ifNot ?_))
    | ((with_reducible refine ifAndD (fun _ _ => ?_) (fun _ => ?_)))
    | ((with_reducible refine ifAnd (fun _ _ => ?_) (fun _ => ?_)))
    | (refine ixM (by omega) (by first | omega | (simp only [List.length_set, List.length_map, List.length_append, List.length_cons, List.length_nil, List.length_replicate]; omega)) rfl ?_)
    | (refine ixA (by omega) (by first | omega | (simp only [List.length_set, List.length_map, List.length_append, List.length_cons, List.length_nil, List.length_replicate]; omega)) ?_)
    | (refine ltM (by omega) (by first | omega | (simp only [List.length_set, List.length_map, List.length_append, List.length_cons, List.length_nil, List.length_replicate]; omega)) ?_)
    | (refine calI (by omega) ?_)
    | (refine cu8 (by omega) ?_)
    | (refine cu64 (by omega) ?_)
    | (refine And.intro (by omega) ?_; refine crem (by omega) ?_)
    | (refine And.intro (by omega) ?_; refine cquo (by omega) ?_)
    | ((with_reducible refine preI ?_); (first | refine preNil ?_ | refine preOp rfl rfl ?_ | refine preT rfl rfl rfl rfl ?_ | refine preF rfl rfl rfl rfl ?_ | refine preTS rfl rfl rfl rfl ?_ | refine preFS rfl rfl rfl rfl ?_ | refine preSkip rfl rfl rfl rfl ?_ | refine preGT rfl rfl rfl rfl ?_ | refine preGF rfl rfl rfl rfl ?_))
    | (refine AltS.own (by assumption) ?_)
    | (refine AltS.im ?_)
    | (refine AltT.own (by assumption) ?_)
    | (refine AltT.im ?_)
    | (refine NilK.mk (fun _ => ?_) ?_)
    | (refine AltV.own (by assumption) ?_)
    | (refine AltV.im ?_)
    | ((first | refine drawA2 (by decide +kernel) ?_ | refine drawA (by decide +kernel) ?_ | refine drawL (by decide +kernel) ?_); conv => whnf; (try dsimp only [St.after, St.afterAt, St.pin, St.unpin, initSt, initT, numO, cellsA, Option.map, ren, renL, renO, St.setObj, headSt, List.cons_append, List.nil_append, List.length_nil, Nat.reduceAdd]); try (conv => enter [7, 3]; whnf))
    | (refine ap1 (by decide) (by omega) rfl rfl ?_)
    | (refine ap0 (by decide) rfl ?_)
    | (refine apL (by decide) (by omega) (fun _ => rfl) ?_)
    | (refine apM (by decide) (by omega) (fun _ => rfl) ?_)
    | (refine setI (z := _) rfl ?_)
    | (refine And.intro (by omega) (And.intro (by omega) ?_))
    | (refine ifB_intro (fun _ => ?_) (fun _ => ?_))) <;> (conv => whnf; try dsimp only [St.after, St.afterAt, St.pin, St.unpin, initSt, initT, numO, cellsA, Option.map, ren, renL, renO, St.setObj, headSt, List.cons_append, List.nil_append, List.length_nil, Nat.reduceAdd]))
  · rename_i hx
    obtain ⟨hk, he⟩ := hp.at (by omega)
    refine ⟨4, _, _, [I p.x], ⟨rfl, rfl, rfl⟩, hY' p.k p.x hk he, ?_, .inl ?_⟩
    · by_cases h6 : p.k + 1 < 66
      · refine .inl ?_
        conv => whnf
        repeat' ((first
          | (refine Ck.mk ?_)
          | (refine ifD (fun _ => ?_) (fun _ => ?_))
          | (refine ifE (fun _ => ?_) (fun _ => ?_))
          | (refine ifN (fun _ => ?_) (fun _ => ?_))
          | ((with_reducible refine natI ?_))
          | ((with_reducible refine ifNot ?_))
          | ((with_reducible refine ifAndD (fun _ _ => ?_) (fun _ => ?_)))
          | ((with_reducible refine ifAnd (fun _ _ => ?_) (fun _ => ?_)))
          | (refine ixM (by omega) (by first | omega | (simp only [List.length_set, List.length_map, List.length_append, List.length_cons, List.length_nil, List.length_replicate]; omega)) rfl ?_)
          | (refine ixA (by omega) (by first | omega | (simp only [List.length_set, List.length_map, List.length_append, List.length_cons, List.length_nil, List.length_replicate]; omega)) ?_)
          | (refine ltM (by omega) (by first | omega | (simp only [List.length_set, List.length_map, List.length_append, List.length_cons, List.length_nil, List.length_replicate]; omega)) ?_)
          | (refine calI (by omega) ?_)
          | (refine cu8 (by omega) ?_)
          | (refine cu64 (by omega) ?_)
          | (refine And.intro (by omega) ?_; refine crem (by omega) ?_)
          | (refine And.intro (by omega) ?_; refine cquo (by omega) ?_)
          | (refine ⟨_, _, To15_p b hb _ _ _, ?_⟩)
          | (refine .inl ?_; (conv => whnf); refine ⟨_, _, To15_p b hb _ _ _, ?_⟩)
          | ((with_reducible refine preI ?_); (first | refine preNil ?_ | refine preOp rfl rfl ?_ | refine preT rfl rfl rfl rfl ?_ | refine preF rfl rfl rfl rfl ?_ | refine preTS rfl rfl rfl rfl ?_ | refine preFS rfl rfl rfl rfl ?_ | refine preSkip rfl rfl rfl rfl ?_ | refine preGT rfl rfl rfl rfl ?_ | refine preGF rfl rfl rfl rfl ?_))
          | (refine AltS.own (by assumption) ?_)
          | (refine AltS.im ?_)
          | (refine AltT.own (by assumption) ?_)
          | (refine AltT.im ?_)
          | (refine NilK.mk (fun _ => ?_) ?_)
          | (refine AltV.own (by assumption) ?_)
          | (refine AltV.im ?_)
          | ((first | refine drawA2 (by decide +kernel) ?_ | refine drawA (by decide +kernel) ?_ | refine drawL (by decide +kernel) ?_); conv => whnf; (try dsimp only [St.after, St.afterAt, St.pin, St.unpin, initSt, initT, numO, cellsA, Option.map, ren, renL, renO, St.setObj, headSt, List.cons_append, List.nil_append, List.length_nil, Nat.reduceAdd]); try (conv => enter [7, 3]; whnf))
          | (refine ap1 (by decide) (by omega) rfl rfl ?_)
          | (refine ap0 (by decide) rfl ?_)
          | (refine apL (by decide) (by omega) (fun _ => rfl) ?_)
          | (refine apM (by decide) (by omega) (fun _ => rfl) ?_)
          | (refine setI (z := _) rfl ?_)
          | (refine And.intro (by omega) (And.intro (by omega) ?_))
          | (refine ifB_intro (fun _ => ?_) (fun _ => ?_))) <;> (conv => whnf; try dsimp only [St.after, St.afterAt, St.pin, St.unpin, initSt, initT, numO, cellsA, Option.map, ren, renL, renO, St.setObj, headSt, List.cons_append, List.nil_append, List.length_nil, Nat.reduceAdd]))
        refine ⟨(⟨p.k + 1, b.to s d p.x⟩ : SeqS), ⟨[], (by kernel_rfl), (by kernel_rfl), (by kernel_rfl), ?_, ?_⟩, ?_, by (try dsimp only); omega, rfl⟩
        rotate_left 1
        focus
          conv => whnf
          repeat' (first
            | exact trivial
            | with_reducible rfl
            | (refine srcI ?_; kernel_rfl)
            | (refine nsI ?_; kernel_rfl)
            | (refine And.intro ?_ ?_ <;> conv => whnf; try dsimp only [St.after, St.afterAt, St.pin, St.unpin, initSt, initT, numO, cellsA, Option.map, ren, renL, renO, St.setObj, headSt, List.cons_append, List.nil_append, List.length_nil, Nat.reduceAdd]))
        rotate_right 1
        focus
          conv => whnf
          repeat' (first
            | exact trivial
            | with_reducible rfl
            | (refine srcI ?_; kernel_rfl)
            | (refine nsI ?_; kernel_rfl)
            | (refine And.intro ?_ ?_ <;> conv => whnf; try dsimp only [St.after, St.afterAt, St.pin, St.unpin, initSt, initT, numO, cellsA, Option.map, ren, renL, renO, St.setObj, headSt, List.cons_append, List.nil_append, List.length_nil, Nat.reduceAdd]))
        · rfl
        · exact hp.next hb (by omega) h6
      · refine .inr ?_
        have hl := b.seq_len s d 66 (b.to s d c)
        have h7 : p.k + 1 = (b.seqL s d c).length := by unfold Bd.seqL at hk ⊢; have := hp.k; omega
        have h8 := hG (decide_eq_false (by omega))
        rw [← h7] at h8
        exact h8
    · conv => whnf
      repeat' ((first
        | (refine Ck.mk ?_)
        | (refine ifD (fun _ => ?_) (fun _ => ?_))
        | (refine ifE (fun _ => ?_) (fun _ => ?_))
        | (refine ifN (fun _ => ?_) (fun _ => ?_))
        | ((with_reducible refine natI ?_))
        | ((with_reducible refine ifNot ?_))
        | ((with_reducible refine ifAndD (fun _ _ => ?_) (fun _ => ?_)))
        | ((with_reducible refine ifAnd (fun _ _ => ?_) (fun _ => ?_)))
        | (refine ixM (by omega) (by first | omega | (simp only [List.length_set, List.length_map, List.length_append, List.length_cons, List.length_nil, List.length_replicate]; omega)) rfl ?_)
        | (refine ixA (by omega) (by first | omega | (simp only [List.length_set, List.length_map, List.length_append, List.length_cons, List.length_nil, List.length_replicate]; omega)) ?_)
        | (refine ltM (by omega) (by first | omega | (simp only [List.length_set, List.length_map, List.length_append, List.length_cons, List.length_nil, List.length_replicate]; omega)) ?_)
        | (refine calI (by omega) ?_)
        | (refine cu8 (by omega) ?_)
        | (refine cu64 (by omega) ?_)
        | (refine And.intro (by omega) ?_; refine crem (by omega) ?_)
        | (refine And.intro (by omega) ?_; refine cquo (by omega) ?_)
        | ((with_reducible refine preI ?_); (first | refine preNil ?_ | refine preOp rfl rfl ?_ | refine preT rfl rfl rfl rfl ?_ | refine preF rfl rfl rfl rfl ?_ | refine preTS rfl rfl rfl rfl ?_ | refine preFS rfl rfl rfl rfl ?_ | refine preSkip rfl rfl rfl rfl ?_ | refine preGT rfl rfl rfl rfl ?_ | refine preGF rfl rfl rfl rfl ?_))
        | (refine AltS.own (by assumption) ?_)
        | (refine AltS.im ?_)
        | (refine AltT.own (by assumption) ?_)
        | (refine AltT.im ?_)
        | (refine NilK.mk (fun _ => ?_) ?_)
        | (refine AltV.own (by assumption) ?_)
        | (refine AltV.im ?_)
        | ((first | refine drawA2 (by decide +kernel) ?_ | refine drawA (by decide +kernel) ?_ | refine drawL (by decide +kernel) ?_); conv => whnf; (try dsimp only [St.after, St.afterAt, St.pin, St.unpin, initSt, initT, numO, cellsA, Option.map, ren, renL, renO, St.setObj, headSt, List.cons_append, List.nil_append, List.length_nil, Nat.reduceAdd]); try (conv => enter [7, 3]; whnf))
        | (refine ap1 (by decide) (by omega) rfl rfl ?_)
        | (refine ap0 (by decide) rfl ?_)
        | (refine apL (by decide) (by omega) (fun _ => rfl) ?_)
        | (refine apM (by decide) (by omega) (fun _ => rfl) ?_)
        | (refine setI (z := _) rfl ?_)
        | (refine And.intro (by omega) (And.intro (by omega) ?_))
        | (refine ifB_intro (fun _ => ?_) (fun _ => ?_))) <;> (conv => whnf; try dsimp only [St.after, St.afterAt, St.pin, St.unpin, initSt, initT, numO, cellsA, Option.map, ren, renL, renO, St.setObj, headSt, List.cons_append, List.nil_append, List.length_nil, Nat.reduceAdd]))
      refine ⟨.tup [], _, ⟨p.k + 1, true, by omega, (fun h => by cases h), rfl⟩, by simp, ?_⟩
      conv => whnf
      refine exitS [.obj 0, .obj 1, .obj 2, .obj 3, .obj 4] (by kernel_rfl) (by kernel_rfl) (by kernel_rfl) ?_ ?_
      rotate_left 1
      focus
        conv => whnf
        repeat' (first
          | exact trivial
          | with_reducible rfl
          | (refine srcI ?_; kernel_rfl)
          | (refine nsI ?_; kernel_rfl)
          | (refine And.intro ?_ ?_ <;> conv => whnf; try dsimp only [St.after, St.afterAt, St.pin, St.unpin, initSt, initT, numO, cellsA, Option.map, ren, renL, renO, St.setObj, headSt, List.cons_append, List.nil_append, List.length_nil, Nat.reduceAdd])
          | rfl)
      rotate_right 1
      focus
        conv => whnf
        repeat' (first
          | exact trivial
          | with_reducible rfl
          | (refine srcI ?_; kernel_rfl)
          | (refine nsI ?_; kernel_rfl)
          | (refine And.intro ?_ ?_ <;> conv => whnf; try dsimp only [St.after, St.afterAt, St.pin, St.unpin, initSt, initT, numO, cellsA, Option.map, ren, renL, renO, St.setObj, headSt, List.cons_append, List.nil_append, List.length_nil, Nat.reduceAdd])
          | rfl)
  · rename_i hx
    have h1 := hp.done (by omega)
    have h2 : p.k = (b.seqL s d c).length := Nat.le_antisymm hp.kl h1
    refine ⟨.tup [], _, ⟨p.k, false, by omega, fun _ => h2, rfl⟩, by simp, ?_⟩
    conv => whnf
    refine exitS [.obj 0, .obj 1, .obj 2, .obj 3, .obj 4] (by kernel_rfl) (by kernel_rfl) (by kernel_rfl) ?_ ?_
    rotate_left 1
    focus
      conv => whnf
      repeat' (first
        | exact trivial
        | with_reducible rfl
        | (refine srcI ?_; kernel_rfl)
        | (refine nsI ?_; kernel_rfl)
        | (refine And.intro ?_ ?_ <;> conv => whnf; try dsimp only [St.after, St.afterAt, St.pin, St.unpin, initSt, initT, numO, cellsA, Option.map, ren, renL, renO, St.setObj, headSt, List.cons_append, List.nil_append, List.length_nil, Nat.reduceAdd])
        | rfl)
    rotate_right 1
    focus
      conv => whnf
      repeat' (first
        | exact trivial
        | with_reducible rfl
        | (refine srcI ?_; kernel_rfl)
        | (refine nsI ?_; kernel_rfl)
        | (refine And.intro ?_ ?_ <;> conv => whnf; try dsimp only [St.after, St.afterAt, St.pin, St.unpin, initSt, initT, numO, cellsA, Option.map, ren, renL, renO, St.setObj, headSt, List.cons_append, List.nil_append, List.length_nil, Nat.reduceAdd])
        | rfl)
structure LnI (b : Bd) (s d c : Int) (i : Nat) (out : List Int) (x : Int) : Prop where
  len : out.length = i
  ln : b.lineI s d c out x
  sq : SeqI b s d c ⟨i, x⟩
set_option maxHeartbeats 1000000 in
set_option maxRecDepth 10000 in
theorem Line16_p (b : Bd) (hb : b.ok) (s d c : Int) : Pure Try.prog 16 [b.av, I s, I d, I c] (.ref 0) (some (.arr 1 ((b.line s d c).map I))) := by
  refine fun_of tok D_ok Try.func16 rfl Try.ntmps16 Try.results16 (by kernel_rfl) (by simp) (by simp) ?_
  conv => whnf
  repeat' ((first
    | (refine Ck.mk ?_)
    | (refine ifD (fun _ => ?_) (fun _ => ?_))
    | (refine ifE (fun _ => ?_) (fun _ => ?_))
    | (refine ifN (fun _ => ?_) (fun _ => ?_))
    | ((with_reducible refine natI ?_))
    | ((with_reducible refine ifNot ?_))
    | ((with_reducible refine ifAndD (fun _ _ => ?_) (fun _ => ?_)))
    | ((with_reducible refine ifAnd (fun _ _ => ?_) (fun _ => ?_)))
    | (refine ixM (by omega) (by first | omega | (simp only [List.length_set, List.length_map, List.length_append, List.length_cons, List.length_nil, List.length_replicate]; omega)) rfl ?_)
    | (refine ixA (by omega) (by first | omega | (simp only [List.length_set, List.length_map, List.length_append, List.length_cons, List.length_nil, List.length_replicate]; omega)) ?_)
    | (refine ltM (by omega) (by first | omega | (simp only [List.length_set, List.length_map, List.length_append, List.length_cons, List.length_nil, List.length_replicate]; omega)) ?_)
    | (refine calI (by omega) ?_)
    | (refine cu8 (by omega) ?_)
    | (refine cu64 (by omega) ?_)
    | (refine And.intro (by omega) ?_; refine crem (by omega) ?_)
    | (refine And.intro (by omega) ?_; refine cquo (by omega) ?_)
    | ((with_reducible refine preI ?_); (first | refine preNil ?_ | refine preOp rfl rfl ?_ | refine preT rfl rfl rfl rfl ?_ | refine preF rfl rfl rfl rfl ?_ | refine preTS rfl rfl rfl rfl ?_ | refine preFS rfl rfl rfl rfl ?_ | refine preSkip rfl rfl rfl rfl ?_ | refine preGT rfl rfl rfl rfl ?_ | refine preGF rfl rfl rfl rfl ?_))
    | (refine AltS.own (by assumption) ?_)
    | (refine AltS.im ?_)
    | (refine AltT.own (by assumption) ?_)
    | (refine AltT.im ?_)
    | (refine NilK.mk (fun _ => ?_) ?_)
    | (refine AltV.own (by assumption) ?_)
    | (refine AltV.im ?_)
    | ((first | refine drawA2 (by decide +kernel) ?_ | refine drawA (by decide +kernel) ?_ | refine drawL (by decide +kernel) ?_); conv => whnf; (try dsimp only [St.after, St.afterAt, St.pin, St.unpin, initSt, initT, numO, cellsA, Option.map, ren, renL, renO, St.setObj, headSt, List.cons_append, List.nil_append, List.length_nil, Nat.reduceAdd]); try (conv => enter [7, 3]; whnf))
    | (refine ap1 (by decide) (by omega) rfl rfl ?_)
    | (refine ap0 (by decide) rfl ?_)
    | (refine apL (by decide) (by omega) (fun _ => rfl) ?_)
    | (refine apM (by decide) (by omega) (fun _ => rfl) ?_)
    | (refine setI (z := _) rfl ?_)
    | (refine And.intro (by omega) (And.intro (by omega) ?_))
    | (refine ifB_intro (fun _ => ?_) (fun _ => ?_))) <;> (conv => whnf; try dsimp only [St.after, St.afterAt, St.pin, St.unpin, initSt, initT, numO, cellsA, Option.map, ren, renL, renO, St.setObj, headSt, List.cons_append, List.nil_append, List.length_nil, Nat.reduceAdd]))
  refine .inr (.inl ?_)
  conv => whnf
  refine ⟨[], [], [b.av, I s, I d, I c], _, _, ⟨rfl, rfl, rfl⟩, steps_p b s d c, ?_⟩
  conv => whnf
  repeat' ((first
    | (refine Ck.mk ?_)
    | (refine ifD (fun _ => ?_) (fun _ => ?_))
    | (refine ifE (fun _ => ?_) (fun _ => ?_))
    | (refine ifN (fun _ => ?_) (fun _ => ?_))
    | ((with_reducible refine natI ?_))
    | ((with_reducible refine ifNot ?_))
    | ((with_reducible refine ifAndD (fun _ _ => ?_) (fun _ => ?_)))
    | ((with_reducible refine ifAnd (fun _ _ => ?_) (fun _ => ?_)))
    | (refine ixM (by omega) (by first | omega | (simp only [List.length_set, List.length_map, List.length_append, List.length_cons, List.length_nil, List.length_replicate]; omega)) rfl ?_)
    | (refine ixA (by omega) (by first | omega | (simp only [List.length_set, List.length_map, List.length_append, List.length_cons, List.length_nil, List.length_replicate]; omega)) ?_)
    | (refine ltM (by omega) (by first | omega | (simp only [List.length_set, List.length_map, List.length_append, List.length_cons, List.length_nil, List.length_replicate]; omega)) ?_)
    | (refine calI (by omega) ?_)
    | (refine cu8 (by omega) ?_)
    | (refine cu64 (by omega) ?_)
    | (refine And.intro (by omega) ?_; refine crem (by omega) ?_)
    | (refine And.intro (by omega) ?_; refine cquo (by omega) ?_)
    | ((with_reducible refine preI ?_); (first | refine preNil ?_ | refine preOp rfl rfl ?_ | refine preT rfl rfl rfl rfl ?_ | refine preF rfl rfl rfl rfl ?_ | refine preTS rfl rfl rfl rfl ?_ | refine preFS rfl rfl rfl rfl ?_ | refine preSkip rfl rfl rfl rfl ?_ | refine preGT rfl rfl rfl rfl ?_ | refine preGF rfl rfl rfl rfl ?_))
    | (refine AltS.own (by assumption) ?_)
    | (refine AltS.im ?_)
    | (refine AltT.own (by assumption) ?_)
    | (refine AltT.im ?_)
    | (refine NilK.mk (fun _ => ?_) ?_)
    | (refine AltV.own (by assumption) ?_)
    | (refine AltV.im ?_)
    | ((first | refine drawA2 (by decide +kernel) ?_ | refine drawA (by decide +kernel) ?_ | refine drawL (by decide +kernel) ?_); conv => whnf; (try dsimp only [St.after, St.afterAt, St.pin, St.unpin, initSt, initT, numO, cellsA, Option.map, ren, renL, renO, St.setObj, headSt, List.cons_append, List.nil_append, List.length_nil, Nat.reduceAdd]); try (conv => enter [7, 3]; whnf))
    | (refine ap1 (by decide) (by omega) rfl rfl ?_)
    | (refine ap0 (by decide) rfl ?_)
    | (refine apL (by decide) (by omega) (fun _ => rfl) ?_)
    | (refine apM (by decide) (by omega) (fun _ => rfl) ?_)
    | (refine setI (z := _) rfl ?_)
    | (refine And.intro (by omega) (And.intro (by omega) ?_))
    | (refine ifB_intro (fun _ => ?_) (fun _ => ?_))) <;> (conv => whnf; try dsimp only [St.after, St.afterAt, St.pin, St.unpin, initSt, initT, numO, cellsA, Option.map, ren, renL, renO, St.setObj, headSt, List.cons_append, List.nil_append, List.length_nil, Nat.reduceAdd]))
  refine .mk (fun i out => [(2, .box [.ref 7]), (7, .arr 1 (out.map I))]) 8 (fun i out => ∃ x, LnI b s d c i out x) ([] : List Int) [3, 4, 5, 6] [.box [I b.cells, Iss b.next, Is b.turn], .box [I s], .box [I d], .box [I c]] [] [.ptr 0 0, .ptr 1 0, .ptr 2 0, .ptr 3 0] ((b.seqL s d c).map fun y => [I y]) (decide ((b.seqL s d c).length < 66)) ?_
  conv => whnf
  refine ⟨⟨[], (by kernel_rfl), (by kernel_rfl), (by kernel_rfl), ?_, ?_⟩, ?_⟩
  rotate_left 1
  focus
    conv => whnf
    repeat' (first
      | exact trivial
      | with_reducible rfl
      | (refine srcI ?_; kernel_rfl)
      | (refine nsI ?_; kernel_rfl)
      | (refine And.intro ?_ ?_ <;> conv => whnf; try dsimp only [St.after, St.afterAt, St.pin, St.unpin, initSt, initT, numO, cellsA, Option.map, ren, renL, renO, St.setObj, headSt, List.cons_append, List.nil_append, List.length_nil, Nat.reduceAdd])
      | rfl)
  rotate_right 1
  focus
    conv => whnf
    repeat' (first
      | exact trivial
      | with_reducible rfl
      | (refine srcI ?_; kernel_rfl)
      | (refine nsI ?_; kernel_rfl)
      | (refine And.intro ?_ ?_ <;> conv => whnf; try dsimp only [St.after, St.afterAt, St.pin, St.unpin, initSt, initT, numO, cellsA, Option.map, ren, renL, renO, St.setObj, headSt, List.cons_append, List.nil_append, List.length_nil, Nat.reduceAdd])
      | rfl)
  rotate_right 1
  conv => whnf
  refine ⟨⟨⟨(by kernel_rfl), (by kernel_rfl), (by kernel_rfl)⟩, (by kernel_rfl)⟩, ⟨steps1_it b hb s d c, ?_⟩, ?_, ?_, fun i out hlt ⟨x, h⟩ => ?_, fun out ⟨x, h⟩ => ?_⟩
  · intro he z ⟨x, h⟩
    have h1 := of_decide_eq_false he
    have h2 := h.sq.k
    rw [List.length_map] at h2
    exact h1 h2
  · intro i hi
    rw [List.getElem_map]
    exact ⟨rfl, trivial, trivial⟩
  · exact ⟨_, rfl, b.lineI_zero hb s d c, SeqI.zero hb s d c⟩
  · rw [List.length_map] at hlt
    have hx0 : 0 ≤ x := by
      rcases Int.lt_or_le x 0 with q | q
      · have := h.sq.done q
        simp only at this
        omega
      · exact q
    have e : ((b.seqL s d c).map fun y => [I y])[i] = [I x] := by rw [List.getElem_map, (h.sq.at hx0).2]
    have hln := b.lineI_len hb h.ln
    rw [e]
    conv => whnf
    repeat' ((first
      | (refine Ck.mk ?_)
      | (refine ifD (fun _ => ?_) (fun _ => ?_))
      | (refine ifE (fun _ => ?_) (fun _ => ?_))
      | (refine ifN (fun _ => ?_) (fun _ => ?_))
      | ((with_reducible refine natI ?_))
      | ((with_reducible refine ifNot ?_))
      | ((with_reducible refine ifAndD (fun _ _ => ?_) (fun _ => ?_)))
      | ((with_reducible refine ifAnd (fun _ _ => ?_) (fun _ => ?_)))
      | (refine ixM (by omega) (by first | omega | (simp only [List.length_set, List.length_map, List.length_append, List.length_cons, List.length_nil, List.length_replicate]; omega)) rfl ?_)
      | (refine ixA (by omega) (by first | omega | (simp only [List.length_set, List.length_map, List.length_append, List.length_cons, List.length_nil, List.length_replicate]; omega)) ?_)
      | (refine ltM (by omega) (by first | omega | (simp only [List.length_set, List.length_map, List.length_append, List.length_cons, List.length_nil, List.length_replicate]; omega)) ?_)
      | (refine calI (by omega) ?_)
      | (refine cu8 (by omega) ?_)
      | (refine cu64 (by omega) ?_)
      | (refine And.intro (by omega) ?_; refine crem (by omega) ?_)
      | (refine And.intro (by omega) ?_; refine cquo (by omega) ?_)
      | (refine .inl ?_; (conv => whnf); refine ⟨_, Contains_p out x (by omega), rfl, ?_⟩; conv => whnf)
      | ((with_reducible refine preI ?_); (first | refine preNil ?_ | refine preOp rfl rfl ?_ | refine preT rfl rfl rfl rfl ?_ | refine preF rfl rfl rfl rfl ?_ | refine preTS rfl rfl rfl rfl ?_ | refine preFS rfl rfl rfl rfl ?_ | refine preSkip rfl rfl rfl rfl ?_ | refine preGT rfl rfl rfl rfl ?_ | refine preGF rfl rfl rfl rfl ?_))
      | (refine AltS.own (by assumption) ?_)
      | (refine AltS.im ?_)
      | (refine AltT.own (by assumption) ?_)
      | (refine AltT.im ?_)
      | (refine NilK.mk (fun _ => ?_) ?_)
      | (refine AltV.own (by assumption) ?_)
      | (refine AltV.im ?_)
      | ((first | refine drawA2 (by decide +kernel) ?_ | refine drawA (by decide +kernel) ?_ | refine drawL (by decide +kernel) ?_); conv => whnf; (try dsimp only [St.after, St.afterAt, St.pin, St.unpin, initSt, initT, numO, cellsA, Option.map, ren, renL, renO, St.setObj, headSt, List.cons_append, List.nil_append, List.length_nil, Nat.reduceAdd]); try (conv => enter [7, 3]; whnf))
      | (refine ap1 (by decide) (by omega) rfl rfl ?_)
      | (refine ap0 (by decide) rfl ?_)
      | (refine apL (by decide) (by omega) (fun _ => rfl) ?_)
      | (refine apM (by decide) (by omega) (fun _ => rfl) ?_)
      | (refine setI (z := _) rfl ?_)
      | (refine And.intro (by omega) (And.intro (by omega) ?_))
      | (refine ifB_intro (fun _ => ?_) (fun _ => ?_))) <;> (conv => whnf; try dsimp only [St.after, St.afterAt, St.pin, St.unpin, initSt, initT, numO, cellsA, Option.map, ren, renL, renO, St.setObj, headSt, List.cons_append, List.nil_append, List.length_nil, Nat.reduceAdd]))
    · rename_i hq
      refine ⟨⟨rfl, rfl⟩, ?_⟩
      conv => whnf
      repeat' ((first
        | (refine Ck.mk ?_)
        | (refine ifD (fun _ => ?_) (fun _ => ?_))
        | (refine ifE (fun _ => ?_) (fun _ => ?_))
        | (refine ifN (fun _ => ?_) (fun _ => ?_))
        | ((with_reducible refine natI ?_))
        | ((with_reducible refine ifNot ?_))
        | ((with_reducible refine ifAndD (fun _ _ => ?_) (fun _ => ?_)))
        | ((with_reducible refine ifAnd (fun _ _ => ?_) (fun _ => ?_)))
        | (refine ixM (by omega) (by first | omega | (simp only [List.length_set, List.length_map, List.length_append, List.length_cons, List.length_nil, List.length_replicate]; omega)) rfl ?_)
        | (refine ixA (by omega) (by first | omega | (simp only [List.length_set, List.length_map, List.length_append, List.length_cons, List.length_nil, List.length_replicate]; omega)) ?_)
        | (refine ltM (by omega) (by first | omega | (simp only [List.length_set, List.length_map, List.length_append, List.length_cons, List.length_nil, List.length_replicate]; omega)) ?_)
        | (refine calI (by omega) ?_)
        | (refine cu8 (by omega) ?_)
        | (refine cu64 (by omega) ?_)
        | (refine And.intro (by omega) ?_; refine crem (by omega) ?_)
        | (refine And.intro (by omega) ?_; refine cquo (by omega) ?_)
        | ((with_reducible refine preI ?_); (first | refine preNil ?_ | refine preOp rfl rfl ?_ | refine preT rfl rfl rfl rfl ?_ | refine preF rfl rfl rfl rfl ?_ | refine preTS rfl rfl rfl rfl ?_ | refine preFS rfl rfl rfl rfl ?_ | refine preSkip rfl rfl rfl rfl ?_ | refine preGT rfl rfl rfl rfl ?_ | refine preGF rfl rfl rfl rfl ?_))
        | (refine AltS.own (by assumption) ?_)
        | (refine AltS.im ?_)
        | (refine AltT.own (by assumption) ?_)
        | (refine AltT.im ?_)
        | (refine NilK.mk (fun _ => ?_) ?_)
        | (refine AltV.own (by assumption) ?_)
        | (refine AltV.im ?_)
        | ((first | refine drawA2 (by decide +kernel) ?_ | refine drawA (by decide +kernel) ?_ | refine drawL (by decide +kernel) ?_); conv => whnf; (try dsimp only [St.after, St.afterAt, St.pin, St.unpin, initSt, initT, numO, cellsA, Option.map, ren, renL, renO, St.setObj, headSt, List.cons_append, List.nil_append, List.length_nil, Nat.reduceAdd]); try (conv => enter [7, 3]; whnf))
        | (refine ap1 (by decide) (by omega) rfl rfl ?_)
        | (refine ap0 (by decide) rfl ?_)
        | (refine apL (by decide) (by omega) (fun _ => rfl) ?_)
        | (refine apM (by decide) (by omega) (fun _ => rfl) ?_)
        | (refine setI (z := _) rfl ?_)
        | (refine And.intro (by omega) (And.intro (by omega) ?_))
        | (refine ifB_intro (fun _ => ?_) (fun _ => ?_))
        | (refine exitA (by kernel_rfl) (by kernel_rfl) ⟨?_, trivial⟩ ?_ <;> (conv => whnf) <;> repeat' (first | exact trivial | with_reducible rfl | (refine srcI ?_; kernel_rfl) | (refine nsI ?_; kernel_rfl) | (refine And.intro ?_ ?_ <;> conv => whnf; try dsimp only [St.after, St.afterAt, St.pin, St.unpin, initSt, initT, numO, cellsA, Option.map, ren, renL, renO, St.setObj, headSt, List.cons_append, List.nil_append, List.length_nil, Nat.reduceAdd])))) <;> (conv => whnf; try dsimp only [St.after, St.afterAt, St.pin, St.unpin, initSt, initT, numO, cellsA, Option.map, ren, renL, renO, St.setObj, headSt, List.cons_append, List.nil_append, List.length_nil, Nat.reduceAdd]))
      rw [b.lineI_end hb h.ln (fun q => q.2.1 hq)]
    · rename_i hq1 hq
      refine ⟨⟨rfl, rfl⟩, ?_⟩
      conv => whnf
      repeat' ((first
        | (refine Ck.mk ?_)
        | (refine ifD (fun _ => ?_) (fun _ => ?_))
        | (refine ifE (fun _ => ?_) (fun _ => ?_))
        | (refine ifN (fun _ => ?_) (fun _ => ?_))
        | ((with_reducible refine natI ?_))
        | ((with_reducible refine ifNot ?_))
        | ((with_reducible refine ifAndD (fun _ _ => ?_) (fun _ => ?_)))
        | ((with_reducible refine ifAnd (fun _ _ => ?_) (fun _ => ?_)))
        | (refine ixM (by omega) (by first | omega | (simp only [List.length_set, List.length_map, List.length_append, List.length_cons, List.length_nil, List.length_replicate]; omega)) rfl ?_)
        | (refine ixA (by omega) (by first | omega | (simp only [List.length_set, List.length_map, List.length_append, List.length_cons, List.length_nil, List.length_replicate]; omega)) ?_)
        | (refine ltM (by omega) (by first | omega | (simp only [List.length_set, List.length_map, List.length_append, List.length_cons, List.length_nil, List.length_replicate]; omega)) ?_)
        | (refine calI (by omega) ?_)
        | (refine cu8 (by omega) ?_)
        | (refine cu64 (by omega) ?_)
        | (refine And.intro (by omega) ?_; refine crem (by omega) ?_)
        | (refine And.intro (by omega) ?_; refine cquo (by omega) ?_)
        | ((with_reducible refine preI ?_); (first | refine preNil ?_ | refine preOp rfl rfl ?_ | refine preT rfl rfl rfl rfl ?_ | refine preF rfl rfl rfl rfl ?_ | refine preTS rfl rfl rfl rfl ?_ | refine preFS rfl rfl rfl rfl ?_ | refine preSkip rfl rfl rfl rfl ?_ | refine preGT rfl rfl rfl rfl ?_ | refine preGF rfl rfl rfl rfl ?_))
        | (refine AltS.own (by assumption) ?_)
        | (refine AltS.im ?_)
        | (refine AltT.own (by assumption) ?_)
        | (refine AltT.im ?_)
        | (refine NilK.mk (fun _ => ?_) ?_)
        | (refine AltV.own (by assumption) ?_)
        | (refine AltV.im ?_)
        | ((first | refine drawA2 (by decide +kernel) ?_ | refine drawA (by decide +kernel) ?_ | refine drawL (by decide +kernel) ?_); conv => whnf; (try dsimp only [St.after, St.afterAt, St.pin, St.unpin, initSt, initT, numO, cellsA, Option.map, ren, renL, renO, St.setObj, headSt, List.cons_append, List.nil_append, List.length_nil, Nat.reduceAdd]); try (conv => enter [7, 3]; whnf))
        | (refine ap1 (by decide) (by omega) rfl rfl ?_)
        | (refine ap0 (by decide) rfl ?_)
        | (refine apL (by decide) (by omega) (fun _ => rfl) ?_)
        | (refine apM (by decide) (by omega) (fun _ => rfl) ?_)
        | (refine setI (z := _) rfl ?_)
        | (refine And.intro (by omega) (And.intro (by omega) ?_))
        | (refine ifB_intro (fun _ => ?_) (fun _ => ?_))
        | (refine exitA (by kernel_rfl) (by kernel_rfl) ⟨?_, trivial⟩ ?_ <;> (conv => whnf) <;> repeat' (first | exact trivial | with_reducible rfl | (refine srcI ?_; kernel_rfl) | (refine nsI ?_; kernel_rfl) | (refine And.intro ?_ ?_ <;> conv => whnf; try dsimp only [St.after, St.afterAt, St.pin, St.unpin, initSt, initT, numO, cellsA, Option.map, ren, renL, renO, St.setObj, headSt, List.cons_append, List.nil_append, List.length_nil, Nat.reduceAdd])))) <;> (conv => whnf; try dsimp only [St.after, St.afterAt, St.pin, St.unpin, initSt, initT, numO, cellsA, Option.map, ren, renL, renO, St.setObj, headSt, List.cons_append, List.nil_append, List.length_nil, Nat.reduceAdd]))
      rw [b.lineI_end hb h.ln (fun q => q.2.2 (List.contains_iff_mem.1 hq))]
    · rename_i hq1 hq
      have hn : x ∉ out := fun q => by rw [List.contains_iff_mem.2 q] at hq; cases hq
      refine ⟨(out ++ [x]), ⟨[], (by kernel_rfl), (by kernel_rfl), (by kernel_rfl), ?_, ?_⟩, ?_, rfl⟩
      rotate_left 1
      focus
        conv => whnf
        repeat' (first
          | exact trivial
          | with_reducible rfl
          | (refine srcI ?_; kernel_rfl)
          | (refine nsI ?_; kernel_rfl)
          | (refine And.intro ?_ ?_ <;> conv => whnf; try dsimp only [St.after, St.afterAt, St.pin, St.unpin, initSt, initT, numO, cellsA, Option.map, ren, renL, renO, St.setObj, headSt, List.cons_append, List.nil_append, List.length_nil, Nat.reduceAdd]))
      rotate_right 1
      focus
        conv => whnf
        repeat' (first
          | exact trivial
          | with_reducible rfl
          | (refine srcI ?_; kernel_rfl)
          | (refine nsI ?_; kernel_rfl)
          | (refine And.intro ?_ ?_ <;> conv => whnf; try dsimp only [St.after, St.afterAt, St.pin, St.unpin, initSt, initT, numO, cellsA, Option.map, ren, renL, renO, St.setObj, headSt, List.cons_append, List.nil_append, List.length_nil, Nat.reduceAdd]))
      have h2 := b.lineI_succ hb h.ln hx0 hq1 hn
      have h3 := (b.lineI_len hb h2).2
      have h4 := h.len
      rw [List.length_append, List.length_singleton] at h3
      exact ⟨_, by rw [List.length_append, h4]; rfl, h2, h.sq.next hb hx0 (by show i + 1 < 66; omega)⟩
  · conv => whnf
    have hx : x < 0 := by
      rcases Int.lt_or_le x 0 with q | q
      · exact q
      · have := (h.sq.at q).1
        rw [List.length_map] at this
        exact (Nat.lt_irrefl _ this).elim
    repeat' ((first
      | (refine Ck.mk ?_)
      | (refine ifD (fun _ => ?_) (fun _ => ?_))
      | (refine ifE (fun _ => ?_) (fun _ => ?_))
      | (refine ifN (fun _ => ?_) (fun _ => ?_))
      | ((with_reducible refine natI ?_))
      | ((with_reducible refine ifNot ?_))
      | ((with_reducible refine ifAndD (fun _ _ => ?_) (fun _ => ?_)))
      | ((with_reducible refine ifAnd (fun _ _ => ?_) (fun _ => ?_)))
      | (refine ixM (by omega) (by first | omega | (simp only [List.length_set, List.length_map, List.length_append, List.length_cons, List.length_nil, List.length_replicate]; omega)) rfl ?_)
      | (refine ixA (by omega) (by first | omega | (simp only [List.length_set, List.length_map, List.length_append, List.length_cons, List.length_nil, List.length_replicate]; omega)) ?_)
      | (refine ltM (by omega) (by first | omega | (simp only [List.length_set, List.length_map, List.length_append, List.length_cons, List.length_nil, List.length_replicate]; omega)) ?_)
      | (refine calI (by omega) ?_)
      | (refine cu8 (by omega) ?_)
      | (refine cu64 (by omega) ?_)
      | (refine And.intro (by omega) ?_; refine crem (by omega) ?_)
      | (refine And.intro (by omega) ?_; refine cquo (by omega) ?_)
      | ((with_reducible refine preI ?_); (first | refine preNil ?_ | refine preOp rfl rfl ?_ | refine preT rfl rfl rfl rfl ?_ | refine preF rfl rfl rfl rfl ?_ | refine preTS rfl rfl rfl rfl ?_ | refine preFS rfl rfl rfl rfl ?_ | refine preSkip rfl rfl rfl rfl ?_ | refine preGT rfl rfl rfl rfl ?_ | refine preGF rfl rfl rfl rfl ?_))
      | (refine AltS.own (by assumption) ?_)
      | (refine AltS.im ?_)
      | (refine AltT.own (by assumption) ?_)
      | (refine AltT.im ?_)
      | (refine NilK.mk (fun _ => ?_) ?_)
      | (refine AltV.own (by assumption) ?_)
      | (refine AltV.im ?_)
      | ((first | refine drawA2 (by decide +kernel) ?_ | refine drawA (by decide +kernel) ?_ | refine drawL (by decide +kernel) ?_); conv => whnf; (try dsimp only [St.after, St.afterAt, St.pin, St.unpin, initSt, initT, numO, cellsA, Option.map, ren, renL, renO, St.setObj, headSt, List.cons_append, List.nil_append, List.length_nil, Nat.reduceAdd]); try (conv => enter [7, 3]; whnf))
      | (refine ap1 (by decide) (by omega) rfl rfl ?_)
      | (refine ap0 (by decide) rfl ?_)
      | (refine apL (by decide) (by omega) (fun _ => rfl) ?_)
      | (refine apM (by decide) (by omega) (fun _ => rfl) ?_)
      | (refine setI (z := _) rfl ?_)
      | (refine And.intro (by omega) (And.intro (by omega) ?_))
      | (refine ifB_intro (fun _ => ?_) (fun _ => ?_))
      | (refine exitA (by kernel_rfl) (by kernel_rfl) ⟨?_, trivial⟩ ?_ <;> (conv => whnf) <;> repeat' (first | exact trivial | with_reducible rfl | (refine srcI ?_; kernel_rfl) | (refine nsI ?_; kernel_rfl) | (refine And.intro ?_ ?_ <;> conv => whnf; try dsimp only [St.after, St.afterAt, St.pin, St.unpin, initSt, initT, numO, cellsA, Option.map, ren, renL, renO, St.setObj, headSt, List.cons_append, List.nil_append, List.length_nil, Nat.reduceAdd])))) <;> (conv => whnf; try dsimp only [St.after, St.afterAt, St.pin, St.unpin, initSt, initT, numO, cellsA, Option.map, ren, renL, renO, St.setObj, headSt, List.cons_append, List.nil_append, List.length_nil, Nat.reduceAdd]))
    rw [b.lineI_end hb h.ln (fun q => by omega)]
end Go.Proofs.Ytkecpgidolphfaa
namespace Go.Proofs.Ytkecpgidolphfaa
open Go Go.Sk
def bfs1 (n : Int) (s : List Int × List Int) (x : Int) : List Int × List Int := if nth s.1 x < 0 then (s.1.set x.toNat n, s.2 ++ [x]) else s
def Bd.round (b : Bd) (n : Int) (out last : List Int) : List Int × List Int := (last.flatMap b.near).foldl (bfs1 n) (out, [])
def Bd.fromR (b : Bd) : Nat → Int → List Int → List Int → List Int
  | 0, _, out, _ => out
  | k + 1, n, out, last => if last = [] then out else b.fromR k (n + 1) (b.round n out last).1 (b.round n out last).2
def Bd.from0 (b : Bd) (a : Int) : List Int := (List.replicate b.cells.toNat (-1)).set a.toNat 0
def Bd.dists (b : Bd) (a : Int) : List Int := b.fromR 66 1 (b.from0 a) [a]
def neg (l : List Int) : Nat := l.countP (· < 0)
theorem near_mem {b : Bd} {c x : Int} (h : x ∈ b.near c) : 0 ≤ x ∧ x < b.cells := by
  unfold Bd.near at h
  exact mem_ints.1 (List.mem_filter.1 h).1
theorem near_len (b : Bd) (c : Int) : (b.near c).length ≤ b.cells.toNat := filter_ints_le _ _
theorem neg_set {l : List Int} {x n : Int} (h0 : 0 ≤ x) (h1 : x < l.length) (hx : nth l x < 0) (hn : 0 ≤ n) : neg (l.set x.toNat n) + 1 = neg l := by
  unfold neg
  have hg := nth_some h0 h1
  rw [List.getElem?_eq_getElem (by omega)] at hg
  injection hg with hg
  rw [List.countP_set (by omega), hg]
  have hp : 0 < l.countP (· < 0) := List.countP_pos_iff.2 ⟨nth l x, nth_mem h0 h1, by simpa using hx⟩
  have h2 : ¬ (n < 0) := by omega
  simp [hx, h2]
  omega
structure BfsI (m : Int) (s0 : List Int) (s : List Int × List Int) : Prop where
  len : (s.1.length : Int) = m
  rg : ∀ x, x ∈ s.2 → 0 ≤ x ∧ x < m
  neg : neg s.1 + s.2.length = neg s0
theorem BfsI.step {m n : Int} {s0 : List Int} {s : List Int × List Int} (h : BfsI m s0 s) (hn : 0 ≤ n) {x : Int} (h0 : 0 ≤ x) (h1 : x < m) : BfsI m s0 (bfs1 n s x) := by
  unfold bfs1
  split
  · rename_i hx
    refine ⟨by simp [h.len], fun y hy => ?_, ?_⟩
    · rcases List.mem_append.1 hy with hy | hy
      · exact h.rg y hy
      · simp at hy; subst hy; exact ⟨h0, h1⟩
    · have := neg_set h0 (by rw [h.len]; exact h1) hx hn
      have := h.neg
      simp only [List.length_append, List.length_cons, List.length_nil]
      omega
  · exact h
theorem BfsI.fold {m n : Int} {s0 : List Int} (hn : 0 ≤ n) : ∀ {l : List Int} {s : List Int × List Int}, (∀ x, x ∈ l → 0 ≤ x ∧ x < m) → BfsI m s0 s → BfsI m s0 (l.foldl (bfs1 n) s)
  | [], _, _, h => h
  | x :: l, s, hl, h => BfsI.fold (s := bfs1 n s x) hn (fun y hy => hl y (by simp [hy])) (h.step hn (hl x (by simp)).1 (hl x (by simp)).2)
theorem flat_rg {b : Bd} {l : List Int} : ∀ x, x ∈ l.flatMap b.near → 0 ≤ x ∧ x < b.cells := fun x hx => by
  obtain ⟨c, _, h⟩ := List.mem_flatMap.1 hx
  exact near_mem h
theorem round_I {b : Bd} {n : Int} {out last : List Int} (hl : (out.length : Int) = b.cells) (hn : 0 ≤ n) : BfsI b.cells out (b.round n out last) := BfsI.fold hn flat_rg ⟨hl, by simp, by simp⟩
structure FS where
  k : Nat
  n : Int
  out : List Int
  last : List Int
structure FromI (b : Bd) (a : Int) (p : FS) : Prop where
  n1 : 1 ≤ p.n
  n2 : p.n + p.k ≤ 70
  len : (p.out.length : Int) = b.cells
  rg : ∀ x, x ∈ p.last → 0 ≤ x ∧ x < b.cells
  ng : p.last ≠ [] → neg p.out + 1 ≤ p.k
  ll : p.last.length ≤ 64
  eq : b.fromR p.k p.n p.out p.last = b.dists a
theorem neg_le (l : List Int) : neg l ≤ l.length := List.countP_le_length
theorem FromI.zero {b : Bd} (hb : b.ok) {a : Int} (h0 : 0 ≤ a) (h1 : a < b.cells) : FromI b a ⟨66, 1, b.from0 a, [a]⟩ := by
  have c6 := hb.c64
  have hl : ((b.from0 a).length : Int) = b.cells := by unfold Bd.from0; simp; omega
  refine ⟨by simp, by simp, hl, fun x hx => by simp at hx; subst hx; exact ⟨h0, h1⟩, fun _ => ?_, by simp, rfl⟩
  have := neg_le (b.from0 a)
  simp only
  omega
theorem FromI.next {b : Bd} (hb : b.ok) {a : Int} {p : FS} (h : FromI b a p) (hl : p.last ≠ []) : ∃ k', p.k = k' + 1 ∧ FromI b a ⟨k', p.n + 1, (b.round p.n p.out p.last).1, (b.round p.n p.out p.last).2⟩ := by
  have c6 := hb.c64
  have q1 := h.ng hl
  have q2 := h.n1
  have q3 := h.n2
  have q4 := h.len
  have hI := round_I (b := b) (n := p.n) (out := p.out) (last := p.last) q4 (by omega)
  have q5 := hI.neg
  have q6 := neg_le p.out
  obtain ⟨k', hk⟩ : ∃ k', p.k = k' + 1 := ⟨p.k - 1, by omega⟩
  refine ⟨k', hk, by simp only; omega, by simp only; omega, hI.len, hI.rg, fun hne => ?_, ?_, ?_⟩
  · have : 0 < (b.round p.n p.out p.last).2.length := List.length_pos_iff.2 hne
    simp only
    omega
  · simp only; omega
  · rw [← h.eq, hk]
    simp only [Bd.fromR]
    rw [if_neg hl]
theorem FromI.done {b : Bd} {a : Int} {p : FS} (h : FromI b a p) (hl : p.last = []) : p.out = b.dists a := by
  rw [← h.eq, hl]
  cases p.k with
  | zero => rfl
  | succ k => simp [Bd.fromR]
def Bd.far (b : Bd) : List (List Int) := (ints b.cells).map b.dists
end Go.Proofs.Ytkecpgidolphfaa
namespace Go.Proofs.Ytkecpgidolphfaa
open Go Go.Sk
theorem way {d : Int} (h0 : 0 ≤ d) (h1 : d < 8) : partA [I 0, I (-1), I 1, I (-1), I 1, I 0, I 1, I 1, I 0, I 1, I (-1), I 1, I (-1), I 0, I (-1), I (-1)] ti66 (d.toNat * 2) = some (.ag [I (nth dxs d), I (nth dys d)]) := by
  have : d = 0 ∨ d = 1 ∨ d = 2 ∨ d = 3 ∨ d = 4 ∨ d = 5 ∨ d = 6 ∨ d = 7 := by omega
  rcases this with rfl | rfl | rfl | rfl | rfl | rfl | rfl | rfl <;> rfl
set_option maxHeartbeats 4000000 in
set_option maxRecDepth 10000 in
theorem Grid32_p (w h : Int) : Pure Try.prog 32 [I w, I h] (.tup [(grid w h).1.av, I (grid w h).2]) none := by
  refine fun_of tok D_ok Try.func32 rfl Try.ntmps32 Try.results32 (by kernel_rfl) (by simp) (by simp) ?_
  conv => whnf
  repeat' ((first
    | (refine Ck.mk ?_)
    | (refine ifD (fun _ => ?_) (fun _ => ?_))
    | (refine ifE (fun _ => ?_) (fun _ => ?_))
    | (refine ifN (fun _ => ?_) (fun _ => ?_))
    | ((with_reducible refine natI ?_))
    | ((with_reducible refine ifNot ?_))
    | ((with_reducible refine ifAndD (fun _ _ => ?_) (fun _ => ?_)))
    | ((with_reducible refine ifAnd (fun _ _ => ?_) (fun _ => ?_)))
    | (refine ixM (by omega) (by first | omega | (simp only [List.length_set, List.length_map, List.length_append, List.length_cons, List.length_nil, List.length_replicate]; omega)) rfl ?_)
    | (refine ixA (by omega) (by first | omega | (simp only [List.length_set, List.length_map, List.length_append, List.length_cons, List.length_nil, List.length_replicate]; omega)) ?_)
    | (refine ltM (by omega) (by first | omega | (simp only [List.length_set, List.length_map, List.length_append, List.length_cons, List.length_nil, List.length_replicate]; omega)) ?_)
    | (refine calI (by omega) ?_)
    | (refine cu8 (by omega) ?_)
    | (refine cu64 (by omega) ?_)
    | (refine And.intro (by omega) ?_; refine crem (by omega) ?_)
    | (refine And.intro (by omega) ?_; refine cquo (by omega) ?_)
    | ((with_reducible refine preI ?_); (first | refine preNil ?_ | refine preOp rfl rfl ?_ | refine preT rfl rfl rfl rfl ?_ | refine preF rfl rfl rfl rfl ?_ | refine preTS rfl rfl rfl rfl ?_ | refine preFS rfl rfl rfl rfl ?_ | refine preSkip rfl rfl rfl rfl ?_ | refine preGT rfl rfl rfl rfl ?_ | refine preGF rfl rfl rfl rfl ?_))
    | (refine AltS.own (by assumption) ?_)
    | (refine AltS.im ?_)
    | (refine AltT.own (by assumption) ?_)
    | (refine AltT.im ?_)
    | (refine NilK.mk (fun _ => ?_) ?_)
    | (refine AltV.own (by assumption) ?_)
    | (refine AltV.im ?_)
    | ((first | refine drawA2 (by decide +kernel) ?_ | refine drawA (by decide +kernel) ?_ | refine drawL (by decide +kernel) ?_); conv => whnf; (try dsimp only [St.after, St.afterAt, St.pin, St.unpin, initSt, initT, numO, cellsA, Option.map, ren, renL, renO, St.setObj, headSt, List.cons_append, List.nil_append, List.length_nil, Nat.reduceAdd]); try (conv => enter [7, 3]; whnf))
    | (refine ap1 (by decide) (by omega) rfl rfl ?_)
    | (refine ap0 (by decide) rfl ?_)
    | (refine apL (by decide) (by omega) (fun _ => rfl) ?_)
    | (refine apM (by decide) (by omega) (fun _ => rfl) ?_)
    | (refine setI (z := _) rfl ?_)
    | (refine And.intro (by omega) (And.intro (by omega) ?_))
    | (refine ifB_intro (fun _ => ?_) (fun _ => ?_))) <;> (conv => whnf; try dsimp only [St.after, St.afterAt, St.pin, St.unpin, initSt, initT, numO, cellsA, Option.map, ren, renL, renO, St.setObj, headSt, List.cons_append, List.nil_append, List.length_nil, Nat.reduceAdd]))
  iterate 2
    ·
      repeat' ((first
        | (refine Ck.mk ?_)
        | (refine ifD (fun _ => ?_) (fun _ => ?_))
        | (refine ifE (fun _ => ?_) (fun _ => ?_))
        | (refine ifN (fun _ => ?_) (fun _ => ?_))
        | ((with_reducible refine natI ?_))
        | ((with_reducible refine ifNot ?_))
        | ((with_reducible refine ifAndD (fun _ _ => ?_) (fun _ => ?_)))
        | ((with_reducible refine ifAnd (fun _ _ => ?_) (fun _ => ?_)))
        | (refine ixM (by omega) (by first | omega | (simp only [List.length_set, List.length_map, List.length_append, List.length_cons, List.length_nil, List.length_replicate]; omega)) rfl ?_)
        | (refine ixA (by omega) (by first | omega | (simp only [List.length_set, List.length_map, List.length_append, List.length_cons, List.length_nil, List.length_replicate]; omega)) ?_)
        | (refine ltM (by omega) (by first | omega | (simp only [List.length_set, List.length_map, List.length_append, List.length_cons, List.length_nil, List.length_replicate]; omega)) ?_)
        | (refine calI (by omega) ?_)
        | (refine cu8 (by omega) ?_)
        | (refine cu64 (by omega) ?_)
        | (refine And.intro (by omega) ?_; refine crem (by omega) ?_)
        | (refine And.intro (by omega) ?_; refine cquo (by omega) ?_)
        | ((with_reducible refine preI ?_); (first | refine preNil ?_ | refine preOp rfl rfl ?_ | refine preT rfl rfl rfl rfl ?_ | refine preF rfl rfl rfl rfl ?_ | refine preTS rfl rfl rfl rfl ?_ | refine preFS rfl rfl rfl rfl ?_ | refine preSkip rfl rfl rfl rfl ?_ | refine preGT rfl rfl rfl rfl ?_ | refine preGF rfl rfl rfl rfl ?_))
        | (refine AltS.own (by assumption) ?_)
        | (refine AltS.im ?_)
        | (refine AltT.own (by assumption) ?_)
        | (refine AltT.im ?_)
        | (refine NilK.mk (fun _ => ?_) ?_)
        | (refine AltV.own (by assumption) ?_)
        | (refine AltV.im ?_)
        | ((first | refine drawA2 (by decide +kernel) ?_ | refine drawA (by decide +kernel) ?_ | refine drawL (by decide +kernel) ?_); conv => whnf; (try dsimp only [St.after, St.afterAt, St.pin, St.unpin, initSt, initT, numO, cellsA, Option.map, ren, renL, renO, St.setObj, headSt, List.cons_append, List.nil_append, List.length_nil, Nat.reduceAdd]); try (conv => enter [7, 3]; whnf))
        | (refine ap1 (by decide) (by omega) rfl rfl ?_)
        | (refine ap0 (by decide) rfl ?_)
        | (refine apL (by decide) (by omega) (fun _ => rfl) ?_)
        | (refine apM (by decide) (by omega) (fun _ => rfl) ?_)
        | (refine setI (z := _) rfl ?_)
        | (refine And.intro (by omega) (And.intro (by omega) ?_))
        | (refine ifB_intro (fun _ => ?_) (fun _ => ?_))
        | (refine exitA (by kernel_rfl) (by kernel_rfl) ⟨?_, trivial⟩ ?_ <;> (conv => whnf) <;> repeat' (first | exact trivial | with_reducible rfl | (refine srcI ?_; kernel_rfl) | (refine nsI ?_; kernel_rfl) | (refine And.intro ?_ ?_ <;> conv => whnf; try dsimp only [St.after, St.afterAt, St.pin, St.unpin, initSt, initT, numO, cellsA, Option.map, ren, renL, renO, St.setObj, headSt, List.cons_append, List.nil_append, List.length_nil, Nat.reduceAdd])))) <;> (conv => whnf; try dsimp only [St.after, St.afterAt, St.pin, St.unpin, initSt, initT, numO, cellsA, Option.map, ren, renL, renO, St.setObj, headSt, List.cons_append, List.nil_append, List.length_nil, Nat.reduceAdd]))
      all_goals (unfold grid; rw [if_neg (by unfold fits; omega)]; try rfl)
  have w1 : 1 ≤ w := by omega
  have h1 : 1 ≤ h := by omega
  have p1 : w * h ≤ 64 * 64 := Int.mul_le_mul (by omega) (by omega) (by omega) (by omega)
  have p0 : 1 * 1 ≤ w * h := Int.mul_le_mul (by omega) (by omega) (by omega) (by omega)
  repeat' ((first
    | (refine Ck.mk ?_)
    | (refine ifD (fun _ => ?_) (fun _ => ?_))
    | (refine ifE (fun _ => ?_) (fun _ => ?_))
    | (refine ifN (fun _ => ?_) (fun _ => ?_))
    | ((with_reducible refine natI ?_))
    | ((with_reducible refine ifNot ?_))
    | ((with_reducible refine ifAndD (fun _ _ => ?_) (fun _ => ?_)))
    | ((with_reducible refine ifAnd (fun _ _ => ?_) (fun _ => ?_)))
    | (refine ixM (by omega) (by first | omega | (simp only [List.length_set, List.length_map, List.length_append, List.length_cons, List.length_nil, List.length_replicate]; omega)) rfl ?_)
    | (refine ixA (by omega) (by first | omega | (simp only [List.length_set, List.length_map, List.length_append, List.length_cons, List.length_nil, List.length_replicate]; omega)) ?_)
    | (refine ltM (by omega) (by first | omega | (simp only [List.length_set, List.length_map, List.length_append, List.length_cons, List.length_nil, List.length_replicate]; omega)) ?_)
    | (refine calI (by omega) ?_)
    | (refine cu8 (by omega) ?_)
    | (refine cu64 (by omega) ?_)
    | (refine And.intro (by omega) ?_; refine crem (by omega) ?_)
    | (refine And.intro (by omega) ?_; refine cquo (by omega) ?_)
    | ((with_reducible refine preI ?_); (first | refine preNil ?_ | refine preOp rfl rfl ?_ | refine preT rfl rfl rfl rfl ?_ | refine preF rfl rfl rfl rfl ?_ | refine preTS rfl rfl rfl rfl ?_ | refine preFS rfl rfl rfl rfl ?_ | refine preSkip rfl rfl rfl rfl ?_ | refine preGT rfl rfl rfl rfl ?_ | refine preGF rfl rfl rfl rfl ?_))
    | (refine AltS.own (by assumption) ?_)
    | (refine AltS.im ?_)
    | (refine AltT.own (by assumption) ?_)
    | (refine AltT.im ?_)
    | (refine NilK.mk (fun _ => ?_) ?_)
    | (refine AltV.own (by assumption) ?_)
    | (refine AltV.im ?_)
    | ((first | refine drawA2 (by decide +kernel) ?_ | refine drawA (by decide +kernel) ?_ | refine drawL (by decide +kernel) ?_); conv => whnf; (try dsimp only [St.after, St.afterAt, St.pin, St.unpin, initSt, initT, numO, cellsA, Option.map, ren, renL, renO, St.setObj, headSt, List.cons_append, List.nil_append, List.length_nil, Nat.reduceAdd]); try (conv => enter [7, 3]; whnf))
    | (refine ap1 (by decide) (by omega) rfl rfl ?_)
    | (refine ap0 (by decide) rfl ?_)
    | (refine apL (by decide) (by omega) (fun _ => rfl) ?_)
    | (refine apM (by decide) (by omega) (fun _ => rfl) ?_)
    | (refine setI (z := _) rfl ?_)
    | (refine And.intro (by omega) (And.intro (by omega) ?_))
    | (refine ifB_intro (fun _ => ?_) (fun _ => ?_))) <;> (conv => whnf; try dsimp only [St.after, St.afterAt, St.pin, St.unpin, initSt, initT, numO, cellsA, Option.map, ren, renL, renO, St.setObj, headSt, List.cons_append, List.nil_append, List.length_nil, Nat.reduceAdd]))
  ·
    repeat' ((first
      | (refine Ck.mk ?_)
      | (refine ifD (fun _ => ?_) (fun _ => ?_))
      | (refine ifE (fun _ => ?_) (fun _ => ?_))
      | (refine ifN (fun _ => ?_) (fun _ => ?_))
      | ((with_reducible refine natI ?_))
      | ((with_reducible refine ifNot ?_))
      | ((with_reducible refine ifAndD (fun _ _ => ?_) (fun _ => ?_)))
      | ((with_reducible refine ifAnd (fun _ _ => ?_) (fun _ => ?_)))
      | (refine ixM (by omega) (by first | omega | (simp only [List.length_set, List.length_map, List.length_append, List.length_cons, List.length_nil, List.length_replicate]; omega)) rfl ?_)
      | (refine ixA (by omega) (by first | omega | (simp only [List.length_set, List.length_map, List.length_append, List.length_cons, List.length_nil, List.length_replicate]; omega)) ?_)
      | (refine ltM (by omega) (by first | omega | (simp only [List.length_set, List.length_map, List.length_append, List.length_cons, List.length_nil, List.length_replicate]; omega)) ?_)
      | (refine calI (by omega) ?_)
      | (refine cu8 (by omega) ?_)
      | (refine cu64 (by omega) ?_)
      | (refine And.intro (by omega) ?_; refine crem (by omega) ?_)
      | (refine And.intro (by omega) ?_; refine cquo (by omega) ?_)
      | ((with_reducible refine preI ?_); (first | refine preNil ?_ | refine preOp rfl rfl ?_ | refine preT rfl rfl rfl rfl ?_ | refine preF rfl rfl rfl rfl ?_ | refine preTS rfl rfl rfl rfl ?_ | refine preFS rfl rfl rfl rfl ?_ | refine preSkip rfl rfl rfl rfl ?_ | refine preGT rfl rfl rfl rfl ?_ | refine preGF rfl rfl rfl rfl ?_))
      | (refine AltS.own (by assumption) ?_)
      | (refine AltS.im ?_)
      | (refine AltT.own (by assumption) ?_)
      | (refine AltT.im ?_)
      | (refine NilK.mk (fun _ => ?_) ?_)
      | (refine AltV.own (by assumption) ?_)
      | (refine AltV.im ?_)
      | ((first | refine drawA2 (by decide +kernel) ?_ | refine drawA (by decide +kernel) ?_ | refine drawL (by decide +kernel) ?_); conv => whnf; (try dsimp only [St.after, St.afterAt, St.pin, St.unpin, initSt, initT, numO, cellsA, Option.map, ren, renL, renO, St.setObj, headSt, List.cons_append, List.nil_append, List.length_nil, Nat.reduceAdd]); try (conv => enter [7, 3]; whnf))
      | (refine ap1 (by decide) (by omega) rfl rfl ?_)
      | (refine ap0 (by decide) rfl ?_)
      | (refine apL (by decide) (by omega) (fun _ => rfl) ?_)
      | (refine apM (by decide) (by omega) (fun _ => rfl) ?_)
      | (refine setI (z := _) rfl ?_)
      | (refine And.intro (by omega) (And.intro (by omega) ?_))
      | (refine ifB_intro (fun _ => ?_) (fun _ => ?_))
      | (refine exitA (by kernel_rfl) (by kernel_rfl) ⟨?_, trivial⟩ ?_ <;> (conv => whnf) <;> repeat' (first | exact trivial | with_reducible rfl | (refine srcI ?_; kernel_rfl) | (refine nsI ?_; kernel_rfl) | (refine And.intro ?_ ?_ <;> conv => whnf; try dsimp only [St.after, St.afterAt, St.pin, St.unpin, initSt, initT, numO, cellsA, Option.map, ren, renL, renO, St.setObj, headSt, List.cons_append, List.nil_append, List.length_nil, Nat.reduceAdd])))) <;> (conv => whnf; try dsimp only [St.after, St.afterAt, St.pin, St.unpin, initSt, initT, numO, cellsA, Option.map, ren, renL, renO, St.setObj, headSt, List.cons_append, List.nil_append, List.length_nil, Nat.reduceAdd]))
    all_goals (unfold grid; rw [if_neg (by unfold fits; omega)]; try rfl)
  have good : grid w h = (gridB w h, 0) := if_pos (by unfold fits; omega)
  rw [good]
  refine .of (fun d => [(45, I d)]) (fun d => [(2, .box [I (w * h), .ref 3, .ref 4]), (3, .arr 1 (((ints d).map fun d => (ints (w * h)).map (gto w h d)).map Is)), (4, .arr 1 (((ints d).map fun d => (d + 4) % 8).map I))]) 5 (fun d => 0 ≤ d ∧ d ≤ 8) (fun d => (8 - d).toNat) 0 ?_
  conv => whnf
  refine ⟨⟨[], (by kernel_rfl), (by kernel_rfl), (by kernel_rfl), ?_, ?_⟩, ?_, fun d ⟨d0, d1⟩ => ?_⟩
  rotate_left 1
  focus
    conv => whnf
    repeat' (first
      | exact trivial
      | with_reducible rfl
      | (refine srcI ?_; kernel_rfl)
      | (refine nsI ?_; kernel_rfl)
      | (refine And.intro ?_ ?_ <;> conv => whnf; try dsimp only [St.after, St.afterAt, St.pin, St.unpin, initSt, initT, numO, cellsA, Option.map, ren, renL, renO, St.setObj, headSt, List.cons_append, List.nil_append, List.length_nil, Nat.reduceAdd])
      | rfl)
  rotate_right 1
  focus
    conv => whnf
    repeat' (first
      | exact trivial
      | with_reducible rfl
      | (refine srcI ?_; kernel_rfl)
      | (refine nsI ?_; kernel_rfl)
      | (refine And.intro ?_ ?_ <;> conv => whnf; try dsimp only [St.after, St.afterAt, St.pin, St.unpin, initSt, initT, numO, cellsA, Option.map, ren, renL, renO, St.setObj, headSt, List.cons_append, List.nil_append, List.length_nil, Nat.reduceAdd])
      | rfl)
  rotate_right 1
  focus
    conv => whnf
  rotate_left 1
  · exact ⟨by omega, by omega⟩
  have hl3 : ((ints d).map fun d => (ints (w * h)).map (gto w h d)).length = d.toNat := by rw [List.length_map, ints_len]
  have hl4 : ((ints d).map fun d => (d + 4) % 8).length = d.toNat := by rw [List.length_map, ints_len]
  repeat' ((first
    | (refine Ck.mk ?_)
    | (refine ifD (fun _ => ?_) (fun _ => ?_))
    | (refine ifE (fun _ => ?_) (fun _ => ?_))
    | (refine ifN (fun _ => ?_) (fun _ => ?_))
    | ((with_reducible refine natI ?_))
    | ((with_reducible refine ifNot ?_))
    | ((with_reducible refine ifAndD (fun _ _ => ?_) (fun _ => ?_)))
    | ((with_reducible refine ifAnd (fun _ _ => ?_) (fun _ => ?_)))
    | (refine ixM (by omega) (by first | omega | (simp only [List.length_set, List.length_map, List.length_append, List.length_cons, List.length_nil, List.length_replicate]; omega)) rfl ?_)
    | (refine ixA (by omega) (by first | omega | (simp only [List.length_set, List.length_map, List.length_append, List.length_cons, List.length_nil, List.length_replicate]; omega)) ?_)
    | (refine ltM (by omega) (by first | omega | (simp only [List.length_set, List.length_map, List.length_append, List.length_cons, List.length_nil, List.length_replicate]; omega)) ?_)
    | (refine calI (by omega) ?_)
    | (refine cu8 (by omega) ?_)
    | (refine cu64 (by omega) ?_)
    | (refine And.intro (by omega) ?_; refine crem (by omega) ?_)
    | (refine And.intro (by omega) ?_; refine cquo (by omega) ?_)
    | ((with_reducible refine preI ?_); (first | refine preNil ?_ | refine preOp rfl rfl ?_ | refine preT rfl rfl rfl rfl ?_ | refine preF rfl rfl rfl rfl ?_ | refine preTS rfl rfl rfl rfl ?_ | refine preFS rfl rfl rfl rfl ?_ | refine preSkip rfl rfl rfl rfl ?_ | refine preGT rfl rfl rfl rfl ?_ | refine preGF rfl rfl rfl rfl ?_))
    | (refine AltS.own (by assumption) ?_)
    | (refine AltS.im ?_)
    | (refine AltT.own (by assumption) ?_)
    | (refine AltT.im ?_)
    | (refine NilK.mk (fun _ => ?_) ?_)
    | (refine AltV.own (by assumption) ?_)
    | (refine AltV.im ?_)
    | ((first | refine drawA2 (by decide +kernel) ?_ | refine drawA (by decide +kernel) ?_ | refine drawL (by decide +kernel) ?_); conv => whnf; (try dsimp only [St.after, St.afterAt, St.pin, St.unpin, initSt, initT, numO, cellsA, Option.map, ren, renL, renO, St.setObj, headSt, List.cons_append, List.nil_append, List.length_nil, Nat.reduceAdd]); try (conv => enter [7, 3]; whnf))
    | (refine ap1 (by decide) (by omega) rfl rfl ?_)
    | (refine ap0 (by decide) rfl ?_)
    | (refine apL (by decide) (by omega) (fun _ => rfl) ?_)
    | (refine apM (by decide) (by omega) (fun _ => rfl) ?_)
    | (refine setI (z := _) rfl ?_)
    | (refine And.intro (by omega) (And.intro (by omega) ?_))
    | (refine ifB_intro (fun _ => ?_) (fun _ => ?_))) <;> (conv => whnf; try dsimp only [St.after, St.afterAt, St.pin, St.unpin, initSt, initT, numO, cellsA, Option.map, ren, renL, renO, St.setObj, headSt, List.cons_append, List.nil_append, List.length_nil, Nat.reduceAdd]))
  · refine ldA (way d0 (by omega)) ?_
    conv => whnf
    repeat' ((first
      | (refine Ck.mk ?_)
      | (refine ifD (fun _ => ?_) (fun _ => ?_))
      | (refine ifE (fun _ => ?_) (fun _ => ?_))
      | (refine ifN (fun _ => ?_) (fun _ => ?_))
      | ((with_reducible refine natI ?_))
      | ((with_reducible refine ifNot ?_))
      | ((with_reducible refine ifAndD (fun _ _ => ?_) (fun _ => ?_)))
      | ((with_reducible refine ifAnd (fun _ _ => ?_) (fun _ => ?_)))
      | (refine ixM (by omega) (by first | omega | (simp only [List.length_set, List.length_map, List.length_append, List.length_cons, List.length_nil, List.length_replicate]; omega)) rfl ?_)
      | (refine ixA (by omega) (by first | omega | (simp only [List.length_set, List.length_map, List.length_append, List.length_cons, List.length_nil, List.length_replicate]; omega)) ?_)
      | (refine ltM (by omega) (by first | omega | (simp only [List.length_set, List.length_map, List.length_append, List.length_cons, List.length_nil, List.length_replicate]; omega)) ?_)
      | (refine calI (by omega) ?_)
      | (refine cu8 (by omega) ?_)
      | (refine cu64 (by omega) ?_)
      | (refine And.intro (by omega) ?_; refine crem (by omega) ?_)
      | (refine And.intro (by omega) ?_; refine cquo (by omega) ?_)
      | (refine mkI (by decide) (by omega) (by omega) ?_; conv => whnf)
      | ((with_reducible refine preI ?_); (first | refine preNil ?_ | refine preOp rfl rfl ?_ | refine preT rfl rfl rfl rfl ?_ | refine preF rfl rfl rfl rfl ?_ | refine preTS rfl rfl rfl rfl ?_ | refine preFS rfl rfl rfl rfl ?_ | refine preSkip rfl rfl rfl rfl ?_ | refine preGT rfl rfl rfl rfl ?_ | refine preGF rfl rfl rfl rfl ?_))
      | (refine AltS.own (by assumption) ?_)
      | (refine AltS.im ?_)
      | (refine AltT.own (by assumption) ?_)
      | (refine AltT.im ?_)
      | (refine NilK.mk (fun _ => ?_) ?_)
      | (refine AltV.own (by assumption) ?_)
      | (refine AltV.im ?_)
      | ((first | refine drawA2 (by decide +kernel) ?_ | refine drawA (by decide +kernel) ?_ | refine drawL (by decide +kernel) ?_); conv => whnf; (try dsimp only [St.after, St.afterAt, St.pin, St.unpin, initSt, initT, numO, cellsA, Option.map, ren, renL, renO, St.setObj, headSt, List.cons_append, List.nil_append, List.length_nil, Nat.reduceAdd]); try (conv => enter [7, 3]; whnf))
      | (refine ap1 (by decide) (by omega) rfl rfl ?_)
      | (refine ap0 (by decide) rfl ?_)
      | (refine apL (by decide) (by omega) (fun _ => rfl) ?_)
      | (refine apM (by decide) (by omega) (fun _ => rfl) ?_)
      | (refine setI (z := _) rfl ?_)
      | (refine And.intro (by omega) (And.intro (by omega) ?_))
      | (refine ifB_intro (fun _ => ?_) (fun _ => ?_))) <;> (conv => whnf; try dsimp only [St.after, St.afterAt, St.pin, St.unpin, initSt, initT, numO, cellsA, Option.map, ren, renL, renO, St.setObj, headSt, List.cons_append, List.nil_append, List.length_nil, Nat.reduceAdd]))
    refine .of (fun c => [(54, I c)]) (fun c => [(6, .arr 1 ((gl w h d c).map I))]) 7 (fun c => 0 ≤ c ∧ c ≤ w * h) (fun c => (w * h - c).toNat) 0 ?_
    conv => whnf
    refine ⟨⟨[], (by kernel_rfl), (by kernel_rfl), (by kernel_rfl), ?_, ?_⟩, ?_, fun c ⟨c0, c1⟩ => ?_⟩
    rotate_left 1
    focus
      conv => whnf
      repeat' (first
        | exact trivial
        | with_reducible rfl
        | (refine srcI ?_; kernel_rfl)
        | (refine nsI ?_; kernel_rfl)
        | (refine And.intro ?_ ?_ <;> conv => whnf; try dsimp only [St.after, St.afterAt, St.pin, St.unpin, initSt, initT, numO, cellsA, Option.map, ren, renL, renO, St.setObj, headSt, List.cons_append, List.nil_append, List.length_nil, Nat.reduceAdd])
        | rfl)
    rotate_right 1
    focus
      conv => whnf
      repeat' (first
        | exact trivial
        | with_reducible rfl
        | (refine srcI ?_; kernel_rfl)
        | (refine nsI ?_; kernel_rfl)
        | (refine And.intro ?_ ?_ <;> conv => whnf; try dsimp only [St.after, St.afterAt, St.pin, St.unpin, initSt, initT, numO, cellsA, Option.map, ren, renL, renO, St.setObj, headSt, List.cons_append, List.nil_append, List.length_nil, Nat.reduceAdd])
        | rfl)
    rotate_right 1
    focus
      conv => whnf
    rotate_left 1
    · rw [gl_zero, List.map_replicate]; rfl
    · exact ⟨by omega, by omega⟩
    have hgl := gl_len (d := d) c0 c1
    have hlm : ((gl w h d c).map I).length = (gl w h d c).length := List.length_map _
    have hrep : (List.replicate (w * h).toNat (AV.v ti3.zero)).length = (w * h).toNat := List.length_replicate
    have m0 := Int.emod_nonneg c (show w ≠ 0 by omega)
    have m1 := Int.emod_lt_of_pos c (show 0 < w by omega)
    have m2 : 0 ≤ c / w := Int.ediv_nonneg c0 (by omega)
    have m3 : c / w ≤ c := Int.ediv_le_self _ c0
    obtain ⟨x1, x2, y1, y2⟩ := dxy d0 (by omega)
    repeat' ((first
      | (refine Ck.mk ?_)
      | (refine ifD (fun _ => ?_) (fun _ => ?_))
      | (refine ifE (fun _ => ?_) (fun _ => ?_))
      | (refine ifN (fun _ => ?_) (fun _ => ?_))
      | ((with_reducible refine natI ?_))
      | ((with_reducible refine ifNot ?_))
      | ((with_reducible refine ifAndD (fun _ _ => ?_) (fun _ => ?_)))
      | ((with_reducible refine ifAnd (fun _ _ => ?_) (fun _ => ?_)))
      | (refine ixM (by omega) (by first | omega | (simp only [List.length_set, List.length_map, List.length_append, List.length_cons, List.length_nil, List.length_replicate]; omega)) rfl ?_)
      | (refine ixA (by omega) (by first | omega | (simp only [List.length_set, List.length_map, List.length_append, List.length_cons, List.length_nil, List.length_replicate]; omega)) ?_)
      | (refine ltM (by omega) (by first | omega | (simp only [List.length_set, List.length_map, List.length_append, List.length_cons, List.length_nil, List.length_replicate]; omega)) ?_)
      | (refine calI (by omega) ?_)
      | (refine cu8 (by omega) ?_)
      | (refine cu64 (by omega) ?_)
      | (refine And.intro (by omega) ?_; refine crem (by omega) ?_)
      | (refine And.intro (by omega) ?_; refine cquo (by omega) ?_)
      | ((with_reducible refine preI ?_); (first | refine preNil ?_ | refine preOp rfl rfl ?_ | refine preT rfl rfl rfl rfl ?_ | refine preF rfl rfl rfl rfl ?_ | refine preTS rfl rfl rfl rfl ?_ | refine preFS rfl rfl rfl rfl ?_ | refine preSkip rfl rfl rfl rfl ?_ | refine preGT rfl rfl rfl rfl ?_ | refine preGF rfl rfl rfl rfl ?_))
      | (refine AltS.own (by assumption) ?_)
      | (refine AltS.im ?_)
      | (refine AltT.own (by assumption) ?_)
      | (refine AltT.im ?_)
      | (refine NilK.mk (fun _ => ?_) ?_)
      | (refine AltV.own (by assumption) ?_)
      | (refine AltV.im ?_)
      | ((first | refine drawA2 (by decide +kernel) ?_ | refine drawA (by decide +kernel) ?_ | refine drawL (by decide +kernel) ?_); conv => whnf; (try dsimp only [St.after, St.afterAt, St.pin, St.unpin, initSt, initT, numO, cellsA, Option.map, ren, renL, renO, St.setObj, headSt, List.cons_append, List.nil_append, List.length_nil, Nat.reduceAdd]); try (conv => enter [7, 3]; whnf))
      | (refine ap1 (by decide) (by omega) rfl rfl ?_)
      | (refine ap0 (by decide) rfl ?_)
      | (refine apL (by decide) (by omega) (fun _ => rfl) ?_)
      | (refine apM (by decide) (by omega) (fun _ => rfl) ?_)
      | (refine setI (z := _) rfl ?_)
      | (refine And.intro (by omega) (And.intro (by omega) ?_))
      | (refine ifB_intro (fun _ => ?_) (fun _ => ?_))) <;> (conv => whnf; try dsimp only [St.after, St.afterAt, St.pin, St.unpin, initSt, initT, numO, cellsA, Option.map, ren, renL, renO, St.setObj, headSt, List.cons_append, List.nil_append, List.length_nil, Nat.reduceAdd]))
    · rename_i a1 a2 a3 a4
      have q1 : (c / w + nth dys d) * w ≤ 64 * 64 := Int.mul_le_mul (by omega) (by omega) (by omega) (by omega)
      have q0 : 0 ≤ (c / w + nth dys d) * w := Int.mul_nonneg (by omega) (by omega)
      repeat' ((first
        | (refine Ck.mk ?_)
        | (refine ifD (fun _ => ?_) (fun _ => ?_))
        | (refine ifE (fun _ => ?_) (fun _ => ?_))
        | (refine ifN (fun _ => ?_) (fun _ => ?_))
        | ((with_reducible refine natI ?_))
        | ((with_reducible refine ifNot ?_))
        | ((with_reducible refine ifAndD (fun _ _ => ?_) (fun _ => ?_)))
        | ((with_reducible refine ifAnd (fun _ _ => ?_) (fun _ => ?_)))
        | (refine ixM (by omega) (by first | omega | (simp only [List.length_set, List.length_map, List.length_append, List.length_cons, List.length_nil, List.length_replicate]; omega)) rfl ?_)
        | (refine ixA (by omega) (by first | omega | (simp only [List.length_set, List.length_map, List.length_append, List.length_cons, List.length_nil, List.length_replicate]; omega)) ?_)
        | (refine ltM (by omega) (by first | omega | (simp only [List.length_set, List.length_map, List.length_append, List.length_cons, List.length_nil, List.length_replicate]; omega)) ?_)
        | (refine calI (by omega) ?_)
        | (refine cu8 (by omega) ?_)
        | (refine cu64 (by omega) ?_)
        | (refine And.intro (by omega) ?_; refine crem (by omega) ?_)
        | (refine And.intro (by omega) ?_; refine cquo (by omega) ?_)
        | ((with_reducible refine preI ?_); (first | refine preNil ?_ | refine preOp rfl rfl ?_ | refine preT rfl rfl rfl rfl ?_ | refine preF rfl rfl rfl rfl ?_ | refine preTS rfl rfl rfl rfl ?_ | refine preFS rfl rfl rfl rfl ?_ | refine preSkip rfl rfl rfl rfl ?_ | refine preGT rfl rfl rfl rfl ?_ | refine preGF rfl rfl rfl rfl ?_))
        | (refine AltS.own (by assumption) ?_)
        | (refine AltS.im ?_)
        | (refine AltT.own (by assumption) ?_)
        | (refine AltT.im ?_)
        | (refine NilK.mk (fun _ => ?_) ?_)
        | (refine AltV.own (by assumption) ?_)
        | (refine AltV.im ?_)
        | ((first | refine drawA2 (by decide +kernel) ?_ | refine drawA (by decide +kernel) ?_ | refine drawL (by decide +kernel) ?_); conv => whnf; (try dsimp only [St.after, St.afterAt, St.pin, St.unpin, initSt, initT, numO, cellsA, Option.map, ren, renL, renO, St.setObj, headSt, List.cons_append, List.nil_append, List.length_nil, Nat.reduceAdd]); try (conv => enter [7, 3]; whnf))
        | (refine ap1 (by decide) (by omega) rfl rfl ?_)
        | (refine ap0 (by decide) rfl ?_)
        | (refine apL (by decide) (by omega) (fun _ => rfl) ?_)
        | (refine apM (by decide) (by omega) (fun _ => rfl) ?_)
        | (refine setI (z := _) rfl ?_)
        | (refine And.intro (by omega) (And.intro (by omega) ?_))
        | (refine ifB_intro (fun _ => ?_) (fun _ => ?_))) <;> (conv => whnf; try dsimp only [St.after, St.afterAt, St.pin, St.unpin, initSt, initT, numO, cellsA, Option.map, ren, renL, renO, St.setObj, headSt, List.cons_append, List.nil_append, List.length_nil, Nat.reduceAdd]))
      refine ⟨c + 1, ⟨[], (by kernel_rfl), (by kernel_rfl), (by kernel_rfl), ?_, ?_⟩, ?_, by (try dsimp only); omega, rfl⟩
      rotate_left 1
      focus
        conv => whnf
        repeat' (first
          | exact trivial
          | with_reducible rfl
          | (refine srcI ?_; kernel_rfl)
          | (refine nsI ?_; kernel_rfl)
          | (refine And.intro ?_ ?_ <;> conv => whnf; try dsimp only [St.after, St.afterAt, St.pin, St.unpin, initSt, initT, numO, cellsA, Option.map, ren, renL, renO, St.setObj, headSt, List.cons_append, List.nil_append, List.length_nil, Nat.reduceAdd]))
      rotate_right 1
      focus
        conv => whnf
        repeat' (first
          | exact trivial
          | with_reducible rfl
          | (refine srcI ?_; kernel_rfl)
          | (refine nsI ?_; kernel_rfl)
          | (refine And.intro ?_ ?_ <;> conv => whnf; try dsimp only [St.after, St.afterAt, St.pin, St.unpin, initSt, initT, numO, cellsA, Option.map, ren, renL, renO, St.setObj, headSt, List.cons_append, List.nil_append, List.length_nil, Nat.reduceAdd]))
      · rw [List.set_set, ← gl_succ c0 (by omega)]
        unfold gto
        rw [if_pos ⟨a1, a2, a3, a4⟩]
      · exact ⟨by omega, by omega⟩
    iterate 4
      ·
        refine ⟨c + 1, ⟨[], (by kernel_rfl), (by kernel_rfl), (by kernel_rfl), ?_, ?_⟩, ?_, by (try dsimp only); omega, rfl⟩
        rotate_left 1
        focus
          conv => whnf
          repeat' (first
            | exact trivial
            | with_reducible rfl
            | (refine srcI ?_; kernel_rfl)
            | (refine nsI ?_; kernel_rfl)
            | (refine And.intro ?_ ?_ <;> conv => whnf; try dsimp only [St.after, St.afterAt, St.pin, St.unpin, initSt, initT, numO, cellsA, Option.map, ren, renL, renO, St.setObj, headSt, List.cons_append, List.nil_append, List.length_nil, Nat.reduceAdd]))
        rotate_right 1
        focus
          conv => whnf
          repeat' (first
            | exact trivial
            | with_reducible rfl
            | (refine srcI ?_; kernel_rfl)
            | (refine nsI ?_; kernel_rfl)
            | (refine And.intro ?_ ?_ <;> conv => whnf; try dsimp only [St.after, St.afterAt, St.pin, St.unpin, initSt, initT, numO, cellsA, Option.map, ren, renL, renO, St.setObj, headSt, List.cons_append, List.nil_append, List.length_nil, Nat.reduceAdd]))
        · rw [← gl_succ c0 (by omega)]
          unfold gto
          rw [if_neg (by omega)]
        · exact ⟨by omega, by omega⟩
    · obtain rfl : c = w * h := by omega
      refine ⟨d + 1, ⟨[], (by kernel_rfl), (by kernel_rfl), (by kernel_rfl), ?_, ?_⟩, ?_, by (try dsimp only); omega, rfl⟩
      rotate_left 1
      focus
        conv => whnf
        repeat' (first
          | exact trivial
          | with_reducible rfl
          | (refine srcI ?_; kernel_rfl)
          | (refine nsI ?_; kernel_rfl)
          | (refine And.intro ?_ ?_ <;> conv => whnf; try dsimp only [St.after, St.afterAt, St.pin, St.unpin, initSt, initT, numO, cellsA, Option.map, ren, renL, renO, St.setObj, headSt, List.cons_append, List.nil_append, List.length_nil, Nat.reduceAdd]))
      rotate_right 1
      focus
        conv => whnf
        repeat' (first
          | exact trivial
          | with_reducible rfl
          | (refine srcI ?_; kernel_rfl)
          | (refine nsI ?_; kernel_rfl)
          | (refine And.intro ?_ ?_ <;> conv => whnf; try dsimp only [St.after, St.afterAt, St.pin, St.unpin, initSt, initT, numO, cellsA, Option.map, ren, renL, renO, St.setObj, headSt, List.cons_append, List.nil_append, List.length_nil, Nat.reduceAdd]))
      · rw [map_ints_succ d0, gl_all]
      · rw [map_ints_succ d0]
      · exact ⟨by omega, by omega⟩
  · obtain rfl : d = 8 := by omega
    repeat' ((first
      | (refine Ck.mk ?_)
      | (refine ifD (fun _ => ?_) (fun _ => ?_))
      | (refine ifE (fun _ => ?_) (fun _ => ?_))
      | (refine ifN (fun _ => ?_) (fun _ => ?_))
      | ((with_reducible refine natI ?_))
      | ((with_reducible refine ifNot ?_))
      | ((with_reducible refine ifAndD (fun _ _ => ?_) (fun _ => ?_)))
      | ((with_reducible refine ifAnd (fun _ _ => ?_) (fun _ => ?_)))
      | (refine ixM (by omega) (by first | omega | (simp only [List.length_set, List.length_map, List.length_append, List.length_cons, List.length_nil, List.length_replicate]; omega)) rfl ?_)
      | (refine ixA (by omega) (by first | omega | (simp only [List.length_set, List.length_map, List.length_append, List.length_cons, List.length_nil, List.length_replicate]; omega)) ?_)
      | (refine ltM (by omega) (by first | omega | (simp only [List.length_set, List.length_map, List.length_append, List.length_cons, List.length_nil, List.length_replicate]; omega)) ?_)
      | (refine calI (by omega) ?_)
      | (refine cu8 (by omega) ?_)
      | (refine cu64 (by omega) ?_)
      | (refine And.intro (by omega) ?_; refine crem (by omega) ?_)
      | (refine And.intro (by omega) ?_; refine cquo (by omega) ?_)
      | ((with_reducible refine preI ?_); (first | refine preNil ?_ | refine preOp rfl rfl ?_ | refine preT rfl rfl rfl rfl ?_ | refine preF rfl rfl rfl rfl ?_ | refine preTS rfl rfl rfl rfl ?_ | refine preFS rfl rfl rfl rfl ?_ | refine preSkip rfl rfl rfl rfl ?_ | refine preGT rfl rfl rfl rfl ?_ | refine preGF rfl rfl rfl rfl ?_))
      | (refine AltS.own (by assumption) ?_)
      | (refine AltS.im ?_)
      | (refine AltT.own (by assumption) ?_)
      | (refine AltT.im ?_)
      | (refine NilK.mk (fun _ => ?_) ?_)
      | (refine AltV.own (by assumption) ?_)
      | (refine AltV.im ?_)
      | ((first | refine drawA2 (by decide +kernel) ?_ | refine drawA (by decide +kernel) ?_ | refine drawL (by decide +kernel) ?_); conv => whnf; (try dsimp only [St.after, St.afterAt, St.pin, St.unpin, initSt, initT, numO, cellsA, Option.map, ren, renL, renO, St.setObj, headSt, List.cons_append, List.nil_append, List.length_nil, Nat.reduceAdd]); try (conv => enter [7, 3]; whnf))
      | (refine ap1 (by decide) (by omega) rfl rfl ?_)
      | (refine ap0 (by decide) rfl ?_)
      | (refine apL (by decide) (by omega) (fun _ => rfl) ?_)
      | (refine apM (by decide) (by omega) (fun _ => rfl) ?_)
      | (refine setI (z := _) rfl ?_)
      | (refine And.intro (by omega) (And.intro (by omega) ?_))
      | (refine ifB_intro (fun _ => ?_) (fun _ => ?_))
      | (refine exitA (by kernel_rfl) (by kernel_rfl) ⟨?_, trivial⟩ ?_ <;> (conv => whnf) <;> repeat' (first | exact trivial | with_reducible rfl | (refine srcI ?_; kernel_rfl) | (refine nsI ?_; kernel_rfl) | (refine And.intro ?_ ?_ <;> conv => whnf; try dsimp only [St.after, St.afterAt, St.pin, St.unpin, initSt, initT, numO, cellsA, Option.map, ren, renL, renO, St.setObj, headSt, List.cons_append, List.nil_append, List.length_nil, Nat.reduceAdd])))) <;> (conv => whnf; try dsimp only [St.after, St.afterAt, St.pin, St.unpin, initSt, initT, numO, cellsA, Option.map, ren, renL, renO, St.setObj, headSt, List.cons_append, List.nil_append, List.length_nil, Nat.reduceAdd]))
    all_goals rfl
end Go.Proofs.Ytkecpgidolphfaa
namespace Go.Proofs.Ytkecpgidolphfaa
open Go Go.Sk
def bqR (lk : Int → List Int) (v : List Int → Int → Int) : Nat → List Int → List Int → List Int
  | 0, out, _ => out
  | k + 1, out, queue => match queue with
    | [] => out
    | q :: r => bqR lk v k ((lk q).foldl (bfs1 (v out q)) (out, q :: r)).1 ((lk q).foldl (bfs1 (v out q)) (out, q :: r)).2.tail
def Bd.farQ (b : Bd) (a : Int) : List Int := bqR b.near (fun out q => nth out q + 1) 66 (b.from0 a) [a]
structure QI (m : Int) (k : Nat) (out queue : List Int) : Prop where
  len : (out.length : Int) = m
  rg : ∀ x, x ∈ queue → 0 ≤ x ∧ x < m ∧ 0 ≤ nth out x
  fuel : neg out + queue.length ≤ k
theorem bfs1_app (n : Int) : ∀ (l : List Int) (s : List Int × List Int) (p : List Int), l.foldl (bfs1 n) (s.1, p ++ s.2) = ((l.foldl (bfs1 n) s).1, p ++ (l.foldl (bfs1 n) s).2)
  | [], _, _ => rfl
  | x :: l, s, p => by
    have : bfs1 n (s.1, p ++ s.2) x = ((bfs1 n s x).1, p ++ (bfs1 n s x).2) := by
      unfold bfs1
      simp only
      split <;> simp [List.append_assoc]
    rw [List.foldl_cons, List.foldl_cons, this]
    exact bfs1_app n l _ p
theorem bfs1_keep {n : Int} {s : List Int × List Int} {x y : Int} (hx : 0 ≤ x) (hy : 0 ≤ y) (h : 0 ≤ nth s.1 y) : nth (bfs1 n s x).1 y = nth s.1 y := by
  unfold bfs1
  split
  · rename_i hn
    exact nth_set_ne hx hy (fun e => by subst e; omega)
  · rfl
theorem fold_keep {n : Int} {y : Int} (hy : 0 ≤ y) : ∀ {l : List Int} {s : List Int × List Int}, (∀ x, x ∈ l → 0 ≤ x) → 0 ≤ nth s.1 y → nth (l.foldl (bfs1 n) s).1 y = nth s.1 y
  | [], _, _, _ => rfl
  | x :: l, s, hl, h => by
    have h1 := bfs1_keep (n := n) (hl x (by simp)) hy h
    rw [List.foldl_cons, fold_keep hy (fun z hz => hl z (by simp [hz])) (by rw [h1]; exact h), h1]
theorem QI.step {m n : Int} {k : Nat} {s : List Int × List Int} (h : QI m k s.1 s.2) (hn : 0 ≤ n) {x : Int} (h0 : 0 ≤ x) (h1 : x < m) : QI m k (bfs1 n s x).1 (bfs1 n s x).2 := by
  have hkeep := fun y hy hh => bfs1_keep (n := n) (s := s) (y := y) h0 hy hh
  unfold bfs1 at hkeep ⊢
  have hl := h.len
  split
  · rename_i hx
    rw [if_pos hx] at hkeep
    refine ⟨by simp [h.len], fun y hy => ?_, ?_⟩
    · rcases List.mem_append.1 hy with hy | hy
      · have := h.rg y hy
        exact ⟨this.1, this.2.1, by rw [hkeep y this.1 this.2.2]; exact this.2.2⟩
      · simp at hy; subst hy; exact ⟨h0, h1, by simp only; rw [nth_set_eq h0 (by omega)]; exact hn⟩
    · have := neg_set h0 (by rw [h.len]; exact h1) hx hn
      have := h.fuel
      simp only [List.length_append, List.length_cons, List.length_nil]
      omega
  · exact h
theorem QI.fold {m n : Int} {k : Nat} (hn : 0 ≤ n) : ∀ {l : List Int} {s : List Int × List Int}, (∀ x, x ∈ l → 0 ≤ x ∧ x < m) → QI m k s.1 s.2 → QI m k (l.foldl (bfs1 n) s).1 (l.foldl (bfs1 n) s).2
  | [], _, _, h => h
  | x :: l, s, hl, h => QI.fold (s := bfs1 n s x) hn (fun y hy => hl y (by simp [hy])) (h.step hn (hl x (by simp)).1 (hl x (by simp)).2)
theorem fold_head {n : Int} (l : List Int) (out : List Int) (q : Int) (r : List Int) : ∃ t, (l.foldl (bfs1 n) (out, q :: r)).2 = q :: t := by
  have := bfs1_app n l (out, []) (q :: r)
  simp only [List.append_nil] at this
  rw [this]
  exact ⟨_, rfl⟩
theorem QI.pop {m : Int} {k : Nat} {out queue : List Int} {q : Int} (h : QI m k out (q :: queue)) : ∃ k', k = k' + 1 ∧ QI m k' out queue := by
  have := h.fuel
  rw [List.length_cons] at this
  exact ⟨k - 1, by omega, h.len, fun x hx => h.rg x (by simp [hx]), by omega⟩
def rl (f : Int → List Int) (n c : Int) : List (List Int) := (ints c).map f ++ List.replicate (n - c).toNat []
theorem QI.zero {b : Bd} (hb : b.ok) {c : Int} (h0 : 0 ≤ c) (h1 : c < b.cells) : QI b.cells 66 (b.from0 c) [c] := by
  have c6 := hb.c64
  have hl : ((b.from0 c).length : Int) = b.cells := by unfold Bd.from0; simp; omega
  refine ⟨hl, fun x hx => ?_, ?_⟩
  · simp at hx
    subst hx
    exact ⟨h0, h1, by unfold Bd.from0; rw [nth_set_eq h0 (by simp; omega)]; exact Int.le_refl _⟩
  · have := neg_le (b.from0 c)
    simp only [List.length_cons, List.length_nil]
    omega
theorem inner {m n : Int} {k : Nat} {out queue L : List Int} {i : Int} (hq : QI m k out queue) (hl : 0 < queue.length) (hn : 0 ≤ n) (hL : ∀ x, x ∈ L → 0 ≤ x ∧ x < m) (i0 : 0 ≤ i) :
    QI m k ((L.take i.toNat).foldl (bfs1 n) (out, queue)).1 ((L.take i.toNat).foldl (bfs1 n) (out, queue)).2 ∧ nth ((L.take i.toNat).foldl (bfs1 n) (out, queue)).2 0 = nth queue 0 ∧ 0 < ((L.take i.toNat).foldl (bfs1 n) (out, queue)).2.length ∧
      nth ((L.take i.toNat).foldl (bfs1 n) (out, queue)).1 (nth queue 0) = nth out (nth queue 0) ∧
      (i < L.length → 0 ≤ nth L i ∧ nth L i < m ∧ (L.take (i + 1).toNat).foldl (bfs1 n) (out, queue) = bfs1 n ((L.take i.toNat).foldl (bfs1 n) (out, queue)) (nth L i)) := by
  have hm : ∀ x, x ∈ L.take i.toNat → 0 ≤ x ∧ x < m := fun x hx => hL x (List.mem_of_mem_take hx)
  have hrg := hq.rg (nth queue 0) (nth_mem (Int.le_refl 0) (by omega))
  obtain ⟨q, r, rfl⟩ : ∃ q r, queue = q :: r := by
    cases queue with
    | nil => simp at hl
    | cons q r => exact ⟨q, r, rfl⟩
  obtain ⟨t, ht⟩ := fold_head (n := n) (L.take i.toNat) out q r
  refine ⟨QI.fold (s := (out, q :: r)) hn hm hq, by rw [ht]; rfl, by rw [ht]; simp, fold_keep hrg.1 (fun x hx => (hm x hx).1) hrg.2.2, fun h => ⟨(hL _ (nth_mem i0 h)).1, (hL _ (nth_mem i0 h)).2, ?_⟩⟩
  rw [take_snoc i0 h, List.foldl_append]; rfl
structure IS where
  i : Int
  out : List Int
  queue : List Int
def UB (u : Int) (l : List Int) : Prop := ∀ x, x ∈ l → x ≤ u
theorem UB.step {u n x : Int} {s : List Int × List Int} (h : UB u s.1) (hn : n ≤ u) : UB u (bfs1 n s x).1 := by
  unfold bfs1
  split
  · intro y hy
    rcases List.mem_or_eq_of_mem_set hy with hy | rfl
    · exact h y hy
    · exact hn
  · exact h
structure InnerI (m n u : Int) (k : Nat) (out queue L : List Int) (s : IS) : Prop where
  ub : UB u s.out
  i0 : 0 ≤ s.i
  i1 : s.i ≤ L.length
  e1 : s.out = ((L.take s.i.toNat).foldl (bfs1 n) (out, queue)).1
  e2 : s.queue = ((L.take s.i.toNat).foldl (bfs1 n) (out, queue)).2
  q : QI m k s.out s.queue
  h0 : nth s.queue 0 = nth queue 0
  hl : 0 < s.queue.length
  hk : nth s.out (nth queue 0) = nth out (nth queue 0)
theorem InnerI.zero {m n u : Int} {k : Nat} {out queue L : List Int} (hu : UB u out) (hq : QI m k out queue) (hl : 0 < queue.length) : InnerI m n u k out queue L ⟨0, out, queue⟩ :=
  ⟨hu, Int.le_refl _, Int.natCast_nonneg _, rfl, rfl, hq, rfl, hl, rfl⟩
theorem InnerI.at {m n u : Int} {k : Nat} {out queue L : List Int} {s : IS} (h : InnerI m n u k out queue L s) (hL : ∀ x, x ∈ L → 0 ≤ x ∧ x < m) (hi : s.i < L.length) : 0 ≤ nth L s.i ∧ nth L s.i < m := hL _ (nth_mem h.i0 hi)
theorem InnerI.next {m n u : Int} {k : Nat} {out queue L : List Int} {s : IS} (hu : n ≤ u) (h : InnerI m n u k out queue L s) (hq : QI m k out queue) (hl : 0 < queue.length) (hn : 0 ≤ n) (hL : ∀ x, x ∈ L → 0 ≤ x ∧ x < m) (hi : s.i < L.length) :
    InnerI m n u k out queue L ⟨s.i + 1, (bfs1 n (s.out, s.queue) (nth L s.i)).1, (bfs1 n (s.out, s.queue) (nth L s.i)).2⟩ := by
  have h0 := h.i0
  have hs := (inner hq hl hn hL h0).2.2.2.2 hi
  have hin := inner (i := s.i + 1) hq hl hn hL (by omega)
  have e : (s.out, s.queue) = (L.take s.i.toNat).foldl (bfs1 n) (out, queue) := by rw [h.e1, h.e2]
  rw [← e] at hs
  rw [hs.2.2] at hin
  exact ⟨h.ub.step (s := (s.out, s.queue)) hu, by simp only; omega, by simp only; omega, by simp only; rw [hs.2.2], by simp only; rw [hs.2.2], hin.1, hin.2.1, hin.2.2.1, hin.2.2.2.1⟩
theorem InnerI.done {m n u : Int} {k : Nat} {out queue L : List Int} {s : IS} (h : InnerI m n u k out queue L s) (hi : s.i = L.length) : s.out = (L.foldl (bfs1 n) (out, queue)).1 ∧ s.queue = (L.foldl (bfs1 n) (out, queue)).2 := by
  rw [h.e1, h.e2, take_all (by omega)]; exact ⟨rfl, rfl⟩
theorem InnerI.fin {m n u : Int} {k : Nat} {out queue L : List Int} {s : IS} (h : InnerI m n u k out queue L s) (hi : s.i = L.length) (hl : 0 < queue.length) :
    ∃ k', k = k' + 1 ∧ QI m k' s.out s.queue.tail ∧ ∀ (lk : Int → List Int) (v : List Int → Int → Int), lk (nth queue 0) = L → v out (nth queue 0) = n → bqR lk v k' s.out s.queue.tail = bqR lk v k out queue := by
  have hd := h.done hi
  have hq := h.q
  have hsl := h.hl
  cases hc : s.queue with
  | nil => rw [hc] at hsl; simp at hsl
  | cons q t =>
    rw [hc] at hq
    obtain ⟨k', hk, hq'⟩ := hq.pop
    refine ⟨k', hk, hq', fun lk v e1 e2 => ?_⟩
    cases queue with
    | nil => simp at hl
    | cons q0 r =>
      have e1' : lk q0 = L := e1
      have e2' : v out q0 = n := e2
      rw [hk]
      simp only [bqR]
      rw [e1', e2', ← hd.1, ← hd.2, hc]
structure QS where
  k : Nat
  out : List Int
  queue : List Int
end Go.Proofs.Ytkecpgidolphfaa
namespace Go.Proofs.Ytkecpgidolphfaa
open Go Go.Sk
def Bd.pstep (b : Bd) (s : List Int × Bool) (q : Int × Int) : List Int × Bool :=
  if b.nx q.1 q.2 < 0 ∨ nth s.1 (b.nx q.1 q.2) = nth s.1 q.2 then s
  else ((s.1.set (b.nx q.1 q.2).toNat (min (nth s.1 (b.nx q.1 q.2)) (nth s.1 q.2))).set q.2.toNat (min (nth s.1 (b.nx q.1 q.2)) (nth s.1 q.2)), true)
def Bd.prow (b : Bd) (d c : Int) : List (Int × Int) := (ints c).map fun c => (d, c)
def Bd.ppre (b : Bd) (d : Int) : List (Int × Int) := (ints d).flatMap fun d => b.prow d b.cells
def Bd.pass (b : Bd) (out : List Int) : List Int × Bool := (b.ppre b.next.length).foldl b.pstep (out, false)
def Bd.partsR (b : Bd) : Nat → List Int → Bool → List Int
  | 0, out, _ => out
  | k + 1, out, ch => if ch = true then b.partsR k (b.pass out).1 (b.pass out).2 else out
def Bd.parts (b : Bd) : List Int := b.partsR 5000 (ints b.cells) true
def sumN (l : List Int) : Nat := (l.map Int.toNat).sum
theorem sumN_set : ∀ {l : List Int} {i : Nat} {v : Int}, i < l.length → sumN (l.set i v) + (l.getD i 0).toNat = sumN l + v.toNat
  | [], i, v, h => by simp at h
  | x :: l, 0, v, h => by simp [sumN]; omega
  | x :: l, i + 1, v, h => by
    have := sumN_set (l := l) (i := i) (v := v) (by simpa using h)
    simp [sumN] at this ⊢
    omega
theorem sumN_set' {l : List Int} {i v : Int} (h0 : 0 ≤ i) (h : i < l.length) : sumN (l.set i.toNat v) + (nth l i).toNat = sumN l + v.toNat := sumN_set (by omega)
structure PI (b : Bd) (s0 : List Int) (s : List Int × Bool) : Prop where
  len : (s.1.length : Int) = b.cells
  nn : ∀ i : Int, 0 ≤ i → i < b.cells → 0 ≤ nth s.1 i
  sum : sumN s.1 + (if s.2 = true then 1 else 0) ≤ sumN s0
theorem PI.step {b : Bd} (hb : b.ok) {s0 : List Int} {s : List Int × Bool} (h : PI b s0 s) {q : Int × Int} (h0 : 0 ≤ q.1) (h1 : q.1 < b.next.length) (h2 : 0 ≤ q.2) (h3 : q.2 < b.cells) : PI b s0 (b.pstep s q) := by
  have hx := hb.lx q.1 q.2 h0 h1 h2 h3
  unfold Bd.pstep
  split
  · exact h
  · rename_i hn
    have hl := h.len
    have n1 := h.nn _ (show 0 ≤ b.nx q.1 q.2 by omega) hx.2
    have n2 := h.nn _ h2 h3
    generalize hm : min (nth s.1 (b.nx q.1 q.2)) (nth s.1 q.2) = m
    have hne : b.nx q.1 q.2 ≠ q.2 := fun e => hn (.inr (by rw [e]))
    refine ⟨by simp [hl], fun i i0 i1 => ?_, ?_⟩
    · have : 0 ≤ m := by omega
      by_cases e1 : q.2 = i
      · subst e1
        simp only
        rw [nth_set_eq h2 (by rw [List.length_set]; omega)]; exact this
      · simp only
        rw [nth_set_ne h2 i0 e1]
        by_cases e2 : b.nx q.1 q.2 = i
        · rw [← e2, nth_set_eq (by omega) (by omega)]; exact this
        · rw [nth_set_ne (by omega) i0 e2]; exact h.nn i i0 i1
    · have s1 := sumN_set' (l := s.1) (i := b.nx q.1 q.2) (v := m) (by omega) (by omega)
      have s2 := sumN_set' (l := s.1.set (b.nx q.1 q.2).toNat m) (i := q.2) (v := m) h2 (by rw [List.length_set]; omega)
      rw [nth_set_ne (by omega) h2 hne] at s2
      have := h.sum
      simp only [if_true]
      split at this <;> omega
theorem PI.fold {b : Bd} (hb : b.ok) {s0 : List Int} : ∀ {l : List (Int × Int)} {s : List Int × Bool}, (∀ q, q ∈ l → 0 ≤ q.1 ∧ q.1 < b.next.length ∧ 0 ≤ q.2 ∧ q.2 < b.cells) → PI b s0 s → PI b s0 (l.foldl b.pstep s)
  | [], _, _, h => h
  | q :: l, s, hl, h => PI.fold (s := b.pstep s q) hb (fun y hy => hl y (by simp [hy])) (h.step hb (hl q (by simp)).1 (hl q (by simp)).2.1 (hl q (by simp)).2.2.1 (hl q (by simp)).2.2.2)
theorem ppre_rg {b : Bd} {d : Int} (hd : d ≤ b.next.length) : ∀ q, q ∈ b.ppre d → 0 ≤ q.1 ∧ q.1 < b.next.length ∧ 0 ≤ q.2 ∧ q.2 < b.cells := fun q hq => by
  obtain ⟨e, he, h⟩ := List.mem_flatMap.1 hq
  obtain ⟨c, hc, rfl⟩ := List.mem_map.1 h
  have := mem_ints.1 he
  have := mem_ints.1 hc
  simp only; omega
structure PS where
  k : Nat
  out : List Int
  ch : Bool
structure PartsI (b : Bd) (p : PS) : Prop where
  len : (p.out.length : Int) = b.cells
  nn : ∀ i : Int, 0 ≤ i → i < b.cells → 0 ≤ nth p.out i
  fuel : p.ch = true → sumN p.out + 1 ≤ p.k
  eq : b.partsR p.k p.out p.ch = b.parts
theorem sumN_ints_le : ∀ n : Nat, n ≤ 64 → sumN (ints n) ≤ 4096 := by decide
theorem PartsI.zero {b : Bd} (hb : b.ok) : PartsI b ⟨5000, ints b.cells, true⟩ := by
  have c1 := hb.c1
  have c6 := hb.c64
  refine ⟨by simp only; rw [ints_len]; omega, fun i i0 i1 => by simp only; rw [nth_ints i0 i1]; exact i0, fun _ => ?_, rfl⟩
  have := sumN_ints_le b.cells.toNat (by omega)
  rw [show ((b.cells.toNat : Nat) : Int) = b.cells by omega] at this
  simp only; omega
theorem PartsI.next {b : Bd} (hb : b.ok) {p : PS} (h : PartsI b p) (hc : p.ch = true) : ∃ k', p.k = k' + 1 ∧ PartsI b ⟨k', (b.pass p.out).1, (b.pass p.out).2⟩ := by
  have hf := h.fuel hc
  obtain ⟨k', hk⟩ : ∃ k', p.k = k' + 1 := ⟨p.k - 1, by omega⟩
  have hI : PI b p.out (b.pass p.out) := PI.fold hb (ppre_rg (Int.le_refl _)) ⟨h.len, h.nn, by simp⟩
  refine ⟨k', hk, hI.len, hI.nn, fun hch => ?_, ?_⟩
  · have := hI.sum
    simp only at hch
    rw [if_pos hch] at this
    simp only; omega
  · rw [← h.eq, hk, hc]
    simp [Bd.partsR]
theorem PartsI.done {b : Bd} {p : PS} (h : PartsI b p) (hc : p.ch = false) : p.out = b.parts := by
  rw [← h.eq, hc]
  cases p.k with
  | zero => rfl
  | succ k => simp [Bd.partsR]
end Go.Proofs.Ytkecpgidolphfaa
namespace Go.Proofs.Ytkecpgidolphfaa
open Go Go.Sk
def cutTo (l : List Int) (c k : Int) : List Int := cutRow l c k ++ l.drop k.toNat
theorem cutTo_len {l : List Int} {c k : Int} (h : k ≤ l.length) : (cutTo l c k).length = l.length := by simp [cutTo, cutRow_len]; omega
theorem cutTo_get {l : List Int} {c k : Int} (h0 : 0 ≤ k) (h : k < l.length) : nth (cutTo l c k) k = nth l k := by
  unfold cutTo nth
  rw [List.getD_eq_getElem?_getD, List.getElem?_append_right (by rw [cutRow_len]; omega), cutRow_len, List.getElem?_drop, List.getD_eq_getElem?_getD]
  simp
theorem cutTo_succ {l : List Int} {c k : Int} (h0 : 0 ≤ k) (h : k < l.length) : cutTo l c (k + 1) = (cutTo l c k).set k.toNat (if k = c ∨ nth l k = c then -1 else nth l k) := by
  unfold cutTo
  rw [show cutRow l c (k + 1) = cutRow l c k ++ [if k = c ∨ nth l k = c then -1 else nth l k] from map_ints_succ h0 _]
  rw [List.set_append_right _ _ (by rw [cutRow_len]; omega), cutRow_len, Nat.sub_self, List.append_assoc]
  congr 1
  rw [List.drop_eq_getElem_cons (show k.toNat < l.length by omega), show (k + 1).toNat = k.toNat + 1 by omega]
  rfl
theorem cutTo_keep {l : List Int} {c k : Int} (h0 : 0 ≤ k) (h : k < l.length) (hn : ¬ (k = c ∨ nth l k = c)) : cutTo l c (k + 1) = cutTo l c k := by
  rw [cutTo_succ h0 h, if_neg hn]
  have hl := cutTo_len (l := l) (c := c) (k := k) (by omega)
  refine ext_nth (by rw [List.length_set]) fun i i0 i1 => ?_
  by_cases e : k = i
  · subst e
    rw [nth_set_eq h0 (by omega), cutTo_get h0 h]
  · rw [nth_set_ne h0 i0 e]
theorem cutTo_all (l : List Int) (c : Int) : cutTo l c l.length = cutRow l c l.length := by simp [cutTo]
set_option maxHeartbeats 4000000 in
set_option maxRecDepth 10000 in
theorem Without20_p (b : Bd) (hb : b.ok) (c : Int) : Pure Try.prog 20 [b.av, I c] (.tup [(b.without c).1.av, I (b.without c).2]) none := by
  refine fun_of tok D_ok Try.func20 rfl Try.ntmps20 Try.results20 (by kernel_rfl) (by simp) (by simp) ?_
  have hc64 := hb.c64
  have hc1 := hb.c1
  have hn8 := hb.n8
  have htl := hb.tl
  have e1 : b.next.length = (b.next.map Is).length := by simp
  have e2 : b.turn.length = (b.turn.map I).length := by simp
  conv => whnf
  repeat' ((first
    | (refine Ck.mk ?_)
    | (refine ifD (fun _ => ?_) (fun _ => ?_))
    | (refine ifE (fun _ => ?_) (fun _ => ?_))
    | (refine ifN (fun _ => ?_) (fun _ => ?_))
    | ((with_reducible refine natI ?_))
    | ((with_reducible refine ifNot ?_))
    | ((with_reducible refine ifAndD (fun _ _ => ?_) (fun _ => ?_)))
    | ((with_reducible refine ifAnd (fun _ _ => ?_) (fun _ => ?_)))
    | (refine ixM (by omega) (by first | omega | (simp only [List.length_set, List.length_map, List.length_append, List.length_cons, List.length_nil, List.length_replicate]; omega)) rfl ?_)
    | (refine ixA (by omega) (by first | omega | (simp only [List.length_set, List.length_map, List.length_append, List.length_cons, List.length_nil, List.length_replicate]; omega)) ?_)
    | (refine ltM (by omega) (by first | omega | (simp only [List.length_set, List.length_map, List.length_append, List.length_cons, List.length_nil, List.length_replicate]; omega)) ?_)
    | (refine calI (by omega) ?_)
    | (refine cu8 (by omega) ?_)
    | (refine cu64 (by omega) ?_)
    | (refine And.intro (by omega) ?_; refine crem (by omega) ?_)
    | (refine And.intro (by omega) ?_; refine cquo (by omega) ?_)
    | (refine ⟨_, _, Clone_p b.turn (by omega), ?_⟩)
    | (refine .inl ?_; (conv => whnf); refine ⟨_, _, Clone_p b.turn (by omega), ?_⟩)
    | ((with_reducible refine preI ?_); (first | refine preNil ?_ | refine preOp rfl rfl ?_ | refine preT rfl rfl rfl rfl ?_ | refine preF rfl rfl rfl rfl ?_ | refine preTS rfl rfl rfl rfl ?_ | refine preFS rfl rfl rfl rfl ?_ | refine preSkip rfl rfl rfl rfl ?_ | refine preGT rfl rfl rfl rfl ?_ | refine preGF rfl rfl rfl rfl ?_))
    | (refine AltS.own (by assumption) ?_)
    | (refine AltS.im ?_)
    | (refine AltT.own (by assumption) ?_)
    | (refine AltT.im ?_)
    | (refine NilK.mk (fun _ => ?_) ?_)
    | (refine AltV.own (by assumption) ?_)
    | (refine AltV.im ?_)
    | ((first | refine drawA2 (by decide +kernel) ?_ | refine drawA (by decide +kernel) ?_ | refine drawL (by decide +kernel) ?_); conv => whnf; (try dsimp only [St.after, St.afterAt, St.pin, St.unpin, initSt, initT, numO, cellsA, Option.map, ren, renL, renO, St.setObj, headSt, List.cons_append, List.nil_append, List.length_nil, Nat.reduceAdd]); try (conv => enter [7, 3]; whnf))
    | (refine ap1 (by decide) (by omega) rfl rfl ?_)
    | (refine ap0 (by decide) rfl ?_)
    | (refine apL (by decide) (by omega) (fun _ => rfl) ?_)
    | (refine apM (by decide) (by omega) (fun _ => rfl) ?_)
    | (refine setI (z := _) rfl ?_)
    | (refine And.intro (by omega) (And.intro (by omega) ?_))
    | (refine ifB_intro (fun _ => ?_) (fun _ => ?_))) <;> (conv => whnf; try dsimp only [St.after, St.afterAt, St.pin, St.unpin, initSt, initT, numO, cellsA, Option.map, ren, renL, renO, St.setObj, headSt, List.cons_append, List.nil_append, List.length_nil, Nat.reduceAdd]))
  iterate 2
    ·
      repeat' ((first
        | (refine Ck.mk ?_)
        | (refine ifD (fun _ => ?_) (fun _ => ?_))
        | (refine ifE (fun _ => ?_) (fun _ => ?_))
        | (refine ifN (fun _ => ?_) (fun _ => ?_))
        | ((with_reducible refine natI ?_))
        | ((with_reducible refine ifNot ?_))
        | ((with_reducible refine ifAndD (fun _ _ => ?_) (fun _ => ?_)))
        | ((with_reducible refine ifAnd (fun _ _ => ?_) (fun _ => ?_)))
        | (refine ixM (by omega) (by first | omega | (simp only [List.length_set, List.length_map, List.length_append, List.length_cons, List.length_nil, List.length_replicate]; omega)) rfl ?_)
        | (refine ixA (by omega) (by first | omega | (simp only [List.length_set, List.length_map, List.length_append, List.length_cons, List.length_nil, List.length_replicate]; omega)) ?_)
        | (refine ltM (by omega) (by first | omega | (simp only [List.length_set, List.length_map, List.length_append, List.length_cons, List.length_nil, List.length_replicate]; omega)) ?_)
        | (refine calI (by omega) ?_)
        | (refine cu8 (by omega) ?_)
        | (refine cu64 (by omega) ?_)
        | (refine And.intro (by omega) ?_; refine crem (by omega) ?_)
        | (refine And.intro (by omega) ?_; refine cquo (by omega) ?_)
        | ((with_reducible refine preI ?_); (first | refine preNil ?_ | refine preOp rfl rfl ?_ | refine preT rfl rfl rfl rfl ?_ | refine preF rfl rfl rfl rfl ?_ | refine preTS rfl rfl rfl rfl ?_ | refine preFS rfl rfl rfl rfl ?_ | refine preSkip rfl rfl rfl rfl ?_ | refine preGT rfl rfl rfl rfl ?_ | refine preGF rfl rfl rfl rfl ?_))
        | (refine AltS.own (by assumption) ?_)
        | (refine AltS.im ?_)
        | (refine AltT.own (by assumption) ?_)
        | (refine AltT.im ?_)
        | (refine NilK.mk (fun _ => ?_) ?_)
        | (refine AltV.own (by assumption) ?_)
        | (refine AltV.im ?_)
        | ((first | refine drawA2 (by decide +kernel) ?_ | refine drawA (by decide +kernel) ?_ | refine drawL (by decide +kernel) ?_); conv => whnf; (try dsimp only [St.after, St.afterAt, St.pin, St.unpin, initSt, initT, numO, cellsA, Option.map, ren, renL, renO, St.setObj, headSt, List.cons_append, List.nil_append, List.length_nil, Nat.reduceAdd]); try (conv => enter [7, 3]; whnf))
        | (refine ap1 (by decide) (by omega) rfl rfl ?_)
        | (refine ap0 (by decide) rfl ?_)
        | (refine apL (by decide) (by omega) (fun _ => rfl) ?_)
        | (refine apM (by decide) (by omega) (fun _ => rfl) ?_)
        | (refine setI (z := _) rfl ?_)
        | (refine And.intro (by omega) (And.intro (by omega) ?_))
        | (refine ifB_intro (fun _ => ?_) (fun _ => ?_))
        | (refine exitA (by kernel_rfl) (by kernel_rfl) ⟨?_, trivial⟩ ?_ <;> (conv => whnf) <;> repeat' (first | exact trivial | with_reducible rfl | (refine srcI ?_; kernel_rfl) | (refine nsI ?_; kernel_rfl) | (refine And.intro ?_ ?_ <;> conv => whnf; try dsimp only [St.after, St.afterAt, St.pin, St.unpin, initSt, initT, numO, cellsA, Option.map, ren, renL, renO, St.setObj, headSt, List.cons_append, List.nil_append, List.length_nil, Nat.reduceAdd])))) <;> (conv => whnf; try dsimp only [St.after, St.afterAt, St.pin, St.unpin, initSt, initT, numO, cellsA, Option.map, ren, renL, renO, St.setObj, headSt, List.cons_append, List.nil_append, List.length_nil, Nat.reduceAdd]))
      all_goals (unfold Bd.without; rw [if_pos (by omega)]; try rfl)
  have good : b.without c = (⟨b.cells, b.next.map fun l => cutRow l c b.cells, b.turn⟩, 0) := if_neg (by omega)
  rw [good]
  refine .of (fun d => [(30, I d)]) (fun d => [(8, .box [I b.cells, .ref 9, .ref 6]), (9, .arr 1 ((b.next.take d.toNat).map fun l => Is (cutRow l c b.cells)))]) 10 (fun d => 0 ≤ d ∧ d ≤ b.next.length) (fun d => (b.next.length - d).toNat) 0 ?_
  conv => whnf
  refine ⟨⟨[], (by kernel_rfl), (by kernel_rfl), (by kernel_rfl), ?_, ?_⟩, ?_, fun d ⟨h0, h1⟩ => ?_⟩
  rotate_left 1
  focus
    conv => whnf
    repeat' (first
      | exact trivial
      | with_reducible rfl
      | (refine srcI ?_; kernel_rfl)
      | (refine nsI ?_; kernel_rfl)
      | (refine And.intro ?_ ?_ <;> conv => whnf; try dsimp only [St.after, St.afterAt, St.pin, St.unpin, initSt, initT, numO, cellsA, Option.map, ren, renL, renO, St.setObj, headSt, List.cons_append, List.nil_append, List.length_nil, Nat.reduceAdd])
      | rfl)
  rotate_right 1
  focus
    conv => whnf
    repeat' (first
      | exact trivial
      | with_reducible rfl
      | (refine srcI ?_; kernel_rfl)
      | (refine nsI ?_; kernel_rfl)
      | (refine And.intro ?_ ?_ <;> conv => whnf; try dsimp only [St.after, St.afterAt, St.pin, St.unpin, initSt, initT, numO, cellsA, Option.map, ren, renL, renO, St.setObj, headSt, List.cons_append, List.nil_append, List.length_nil, Nat.reduceAdd])
      | rfl)
  rotate_right 1
  focus
    conv => whnf
  rotate_left 1
  · exact ⟨by omega, by omega⟩
  have hll := hb.ll d h0
  have htk := take_len h0 h1
  have e3 : (nth b.next d).length = ((nth b.next d).map I).length := by simp
  repeat' ((first
    | (refine Ck.mk ?_)
    | (refine ifD (fun _ => ?_) (fun _ => ?_))
    | (refine ifE (fun _ => ?_) (fun _ => ?_))
    | (refine ifN (fun _ => ?_) (fun _ => ?_))
    | ((with_reducible refine natI ?_))
    | ((with_reducible refine ifNot ?_))
    | ((with_reducible refine ifAndD (fun _ _ => ?_) (fun _ => ?_)))
    | ((with_reducible refine ifAnd (fun _ _ => ?_) (fun _ => ?_)))
    | (refine ixM (by omega) (by first | omega | (simp only [List.length_set, List.length_map, List.length_append, List.length_cons, List.length_nil, List.length_replicate]; omega)) rfl ?_)
    | (refine ixA (by omega) (by first | omega | (simp only [List.length_set, List.length_map, List.length_append, List.length_cons, List.length_nil, List.length_replicate]; omega)) ?_)
    | (refine ltM (by omega) (by first | omega | (simp only [List.length_set, List.length_map, List.length_append, List.length_cons, List.length_nil, List.length_replicate]; omega)) ?_)
    | (refine calI (by omega) ?_)
    | (refine cu8 (by omega) ?_)
    | (refine cu64 (by omega) ?_)
    | (refine And.intro (by omega) ?_; refine crem (by omega) ?_)
    | (refine And.intro (by omega) ?_; refine cquo (by omega) ?_)
    | (refine ⟨_, _, Clone_p (nth b.next d) (by omega), ?_⟩)
    | (refine .inl ?_; (conv => whnf); refine ⟨_, _, Clone_p (nth b.next d) (by omega), ?_⟩)
    | ((with_reducible refine preI ?_); (first | refine preNil ?_ | refine preOp rfl rfl ?_ | refine preT rfl rfl rfl rfl ?_ | refine preF rfl rfl rfl rfl ?_ | refine preTS rfl rfl rfl rfl ?_ | refine preFS rfl rfl rfl rfl ?_ | refine preSkip rfl rfl rfl rfl ?_ | refine preGT rfl rfl rfl rfl ?_ | refine preGF rfl rfl rfl rfl ?_))
    | (refine AltS.own (by assumption) ?_)
    | (refine AltS.im ?_)
    | (refine AltT.own (by assumption) ?_)
    | (refine AltT.im ?_)
    | (refine NilK.mk (fun _ => ?_) ?_)
    | (refine AltV.own (by assumption) ?_)
    | (refine AltV.im ?_)
    | ((first | refine drawA2 (by decide +kernel) ?_ | refine drawA (by decide +kernel) ?_ | refine drawL (by decide +kernel) ?_); conv => whnf; (try dsimp only [St.after, St.afterAt, St.pin, St.unpin, initSt, initT, numO, cellsA, Option.map, ren, renL, renO, St.setObj, headSt, List.cons_append, List.nil_append, List.length_nil, Nat.reduceAdd]); try (conv => enter [7, 3]; whnf))
    | (refine ap1 (by decide) (by omega) rfl rfl ?_)
    | (refine ap0 (by decide) rfl ?_)
    | (refine apL (by decide) (by omega) (fun _ => rfl) ?_)
    | (refine apM (by decide) (by omega) (fun _ => rfl) ?_)
    | (refine setI (z := _) rfl ?_)
    | (refine And.intro (by omega) (And.intro (by omega) ?_))
    | (refine ifB_intro (fun _ => ?_) (fun _ => ?_))) <;> (conv => whnf; try dsimp only [St.after, St.afterAt, St.pin, St.unpin, initSt, initT, numO, cellsA, Option.map, ren, renL, renO, St.setObj, headSt, List.cons_append, List.nil_append, List.length_nil, Nat.reduceAdd]))
  ·
    refine .of (fun x => [(38, I x)]) (fun x => [(10, .arr 1 ((cutTo (nth b.next d) c x).map I))]) 11 (fun x => 0 ≤ x ∧ x ≤ (nth b.next d).length) (fun x => ((nth b.next d).length - x).toNat) 0 ?_
    conv => whnf
    refine ⟨⟨[], (by kernel_rfl), (by kernel_rfl), (by kernel_rfl), ?_, ?_⟩, ?_, fun x ⟨g0, g1⟩ => ?_⟩
    rotate_left 1
    focus
      conv => whnf
      repeat' (first
        | exact trivial
        | with_reducible rfl
        | (refine srcI ?_; kernel_rfl)
        | (refine nsI ?_; kernel_rfl)
        | (refine And.intro ?_ ?_ <;> conv => whnf; try dsimp only [St.after, St.afterAt, St.pin, St.unpin, initSt, initT, numO, cellsA, Option.map, ren, renL, renO, St.setObj, headSt, List.cons_append, List.nil_append, List.length_nil, Nat.reduceAdd])
        | rfl)
    rotate_right 1
    focus
      conv => whnf
      repeat' (first
        | exact trivial
        | with_reducible rfl
        | (refine srcI ?_; kernel_rfl)
        | (refine nsI ?_; kernel_rfl)
        | (refine And.intro ?_ ?_ <;> conv => whnf; try dsimp only [St.after, St.afterAt, St.pin, St.unpin, initSt, initT, numO, cellsA, Option.map, ren, renL, renO, St.setObj, headSt, List.cons_append, List.nil_append, List.length_nil, Nat.reduceAdd])
        | rfl)
    rotate_right 1
    focus
      conv => whnf
    rotate_left 1
    · exact ⟨by omega, by omega⟩
    have hcl := cutTo_len (l := nth b.next d) (c := c) (k := x) g1
    have hcg := fun h => cutTo_get (l := nth b.next d) (c := c) (k := x) g0 h
    repeat' ((first
      | (refine Ck.mk ?_)
      | (refine ifD (fun _ => ?_) (fun _ => ?_))
      | (refine ifE (fun _ => ?_) (fun _ => ?_))
      | (refine ifN (fun _ => ?_) (fun _ => ?_))
      | ((with_reducible refine natI ?_))
      | ((with_reducible refine ifNot ?_))
      | ((with_reducible refine ifAndD (fun _ _ => ?_) (fun _ => ?_)))
      | ((with_reducible refine ifAnd (fun _ _ => ?_) (fun _ => ?_)))
      | (refine ixM (by omega) (by first | omega | (simp only [List.length_set, List.length_map, List.length_append, List.length_cons, List.length_nil, List.length_replicate]; omega)) rfl ?_)
      | (refine ixA (by omega) (by first | omega | (simp only [List.length_set, List.length_map, List.length_append, List.length_cons, List.length_nil, List.length_replicate]; omega)) ?_)
      | (refine ltM (by omega) (by first | omega | (simp only [List.length_set, List.length_map, List.length_append, List.length_cons, List.length_nil, List.length_replicate]; omega)) ?_)
      | (refine calI (by omega) ?_)
      | (refine cu8 (by omega) ?_)
      | (refine cu64 (by omega) ?_)
      | (refine And.intro (by omega) ?_; refine crem (by omega) ?_)
      | (refine And.intro (by omega) ?_; refine cquo (by omega) ?_)
      | ((with_reducible refine preI ?_); (first | refine preNil ?_ | refine preOp rfl rfl ?_ | refine preT rfl rfl rfl rfl ?_ | refine preF rfl rfl rfl rfl ?_ | refine preTS rfl rfl rfl rfl ?_ | refine preFS rfl rfl rfl rfl ?_ | refine preSkip rfl rfl rfl rfl ?_ | refine preGT rfl rfl rfl rfl ?_ | refine preGF rfl rfl rfl rfl ?_))
      | (refine AltS.own (by assumption) ?_)
      | (refine AltS.im ?_)
      | (refine AltT.own (by assumption) ?_)
      | (refine AltT.im ?_)
      | (refine NilK.mk (fun _ => ?_) ?_)
      | (refine AltV.own (by assumption) ?_)
      | (refine AltV.im ?_)
      | ((first | refine drawA2 (by decide +kernel) ?_ | refine drawA (by decide +kernel) ?_ | refine drawL (by decide +kernel) ?_); conv => whnf; (try dsimp only [St.after, St.afterAt, St.pin, St.unpin, initSt, initT, numO, cellsA, Option.map, ren, renL, renO, St.setObj, headSt, List.cons_append, List.nil_append, List.length_nil, Nat.reduceAdd]); try (conv => enter [7, 3]; whnf))
      | (refine ap1 (by decide) (by omega) rfl rfl ?_)
      | (refine ap0 (by decide) rfl ?_)
      | (refine apL (by decide) (by omega) (fun _ => rfl) ?_)
      | (refine apM (by decide) (by omega) (fun _ => rfl) ?_)
      | (refine setI (z := _) rfl ?_)
      | (refine And.intro (by omega) (And.intro (by omega) ?_))
      | (refine ifB_intro (fun _ => ?_) (fun _ => ?_))) <;> (conv => whnf; try dsimp only [St.after, St.afterAt, St.pin, St.unpin, initSt, initT, numO, cellsA, Option.map, ren, renL, renO, St.setObj, headSt, List.cons_append, List.nil_append, List.length_nil, Nat.reduceAdd]))
    · rename_i q1 q2
      refine ⟨x + 1, ⟨[], (by kernel_rfl), (by kernel_rfl), (by kernel_rfl), ?_, ?_⟩, ?_, by (try dsimp only); omega, rfl⟩
      rotate_left 1
      focus
        conv => whnf
        repeat' (first
          | exact trivial
          | with_reducible rfl
          | (refine srcI ?_; kernel_rfl)
          | (refine nsI ?_; kernel_rfl)
          | (refine And.intro ?_ ?_ <;> conv => whnf; try dsimp only [St.after, St.afterAt, St.pin, St.unpin, initSt, initT, numO, cellsA, Option.map, ren, renL, renO, St.setObj, headSt, List.cons_append, List.nil_append, List.length_nil, Nat.reduceAdd]))
      rotate_right 1
      focus
        conv => whnf
        repeat' (first
          | exact trivial
          | with_reducible rfl
          | (refine srcI ?_; kernel_rfl)
          | (refine nsI ?_; kernel_rfl)
          | (refine And.intro ?_ ?_ <;> conv => whnf; try dsimp only [St.after, St.afterAt, St.pin, St.unpin, initSt, initT, numO, cellsA, Option.map, ren, renL, renO, St.setObj, headSt, List.cons_append, List.nil_append, List.length_nil, Nat.reduceAdd]))
      · rw [cutTo_succ g0 (by omega), if_pos (.inl q2)]
      · exact ⟨by omega, by omega⟩
    · rename_i q1 q2 q3
      refine ⟨x + 1, ⟨[], (by kernel_rfl), (by kernel_rfl), (by kernel_rfl), ?_, ?_⟩, ?_, by (try dsimp only); omega, rfl⟩
      rotate_left 1
      focus
        conv => whnf
        repeat' (first
          | exact trivial
          | with_reducible rfl
          | (refine srcI ?_; kernel_rfl)
          | (refine nsI ?_; kernel_rfl)
          | (refine And.intro ?_ ?_ <;> conv => whnf; try dsimp only [St.after, St.afterAt, St.pin, St.unpin, initSt, initT, numO, cellsA, Option.map, ren, renL, renO, St.setObj, headSt, List.cons_append, List.nil_append, List.length_nil, Nat.reduceAdd]))
      rotate_right 1
      focus
        conv => whnf
        repeat' (first
          | exact trivial
          | with_reducible rfl
          | (refine srcI ?_; kernel_rfl)
          | (refine nsI ?_; kernel_rfl)
          | (refine And.intro ?_ ?_ <;> conv => whnf; try dsimp only [St.after, St.afterAt, St.pin, St.unpin, initSt, initT, numO, cellsA, Option.map, ren, renL, renO, St.setObj, headSt, List.cons_append, List.nil_append, List.length_nil, Nat.reduceAdd]))
      · rw [cutTo_succ g0 (by omega), if_pos (.inr (by rw [← hcg (by omega)]; exact q3))]
      · exact ⟨by omega, by omega⟩
    · rename_i q1 q2 q3
      refine ⟨x + 1, ⟨[], (by kernel_rfl), (by kernel_rfl), (by kernel_rfl), ?_, ?_⟩, ?_, by (try dsimp only); omega, rfl⟩
      rotate_left 1
      focus
        conv => whnf
        repeat' (first
          | exact trivial
          | with_reducible rfl
          | (refine srcI ?_; kernel_rfl)
          | (refine nsI ?_; kernel_rfl)
          | (refine And.intro ?_ ?_ <;> conv => whnf; try dsimp only [St.after, St.afterAt, St.pin, St.unpin, initSt, initT, numO, cellsA, Option.map, ren, renL, renO, St.setObj, headSt, List.cons_append, List.nil_append, List.length_nil, Nat.reduceAdd]))
      rotate_right 1
      focus
        conv => whnf
        repeat' (first
          | exact trivial
          | with_reducible rfl
          | (refine srcI ?_; kernel_rfl)
          | (refine nsI ?_; kernel_rfl)
          | (refine And.intro ?_ ?_ <;> conv => whnf; try dsimp only [St.after, St.afterAt, St.pin, St.unpin, initSt, initT, numO, cellsA, Option.map, ren, renL, renO, St.setObj, headSt, List.cons_append, List.nil_append, List.length_nil, Nat.reduceAdd]))
      · rw [cutTo_keep g0 (by omega) (fun h => h.elim q2 (by rw [← hcg (by omega)]; exact q3))]
      · exact ⟨by omega, by omega⟩
    · obtain rfl : x = (nth b.next d).length := by omega
      refine ap1 (a := nth b.next d) (by decide) (by omega) rfl (by rw [cutTo_all, hll (by omega)]; rfl) ?_
      conv => whnf
      repeat' ((first
        | (refine Ck.mk ?_)
        | (refine ifD (fun _ => ?_) (fun _ => ?_))
        | (refine ifE (fun _ => ?_) (fun _ => ?_))
        | (refine ifN (fun _ => ?_) (fun _ => ?_))
        | ((with_reducible refine natI ?_))
        | ((with_reducible refine ifNot ?_))
        | ((with_reducible refine ifAndD (fun _ _ => ?_) (fun _ => ?_)))
        | ((with_reducible refine ifAnd (fun _ _ => ?_) (fun _ => ?_)))
        | (refine ixM (by omega) (by first | omega | (simp only [List.length_set, List.length_map, List.length_append, List.length_cons, List.length_nil, List.length_replicate]; omega)) rfl ?_)
        | (refine ixA (by omega) (by first | omega | (simp only [List.length_set, List.length_map, List.length_append, List.length_cons, List.length_nil, List.length_replicate]; omega)) ?_)
        | (refine ltM (by omega) (by first | omega | (simp only [List.length_set, List.length_map, List.length_append, List.length_cons, List.length_nil, List.length_replicate]; omega)) ?_)
        | (refine calI (by omega) ?_)
        | (refine cu8 (by omega) ?_)
        | (refine cu64 (by omega) ?_)
        | (refine And.intro (by omega) ?_; refine crem (by omega) ?_)
        | (refine And.intro (by omega) ?_; refine cquo (by omega) ?_)
        | ((with_reducible refine preI ?_); (first | refine preNil ?_ | refine preOp rfl rfl ?_ | refine preT rfl rfl rfl rfl ?_ | refine preF rfl rfl rfl rfl ?_ | refine preTS rfl rfl rfl rfl ?_ | refine preFS rfl rfl rfl rfl ?_ | refine preSkip rfl rfl rfl rfl ?_ | refine preGT rfl rfl rfl rfl ?_ | refine preGF rfl rfl rfl rfl ?_))
        | (refine AltS.own (by assumption) ?_)
        | (refine AltS.im ?_)
        | (refine AltT.own (by assumption) ?_)
        | (refine AltT.im ?_)
        | (refine NilK.mk (fun _ => ?_) ?_)
        | (refine AltV.own (by assumption) ?_)
        | (refine AltV.im ?_)
        | ((first | refine drawA2 (by decide +kernel) ?_ | refine drawA (by decide +kernel) ?_ | refine drawL (by decide +kernel) ?_); conv => whnf; (try dsimp only [St.after, St.afterAt, St.pin, St.unpin, initSt, initT, numO, cellsA, Option.map, ren, renL, renO, St.setObj, headSt, List.cons_append, List.nil_append, List.length_nil, Nat.reduceAdd]); try (conv => enter [7, 3]; whnf))
        | (refine ap1 (by decide) (by omega) rfl rfl ?_)
        | (refine ap0 (by decide) rfl ?_)
        | (refine apL (by decide) (by omega) (fun _ => rfl) ?_)
        | (refine apM (by decide) (by omega) (fun _ => rfl) ?_)
        | (refine setI (z := _) rfl ?_)
        | (refine And.intro (by omega) (And.intro (by omega) ?_))
        | (refine ifB_intro (fun _ => ?_) (fun _ => ?_))) <;> (conv => whnf; try dsimp only [St.after, St.afterAt, St.pin, St.unpin, initSt, initT, numO, cellsA, Option.map, ren, renL, renO, St.setObj, headSt, List.cons_append, List.nil_append, List.length_nil, Nat.reduceAdd]))
      refine ⟨d + 1, ⟨[], (by kernel_rfl), (by kernel_rfl), (by kernel_rfl), ?_, ?_⟩, ?_, by (try dsimp only); omega, rfl⟩
      rotate_left 1
      focus
        conv => whnf
        repeat' (first
          | exact trivial
          | with_reducible rfl
          | (refine srcI ?_; kernel_rfl)
          | (refine nsI ?_; kernel_rfl)
          | (refine And.intro ?_ ?_ <;> conv => whnf; try dsimp only [St.after, St.afterAt, St.pin, St.unpin, initSt, initT, numO, cellsA, Option.map, ren, renL, renO, St.setObj, headSt, List.cons_append, List.nil_append, List.length_nil, Nat.reduceAdd]))
      rotate_right 1
      focus
        conv => whnf
        repeat' (first
          | exact trivial
          | with_reducible rfl
          | (refine srcI ?_; kernel_rfl)
          | (refine nsI ?_; kernel_rfl)
          | (refine And.intro ?_ ?_ <;> conv => whnf; try dsimp only [St.after, St.afterAt, St.pin, St.unpin, initSt, initT, numO, cellsA, Option.map, ren, renL, renO, St.setObj, headSt, List.cons_append, List.nil_append, List.length_nil, Nat.reduceAdd]))
      · rw [take_snoc h0 (by omega)]
      · exact ⟨by omega, by omega⟩
  ·
    repeat' ((first
      | (refine Ck.mk ?_)
      | (refine ifD (fun _ => ?_) (fun _ => ?_))
      | (refine ifE (fun _ => ?_) (fun _ => ?_))
      | (refine ifN (fun _ => ?_) (fun _ => ?_))
      | ((with_reducible refine natI ?_))
      | ((with_reducible refine ifNot ?_))
      | ((with_reducible refine ifAndD (fun _ _ => ?_) (fun _ => ?_)))
      | ((with_reducible refine ifAnd (fun _ _ => ?_) (fun _ => ?_)))
      | (refine ixM (by omega) (by first | omega | (simp only [List.length_set, List.length_map, List.length_append, List.length_cons, List.length_nil, List.length_replicate]; omega)) rfl ?_)
      | (refine ixA (by omega) (by first | omega | (simp only [List.length_set, List.length_map, List.length_append, List.length_cons, List.length_nil, List.length_replicate]; omega)) ?_)
      | (refine ltM (by omega) (by first | omega | (simp only [List.length_set, List.length_map, List.length_append, List.length_cons, List.length_nil, List.length_replicate]; omega)) ?_)
      | (refine calI (by omega) ?_)
      | (refine cu8 (by omega) ?_)
      | (refine cu64 (by omega) ?_)
      | (refine And.intro (by omega) ?_; refine crem (by omega) ?_)
      | (refine And.intro (by omega) ?_; refine cquo (by omega) ?_)
      | ((with_reducible refine preI ?_); (first | refine preNil ?_ | refine preOp rfl rfl ?_ | refine preT rfl rfl rfl rfl ?_ | refine preF rfl rfl rfl rfl ?_ | refine preTS rfl rfl rfl rfl ?_ | refine preFS rfl rfl rfl rfl ?_ | refine preSkip rfl rfl rfl rfl ?_ | refine preGT rfl rfl rfl rfl ?_ | refine preGF rfl rfl rfl rfl ?_))
      | (refine AltS.own (by assumption) ?_)
      | (refine AltS.im ?_)
      | (refine AltT.own (by assumption) ?_)
      | (refine AltT.im ?_)
      | (refine NilK.mk (fun _ => ?_) ?_)
      | (refine AltV.own (by assumption) ?_)
      | (refine AltV.im ?_)
      | ((first | refine drawA2 (by decide +kernel) ?_ | refine drawA (by decide +kernel) ?_ | refine drawL (by decide +kernel) ?_); conv => whnf; (try dsimp only [St.after, St.afterAt, St.pin, St.unpin, initSt, initT, numO, cellsA, Option.map, ren, renL, renO, St.setObj, headSt, List.cons_append, List.nil_append, List.length_nil, Nat.reduceAdd]); try (conv => enter [7, 3]; whnf))
      | (refine ap1 (by decide) (by omega) rfl rfl ?_)
      | (refine ap0 (by decide) rfl ?_)
      | (refine apL (by decide) (by omega) (fun _ => rfl) ?_)
      | (refine apM (by decide) (by omega) (fun _ => rfl) ?_)
      | (refine setI (z := _) rfl ?_)
      | (refine And.intro (by omega) (And.intro (by omega) ?_))
      | (refine ifB_intro (fun _ => ?_) (fun _ => ?_))
      | (refine exitA (by kernel_rfl) (by kernel_rfl) ⟨?_, trivial⟩ ?_ <;> (conv => whnf) <;> repeat' (first | exact trivial | with_reducible rfl | (refine srcI ?_; kernel_rfl) | (refine nsI ?_; kernel_rfl) | (refine And.intro ?_ ?_ <;> conv => whnf; try dsimp only [St.after, St.afterAt, St.pin, St.unpin, initSt, initT, numO, cellsA, Option.map, ren, renL, renO, St.setObj, headSt, List.cons_append, List.nil_append, List.length_nil, Nat.reduceAdd])))) <;> (conv => whnf; try dsimp only [St.after, St.afterAt, St.pin, St.unpin, initSt, initT, numO, cellsA, Option.map, ren, renL, renO, St.setObj, headSt, List.cons_append, List.nil_append, List.length_nil, Nat.reduceAdd]))
    rw [take_all (by omega), List.map_map]; rfl
end Go.Proofs.Ytkecpgidolphfaa
namespace Go.Proofs.Ytkecpgidolphfaa
open Go Go.Sk Go.ChangeShapes Go.WideShapes Go.ChangeAt Go.RowKit
theorem own : ownKnob Try.prog.godebug = none := by kernel_rfl
theorem has_u8 {m : Int} (h : IntKind.u8.has m) : u8 m := by
  simp [IntKind.has, IntKind.min, IntKind.max, IntKind.signed, IntKind.bits] at h
  exact ⟨by omega, by omega⟩
theorem raw_open {w : World} {r : Reach} {b0 : Nat} {v : Value} (h : Value.okWide Try.prog w r b0 28 v) : ∃ x : Rw, x.ok ∧ ∀ (N : Nat → Prop) (V : VV), RepT N w V x.av v := by
  obtain ⟨ns, rfl, hl, hk⟩ := okWide_ints (ts := List.replicate 35 5) Try.underlying28 (by kernel_rfl) (by kernel_rfl) (fun u hu => by rw [List.eq_of_mem_replicate hu]; exact Try.underlying5) h
  match ns, hl with
  | c :: d :: t :: r, hl =>
    refine ⟨⟨c, d, t, r⟩, ⟨has_u8 (hk 0 _ rfl), has_u8 (hk 1 _ rfl), has_u8 (hk 2 _ rfl), fun i i0 i1 => ?_, by simpa using hl⟩, fun N V => ?_⟩
    · have hl' : r.length = 32 := by simpa using hl
      exact has_u8 (hk (i.toNat + 3) _ (by simpa using nth_some (l := r) i0 (by omega)))
    · have := rep_ints (N := N) (w := w) (V := V) .u8 (c :: d :: t :: r)
      exact this
theorem okWide_arr {P : Program} {w : World} {r : Reach} {b0 : Nat} {t : TypeId} {k : IntKind} {n0 : Nat} {e : TypeId} {ts : List TypeId} {v : Value} (hu : P.underlying t = some (.array n0 e)) (hc : P.cellTypes P.depth t = some ts) (hn : P.cellsOf t = ts.length)
    (hk : ∀ u, u ∈ ts → P.underlying u = some (.int k)) (h : Value.okWide P w r b0 t v) : ∃ ns : List Int, v = .agg (ns.map (Value.int k)).toArray ∧ ns.length = ts.length ∧ ∀ (i : Nat) (m : Int), ns[i]? = some m → k.has m := by
  simp only [Value.okWide, hu] at h
  obtain ⟨cs, rfl, h2, ts', h3, _, h5⟩ := h
  rw [hc] at h3
  injection h3 with h3
  subst h3
  have hx : ∀ (i : Nat) (x : Value), cs[i]? = some x → ∃ m, x = .int k m ∧ k.has m := fun i x hi => by
    obtain ⟨u, h6, h7⟩ := h5 i x hi
    have := hk u (List.mem_of_getElem? h6)
    simp only [Cell.okWide, this] at h7
    cases x <;> simp_all [Cell.ok]
  let f : Value → Int := fun x => match x with | .int _ m => m | _ => 0
  refine ⟨cs.toList.map f, ?_, by simp [h2, hn], fun i m hi => ?_⟩
  · congr 1
    apply Array.ext'
    apply List.ext_getElem?
    intro i
    simp only [List.getElem?_map, List.map_map]
    cases hi : cs.toList[i]? with
    | none => rfl
    | some x =>
      obtain ⟨m, rfl, _⟩ := hx i x (by simpa using hi)
      rfl
  · simp only [List.getElem?_map] at hi
    cases hi' : cs.toList[i]? with
    | none => rw [hi'] at hi; cases hi
    | some x =>
      obtain ⟨m', rfl, hm⟩ := hx i x (by simpa using hi')
      rw [hi'] at hi
      injection hi with hi
      rw [← hi]; exact hm
theorem has_i16 {m : Int} (h : IntKind.i16.has m) : -32768 ≤ m ∧ m ≤ 32767 := by
  simp [IntKind.has, IntKind.min, IntKind.max, IntKind.signed, IntKind.bits] at h
  omega
theorem a4_open {w : World} {r : Reach} {b0 : Nat} {v : Value} (h : Value.okWide Try.prog w r b0 30 v) : ∃ v1 v2 v3 v4 : Int, v = .agg #[.int .i16 v1, .int .i16 v2, .int .i16 v3, .int .i16 v4] ∧ (-32768 ≤ v1 ∧ v1 ≤ 32767) ∧ (-32768 ≤ v2 ∧ v2 ≤ 32767) ∧ (-32768 ≤ v3 ∧ v3 ≤ 32767) ∧ -32768 ≤ v4 ∧ v4 ≤ 32767 := by
  obtain ⟨ns, rfl, hl, hk⟩ := okWide_arr (ts := List.replicate 4 29) Try.underlying30 (by kernel_rfl) (by kernel_rfl) (fun u hu => by rw [List.eq_of_mem_replicate hu]; exact Try.underlying29) h
  match ns, hl with
  | [a, b, c, d], _ => exact ⟨a, b, c, d, rfl, has_i16 (hk 0 _ rfl), has_i16 (hk 1 _ rfl), has_i16 (hk 2 _ rfl), has_i16 (hk 3 _ rfl)⟩
theorem a4_rep {N : Nat → Prop} {w : World} {V : VV} (a b c d : Int) : RepT N w V (.ag [.v (.int .i16 a), .v (.int .i16 b), .v (.int .i16 c), .v (.int .i16 d)]) (.agg #[.int .i16 a, .int .i16 b, .int .i16 c, .int .i16 d]) := rep_ints .i16 [a, b, c, d]
theorem bdL_U {A : Nat → Prop} : ∀ l : List Int, bdL A (l.map U)
  | [] => by simp [bdL]
  | n :: r => by
    rw [List.map_cons]
    unfold bdL
    exact ⟨by simp [U, bd], bdL_U r⟩
theorem raw_bd {A : Nat → Prop} (x : Rw) : bd A x.av := by
  have := bdL_U (A := A) (x.cells :: x.dirs :: x.turn :: x.ns)
  unfold Rw.av bd
  exact this
end Go.Proofs.Ytkecpgidolphfaa
