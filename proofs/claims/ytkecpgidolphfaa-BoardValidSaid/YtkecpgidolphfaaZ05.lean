/- Contracts of functions of the program, proved by the checker; and plain laws. -/
import Derived.Test.YtkecpgidolphfaaZ03
import Derived.Test.YtkecpgidolphfaaZ02
import Derived.Test.YtkecpgidolphfaaZ04
import Derived.Test.YtkecpgidolphfaaSk17
set_option linter.unusedVariables false
set_option linter.unusedSimpArgs false
namespace Go.Proofs.Ytkecpgidolphfaa
open Go Go.Sk
structure Bd.any (b : Bd) : Prop where
  c : -9223372036854775808 ≤ b.cells ∧ b.cells ≤ 9223372036854775807
  n : b.next.length ≤ 9223372036854775807
  l : ∀ d : Int, 0 ≤ d → d < b.next.length → (nth b.next d).length ≤ 9223372036854775807
  t : b.turn.length ≤ 9223372036854775807
set_option maxHeartbeats 4000000 in
set_option maxRecDepth 10000 in
theorem ValidA_p (b : Bd) (h : b.any) : Pure Try.prog 13 [b.av] (Bo (decide b.ok)) none := by
  by_cases hc : b.cells = -9223372036854775808
  · have e1 : b.next.length = (b.next.map Is).length := by simp
    have e2 : b.turn.length = (b.turn.map I).length := by simp
    have hn := h.n
    have no : decide b.ok = false := decide_eq_false fun q => by have := q.c1; omega
    rw [no]
    refine fun_of tok D_ok Try.func13 rfl Try.ntmps13 Try.results13 (by kernel_rfl) (by simp) (by simp) ?_
    conv => whnf
    repeat' (first
      | (refine lvK (k := ?_); apply Cj.mk <;> first | exact trivial | intros)
      | (refine ⟨_, _, In_p _ _ _, lvN (k := ?_)⟩; apply Cj.mk <;> first | exact trivial | intros)
      | (refine .inl ?_; (conv => whnf); refine ⟨_, _, In_p _ _ _, lvN (k := ?_)⟩; apply Cj.mk <;> first | exact trivial | intros)
      | (refine lvE (k := ?_); apply Cj.mk <;> first | exact trivial | intros)
      | fail)
    all_goals (exfalso; omega)
  · exact Valid13_p b ⟨by have := h.c; omega, h.c.2⟩ h.n h.l h.t
theorem RValidA_p (b : Bd) (h : b.any) : Pure Try.prog 14 [b.av] (Bo (decide b.ok)) none := Valid14_p b h.n h.l h.t
def Bd.os (b : Bd) : List AO := [.tre 1 (b.next.map Ow), .arr 1 (b.turn.map I)]
def Bd.rf (b : Bd) : AV := .ag [I b.cells, .ref 0, .ref 1]
theorem Bd.lend (b : Bd) : [b.av] = [b.rf].map (lendA b.os) := by
  show [AV.ag [I b.cells, Iss b.next, Is b.turn]] = [AV.ag [I b.cells, .sl ((b.next.map Ow).map rowA), Is b.turn]]
  rw [lendOw]; rfl
theorem Bd.lendO (b : Bd) : ∀ o, o ∈ b.os → LendO o := fun o ho => by
  rcases List.mem_cons.1 ho with rfl | ho
  · exact ⟨rfl, okOw _⟩
  · rcases List.mem_cons.1 ho with rfl | ho
    · trivial
    · cases ho
theorem ValidO_p (b : Bd) (h : b.any) : Fun Try.prog 13 b.os [b.rf] (Bo (decide b.ok)) b.os := (ValidA_p b h).lend b.lend rfl b.lendO rfl
theorem Bd.ok_any {b : Bd} (h : b.ok) : b.any := ⟨by have := h.c1; have := h.c64; omega, by have := h.n8; omega, fun d d0 d1 => by have := h.ll d d0 d1; have := h.c64; omega, by have := h.tl; have := h.n8; omega⟩
theorem renOw (f : Nat → Nat) (l : List (List Int)) : renL f (l.map Ow) = l.map Ow := by
  induction l with
  | nil => rfl
  | cons x l ih => exact congrArg (List.cons _) ih
theorem osOw (f : Nat → Nat) (l : List (List Int)) (o : AO) : [some (AO.tre 1 (l.map Ow)), some o] = [some (AO.tre 1 (renL f (l.map Ow))), some o] := by rw [renOw]
theorem backOw {l : List (List Int)} {i p : Nat} {r : List Int} : ((l.map Ow).set i (.ref p)).set i (.own 1 (r.map I)) = (l.set i r).map Ow := by
  rw [List.set_set, List.map_set]; rfl
theorem backOw2 {l : List (List Int)} {i p n : Nat} {r : List Int} : ((l.map Ow).set i (.ref p)).set i (.own 1 (List.drop (Int.toNat 0) (List.take n (r.map I)))) = (l.set i (r.take n)).map Ow := by
  rw [List.set_set, List.map_set, ← List.map_take]; rfl
theorem nth_set_len {l : List (List Int)} {i : Nat} {r : List Int} {n : Nat} (hl : ∀ d : Int, 0 ≤ d → d < l.length → (nth l d).length ≤ n) (hr : r.length ≤ n) : ∀ d : Int, 0 ≤ d → d < (l.set i r).length → (nth (l.set i r) d).length ≤ n := fun d d0 d1 => by
  rw [List.length_set] at d1
  have hm := nth_mem d0 (show d < ((l.set i r).length : Int) by rw [List.length_set]; exact d1)
  rcases List.mem_or_eq_of_mem_set hm with h | h
  · obtain ⟨e, e0, e1, h⟩ := mem_nth h
    rw [← h]; exact hl e e0 e1
  · rw [h]; exact hr
def S16 (n : Int) : AV := .v (.int .i16 n)
set_option maxHeartbeats 8000000 in
set_option maxRecDepth 10000 in
theorem BoardValid_true (b : Bd) (hv : decide b.ok = true) (hb : -9223372036854775808 ≤ b.cells ∧ b.cells ≤ 9223372036854775807) (hbn : b.next.length ≤ 9223372036854775807) (hbl : ∀ d : Int, 0 ≤ d → d < b.next.length → (nth b.next d).length ≤ 9223372036854775807) (hbt : b.turn.length ≤ 9223372036854775807)
    (x : Rw) (hx : x.ok) (k1 k2 k3 k4 : Int) (w1 : -32768 ≤ k1 ∧ k1 ≤ 32767) (w2 : -32768 ≤ k2 ∧ k2 ≤ 32767) (w3 : -32768 ≤ k3 ∧ k3 ≤ 32767) (w4 : -32768 ≤ k4 ∧ k4 ≤ 32767) :
    Pure Try.prog 3 [b.av, x.av, .ag [S16 k1, S16 k2, S16 k3, S16 k4]] (Bo true) none := by
  have hc := Rw.wild_ok hx
  have hw := WildO_p x hx
  obtain ⟨c, hce⟩ : ∃ c, c = x.wild := ⟨_, rfl⟩
  rw [← hce] at hc hw
  obtain ⟨n0, n1, n2, n3, n4, n5, n6, n7, n8, n9, n10, n11, n12, n13, n14, n15, n16, n17, n18, n19, n20, n21, n22, n23, n24, n25, n26, n27, n28, n29, n30, n31, hns⟩ := list32 hx.l
  have hav : x.av = .ag [U x.cells, U x.dirs, U x.turn, U n0, U n1, U n2, U n3, U n4, U n5, U n6, U n7, U n8, U n9, U n10, U n11, U n12, U n13, U n14, U n15, U n16, U n17, U n18, U n19, U n20, U n21, U n22, U n23, U n24, U n25, U n26, U n27, U n28, U n29, U n30, U n31] := by unfold Rw.av; rw [hns]; rfl
  rw [hav] at hw ⊢
  clear hav hns
  have en : (b.next.map Is).length = b.next.length := List.length_map _
  have et : (b.turn.map I).length = b.turn.length := List.length_map _
  have cn : (c.next.map Ow).length = c.next.length := List.length_map _
  have ct : (c.turn.map I).length = c.turn.length := List.length_map _
  have v0 := ValidO_p c (Bd.ok_any hc)
  rw [decide_eq_true hc] at v0
  have va := ValidA_p b ⟨hb, hbn, hbl, hbt⟩
  have ra := RValidA_p b ⟨hb, hbn, hbl, hbt⟩
  rw [hv] at va ra
  refine fun_of tok D_ok Try.func3 rfl Try.ntmps3 Try.results3 (by kernel_rfl) (by simp) (by simp) ?_
  conv => whnf
  repeat' (first
    | (refine lvK (k := ?_); apply Cj.mk <;> first | exact trivial | intros)
    | (refine ⟨_, _, sanity_p, lvN (k := ?_)⟩; apply Cj.mk <;> first | exact trivial | intros)
    | (refine .inl ?_; (conv => whnf); refine ⟨_, _, sanity_p, lvN (k := ?_)⟩; apply Cj.mk <;> first | exact trivial | intros)
    | (refine .inr (.inl ?_); (conv => whnf); refine ⟨[], [], _, _, _, ⟨rfl, rfl, rfl⟩, hw, lvN (k := ?_)⟩; apply Cj.mk <;> first | exact trivial | intros)
    | (dsimp only [prs, renO]; rewrite [renOw])
    | (refine cu16m ?_; conv => whnf)
    | (refine .inl ?_; (conv => whnf); refine ⟨[3, 4], Bd.os c, [Bd.rf c], _, _, ⟨osOw _ (Bd.next c) (.arr 1 ((Bd.turn c).map I)), rfl, rfl⟩, v0, ?_⟩; dsimp only [prs, renO, Bd.os]; rewrite [renOw]; refine lvN (k := ?_); apply Cj.mk <;> first | exact trivial | intros)
    | fail)
  · repeat' (first
      | (refine lvA (k := ?_); apply Cj.mk <;> first | exact trivial | intros)
      | (refine lvE (k := ?_); apply Cj.mk <;> first | exact trivial | intros)
      | fail)
  · repeat' (first
      | (refine lvA (k := ?_); apply Cj.mk <;> first | exact trivial | intros)
      | (refine lvE (k := ?_); apply Cj.mk <;> first | exact trivial | intros)
      | fail)
  have q1 := hc.n1
  have q8 := hc.n8
  have qt := hc.tl
  obtain ⟨d, hd⟩ : ∃ d, (k1 % 65536).tmod ((c.next.map Ow).length : Int) = d := ⟨_, rfl⟩
  have d0 : 0 ≤ d := by rw [← hd]; exact Int.tmod_nonneg _ (by omega)
  have d1 : d < c.next.length := by rw [← hd, cn]; exact Int.tmod_lt_of_pos _ (by omega)
  refine And.intro (by omega) (Calc.mk d hd ?_); conv => whnf
  repeat' (first
    | (refine lvD (k := ?_); apply Cj.mk <;> first | exact trivial | intros)
    | (dsimp only [prs, renO]; rewrite [renOw])
    | (refine cu16m ?_; conv => whnf)
    | (refine ShowsJ.mk (by kernel_rfl) (by kernel_rfl) (by kernel_rfl) (lvL (k := ?_)) (lvL (k := ?_)) rfl <;> (first | (apply Cj.mk <;> first | exact trivial | intros) | skip))
    | (refine lvE (k := ?_); apply Cj.mk <;> first | exact trivial | intros)
    | fail)
  · obtain ⟨e, he⟩ : ∃ e : Bd, e = ⟨k3, c.next, c.turn⟩ := ⟨_, rfl⟩
    have ha : e.any := by rw [he]; exact ⟨by show _ ≤ k3 ∧ k3 ≤ _; omega, (Bd.ok_any hc).n, (Bd.ok_any hc).l, (Bd.ok_any hc).t⟩
    have v1 := ValidA_p e ha
    have r1 := RValidA_p e ha
    obtain ⟨z, hz⟩ : ∃ z, z = decide e.ok := ⟨_, rfl⟩
    rw [← hz] at v1 r1
    clear hz
    subst he
    refine drawP [3, 4] ?_
    conv => whnf
    try dsimp only [St.after, St.afterAt, St.pin, St.unpin, initSt, initT, numO, cellsA, Option.map, ren, renL, renO, St.setObj, headSt, List.cons_append, List.nil_append, List.length_nil, Nat.reduceAdd]
    refine ⟨rfl, okOw _, .mk _ (lendOw _) ?_⟩
    conv => whnf
    cases z
    all_goals
      repeat' (first
        | (refine lvK (k := ?_); apply Cj.mk <;> first | exact trivial | intros)
        | (refine ⟨_, _, va, lvN (k := ?_)⟩; apply Cj.mk <;> first | exact trivial | intros)
        | (refine .inl ?_; (conv => whnf); refine ⟨_, _, va, lvN (k := ?_)⟩; apply Cj.mk <;> first | exact trivial | intros)
        | (refine ⟨_, _, ra, lvN (k := ?_)⟩; apply Cj.mk <;> first | exact trivial | intros)
        | (refine .inl ?_; (conv => whnf); refine ⟨_, _, ra, lvN (k := ?_)⟩; apply Cj.mk <;> first | exact trivial | intros)
        | (refine ⟨_, _, v1, lvN (k := ?_)⟩; apply Cj.mk <;> first | exact trivial | intros)
        | (refine .inl ?_; (conv => whnf); refine ⟨_, _, v1, lvN (k := ?_)⟩; apply Cj.mk <;> first | exact trivial | intros)
        | (refine ⟨_, _, r1, lvN (k := ?_)⟩; apply Cj.mk <;> first | exact trivial | intros)
        | (refine .inl ?_; (conv => whnf); refine ⟨_, _, r1, lvN (k := ?_)⟩; apply Cj.mk <;> first | exact trivial | intros)
        | (refine lvE (k := ?_); apply Cj.mk <;> first | exact trivial | intros)
        | fail)
  · have hc1 := hc.c1
    have e0 : 0 ≤ k4 % 65536 % c.cells := Int.emod_nonneg _ (by omega)
    have e1 : k4 % 65536 % c.cells < c.cells := Int.emod_lt_of_pos _ (by omega)
    have hc64 := hc.c64
    have hl := hc.ll d d0 d1
    have hq : (c.next.map Ow)[d.toNat]? = some (Ow (nth c.next d)) := by rw [List.getElem?_map, nth_some d0 d1]; rfl
    have hm : ((nth c.next d).map I).length = (nth c.next d).length := List.length_map _
    refine drawJ [0, 1, 2, 3, 5, 6, 7, 8, 9, 10, 11, 12, 13, 14] [⟨0, 5, 1, .ref 3⟩, ⟨0, 5, 0, I c.cells⟩, ⟨0, 2, 3, S16 k4⟩, ⟨0, 2, 2, S16 k3⟩] [] [(3, .tre 1 ((c.next.set d.toNat ((nth c.next d).set (k4 % 65536 % c.cells).toNat k3)).map Ow))] 6 (by decide +kernel) ?_
    conv => whnf
    refine And.intro ?_ ?_
    · repeat' (first
        | (refine lvD (k := ?_); apply Cj.mk <;> first | exact trivial | intros)
        | (refine cu16m ?_; conv => whnf)
        | (refine ⟨_, hq, ?_⟩; conv => whnf)
        | ((with_reducible refine ShowsJ.of ?_); refine ⟨[(3, d.toNat, 6)], ?_⟩; (conv => whnf); refine ⟨List.getElem?_set_self (by rw [cn]; omega), ShowsJ0.mk (by kernel_rfl) (by kernel_rfl) (by kernel_rfl) (lvL (k := ?_)) (lvL (k := ?_)) rfl⟩ <;> (first | (apply Cj.mk <;> first | exact trivial | intros) | skip))
        | (refine ShowsJ.mk (by kernel_rfl) (by kernel_rfl) (by kernel_rfl) (lvL (k := ?_)) (lvL (k := ?_)) rfl <;> (first | (apply Cj.mk <;> first | exact trivial | intros) | skip))
        | (refine lvE (k := ?_); apply Cj.mk <;> first | exact trivial | intros)
        | fail)
      · exact backOw
      · rename_i hm2
        rw [backOw] at hm2
        exact bdOw _ _ hm2
    · have hrl : ((nth c.next d).set (k4 % 65536 % c.cells).toNat k3).length ≤ 9223372036854775807 := by rw [List.length_set]; omega
      generalize (nth c.next d).set (k4 % 65536 % c.cells).toNat k3 = row at *
      conv => whnf
      repeat' (first
        | (refine lvD (k := ?_); apply Cj.mk <;> first | exact trivial | intros)
        | (refine ShowsJ.mk (by kernel_rfl) (by kernel_rfl) (by kernel_rfl) (lvL (k := ?_)) (lvL (k := ?_)) rfl <;> (first | (apply Cj.mk <;> first | exact trivial | intros) | skip))
        | (refine lvE (k := ?_); apply Cj.mk <;> first | exact trivial | intros)
        | fail)
      obtain ⟨e, he⟩ : ∃ e : Bd, e = ⟨c.cells, c.next.set d.toNat row, c.turn⟩ := ⟨_, rfl⟩
      have ha : e.any := by
        have hcl := (Bd.ok_any hc).l
        rw [he]
        exact ⟨(Bd.ok_any hc).c, by show (c.next.set d.toNat row).length ≤ _; rw [List.length_set]; exact (Bd.ok_any hc).n, by show ∀ q : Int, 0 ≤ q → q < ((c.next.set d.toNat row).length : Int) → (nth (c.next.set d.toNat row) q).length ≤ _; exact nth_set_len hcl hrl, (Bd.ok_any hc).t⟩
      have v1 := ValidA_p e ha
      have r1 := RValidA_p e ha
      obtain ⟨z, hz⟩ : ∃ z, z = decide e.ok := ⟨_, rfl⟩
      rw [← hz] at v1 r1
      clear hz
      subst he
      refine drawP [3, 4] ?_
      conv => whnf
      try dsimp only [St.after, St.afterAt, St.pin, St.unpin, initSt, initT, numO, cellsA, Option.map, ren, renL, renO, St.setObj, headSt, List.cons_append, List.nil_append, List.length_nil, Nat.reduceAdd]
      refine ⟨rfl, okOw _, .mk _ (lendOw _) ?_⟩
      conv => whnf
      cases z
      all_goals
        repeat' (first
          | (refine lvK (k := ?_); apply Cj.mk <;> first | exact trivial | intros)
          | (refine ⟨_, _, va, lvN (k := ?_)⟩; apply Cj.mk <;> first | exact trivial | intros)
          | (refine .inl ?_; (conv => whnf); refine ⟨_, _, va, lvN (k := ?_)⟩; apply Cj.mk <;> first | exact trivial | intros)
          | (refine ⟨_, _, ra, lvN (k := ?_)⟩; apply Cj.mk <;> first | exact trivial | intros)
          | (refine .inl ?_; (conv => whnf); refine ⟨_, _, ra, lvN (k := ?_)⟩; apply Cj.mk <;> first | exact trivial | intros)
          | (refine ⟨_, _, v1, lvN (k := ?_)⟩; apply Cj.mk <;> first | exact trivial | intros)
          | (refine .inl ?_; (conv => whnf); refine ⟨_, _, v1, lvN (k := ?_)⟩; apply Cj.mk <;> first | exact trivial | intros)
          | (refine ⟨_, _, r1, lvN (k := ?_)⟩; apply Cj.mk <;> first | exact trivial | intros)
          | (refine .inl ?_; (conv => whnf); refine ⟨_, _, r1, lvN (k := ?_)⟩; apply Cj.mk <;> first | exact trivial | intros)
          | (refine lvE (k := ?_); apply Cj.mk <;> first | exact trivial | intros)
          | fail)
  · obtain ⟨e, he⟩ : ∃ e : Bd, e = ⟨c.cells, c.next, c.turn.set d.toNat k3⟩ := ⟨_, rfl⟩
    have ha : e.any := by rw [he]; exact ⟨(Bd.ok_any hc).c, (Bd.ok_any hc).n, (Bd.ok_any hc).l, by show (c.turn.set d.toNat k3).length ≤ _; simp only [List.length_set, List.length_take]; omega⟩
    have v1 := ValidA_p e ha
    have r1 := RValidA_p e ha
    obtain ⟨z, hz⟩ : ∃ z, z = decide e.ok := ⟨_, rfl⟩
    rw [← hz] at v1 r1
    clear hz
    subst he
    refine drawP [3, 4] ?_
    conv => whnf
    try dsimp only [St.after, St.afterAt, St.pin, St.unpin, initSt, initT, numO, cellsA, Option.map, ren, renL, renO, St.setObj, headSt, List.cons_append, List.nil_append, List.length_nil, Nat.reduceAdd]
    refine ⟨rfl, okOw _, .mk _ (lendOw _) ?_⟩
    conv => whnf
    cases z
    all_goals
      repeat' (first
        | (refine lvK (k := ?_); apply Cj.mk <;> first | exact trivial | intros)
        | (refine ⟨_, _, va, lvN (k := ?_)⟩; apply Cj.mk <;> first | exact trivial | intros)
        | (refine .inl ?_; (conv => whnf); refine ⟨_, _, va, lvN (k := ?_)⟩; apply Cj.mk <;> first | exact trivial | intros)
        | (refine ⟨_, _, ra, lvN (k := ?_)⟩; apply Cj.mk <;> first | exact trivial | intros)
        | (refine .inl ?_; (conv => whnf); refine ⟨_, _, ra, lvN (k := ?_)⟩; apply Cj.mk <;> first | exact trivial | intros)
        | (refine ⟨_, _, v1, lvN (k := ?_)⟩; apply Cj.mk <;> first | exact trivial | intros)
        | (refine .inl ?_; (conv => whnf); refine ⟨_, _, v1, lvN (k := ?_)⟩; apply Cj.mk <;> first | exact trivial | intros)
        | (refine ⟨_, _, r1, lvN (k := ?_)⟩; apply Cj.mk <;> first | exact trivial | intros)
        | (refine .inl ?_; (conv => whnf); refine ⟨_, _, r1, lvN (k := ?_)⟩; apply Cj.mk <;> first | exact trivial | intros)
        | (refine lvE (k := ?_); apply Cj.mk <;> first | exact trivial | intros)
        | fail)
  · repeat' (first
      | (refine lvD (k := ?_); apply Cj.mk <;> first | exact trivial | intros)
      | (refine And.intro (by omega) ?_; conv => whnf)
      | (refine ShowsJ.mk (by kernel_rfl) (by kernel_rfl) (by kernel_rfl) (lvL (k := ?_)) (lvL (k := ?_)) rfl <;> (first | (apply Cj.mk <;> first | exact trivial | intros) | skip))
      | (refine lvE (k := ?_); apply Cj.mk <;> first | exact trivial | intros)
      | fail)
    obtain ⟨e, he⟩ : ∃ e : Bd, e = ⟨c.cells, c.next, c.turn.take d.toNat⟩ := ⟨_, rfl⟩
    have ha : e.any := by rw [he]; exact ⟨(Bd.ok_any hc).c, (Bd.ok_any hc).n, (Bd.ok_any hc).l, by show (c.turn.take d.toNat).length ≤ _; simp only [List.length_set, List.length_take]; omega⟩
    have v1 := ValidA_p e ha
    have r1 := RValidA_p e ha
    obtain ⟨z, hz⟩ : ∃ z, z = decide e.ok := ⟨_, rfl⟩
    rw [← hz] at v1 r1
    clear hz
    subst he
    rw [show List.drop (Int.toNat 0) (List.take d.toNat (List.map I c.turn)) = (c.turn.take d.toNat).map I from by rw [List.map_take]; rfl]
    refine drawP [3, 6] ?_
    conv => whnf
    try dsimp only [St.after, St.afterAt, St.pin, St.unpin, initSt, initT, numO, cellsA, Option.map, ren, renL, renO, St.setObj, headSt, List.cons_append, List.nil_append, List.length_nil, Nat.reduceAdd]
    refine ⟨rfl, okOw _, .mk _ (lendOw _) ?_⟩
    conv => whnf
    cases z
    all_goals
      repeat' (first
        | (refine lvK (k := ?_); apply Cj.mk <;> first | exact trivial | intros)
        | (refine ⟨_, _, va, lvN (k := ?_)⟩; apply Cj.mk <;> first | exact trivial | intros)
        | (refine .inl ?_; (conv => whnf); refine ⟨_, _, va, lvN (k := ?_)⟩; apply Cj.mk <;> first | exact trivial | intros)
        | (refine ⟨_, _, ra, lvN (k := ?_)⟩; apply Cj.mk <;> first | exact trivial | intros)
        | (refine .inl ?_; (conv => whnf); refine ⟨_, _, ra, lvN (k := ?_)⟩; apply Cj.mk <;> first | exact trivial | intros)
        | (refine ⟨_, _, v1, lvN (k := ?_)⟩; apply Cj.mk <;> first | exact trivial | intros)
        | (refine .inl ?_; (conv => whnf); refine ⟨_, _, v1, lvN (k := ?_)⟩; apply Cj.mk <;> first | exact trivial | intros)
        | (refine ⟨_, _, r1, lvN (k := ?_)⟩; apply Cj.mk <;> first | exact trivial | intros)
        | (refine .inl ?_; (conv => whnf); refine ⟨_, _, r1, lvN (k := ?_)⟩; apply Cj.mk <;> first | exact trivial | intros)
        | (refine lvE (k := ?_); apply Cj.mk <;> first | exact trivial | intros)
        | fail)
  · have hc1 := hc.c1
    have e0 : 0 ≤ k4 % 65536 % c.cells := Int.emod_nonneg _ (by omega)
    have e1 : k4 % 65536 % c.cells < c.cells := Int.emod_lt_of_pos _ (by omega)
    have hc64 := hc.c64
    have hl := hc.ll d d0 d1
    have hq : (c.next.map Ow)[d.toNat]? = some (Ow (nth c.next d)) := by rw [List.getElem?_map, nth_some d0 d1]; rfl
    have hm : ((nth c.next d).map I).length = (nth c.next d).length := List.length_map _
    refine drawJ [0, 1, 2, 3, 4, 5, 6, 8, 9, 10, 11, 12, 13, 14] [⟨0, 5, 1, .ref 3⟩, ⟨0, 5, 0, I c.cells⟩, ⟨0, 2, 3, S16 k4⟩] [] [(3, .tre 1 ((c.next.set d.toNat ((nth c.next d).take (k4 % 65536 % c.cells).toNat)).map Ow))] 6 (by decide +kernel) ?_
    conv => whnf
    refine And.intro ?_ ?_
    · repeat' (first
        | (refine lvD (k := ?_); apply Cj.mk <;> first | exact trivial | intros)
        | (refine cu16m ?_; conv => whnf)
        | (refine ⟨_, hq, ?_⟩; conv => whnf)
        | (refine And.intro (by omega) ?_; conv => whnf)
        | (refine ShowsJ.mk (by kernel_rfl) (by kernel_rfl) (by kernel_rfl) (lvL (k := ?_)) (lvL (k := ?_)) rfl <;> (first | (apply Cj.mk <;> first | exact trivial | intros) | skip))
        | (refine lvE (k := ?_); apply Cj.mk <;> first | exact trivial | intros)
        | fail)
      refine And.intro (by rw [List.length_set]; omega) ?_
      conv => whnf
      repeat' (first
        | (refine lvD (k := ?_); apply Cj.mk <;> first | exact trivial | intros)
        | (refine ⟨_, List.getElem?_set_self (by rw [cn]; omega), ?_⟩; conv => whnf)
        | ((with_reducible refine CalcL.mk ((c.next.set d.toNat ((nth c.next d).take (k4 % 65536 % c.cells).toNat)).map Ow) ?_ ?_); (first | exact backOw2 | (conv => whnf)))
        | (refine ShowsJ.mk (by kernel_rfl) (by kernel_rfl) (by kernel_rfl) (lvL (k := ?_)) (lvL (k := ?_)) rfl <;> (first | (apply Cj.mk <;> first | exact trivial | intros) | skip))
        | (refine lvE (k := ?_); apply Cj.mk <;> first | exact trivial | intros)
        | fail)
      exact bdOw _ _ ‹_›
    · have hrl : ((nth c.next d).take (k4 % 65536 % c.cells).toNat).length ≤ 9223372036854775807 := by rw [List.length_take]; omega
      generalize (nth c.next d).take (k4 % 65536 % c.cells).toNat = row at *
      conv => whnf
      repeat' (first
        | (refine lvD (k := ?_); apply Cj.mk <;> first | exact trivial | intros)
        | (refine ShowsJ.mk (by kernel_rfl) (by kernel_rfl) (by kernel_rfl) (lvL (k := ?_)) (lvL (k := ?_)) rfl <;> (first | (apply Cj.mk <;> first | exact trivial | intros) | skip))
        | (refine lvE (k := ?_); apply Cj.mk <;> first | exact trivial | intros)
        | fail)
      obtain ⟨e, he⟩ : ∃ e : Bd, e = ⟨c.cells, c.next.set d.toNat row, c.turn⟩ := ⟨_, rfl⟩
      have ha : e.any := by
        have hcl := (Bd.ok_any hc).l
        rw [he]
        exact ⟨(Bd.ok_any hc).c, by show (c.next.set d.toNat row).length ≤ _; rw [List.length_set]; exact (Bd.ok_any hc).n, by show ∀ q : Int, 0 ≤ q → q < ((c.next.set d.toNat row).length : Int) → (nth (c.next.set d.toNat row) q).length ≤ _; exact nth_set_len hcl hrl, (Bd.ok_any hc).t⟩
      have v1 := ValidA_p e ha
      have r1 := RValidA_p e ha
      obtain ⟨z, hz⟩ : ∃ z, z = decide e.ok := ⟨_, rfl⟩
      rw [← hz] at v1 r1
      clear hz
      subst he
      refine drawP [3, 4] ?_
      conv => whnf
      try dsimp only [St.after, St.afterAt, St.pin, St.unpin, initSt, initT, numO, cellsA, Option.map, ren, renL, renO, St.setObj, headSt, List.cons_append, List.nil_append, List.length_nil, Nat.reduceAdd]
      refine ⟨rfl, okOw _, .mk _ (lendOw _) ?_⟩
      conv => whnf
      cases z
      all_goals
        repeat' (first
          | (refine lvK (k := ?_); apply Cj.mk <;> first | exact trivial | intros)
          | (refine ⟨_, _, va, lvN (k := ?_)⟩; apply Cj.mk <;> first | exact trivial | intros)
          | (refine .inl ?_; (conv => whnf); refine ⟨_, _, va, lvN (k := ?_)⟩; apply Cj.mk <;> first | exact trivial | intros)
          | (refine ⟨_, _, ra, lvN (k := ?_)⟩; apply Cj.mk <;> first | exact trivial | intros)
          | (refine .inl ?_; (conv => whnf); refine ⟨_, _, ra, lvN (k := ?_)⟩; apply Cj.mk <;> first | exact trivial | intros)
          | (refine ⟨_, _, v1, lvN (k := ?_)⟩; apply Cj.mk <;> first | exact trivial | intros)
          | (refine .inl ?_; (conv => whnf); refine ⟨_, _, v1, lvN (k := ?_)⟩; apply Cj.mk <;> first | exact trivial | intros)
          | (refine ⟨_, _, r1, lvN (k := ?_)⟩; apply Cj.mk <;> first | exact trivial | intros)
          | (refine .inl ?_; (conv => whnf); refine ⟨_, _, r1, lvN (k := ?_)⟩; apply Cj.mk <;> first | exact trivial | intros)
          | (refine lvE (k := ?_); apply Cj.mk <;> first | exact trivial | intros)
          | fail)
set_option maxHeartbeats 8000000 in
set_option maxRecDepth 10000 in
theorem BoardValid_false (b : Bd) (hv : decide b.ok = false) (hb : -9223372036854775808 ≤ b.cells ∧ b.cells ≤ 9223372036854775807) (hbn : b.next.length ≤ 9223372036854775807) (hbl : ∀ d : Int, 0 ≤ d → d < b.next.length → (nth b.next d).length ≤ 9223372036854775807) (hbt : b.turn.length ≤ 9223372036854775807)
    (x : Rw) (hx : x.ok) (k1 k2 k3 k4 : Int) (w1 : -32768 ≤ k1 ∧ k1 ≤ 32767) (w2 : -32768 ≤ k2 ∧ k2 ≤ 32767) (w3 : -32768 ≤ k3 ∧ k3 ≤ 32767) (w4 : -32768 ≤ k4 ∧ k4 ≤ 32767) :
    Pure Try.prog 3 [b.av, x.av, .ag [S16 k1, S16 k2, S16 k3, S16 k4]] (Bo true) none := by
  have hc := Rw.wild_ok hx
  have hw := WildO_p x hx
  obtain ⟨c, hce⟩ : ∃ c, c = x.wild := ⟨_, rfl⟩
  rw [← hce] at hc hw
  obtain ⟨n0, n1, n2, n3, n4, n5, n6, n7, n8, n9, n10, n11, n12, n13, n14, n15, n16, n17, n18, n19, n20, n21, n22, n23, n24, n25, n26, n27, n28, n29, n30, n31, hns⟩ := list32 hx.l
  have hav : x.av = .ag [U x.cells, U x.dirs, U x.turn, U n0, U n1, U n2, U n3, U n4, U n5, U n6, U n7, U n8, U n9, U n10, U n11, U n12, U n13, U n14, U n15, U n16, U n17, U n18, U n19, U n20, U n21, U n22, U n23, U n24, U n25, U n26, U n27, U n28, U n29, U n30, U n31] := by unfold Rw.av; rw [hns]; rfl
  rw [hav] at hw ⊢
  clear hav hns
  have en : (b.next.map Is).length = b.next.length := List.length_map _
  have et : (b.turn.map I).length = b.turn.length := List.length_map _
  have cn : (c.next.map Ow).length = c.next.length := List.length_map _
  have ct : (c.turn.map I).length = c.turn.length := List.length_map _
  have v0 := ValidO_p c (Bd.ok_any hc)
  rw [decide_eq_true hc] at v0
  have va := ValidA_p b ⟨hb, hbn, hbl, hbt⟩
  have ra := RValidA_p b ⟨hb, hbn, hbl, hbt⟩
  rw [hv] at va ra
  refine fun_of tok D_ok Try.func3 rfl Try.ntmps3 Try.results3 (by kernel_rfl) (by simp) (by simp) ?_
  conv => whnf
  repeat' (first
    | (refine lvK (k := ?_); apply Cj.mk <;> first | exact trivial | intros)
    | (refine ⟨_, _, sanity_p, lvN (k := ?_)⟩; apply Cj.mk <;> first | exact trivial | intros)
    | (refine .inl ?_; (conv => whnf); refine ⟨_, _, sanity_p, lvN (k := ?_)⟩; apply Cj.mk <;> first | exact trivial | intros)
    | (refine .inr (.inl ?_); (conv => whnf); refine ⟨[], [], _, _, _, ⟨rfl, rfl, rfl⟩, hw, lvN (k := ?_)⟩; apply Cj.mk <;> first | exact trivial | intros)
    | (dsimp only [prs, renO]; rewrite [renOw])
    | (refine cu16m ?_; conv => whnf)
    | (refine .inl ?_; (conv => whnf); refine ⟨[3, 4], Bd.os c, [Bd.rf c], _, _, ⟨osOw _ (Bd.next c) (.arr 1 ((Bd.turn c).map I)), rfl, rfl⟩, v0, ?_⟩; dsimp only [prs, renO, Bd.os]; rewrite [renOw]; refine lvN (k := ?_); apply Cj.mk <;> first | exact trivial | intros)
    | fail)
  · repeat' (first
      | (refine lvA (k := ?_); apply Cj.mk <;> first | exact trivial | intros)
      | (refine lvE (k := ?_); apply Cj.mk <;> first | exact trivial | intros)
      | fail)
  · repeat' (first
      | (refine lvA (k := ?_); apply Cj.mk <;> first | exact trivial | intros)
      | (refine lvE (k := ?_); apply Cj.mk <;> first | exact trivial | intros)
      | fail)
  have q1 := hc.n1
  have q8 := hc.n8
  have qt := hc.tl
  obtain ⟨d, hd⟩ : ∃ d, (k1 % 65536).tmod ((c.next.map Ow).length : Int) = d := ⟨_, rfl⟩
  have d0 : 0 ≤ d := by rw [← hd]; exact Int.tmod_nonneg _ (by omega)
  have d1 : d < c.next.length := by rw [← hd, cn]; exact Int.tmod_lt_of_pos _ (by omega)
  refine And.intro (by omega) (Calc.mk d hd ?_); conv => whnf
  repeat' (first
    | (refine lvD (k := ?_); apply Cj.mk <;> first | exact trivial | intros)
    | (dsimp only [prs, renO]; rewrite [renOw])
    | (refine cu16m ?_; conv => whnf)
    | (refine ShowsJ.mk (by kernel_rfl) (by kernel_rfl) (by kernel_rfl) (lvL (k := ?_)) (lvL (k := ?_)) rfl <;> (first | (apply Cj.mk <;> first | exact trivial | intros) | skip))
    | (refine lvE (k := ?_); apply Cj.mk <;> first | exact trivial | intros)
    | fail)
  · obtain ⟨e, he⟩ : ∃ e : Bd, e = ⟨k3, c.next, c.turn⟩ := ⟨_, rfl⟩
    have ha : e.any := by rw [he]; exact ⟨by show _ ≤ k3 ∧ k3 ≤ _; omega, (Bd.ok_any hc).n, (Bd.ok_any hc).l, (Bd.ok_any hc).t⟩
    have v1 := ValidA_p e ha
    have r1 := RValidA_p e ha
    obtain ⟨z, hz⟩ : ∃ z, z = decide e.ok := ⟨_, rfl⟩
    rw [← hz] at v1 r1
    clear hz
    subst he
    refine drawP [3, 4] ?_
    conv => whnf
    try dsimp only [St.after, St.afterAt, St.pin, St.unpin, initSt, initT, numO, cellsA, Option.map, ren, renL, renO, St.setObj, headSt, List.cons_append, List.nil_append, List.length_nil, Nat.reduceAdd]
    refine ⟨rfl, okOw _, .mk _ (lendOw _) ?_⟩
    conv => whnf
    cases z
    all_goals
      repeat' (first
        | (refine lvK (k := ?_); apply Cj.mk <;> first | exact trivial | intros)
        | (refine ⟨_, _, va, lvN (k := ?_)⟩; apply Cj.mk <;> first | exact trivial | intros)
        | (refine .inl ?_; (conv => whnf); refine ⟨_, _, va, lvN (k := ?_)⟩; apply Cj.mk <;> first | exact trivial | intros)
        | (refine ⟨_, _, ra, lvN (k := ?_)⟩; apply Cj.mk <;> first | exact trivial | intros)
        | (refine .inl ?_; (conv => whnf); refine ⟨_, _, ra, lvN (k := ?_)⟩; apply Cj.mk <;> first | exact trivial | intros)
        | (refine ⟨_, _, v1, lvN (k := ?_)⟩; apply Cj.mk <;> first | exact trivial | intros)
        | (refine .inl ?_; (conv => whnf); refine ⟨_, _, v1, lvN (k := ?_)⟩; apply Cj.mk <;> first | exact trivial | intros)
        | (refine ⟨_, _, r1, lvN (k := ?_)⟩; apply Cj.mk <;> first | exact trivial | intros)
        | (refine .inl ?_; (conv => whnf); refine ⟨_, _, r1, lvN (k := ?_)⟩; apply Cj.mk <;> first | exact trivial | intros)
        | (refine lvE (k := ?_); apply Cj.mk <;> first | exact trivial | intros)
        | fail)
  · have hc1 := hc.c1
    have e0 : 0 ≤ k4 % 65536 % c.cells := Int.emod_nonneg _ (by omega)
    have e1 : k4 % 65536 % c.cells < c.cells := Int.emod_lt_of_pos _ (by omega)
    have hc64 := hc.c64
    have hl := hc.ll d d0 d1
    have hq : (c.next.map Ow)[d.toNat]? = some (Ow (nth c.next d)) := by rw [List.getElem?_map, nth_some d0 d1]; rfl
    have hm : ((nth c.next d).map I).length = (nth c.next d).length := List.length_map _
    refine drawJ [0, 1, 2, 3, 5, 6, 7, 8, 9, 10, 11, 12, 13, 14] [⟨0, 5, 1, .ref 3⟩, ⟨0, 5, 0, I c.cells⟩, ⟨0, 2, 3, S16 k4⟩, ⟨0, 2, 2, S16 k3⟩] [] [(3, .tre 1 ((c.next.set d.toNat ((nth c.next d).set (k4 % 65536 % c.cells).toNat k3)).map Ow))] 6 (by decide +kernel) ?_
    conv => whnf
    refine And.intro ?_ ?_
    · repeat' (first
        | (refine lvD (k := ?_); apply Cj.mk <;> first | exact trivial | intros)
        | (refine cu16m ?_; conv => whnf)
        | (refine ⟨_, hq, ?_⟩; conv => whnf)
        | ((with_reducible refine ShowsJ.of ?_); refine ⟨[(3, d.toNat, 6)], ?_⟩; (conv => whnf); refine ⟨List.getElem?_set_self (by rw [cn]; omega), ShowsJ0.mk (by kernel_rfl) (by kernel_rfl) (by kernel_rfl) (lvL (k := ?_)) (lvL (k := ?_)) rfl⟩ <;> (first | (apply Cj.mk <;> first | exact trivial | intros) | skip))
        | (refine ShowsJ.mk (by kernel_rfl) (by kernel_rfl) (by kernel_rfl) (lvL (k := ?_)) (lvL (k := ?_)) rfl <;> (first | (apply Cj.mk <;> first | exact trivial | intros) | skip))
        | (refine lvE (k := ?_); apply Cj.mk <;> first | exact trivial | intros)
        | fail)
      · exact backOw
      · rename_i hm2
        rw [backOw] at hm2
        exact bdOw _ _ hm2
    · have hrl : ((nth c.next d).set (k4 % 65536 % c.cells).toNat k3).length ≤ 9223372036854775807 := by rw [List.length_set]; omega
      generalize (nth c.next d).set (k4 % 65536 % c.cells).toNat k3 = row at *
      conv => whnf
      repeat' (first
        | (refine lvD (k := ?_); apply Cj.mk <;> first | exact trivial | intros)
        | (refine ShowsJ.mk (by kernel_rfl) (by kernel_rfl) (by kernel_rfl) (lvL (k := ?_)) (lvL (k := ?_)) rfl <;> (first | (apply Cj.mk <;> first | exact trivial | intros) | skip))
        | (refine lvE (k := ?_); apply Cj.mk <;> first | exact trivial | intros)
        | fail)
      obtain ⟨e, he⟩ : ∃ e : Bd, e = ⟨c.cells, c.next.set d.toNat row, c.turn⟩ := ⟨_, rfl⟩
      have ha : e.any := by
        have hcl := (Bd.ok_any hc).l
        rw [he]
        exact ⟨(Bd.ok_any hc).c, by show (c.next.set d.toNat row).length ≤ _; rw [List.length_set]; exact (Bd.ok_any hc).n, by show ∀ q : Int, 0 ≤ q → q < ((c.next.set d.toNat row).length : Int) → (nth (c.next.set d.toNat row) q).length ≤ _; exact nth_set_len hcl hrl, (Bd.ok_any hc).t⟩
      have v1 := ValidA_p e ha
      have r1 := RValidA_p e ha
      obtain ⟨z, hz⟩ : ∃ z, z = decide e.ok := ⟨_, rfl⟩
      rw [← hz] at v1 r1
      clear hz
      subst he
      refine drawP [3, 4] ?_
      conv => whnf
      try dsimp only [St.after, St.afterAt, St.pin, St.unpin, initSt, initT, numO, cellsA, Option.map, ren, renL, renO, St.setObj, headSt, List.cons_append, List.nil_append, List.length_nil, Nat.reduceAdd]
      refine ⟨rfl, okOw _, .mk _ (lendOw _) ?_⟩
      conv => whnf
      cases z
      all_goals
        repeat' (first
          | (refine lvK (k := ?_); apply Cj.mk <;> first | exact trivial | intros)
          | (refine ⟨_, _, va, lvN (k := ?_)⟩; apply Cj.mk <;> first | exact trivial | intros)
          | (refine .inl ?_; (conv => whnf); refine ⟨_, _, va, lvN (k := ?_)⟩; apply Cj.mk <;> first | exact trivial | intros)
          | (refine ⟨_, _, ra, lvN (k := ?_)⟩; apply Cj.mk <;> first | exact trivial | intros)
          | (refine .inl ?_; (conv => whnf); refine ⟨_, _, ra, lvN (k := ?_)⟩; apply Cj.mk <;> first | exact trivial | intros)
          | (refine ⟨_, _, v1, lvN (k := ?_)⟩; apply Cj.mk <;> first | exact trivial | intros)
          | (refine .inl ?_; (conv => whnf); refine ⟨_, _, v1, lvN (k := ?_)⟩; apply Cj.mk <;> first | exact trivial | intros)
          | (refine ⟨_, _, r1, lvN (k := ?_)⟩; apply Cj.mk <;> first | exact trivial | intros)
          | (refine .inl ?_; (conv => whnf); refine ⟨_, _, r1, lvN (k := ?_)⟩; apply Cj.mk <;> first | exact trivial | intros)
          | (refine lvE (k := ?_); apply Cj.mk <;> first | exact trivial | intros)
          | fail)
  · obtain ⟨e, he⟩ : ∃ e : Bd, e = ⟨c.cells, c.next, c.turn.set d.toNat k3⟩ := ⟨_, rfl⟩
    have ha : e.any := by rw [he]; exact ⟨(Bd.ok_any hc).c, (Bd.ok_any hc).n, (Bd.ok_any hc).l, by show (c.turn.set d.toNat k3).length ≤ _; simp only [List.length_set, List.length_take]; omega⟩
    have v1 := ValidA_p e ha
    have r1 := RValidA_p e ha
    obtain ⟨z, hz⟩ : ∃ z, z = decide e.ok := ⟨_, rfl⟩
    rw [← hz] at v1 r1
    clear hz
    subst he
    refine drawP [3, 4] ?_
    conv => whnf
    try dsimp only [St.after, St.afterAt, St.pin, St.unpin, initSt, initT, numO, cellsA, Option.map, ren, renL, renO, St.setObj, headSt, List.cons_append, List.nil_append, List.length_nil, Nat.reduceAdd]
    refine ⟨rfl, okOw _, .mk _ (lendOw _) ?_⟩
    conv => whnf
    cases z
    all_goals
      repeat' (first
        | (refine lvK (k := ?_); apply Cj.mk <;> first | exact trivial | intros)
        | (refine ⟨_, _, va, lvN (k := ?_)⟩; apply Cj.mk <;> first | exact trivial | intros)
        | (refine .inl ?_; (conv => whnf); refine ⟨_, _, va, lvN (k := ?_)⟩; apply Cj.mk <;> first | exact trivial | intros)
        | (refine ⟨_, _, ra, lvN (k := ?_)⟩; apply Cj.mk <;> first | exact trivial | intros)
        | (refine .inl ?_; (conv => whnf); refine ⟨_, _, ra, lvN (k := ?_)⟩; apply Cj.mk <;> first | exact trivial | intros)
        | (refine ⟨_, _, v1, lvN (k := ?_)⟩; apply Cj.mk <;> first | exact trivial | intros)
        | (refine .inl ?_; (conv => whnf); refine ⟨_, _, v1, lvN (k := ?_)⟩; apply Cj.mk <;> first | exact trivial | intros)
        | (refine ⟨_, _, r1, lvN (k := ?_)⟩; apply Cj.mk <;> first | exact trivial | intros)
        | (refine .inl ?_; (conv => whnf); refine ⟨_, _, r1, lvN (k := ?_)⟩; apply Cj.mk <;> first | exact trivial | intros)
        | (refine lvE (k := ?_); apply Cj.mk <;> first | exact trivial | intros)
        | fail)
  · repeat' (first
      | (refine lvD (k := ?_); apply Cj.mk <;> first | exact trivial | intros)
      | (refine And.intro (by omega) ?_; conv => whnf)
      | (refine ShowsJ.mk (by kernel_rfl) (by kernel_rfl) (by kernel_rfl) (lvL (k := ?_)) (lvL (k := ?_)) rfl <;> (first | (apply Cj.mk <;> first | exact trivial | intros) | skip))
      | (refine lvE (k := ?_); apply Cj.mk <;> first | exact trivial | intros)
      | fail)
    obtain ⟨e, he⟩ : ∃ e : Bd, e = ⟨c.cells, c.next, c.turn.take d.toNat⟩ := ⟨_, rfl⟩
    have ha : e.any := by rw [he]; exact ⟨(Bd.ok_any hc).c, (Bd.ok_any hc).n, (Bd.ok_any hc).l, by show (c.turn.take d.toNat).length ≤ _; simp only [List.length_set, List.length_take]; omega⟩
    have v1 := ValidA_p e ha
    have r1 := RValidA_p e ha
    obtain ⟨z, hz⟩ : ∃ z, z = decide e.ok := ⟨_, rfl⟩
    rw [← hz] at v1 r1
    clear hz
    subst he
    rw [show List.drop (Int.toNat 0) (List.take d.toNat (List.map I c.turn)) = (c.turn.take d.toNat).map I from by rw [List.map_take]; rfl]
    refine drawP [3, 6] ?_
    conv => whnf
    try dsimp only [St.after, St.afterAt, St.pin, St.unpin, initSt, initT, numO, cellsA, Option.map, ren, renL, renO, St.setObj, headSt, List.cons_append, List.nil_append, List.length_nil, Nat.reduceAdd]
    refine ⟨rfl, okOw _, .mk _ (lendOw _) ?_⟩
    conv => whnf
    cases z
    all_goals
      repeat' (first
        | (refine lvK (k := ?_); apply Cj.mk <;> first | exact trivial | intros)
        | (refine ⟨_, _, va, lvN (k := ?_)⟩; apply Cj.mk <;> first | exact trivial | intros)
        | (refine .inl ?_; (conv => whnf); refine ⟨_, _, va, lvN (k := ?_)⟩; apply Cj.mk <;> first | exact trivial | intros)
        | (refine ⟨_, _, ra, lvN (k := ?_)⟩; apply Cj.mk <;> first | exact trivial | intros)
        | (refine .inl ?_; (conv => whnf); refine ⟨_, _, ra, lvN (k := ?_)⟩; apply Cj.mk <;> first | exact trivial | intros)
        | (refine ⟨_, _, v1, lvN (k := ?_)⟩; apply Cj.mk <;> first | exact trivial | intros)
        | (refine .inl ?_; (conv => whnf); refine ⟨_, _, v1, lvN (k := ?_)⟩; apply Cj.mk <;> first | exact trivial | intros)
        | (refine ⟨_, _, r1, lvN (k := ?_)⟩; apply Cj.mk <;> first | exact trivial | intros)
        | (refine .inl ?_; (conv => whnf); refine ⟨_, _, r1, lvN (k := ?_)⟩; apply Cj.mk <;> first | exact trivial | intros)
        | (refine lvE (k := ?_); apply Cj.mk <;> first | exact trivial | intros)
        | fail)
  · have hc1 := hc.c1
    have e0 : 0 ≤ k4 % 65536 % c.cells := Int.emod_nonneg _ (by omega)
    have e1 : k4 % 65536 % c.cells < c.cells := Int.emod_lt_of_pos _ (by omega)
    have hc64 := hc.c64
    have hl := hc.ll d d0 d1
    have hq : (c.next.map Ow)[d.toNat]? = some (Ow (nth c.next d)) := by rw [List.getElem?_map, nth_some d0 d1]; rfl
    have hm : ((nth c.next d).map I).length = (nth c.next d).length := List.length_map _
    refine drawJ [0, 1, 2, 3, 4, 5, 6, 8, 9, 10, 11, 12, 13, 14] [⟨0, 5, 1, .ref 3⟩, ⟨0, 5, 0, I c.cells⟩, ⟨0, 2, 3, S16 k4⟩] [] [(3, .tre 1 ((c.next.set d.toNat ((nth c.next d).take (k4 % 65536 % c.cells).toNat)).map Ow))] 6 (by decide +kernel) ?_
    conv => whnf
    refine And.intro ?_ ?_
    · repeat' (first
        | (refine lvD (k := ?_); apply Cj.mk <;> first | exact trivial | intros)
        | (refine cu16m ?_; conv => whnf)
        | (refine ⟨_, hq, ?_⟩; conv => whnf)
        | (refine And.intro (by omega) ?_; conv => whnf)
        | (refine ShowsJ.mk (by kernel_rfl) (by kernel_rfl) (by kernel_rfl) (lvL (k := ?_)) (lvL (k := ?_)) rfl <;> (first | (apply Cj.mk <;> first | exact trivial | intros) | skip))
        | (refine lvE (k := ?_); apply Cj.mk <;> first | exact trivial | intros)
        | fail)
      refine And.intro (by rw [List.length_set]; omega) ?_
      conv => whnf
      repeat' (first
        | (refine lvD (k := ?_); apply Cj.mk <;> first | exact trivial | intros)
        | (refine ⟨_, List.getElem?_set_self (by rw [cn]; omega), ?_⟩; conv => whnf)
        | ((with_reducible refine CalcL.mk ((c.next.set d.toNat ((nth c.next d).take (k4 % 65536 % c.cells).toNat)).map Ow) ?_ ?_); (first | exact backOw2 | (conv => whnf)))
        | (refine ShowsJ.mk (by kernel_rfl) (by kernel_rfl) (by kernel_rfl) (lvL (k := ?_)) (lvL (k := ?_)) rfl <;> (first | (apply Cj.mk <;> first | exact trivial | intros) | skip))
        | (refine lvE (k := ?_); apply Cj.mk <;> first | exact trivial | intros)
        | fail)
      exact bdOw _ _ ‹_›
    · have hrl : ((nth c.next d).take (k4 % 65536 % c.cells).toNat).length ≤ 9223372036854775807 := by rw [List.length_take]; omega
      generalize (nth c.next d).take (k4 % 65536 % c.cells).toNat = row at *
      conv => whnf
      repeat' (first
        | (refine lvD (k := ?_); apply Cj.mk <;> first | exact trivial | intros)
        | (refine ShowsJ.mk (by kernel_rfl) (by kernel_rfl) (by kernel_rfl) (lvL (k := ?_)) (lvL (k := ?_)) rfl <;> (first | (apply Cj.mk <;> first | exact trivial | intros) | skip))
        | (refine lvE (k := ?_); apply Cj.mk <;> first | exact trivial | intros)
        | fail)
      obtain ⟨e, he⟩ : ∃ e : Bd, e = ⟨c.cells, c.next.set d.toNat row, c.turn⟩ := ⟨_, rfl⟩
      have ha : e.any := by
        have hcl := (Bd.ok_any hc).l
        rw [he]
        exact ⟨(Bd.ok_any hc).c, by show (c.next.set d.toNat row).length ≤ _; rw [List.length_set]; exact (Bd.ok_any hc).n, by show ∀ q : Int, 0 ≤ q → q < ((c.next.set d.toNat row).length : Int) → (nth (c.next.set d.toNat row) q).length ≤ _; exact nth_set_len hcl hrl, (Bd.ok_any hc).t⟩
      have v1 := ValidA_p e ha
      have r1 := RValidA_p e ha
      obtain ⟨z, hz⟩ : ∃ z, z = decide e.ok := ⟨_, rfl⟩
      rw [← hz] at v1 r1
      clear hz
      subst he
      refine drawP [3, 4] ?_
      conv => whnf
      try dsimp only [St.after, St.afterAt, St.pin, St.unpin, initSt, initT, numO, cellsA, Option.map, ren, renL, renO, St.setObj, headSt, List.cons_append, List.nil_append, List.length_nil, Nat.reduceAdd]
      refine ⟨rfl, okOw _, .mk _ (lendOw _) ?_⟩
      conv => whnf
      cases z
      all_goals
        repeat' (first
          | (refine lvK (k := ?_); apply Cj.mk <;> first | exact trivial | intros)
          | (refine ⟨_, _, va, lvN (k := ?_)⟩; apply Cj.mk <;> first | exact trivial | intros)
          | (refine .inl ?_; (conv => whnf); refine ⟨_, _, va, lvN (k := ?_)⟩; apply Cj.mk <;> first | exact trivial | intros)
          | (refine ⟨_, _, ra, lvN (k := ?_)⟩; apply Cj.mk <;> first | exact trivial | intros)
          | (refine .inl ?_; (conv => whnf); refine ⟨_, _, ra, lvN (k := ?_)⟩; apply Cj.mk <;> first | exact trivial | intros)
          | (refine ⟨_, _, v1, lvN (k := ?_)⟩; apply Cj.mk <;> first | exact trivial | intros)
          | (refine .inl ?_; (conv => whnf); refine ⟨_, _, v1, lvN (k := ?_)⟩; apply Cj.mk <;> first | exact trivial | intros)
          | (refine ⟨_, _, r1, lvN (k := ?_)⟩; apply Cj.mk <;> first | exact trivial | intros)
          | (refine .inl ?_; (conv => whnf); refine ⟨_, _, r1, lvN (k := ?_)⟩; apply Cj.mk <;> first | exact trivial | intros)
          | (refine lvE (k := ?_); apply Cj.mk <;> first | exact trivial | intros)
          | fail)
end Go.Proofs.Ytkecpgidolphfaa
