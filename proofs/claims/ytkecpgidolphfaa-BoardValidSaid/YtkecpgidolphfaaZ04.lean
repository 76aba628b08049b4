/- Contracts of functions of the program, proved by the checker; and plain laws. -/
import Derived.Test.YtkecpgidolphfaaZ03
import Derived.Test.YtkecpgidolphfaaZ00
import Derived.Test.YtkecpgidolphfaaZ02
set_option linter.unusedVariables false
set_option linter.unusedSimpArgs false
namespace Go.Proofs.Ytkecpgidolphfaa
open Go Go.Sk
def lkA (l : List (List Int)) (i v : Int) : List (List Int) := l.set i.toNat (nth l i ++ [v])
def lk1 (c : Int) (l : List (List Int)) (x : Int) : List (List Int) := lkA (lkA l c x) x c
def Bd.lkR (b : Bd) (l : List (List Int)) (c : Int) : List (List Int) := (b.near c).foldl (lk1 c) l
def Bd.lks0 (b : Bd) : List (List Int) := List.replicate b.cells.toNat []
def Bd.lks (b : Bd) : List (List Int) := (ints b.cells).foldl b.lkR b.lks0
def pq1 (lk : Int → List Int) (out : List Int) (c : Int) : List Int := if 0 ≤ nth out c then out else bqR lk (fun _ _ => c) 66 (out.set c.toNat c) [c]
def Bd.partsQ (b : Bd) : List Int := (ints b.cells).foldl (pq1 (nth b.lks)) (List.replicate b.cells.toNat (-1))
structure LI (m : Int) (u : Nat) (l : List (List Int)) : Prop where
  len : (l.length : Int) = m
  rg : ∀ r, r ∈ l → r.length ≤ u ∧ ∀ x, x ∈ r → 0 ≤ x ∧ x < m
theorem LI.add {m : Int} {u : Nat} {l : List (List Int)} (h : LI m u l) {i v : Int} (i0 : 0 ≤ i) (i1 : i < m) (v0 : 0 ≤ v) (v1 : v < m) : LI m (u + 1) (lkA l i v) := by
  have hl := h.len
  have hr := h.rg (nth l i) (nth_mem i0 (by omega))
  refine ⟨by unfold lkA; rw [List.length_set]; exact hl, fun r hr' => ?_⟩
  rcases List.mem_or_eq_of_mem_set hr' with hm | rfl
  · exact ⟨Nat.le_succ_of_le (h.rg r hm).1, (h.rg r hm).2⟩
  · refine ⟨by rw [List.length_append]; simp; exact hr.1, fun x hx => ?_⟩
    rcases List.mem_append.1 hx with hx | hx
    · exact hr.2 x hx
    · simp at hx; subst hx; exact ⟨v0, v1⟩
theorem LI.one {m : Int} {u : Nat} {l : List (List Int)} (h : LI m u l) {c x : Int} (c0 : 0 ≤ c) (c1 : c < m) (x0 : 0 ≤ x) (x1 : x < m) : LI m (u + 2) (lk1 c l x) := (h.add c0 c1 x0 x1).add x0 x1 c0 c1
theorem LI.weak {m : Int} {u u' : Nat} {l : List (List Int)} (h : LI m u l) (hu : u ≤ u') : LI m u' l := ⟨h.len, fun r hr => ⟨Nat.le_trans (h.rg r hr).1 hu, (h.rg r hr).2⟩⟩
theorem LI.zero (b : Bd) (hb : b.ok) : LI b.cells 0 b.lks0 := by
  have := hb.c1
  refine ⟨by unfold Bd.lks0; rw [List.length_replicate]; omega, fun r hr => ?_⟩
  rw [(List.mem_replicate.1 hr).2]
  exact ⟨Nat.le_refl _, fun x hx => by simp at hx⟩
structure LS where
  i : Int
  l : List (List Int)
structure LsI (m c : Int) (u : Nat) (l0 : List (List Int)) (L : List Int) (s : LS) : Prop where
  i0 : 0 ≤ s.i
  i1 : s.i ≤ L.length
  e : s.l = (L.take s.i.toNat).foldl (lk1 c) l0
  li : LI m (u + 2 * s.i.toNat) s.l
theorem LsI.next {m c : Int} {u : Nat} {l0 : List (List Int)} {L : List Int} {s : LS} (h : LsI m c u l0 L s) (c0 : 0 ≤ c) (c1 : c < m) (hL : ∀ x, x ∈ L → 0 ≤ x ∧ x < m) (hi : s.i < L.length) : LsI m c u l0 L ⟨s.i + 1, lk1 c s.l (nth L s.i)⟩ := by
  have h0 := h.i0
  have hx := hL _ (nth_mem h0 hi)
  refine ⟨by simp only; omega, by simp only; omega, ?_, (h.li.one c0 c1 hx.1 hx.2).weak (by simp only; omega)⟩
  simp only
  rw [take_snoc h0 hi, List.foldl_append, ← h.e]; rfl
theorem tsW {l : List (List Int)} {i v : Int} {p : Nat} {K : List AV → Prop} (h0 : 0 ≤ i) (h1 : i < l.length) (k : K ((lkA l i v).map Ow)) :
    ∃ e, ((l.map Ow).set i.toNat (.ref p))[i.toNat]? = some e ∧ CalcL (((l.map Ow).set i.toNat (.ref p)).set i.toNat (newElem e 0 [.own 1 ((nth l i ++ [v]).map I)] (.own 1 ((nth l i ++ [v]).map I)))) K := by
  refine ⟨.ref p, by rw [List.getElem?_set_self (by rw [List.length_map]; omega)], .mk _ ?_ k⟩
  rw [List.set_set]
  unfold lkA
  rw [List.map_set]
  rfl
theorem QI.one {m : Int} (hm : m ≤ 64) {out : List Int} (hl : (out.length : Int) = m) {c : Int} (h0 : 0 ≤ c) (h1 : c < m) : QI m 66 (out.set c.toNat c) [c] := by
  refine ⟨by rw [List.length_set]; exact hl, fun x hx => ?_, ?_⟩
  · simp at hx
    subst hx
    exact ⟨h0, h1, by rw [nth_set_eq h0 (by omega)]; exact h0⟩
  · have := neg_le (out.set c.toNat c)
    rw [List.length_set] at this
    simp only [List.length_cons, List.length_nil]
    omega
theorem UB.set {u : Int} {l : List Int} (h : UB u l) {n : Int} (hn : n ≤ u) (i : Nat) : UB u (l.set i n) := fun x hx => by
  rcases List.mem_or_eq_of_mem_set hx with hx | rfl
  · exact h x hx
  · exact hn
set_option maxHeartbeats 4000000 in
set_option maxRecDepth 10000 in
theorem Parts18_p (b : Bd) (hb : b.ok) : Pure Try.prog 18 [b.av] (.ref 0) (some (.arr 1 (b.partsQ.map I))) := by
  refine fun_of tok D_ok Try.func18 rfl Try.ntmps18 Try.results18 (by kernel_rfl) (by simp) (by simp) ?_
  have c6 := hb.c64
  have c1 := hb.c1
  conv => whnf
  iterate 5 (all_goals (try ((first
    | (refine Ck.mk ?_)
    | (refine ifD (fun _ => ?_) (fun _ => ?_))
    | (refine ifE (fun _ => ?_) (fun _ => ?_))
    | (refine ifN (fun _ => ?_) (fun _ => ?_))
    | ((with_reducible refine natI ?_))
    | ((with_reducible refine ifNot ?_))
    | ((with_reducible refine ifAndD (fun _ _ => ?_) (fun _ => ?_)))
    | ((with_reducible refine ifAnd (fun _ _ => ?_) (fun _ => ?_)))
    | (refine ixM (by omega) (by first | omega | (simp only [List.length_set, List.length_map, List.length_append, List.length_cons, List.length_nil, List.length_replicate]; omega)) rfl ?_)
    | (refine ixA (by omega) (by first | omega | (simp only [List.length_set, List.length_map, List.length_append, List.length_cons, List.length_nil, List.length_replicate]; omega)) ?_)
    | (refine ltM (by omega) (by first | omega | (simp only [List.length_set, List.length_map, List.length_append, List.length_cons, List.length_nil, List.length_replicate]; omega)) ?_)
    | (refine calI (by omega) ?_)
    | (refine cu8 (by omega) ?_)
    | (refine cu64 (by omega) ?_)
    | (refine And.intro (by omega) ?_; refine crem (by omega) ?_)
    | (refine And.intro (by omega) ?_; refine cquo (by omega) ?_)
    | ((with_reducible refine preI ?_); (first | refine preNil ?_ | refine preOp rfl rfl ?_ | refine preT rfl rfl rfl rfl ?_ | refine preF rfl rfl rfl rfl ?_ | refine preTS rfl rfl rfl rfl ?_ | refine preFS rfl rfl rfl rfl ?_ | refine preSkip rfl rfl rfl rfl ?_ | refine preGT rfl rfl rfl rfl ?_ | refine preGF rfl rfl rfl rfl ?_))
    | (refine AltS.own (by assumption) ?_)
    | (refine AltS.im ?_)
    | (refine AltT.own (by assumption) ?_)
    | (refine AltT.im ?_)
    | (refine NilK.mk (fun _ => ?_) ?_)
    | (refine AltV.own (by assumption) ?_)
    | (refine AltV.im ?_)
    | ((first | refine drawA2 (by decide +kernel) ?_ | refine drawA (by decide +kernel) ?_ | refine drawL (by decide +kernel) ?_); conv => whnf; (try dsimp only [St.after, St.afterAt, St.pin, St.unpin, initSt, initT, numO, cellsA, Option.map, ren, renL, renO, St.setObj, headSt, List.cons_append, List.nil_append, List.length_nil, Nat.reduceAdd]); try (conv => enter [7, 3]; whnf))
    | (refine ap1 (by decide) (by omega) rfl rfl ?_)
    | (refine ap0 (by decide) rfl ?_)
    | (refine apL (by decide) (by omega) (fun _ => rfl) ?_)
    | (refine apM (by decide) (by omega) (fun _ => rfl) ?_)
    | (refine setI (z := _) rfl ?_)
    | (refine And.intro (by omega) (And.intro (by omega) ?_))
    | (refine ifB_intro (fun _ => ?_) (fun _ => ?_))) <;> (conv => whnf; try dsimp only [St.after, St.afterAt, St.pin, St.unpin, initSt, initT, numO, cellsA, Option.map, ren, renL, renO, St.setObj, headSt, List.cons_append, List.nil_append, List.length_nil, Nat.reduceAdd]))))
  refine ⟨by omega, (mkI (b := 24) (K := True) (by decide) (by omega) (by omega) trivial).2.2.2.1, .inr ?_⟩
  conv => whnf
  refine .of (fun c => [(17, I c)]) (fun c => [(1, .tre 1 (((ints c).foldl b.lkR b.lks0).map Ow))]) 2 (fun c => 0 ≤ c ∧ c ≤ b.cells ∧ LI b.cells (128 * c.toNat) ((ints c).foldl b.lkR b.lks0)) (fun c => (b.cells - c).toNat) 0 ?_
  conv => whnf
  refine ⟨⟨[], (by kernel_rfl), (by kernel_rfl), (by kernel_rfl), ?_, ?_⟩, ?_, fun c ⟨h0, h1, hl⟩ => ?_⟩
  rotate_left 1
  focus
    conv => whnf
    repeat' (first
      | exact trivial
      | with_reducible rfl
      | (refine srcI ?_; kernel_rfl)
      | (refine nsI ?_; kernel_rfl)
      | (refine And.intro ?_ ?_ <;> conv => whnf; try dsimp only [St.after, St.afterAt, St.pin, St.unpin, initSt, initT, numO, cellsA, Option.map, ren, renL, renO, St.setObj, headSt, List.cons_append, List.nil_append, List.length_nil, Nat.reduceAdd])
      | rfl)
  rotate_right 1
  focus
    conv => whnf
    repeat' (first
      | exact trivial
      | with_reducible rfl
      | (refine srcI ?_; kernel_rfl)
      | (refine nsI ?_; kernel_rfl)
      | (refine And.intro ?_ ?_ <;> conv => whnf; try dsimp only [St.after, St.afterAt, St.pin, St.unpin, initSt, initT, numO, cellsA, Option.map, ren, renL, renO, St.setObj, headSt, List.cons_append, List.nil_append, List.length_nil, Nat.reduceAdd])
      | rfl)
  rotate_right 1
  focus
    conv => whnf
  rotate_left 1
  · rw [ints_zero]; unfold Bd.lks0; rw [List.foldl_nil, List.map_replicate]; rfl
  · intro e he; rw [(List.mem_replicate.1 he).2]; exact ⟨trivial, trivial⟩
  · exact ⟨by omega, by omega, by rw [ints_zero]; exact LI.zero b hb⟩
  have hll := hl.len
  have hrep : (List.replicate b.cells.toNat (AV.own ti3.size [])).length = b.cells.toNat := List.length_replicate
  repeat' ((first
    | (refine Ck.mk ?_)
    | (refine ifD (fun _ => ?_) (fun _ => ?_))
    | (refine ifE (fun _ => ?_) (fun _ => ?_))
    | (refine ifN (fun _ => ?_) (fun _ => ?_))
    | ((with_reducible refine natI ?_))
    | ((with_reducible refine ifNot ?_))
    | ((with_reducible refine ifAndD (fun _ _ => ?_) (fun _ => ?_)))
    | ((with_reducible refine ifAnd (fun _ _ => ?_) (fun _ => ?_)))
    | (refine ixM (by omega) (by first | omega | (simp only [List.length_set, List.length_map, List.length_append, List.length_cons, List.length_nil, List.length_replicate]; omega)) rfl ?_)
    | (refine ixA (by omega) (by first | omega | (simp only [List.length_set, List.length_map, List.length_append, List.length_cons, List.length_nil, List.length_replicate]; omega)) ?_)
    | (refine ltM (by omega) (by first | omega | (simp only [List.length_set, List.length_map, List.length_append, List.length_cons, List.length_nil, List.length_replicate]; omega)) ?_)
    | (refine calI (by omega) ?_)
    | (refine cu8 (by omega) ?_)
    | (refine cu64 (by omega) ?_)
    | (refine And.intro (by omega) ?_; refine crem (by omega) ?_)
    | (refine And.intro (by omega) ?_; refine cquo (by omega) ?_)
    | (refine ⟨_, _, Near22_p b hb c, ?_⟩)
    | (refine .inl ?_; (conv => whnf); refine ⟨_, _, Near22_p b hb c, ?_⟩)
    | ((with_reducible refine preI ?_); (first | refine preNil ?_ | refine preOp rfl rfl ?_ | refine preT rfl rfl rfl rfl ?_ | refine preF rfl rfl rfl rfl ?_ | refine preTS rfl rfl rfl rfl ?_ | refine preFS rfl rfl rfl rfl ?_ | refine preSkip rfl rfl rfl rfl ?_ | refine preGT rfl rfl rfl rfl ?_ | refine preGF rfl rfl rfl rfl ?_))
    | (refine AltS.own (by assumption) ?_)
    | (refine AltS.im ?_)
    | (refine AltT.own (by assumption) ?_)
    | (refine AltT.im ?_)
    | (refine NilK.mk (fun _ => ?_) ?_)
    | (refine AltV.own (by assumption) ?_)
    | (refine AltV.im ?_)
    | ((first | refine drawA2 (by decide +kernel) ?_ | refine drawA (by decide +kernel) ?_ | refine drawL (by decide +kernel) ?_); conv => whnf; (try dsimp only [St.after, St.afterAt, St.pin, St.unpin, initSt, initT, numO, cellsA, Option.map, ren, renL, renO, St.setObj, headSt, List.cons_append, List.nil_append, List.length_nil, Nat.reduceAdd]); try (conv => enter [7, 3]; whnf))
    | (refine ap1 (by decide) (by omega) rfl rfl ?_)
    | (refine ap0 (by decide) rfl ?_)
    | (refine apL (by decide) (by omega) (fun _ => rfl) ?_)
    | (refine apM (by decide) (by omega) (fun _ => rfl) ?_)
    | (refine setI (z := _) rfl ?_)
    | (refine And.intro (by omega) (And.intro (by omega) ?_))
    | (refine ifB_intro (fun _ => ?_) (fun _ => ?_))) <;> (conv => whnf; try dsimp only [St.after, St.afterAt, St.pin, St.unpin, initSt, initT, numO, cellsA, Option.map, ren, renL, renO, St.setObj, headSt, List.cons_append, List.nil_append, List.length_nil, Nat.reduceAdd]))
  ·
    have hnl := near_len b c
    have hnr : ∀ x, x ∈ b.near c → 0 ≤ x ∧ x < b.cells := fun x hx => near_mem hx
    refine .of (fun s => [(24, I s.i)]) (fun s => [(1, .tre 1 (s.l.map Ow))]) 3 (fun s => LsI b.cells c (128 * c.toNat) ((ints c).foldl b.lkR b.lks0) (b.near c) s) (fun s => ((b.near c).length - s.i).toNat) (⟨0, (ints c).foldl b.lkR b.lks0⟩ : LS) ?_
    conv => whnf
    refine ⟨⟨[], (by kernel_rfl), (by kernel_rfl), (by kernel_rfl), ?_, ?_⟩, ?_, fun s hs => ?_⟩
    rotate_left 1
    focus
      conv => whnf
      repeat' (first
        | exact trivial
        | with_reducible rfl
        | (refine srcI ?_; kernel_rfl)
        | (refine nsI ?_; kernel_rfl)
        | (refine And.intro ?_ ?_ <;> conv => whnf; try dsimp only [St.after, St.afterAt, St.pin, St.unpin, initSt, initT, numO, cellsA, Option.map, ren, renL, renO, St.setObj, headSt, List.cons_append, List.nil_append, List.length_nil, Nat.reduceAdd])
        | rfl)
    rotate_right 1
    focus
      conv => whnf
      repeat' (first
        | exact trivial
        | with_reducible rfl
        | (refine srcI ?_; kernel_rfl)
        | (refine nsI ?_; kernel_rfl)
        | (refine And.intro ?_ ?_ <;> conv => whnf; try dsimp only [St.after, St.afterAt, St.pin, St.unpin, initSt, initT, numO, cellsA, Option.map, ren, renL, renO, St.setObj, headSt, List.cons_append, List.nil_append, List.length_nil, Nat.reduceAdd])
        | rfl)
    rotate_right 1
    focus
      conv => whnf
    rotate_left 1
    · exact bdOw _
    · exact ⟨Int.le_refl _, Int.natCast_nonneg _, rfl, hl⟩
    have s0 := hs.i0
    have s1 := hs.i1
    have sl := hs.li.len
    have hx := fun (h : s.i < (b.near c).length) => hnr _ (nth_mem s0 h)
    have hsm : (s.l.map Ow).length = s.l.length := List.length_map _
    have hnm : ((b.near c).map I).length = (b.near c).length := List.length_map _
    have hcl : c < b.cells := by omega
    have hrc := (hs.li.rg (nth s.l c) (nth_mem h0 (by omega))).1
    have hrx := fun (h : s.i < (b.near c).length) => ((hs.li.add h0 hcl (hx h).1 (hx h).2).rg (nth (lkA s.l c (nth (b.near c) s.i)) (nth (b.near c) s.i)) (nth_mem (hx h).1 (by rw [(hs.li.add h0 hcl (hx h).1 (hx h).2).len]; exact (hx h).2))).1
    have hla := fun (h : s.i < (b.near c).length) => (hs.li.add h0 hcl (hx h).1 (hx h).2).len
    repeat' ((first
      | (refine Ck.mk ?_)
      | (refine ifD (fun _ => ?_) (fun _ => ?_))
      | (refine ifE (fun _ => ?_) (fun _ => ?_))
      | (refine ifN (fun _ => ?_) (fun _ => ?_))
      | ((with_reducible refine natI ?_))
      | ((with_reducible refine ifNot ?_))
      | ((with_reducible refine ifAndD (fun _ _ => ?_) (fun _ => ?_)))
      | ((with_reducible refine ifAnd (fun _ _ => ?_) (fun _ => ?_)))
      | (refine ixM (by omega) (by first | omega | (simp only [List.length_set, List.length_map, List.length_append, List.length_cons, List.length_nil, List.length_replicate]; omega)) rfl ?_)
      | (refine ixA (by omega) (by first | omega | (simp only [List.length_set, List.length_map, List.length_append, List.length_cons, List.length_nil, List.length_replicate]; omega)) ?_)
      | (refine ltM (by omega) (by first | omega | (simp only [List.length_set, List.length_map, List.length_append, List.length_cons, List.length_nil, List.length_replicate]; omega)) ?_)
      | (refine calI (by omega) ?_)
      | (refine cu8 (by omega) ?_)
      | (refine cu64 (by omega) ?_)
      | (refine And.intro (by omega) ?_; refine crem (by omega) ?_)
      | (refine And.intro (by omega) ?_; refine cquo (by omega) ?_)
      | (refine ⟨by omega, by (simp only [List.length_set, List.length_map]; omega), ?_⟩; conv => whnf)
      | (refine tsW (by omega) (by omega) ?_; conv => whnf)
      | ((with_reducible refine preI ?_); (first | refine preNil ?_ | refine preOp rfl rfl ?_ | refine preT rfl rfl rfl rfl ?_ | refine preF rfl rfl rfl rfl ?_ | refine preTS rfl rfl rfl rfl ?_ | refine preFS rfl rfl rfl rfl ?_ | refine preSkip rfl rfl rfl rfl ?_ | refine preGT rfl rfl rfl rfl ?_ | refine preGF rfl rfl rfl rfl ?_))
      | (refine AltS.own (by assumption) ?_)
      | (refine AltS.im ?_)
      | (refine AltT.own (by assumption) ?_)
      | (refine AltT.im ?_)
      | (refine NilK.mk (fun _ => ?_) ?_)
      | (refine AltV.own (by assumption) ?_)
      | (refine AltV.im ?_)
      | ((first | refine drawA2 (by decide +kernel) ?_ | refine drawA (by decide +kernel) ?_ | refine drawL (by decide +kernel) ?_); conv => whnf; (try dsimp only [St.after, St.afterAt, St.pin, St.unpin, initSt, initT, numO, cellsA, Option.map, ren, renL, renO, St.setObj, headSt, List.cons_append, List.nil_append, List.length_nil, Nat.reduceAdd]); try (conv => enter [7, 3]; whnf))
      | (refine ap1 (by decide) (by omega) rfl rfl ?_)
      | (refine ap0 (by decide) rfl ?_)
      | (refine apL (by decide) (by omega) (fun _ => rfl) ?_)
      | (refine apM (by decide) (by omega) (fun _ => rfl) ?_)
      | (refine setI (z := _) rfl ?_)
      | (refine And.intro (by omega) (And.intro (by omega) ?_))
      | (refine ifB_intro (fun _ => ?_) (fun _ => ?_))) <;> (conv => whnf; try dsimp only [St.after, St.afterAt, St.pin, St.unpin, initSt, initT, numO, cellsA, Option.map, ren, renL, renO, St.setObj, headSt, List.cons_append, List.nil_append, List.length_nil, Nat.reduceAdd]))
    · refine ⟨(⟨s.i + 1, lk1 c s.l (nth (b.near c) s.i)⟩ : LS), ⟨[], (by kernel_rfl), (by kernel_rfl), (by kernel_rfl), ?_, ?_⟩, ?_, by (try dsimp only); omega, rfl⟩
      rotate_left 1
      focus
        conv => whnf
        repeat' (first
          | exact trivial
          | with_reducible rfl
          | (refine srcI ?_; kernel_rfl)
          | (refine nsI ?_; kernel_rfl)
          | (refine And.intro ?_ ?_ <;> conv => whnf; try dsimp only [St.after, St.afterAt, St.pin, St.unpin, initSt, initT, numO, cellsA, Option.map, ren, renL, renO, St.setObj, headSt, List.cons_append, List.nil_append, List.length_nil, Nat.reduceAdd]))
      rotate_right 1
      focus
        conv => whnf
        repeat' (first
          | exact trivial
          | with_reducible rfl
          | (refine srcI ?_; kernel_rfl)
          | (refine nsI ?_; kernel_rfl)
          | (refine And.intro ?_ ?_ <;> conv => whnf; try dsimp only [St.after, St.afterAt, St.pin, St.unpin, initSt, initT, numO, cellsA, Option.map, ren, renL, renO, St.setObj, headSt, List.cons_append, List.nil_append, List.length_nil, Nat.reduceAdd]))
      · rfl
      · exact bdOw _
      · exact hs.next h0 hcl hnr (by omega)
    · have hsi : s.i = (b.near c).length := by omega
      have hse : s.l = (ints (c + 1)).foldl b.lkR b.lks0 := by
        rw [hs.e, hsi, take_all (Int.le_refl _), ints_succ h0, List.foldl_append]; rfl
      repeat' ((first
        | (refine Ck.mk ?_)
        | (refine ifD (fun _ => ?_) (fun _ => ?_))
        | (refine ifE (fun _ => ?_) (fun _ => ?_))
        | (refine ifN (fun _ => ?_) (fun _ => ?_))
        | ((with_reducible refine natI ?_))
        | ((with_reducible refine ifNot ?_))
        | ((with_reducible refine ifAndD (fun _ _ => ?_) (fun _ => ?_)))
        | ((with_reducible refine ifAnd (fun _ _ => ?_) (fun _ => ?_)))
        | (refine ixM (by omega) (by first | omega | (simp only [List.length_set, List.length_map, List.length_append, List.length_cons, List.length_nil, List.length_replicate]; omega)) rfl ?_)
        | (refine ixA (by omega) (by first | omega | (simp only [List.length_set, List.length_map, List.length_append, List.length_cons, List.length_nil, List.length_replicate]; omega)) ?_)
        | (refine ltM (by omega) (by first | omega | (simp only [List.length_set, List.length_map, List.length_append, List.length_cons, List.length_nil, List.length_replicate]; omega)) ?_)
        | (refine calI (by omega) ?_)
        | (refine cu8 (by omega) ?_)
        | (refine cu64 (by omega) ?_)
        | (refine And.intro (by omega) ?_; refine crem (by omega) ?_)
        | (refine And.intro (by omega) ?_; refine cquo (by omega) ?_)
        | ((with_reducible refine preI ?_); (first | refine preNil ?_ | refine preOp rfl rfl ?_ | refine preT rfl rfl rfl rfl ?_ | refine preF rfl rfl rfl rfl ?_ | refine preTS rfl rfl rfl rfl ?_ | refine preFS rfl rfl rfl rfl ?_ | refine preSkip rfl rfl rfl rfl ?_ | refine preGT rfl rfl rfl rfl ?_ | refine preGF rfl rfl rfl rfl ?_))
        | (refine AltS.own (by assumption) ?_)
        | (refine AltS.im ?_)
        | (refine AltT.own (by assumption) ?_)
        | (refine AltT.im ?_)
        | (refine NilK.mk (fun _ => ?_) ?_)
        | (refine AltV.own (by assumption) ?_)
        | (refine AltV.im ?_)
        | ((first | refine drawA2 (by decide +kernel) ?_ | refine drawA (by decide +kernel) ?_ | refine drawL (by decide +kernel) ?_); conv => whnf; (try dsimp only [St.after, St.afterAt, St.pin, St.unpin, initSt, initT, numO, cellsA, Option.map, ren, renL, renO, St.setObj, headSt, List.cons_append, List.nil_append, List.length_nil, Nat.reduceAdd]); try (conv => enter [7, 3]; whnf))
        | (refine ap1 (by decide) (by omega) rfl rfl ?_)
        | (refine ap0 (by decide) rfl ?_)
        | (refine apL (by decide) (by omega) (fun _ => rfl) ?_)
        | (refine apM (by decide) (by omega) (fun _ => rfl) ?_)
        | (refine setI (z := _) rfl ?_)
        | (refine And.intro (by omega) (And.intro (by omega) ?_))
        | (refine ifB_intro (fun _ => ?_) (fun _ => ?_))) <;> (conv => whnf; try dsimp only [St.after, St.afterAt, St.pin, St.unpin, initSt, initT, numO, cellsA, Option.map, ren, renL, renO, St.setObj, headSt, List.cons_append, List.nil_append, List.length_nil, Nat.reduceAdd]))
      refine ⟨c + 1, ⟨[], (by kernel_rfl), (by kernel_rfl), (by kernel_rfl), ?_, ?_⟩, ?_, by (try dsimp only); omega, rfl⟩
      rotate_left 1
      focus
        conv => whnf
        repeat' (first
          | exact trivial
          | with_reducible rfl
          | (refine srcI ?_; kernel_rfl)
          | (refine nsI ?_; kernel_rfl)
          | (refine And.intro ?_ ?_ <;> conv => whnf; try dsimp only [St.after, St.afterAt, St.pin, St.unpin, initSt, initT, numO, cellsA, Option.map, ren, renL, renO, St.setObj, headSt, List.cons_append, List.nil_append, List.length_nil, Nat.reduceAdd]))
      rotate_right 1
      focus
        conv => whnf
        repeat' (first
          | exact trivial
          | with_reducible rfl
          | (refine srcI ?_; kernel_rfl)
          | (refine nsI ?_; kernel_rfl)
          | (refine And.intro ?_ ?_ <;> conv => whnf; try dsimp only [St.after, St.afterAt, St.pin, St.unpin, initSt, initT, numO, cellsA, Option.map, ren, renL, renO, St.setObj, headSt, List.cons_append, List.nil_append, List.length_nil, Nat.reduceAdd]))
      · rw [hse]
      · exact bdOw _
      · exact ⟨by omega, by omega, by rw [← hse]; exact hs.li.weak (by omega)⟩
  obtain rfl : c = b.cells := by omega
  have hlk : (ints b.cells).foldl b.lkR b.lks0 = b.lks := rfl
  rw [hlk] at hl hll
  have hlkr : ∀ y, 0 ≤ y → y < b.cells → (nth b.lks y).length ≤ 8192 ∧ ∀ x, x ∈ nth b.lks y → 0 ≤ x ∧ x < b.cells := fun y y0 y1 => ⟨by have := (hl.rg _ (nth_mem y0 (by omega))).1; omega, (hl.rg _ (nth_mem y0 (by omega))).2⟩
  have hmo : (List.replicate b.cells.toNat (-1 : Int)).length = b.cells.toNat := List.length_replicate
  have hmm : ((List.replicate b.cells.toNat (-1 : Int)).map I).length = (List.replicate b.cells.toNat (-1 : Int)).length := List.length_map _
  refine .inr (.inl ?_)
  conv => whnf
  refine ⟨_, _, Repeat_p (-1) b.cells (by omega) (by omega), ?_⟩
  conv => whnf
  repeat' ((first
    | (refine Ck.mk ?_)
    | (refine ifD (fun _ => ?_) (fun _ => ?_))
    | (refine ifE (fun _ => ?_) (fun _ => ?_))
    | (refine ifN (fun _ => ?_) (fun _ => ?_))
    | ((with_reducible refine natI ?_))
    | ((with_reducible refine ifNot ?_))
    | ((with_reducible refine ifAndD (fun _ _ => ?_) (fun _ => ?_)))
    | ((with_reducible refine ifAnd (fun _ _ => ?_) (fun _ => ?_)))
    | (refine ixM (by omega) (by first | omega | (simp only [List.length_set, List.length_map, List.length_append, List.length_cons, List.length_nil, List.length_replicate]; omega)) rfl ?_)
    | (refine ixA (by omega) (by first | omega | (simp only [List.length_set, List.length_map, List.length_append, List.length_cons, List.length_nil, List.length_replicate]; omega)) ?_)
    | (refine ltM (by omega) (by first | omega | (simp only [List.length_set, List.length_map, List.length_append, List.length_cons, List.length_nil, List.length_replicate]; omega)) ?_)
    | (refine calI (by omega) ?_)
    | (refine cu8 (by omega) ?_)
    | (refine cu64 (by omega) ?_)
    | (refine And.intro (by omega) ?_; refine crem (by omega) ?_)
    | (refine And.intro (by omega) ?_; refine cquo (by omega) ?_)
    | ((with_reducible refine preI ?_); (first | refine preNil ?_ | refine preOp rfl rfl ?_ | refine preT rfl rfl rfl rfl ?_ | refine preF rfl rfl rfl rfl ?_ | refine preTS rfl rfl rfl rfl ?_ | refine preFS rfl rfl rfl rfl ?_ | refine preSkip rfl rfl rfl rfl ?_ | refine preGT rfl rfl rfl rfl ?_ | refine preGF rfl rfl rfl rfl ?_))
    | (refine AltS.own (by assumption) ?_)
    | (refine AltS.im ?_)
    | (refine AltT.own (by assumption) ?_)
    | (refine AltT.im ?_)
    | (refine NilK.mk (fun _ => ?_) ?_)
    | (refine AltV.own (by assumption) ?_)
    | (refine AltV.im ?_)
    | ((first | refine drawA2 (by decide +kernel) ?_ | refine drawA (by decide +kernel) ?_ | refine drawL (by decide +kernel) ?_); conv => whnf; (try dsimp only [St.after, St.afterAt, St.pin, St.unpin, initSt, initT, numO, cellsA, Option.map, ren, renL, renO, St.setObj, headSt, List.cons_append, List.nil_append, List.length_nil, Nat.reduceAdd]); try (conv => enter [7, 3]; whnf))
    | (refine ap1 (by decide) (by omega) rfl rfl ?_)
    | (refine ap0 (by decide) rfl ?_)
    | (refine apL (by decide) (by omega) (fun _ => rfl) ?_)
    | (refine apM (by decide) (by omega) (fun _ => rfl) ?_)
    | (refine setI (z := _) rfl ?_)
    | (refine And.intro (by omega) (And.intro (by omega) ?_))
    | (refine ifB_intro (fun _ => ?_) (fun _ => ?_))) <;> (conv => whnf; try dsimp only [St.after, St.afterAt, St.pin, St.unpin, initSt, initT, numO, cellsA, Option.map, ren, renL, renO, St.setObj, headSt, List.cons_append, List.nil_append, List.length_nil, Nat.reduceAdd]))
  refine .of (fun c => [(56, I c)]) (fun c => [(1, .pub (b.lks.map Is)), (3, .arr 1 (((ints c).foldl (pq1 (nth b.lks)) (List.replicate b.cells.toNat (-1))).map I))]) 4 (fun c => 0 ≤ c ∧ c ≤ b.cells ∧ (((ints c).foldl (pq1 (nth b.lks)) (List.replicate b.cells.toNat (-1))).length : Int) = b.cells ∧ UB 70 ((ints c).foldl (pq1 (nth b.lks)) (List.replicate b.cells.toNat (-1)))) (fun c => (b.cells - c).toNat) 0 ?_
  conv => whnf
  refine ⟨⟨[], (by kernel_rfl), (by kernel_rfl), (by kernel_rfl), ?_, ?_⟩, ?_, fun c ⟨j0, j1, jl, ju⟩ => ?_⟩
  rotate_left 1
  focus
    conv => whnf
    repeat' (first
      | exact trivial
      | with_reducible rfl
      | (refine srcI ?_; kernel_rfl)
      | (refine nsI ?_; kernel_rfl)
      | (refine And.intro ?_ ?_ <;> conv => whnf; try dsimp only [St.after, St.afterAt, St.pin, St.unpin, initSt, initT, numO, cellsA, Option.map, ren, renL, renO, St.setObj, headSt, List.cons_append, List.nil_append, List.length_nil, Nat.reduceAdd])
      | rfl)
  rotate_right 1
  focus
    conv => whnf
    repeat' (first
      | exact trivial
      | with_reducible rfl
      | (refine srcI ?_; kernel_rfl)
      | (refine nsI ?_; kernel_rfl)
      | (refine And.intro ?_ ?_ <;> conv => whnf; try dsimp only [St.after, St.afterAt, St.pin, St.unpin, initSt, initT, numO, cellsA, Option.map, ren, renL, renO, St.setObj, headSt, List.cons_append, List.nil_append, List.length_nil, Nat.reduceAdd])
      | rfl)
  rotate_right 1
  focus
    conv => whnf
  rotate_left 1
  · rw [hlk]; exact (pubOw b.lks).1
  · rw [hlk]; exact (pubOw b.lks).2
  · refine ⟨by omega, by omega, by rw [ints_zero]; show ((List.replicate b.cells.toNat (-1 : Int)).length : Int) = b.cells; omega, fun x hx => ?_⟩
    rw [ints_zero] at hx
    have := (List.mem_replicate.1 hx).2
    omega
  obtain ⟨o0, ho0⟩ : ∃ o0, o0 = (ints c).foldl (pq1 (nth b.lks)) (List.replicate b.cells.toNat (-1)) := ⟨_, rfl⟩
  have hsucc : (ints (c + 1)).foldl (pq1 (nth b.lks)) (List.replicate b.cells.toNat (-1)) = pq1 (nth b.lks) o0 c := by rw [ints_succ j0, List.foldl_append, ho0]; rfl
  rw [← ho0] at jl ju ⊢
  have jm : (o0.map I).length = o0.length := List.length_map _
  repeat' ((first
    | (refine Ck.mk ?_)
    | (refine ifD (fun _ => ?_) (fun _ => ?_))
    | (refine ifE (fun _ => ?_) (fun _ => ?_))
    | (refine ifN (fun _ => ?_) (fun _ => ?_))
    | ((with_reducible refine natI ?_))
    | ((with_reducible refine ifNot ?_))
    | ((with_reducible refine ifAndD (fun _ _ => ?_) (fun _ => ?_)))
    | ((with_reducible refine ifAnd (fun _ _ => ?_) (fun _ => ?_)))
    | (refine ixM (by omega) (by first | omega | (simp only [List.length_set, List.length_map, List.length_append, List.length_cons, List.length_nil, List.length_replicate]; omega)) rfl ?_)
    | (refine ixA (by omega) (by first | omega | (simp only [List.length_set, List.length_map, List.length_append, List.length_cons, List.length_nil, List.length_replicate]; omega)) ?_)
    | (refine ltM (by omega) (by first | omega | (simp only [List.length_set, List.length_map, List.length_append, List.length_cons, List.length_nil, List.length_replicate]; omega)) ?_)
    | (refine calI (by omega) ?_)
    | (refine cu8 (by omega) ?_)
    | (refine cu64 (by omega) ?_)
    | (refine And.intro (by omega) ?_; refine crem (by omega) ?_)
    | (refine And.intro (by omega) ?_; refine cquo (by omega) ?_)
    | ((with_reducible refine preI ?_); (first | refine preNil ?_ | refine preOp rfl rfl ?_ | refine preT rfl rfl rfl rfl ?_ | refine preF rfl rfl rfl rfl ?_ | refine preTS rfl rfl rfl rfl ?_ | refine preFS rfl rfl rfl rfl ?_ | refine preSkip rfl rfl rfl rfl ?_ | refine preGT rfl rfl rfl rfl ?_ | refine preGF rfl rfl rfl rfl ?_))
    | (refine AltS.own (by assumption) ?_)
    | (refine AltS.im ?_)
    | (refine AltT.own (by assumption) ?_)
    | (refine AltT.im ?_)
    | (refine NilK.mk (fun _ => ?_) ?_)
    | (refine AltV.own (by assumption) ?_)
    | (refine AltV.im ?_)
    | ((first | refine drawA2 (by decide +kernel) ?_ | refine drawA (by decide +kernel) ?_ | refine drawL (by decide +kernel) ?_); conv => whnf; (try dsimp only [St.after, St.afterAt, St.pin, St.unpin, initSt, initT, numO, cellsA, Option.map, ren, renL, renO, St.setObj, headSt, List.cons_append, List.nil_append, List.length_nil, Nat.reduceAdd]); try (conv => enter [7, 3]; whnf))
    | (refine ap1 (by decide) (by omega) rfl rfl ?_)
    | (refine ap0 (by decide) rfl ?_)
    | (refine apL (by decide) (by omega) (fun _ => rfl) ?_)
    | (refine apM (by decide) (by omega) (fun _ => rfl) ?_)
    | (refine setI (z := _) rfl ?_)
    | (refine And.intro (by omega) (And.intro (by omega) ?_))
    | (refine ifB_intro (fun _ => ?_) (fun _ => ?_))) <;> (conv => whnf; try dsimp only [St.after, St.afterAt, St.pin, St.unpin, initSt, initT, numO, cellsA, Option.map, ren, renL, renO, St.setObj, headSt, List.cons_append, List.nil_append, List.length_nil, Nat.reduceAdd]))
  · rename_i q1 q2
    have hp : pq1 (nth b.lks) o0 c = o0 := if_pos (by omega)
    refine ⟨c + 1, ⟨[], (by kernel_rfl), (by kernel_rfl), (by kernel_rfl), ?_, ?_⟩, ?_, by (try dsimp only); omega, rfl⟩
    rotate_left 1
    focus
      conv => whnf
      repeat' (first
        | exact trivial
        | with_reducible rfl
        | (refine srcI ?_; kernel_rfl)
        | (refine nsI ?_; kernel_rfl)
        | (refine And.intro ?_ ?_ <;> conv => whnf; try dsimp only [St.after, St.afterAt, St.pin, St.unpin, initSt, initT, numO, cellsA, Option.map, ren, renL, renO, St.setObj, headSt, List.cons_append, List.nil_append, List.length_nil, Nat.reduceAdd]))
    rotate_right 1
    focus
      conv => whnf
      repeat' (first
        | exact trivial
        | with_reducible rfl
        | (refine srcI ?_; kernel_rfl)
        | (refine nsI ?_; kernel_rfl)
        | (refine And.intro ?_ ?_ <;> conv => whnf; try dsimp only [St.after, St.afterAt, St.pin, St.unpin, initSt, initT, numO, cellsA, Option.map, ren, renL, renO, St.setObj, headSt, List.cons_append, List.nil_append, List.length_nil, Nat.reduceAdd]))
    · rw [hsucc, hp]
    · exact ⟨by omega, by omega, by rw [hsucc, hp]; exact jl, by rw [hsucc, hp]; exact ju⟩
  · rename_i q1 q2
    have hp : pq1 (nth b.lks) o0 c = bqR (nth b.lks) (fun _ _ => c) 66 (o0.set c.toNat c) [c] := if_neg (by omega)
    have hcl : c < b.cells := by omega
    have hlkl : (b.lks.map Is).length = b.lks.length := List.length_map _
    refine .of (fun p => [(9, .ref 4)]) (fun p => [(3, .arr 1 (p.out.map I)), (4, .arr 1 (p.queue.map I))]) 5 (fun p => p.k ≤ 66 ∧ UB 70 p.out ∧ QI b.cells p.k p.out p.queue ∧ bqR (nth b.lks) (fun _ _ => c) p.k p.out p.queue = pq1 (nth b.lks) o0 c) (fun p => p.k) (⟨66, o0.set c.toNat c, [c]⟩ : QS) ?_
    conv => whnf
    refine ⟨⟨[], (by kernel_rfl), (by kernel_rfl), (by kernel_rfl), ?_, ?_⟩, ?_, fun p ⟨hk6, hub, hq, hpe⟩ => ?_⟩
    rotate_left 1
    focus
      conv => whnf
      repeat' (first
        | exact trivial
        | with_reducible rfl
        | (refine srcI ?_; kernel_rfl)
        | (refine nsI ?_; kernel_rfl)
        | (refine And.intro ?_ ?_ <;> conv => whnf; try dsimp only [St.after, St.afterAt, St.pin, St.unpin, initSt, initT, numO, cellsA, Option.map, ren, renL, renO, St.setObj, headSt, List.cons_append, List.nil_append, List.length_nil, Nat.reduceAdd])
        | rfl)
    rotate_right 1
    focus
      conv => whnf
      repeat' (first
        | exact trivial
        | with_reducible rfl
        | (refine srcI ?_; kernel_rfl)
        | (refine nsI ?_; kernel_rfl)
        | (refine And.intro ?_ ?_ <;> conv => whnf; try dsimp only [St.after, St.afterAt, St.pin, St.unpin, initSt, initT, numO, cellsA, Option.map, ren, renL, renO, St.setObj, headSt, List.cons_append, List.nil_append, List.length_nil, Nat.reduceAdd])
        | rfl)
    rotate_right 1
    focus
      conv => whnf
    rotate_left 1
    · exact ⟨Nat.le_refl _, ju.set (by omega) _, QI.one c6 jl j0 hcl, hp.symm⟩
    have ho := hq.len
    have hom : (p.out.map I).length = p.out.length := List.length_map _
    have hqm : (p.queue.map I).length = p.queue.length := List.length_map _
    have hrg := fun (h : 0 < p.queue.length) => hq.rg (nth p.queue 0) (nth_mem (Int.le_refl 0) (by omega))
    repeat' ((first
      | (refine Ck.mk ?_)
      | (refine ifD (fun _ => ?_) (fun _ => ?_))
      | (refine ifE (fun _ => ?_) (fun _ => ?_))
      | (refine ifN (fun _ => ?_) (fun _ => ?_))
      | ((with_reducible refine natI ?_))
      | ((with_reducible refine ifNot ?_))
      | ((with_reducible refine ifAndD (fun _ _ => ?_) (fun _ => ?_)))
      | ((with_reducible refine ifAnd (fun _ _ => ?_) (fun _ => ?_)))
      | (refine ixM (by omega) (by first | omega | (simp only [List.length_set, List.length_map, List.length_append, List.length_cons, List.length_nil, List.length_replicate]; omega)) rfl ?_)
      | (refine ixA (by omega) (by first | omega | (simp only [List.length_set, List.length_map, List.length_append, List.length_cons, List.length_nil, List.length_replicate]; omega)) ?_)
      | (refine ltM (by omega) (by first | omega | (simp only [List.length_set, List.length_map, List.length_append, List.length_cons, List.length_nil, List.length_replicate]; omega)) ?_)
      | (refine calI (by omega) ?_)
      | (refine cu8 (by omega) ?_)
      | (refine cu64 (by omega) ?_)
      | (refine And.intro (by omega) ?_; refine crem (by omega) ?_)
      | (refine And.intro (by omega) ?_; refine cquo (by omega) ?_)
      | ((with_reducible refine preI ?_); (first | refine preNil ?_ | refine preOp rfl rfl ?_ | refine preT rfl rfl rfl rfl ?_ | refine preF rfl rfl rfl rfl ?_ | refine preTS rfl rfl rfl rfl ?_ | refine preFS rfl rfl rfl rfl ?_ | refine preSkip rfl rfl rfl rfl ?_ | refine preGT rfl rfl rfl rfl ?_ | refine preGF rfl rfl rfl rfl ?_))
      | (refine AltS.own (by assumption) ?_)
      | (refine AltS.im ?_)
      | (refine AltT.own (by assumption) ?_)
      | (refine AltT.im ?_)
      | (refine NilK.mk (fun _ => ?_) ?_)
      | (refine AltV.own (by assumption) ?_)
      | (refine AltV.im ?_)
      | ((first | refine drawA2 (by decide +kernel) ?_ | refine drawA (by decide +kernel) ?_ | refine drawL (by decide +kernel) ?_); conv => whnf; (try dsimp only [St.after, St.afterAt, St.pin, St.unpin, initSt, initT, numO, cellsA, Option.map, ren, renL, renO, St.setObj, headSt, List.cons_append, List.nil_append, List.length_nil, Nat.reduceAdd]); try (conv => enter [7, 3]; whnf))
      | (refine ap1 (by decide) (by omega) rfl rfl ?_)
      | (refine ap0 (by decide) rfl ?_)
      | (refine apL (by decide) (by omega) (fun _ => rfl) ?_)
      | (refine apM (by decide) (by omega) (fun _ => rfl) ?_)
      | (refine setI (z := _) rfl ?_)
      | (refine And.intro (by omega) (And.intro (by omega) ?_))
      | (refine ifB_intro (fun _ => ?_) (fun _ => ?_))) <;> (conv => whnf; try dsimp only [St.after, St.afterAt, St.pin, St.unpin, initSt, initT, numO, cellsA, Option.map, ren, renL, renO, St.setObj, headSt, List.cons_append, List.nil_append, List.length_nil, Nat.reduceAdd]))
    · rename_i hlen
      have hrq := hrg (by omega)
      have hrw := hlkr _ hrq.1 hrq.2.1
      have hmem := hrw.2
      have hL6 := hrw.1
      refine .of (fun s => [(82, I s.i), (9, .ref 4)]) (fun s => [(3, .arr 1 (s.out.map I)), (4, .arr 1 (s.queue.map I))]) 5 (fun s => InnerI b.cells c 70 p.k p.out p.queue (nth b.lks (nth p.queue 0)) s) (fun s => ((nth b.lks (nth p.queue 0)).length - s.i).toNat) (⟨0, p.out, p.queue⟩ : IS) ?_
      conv => whnf
      refine ⟨⟨[], (by kernel_rfl), (by kernel_rfl), (by kernel_rfl), ?_, ?_⟩, ?_, fun s hs => ?_⟩
      rotate_left 1
      focus
        conv => whnf
        repeat' (first
          | exact trivial
          | with_reducible rfl
          | (refine srcI ?_; kernel_rfl)
          | (refine nsI ?_; kernel_rfl)
          | (refine And.intro ?_ ?_ <;> conv => whnf; try dsimp only [St.after, St.afterAt, St.pin, St.unpin, initSt, initT, numO, cellsA, Option.map, ren, renL, renO, St.setObj, headSt, List.cons_append, List.nil_append, List.length_nil, Nat.reduceAdd])
          | rfl)
      rotate_right 1
      focus
        conv => whnf
        repeat' (first
          | exact trivial
          | with_reducible rfl
          | (refine srcI ?_; kernel_rfl)
          | (refine nsI ?_; kernel_rfl)
          | (refine And.intro ?_ ?_ <;> conv => whnf; try dsimp only [St.after, St.afterAt, St.pin, St.unpin, initSt, initT, numO, cellsA, Option.map, ren, renL, renO, St.setObj, headSt, List.cons_append, List.nil_append, List.length_nil, Nat.reduceAdd])
          | rfl)
      rotate_right 1
      focus
        conv => whnf
      rotate_left 1
      · exact InnerI.zero hub hq (by omega)
      have s0 := hs.i0
      have s1 := hs.i1
      have so := hs.q.len
      have sl := hs.hl
      have som : (s.out.map I).length = s.out.length := List.length_map _
      have sqm : (s.queue.map I).length = s.queue.length := List.length_map _
      have sat := hs.at hmem
      have sql : s.queue.length ≤ 66 := by have := hs.q.fuel; omega
      have slm : ((nth b.lks (nth p.queue 0)).map I).length = (nth b.lks (nth p.queue 0)).length := List.length_map _
      repeat' ((first
        | (refine Ck.mk ?_)
        | (refine ifD (fun _ => ?_) (fun _ => ?_))
        | (refine ifE (fun _ => ?_) (fun _ => ?_))
        | (refine ifN (fun _ => ?_) (fun _ => ?_))
        | ((with_reducible refine natI ?_))
        | ((with_reducible refine ifNot ?_))
        | ((with_reducible refine ifAndD (fun _ _ => ?_) (fun _ => ?_)))
        | ((with_reducible refine ifAnd (fun _ _ => ?_) (fun _ => ?_)))
        | (refine ixM (by omega) (by first | omega | (simp only [List.length_set, List.length_map, List.length_append, List.length_cons, List.length_nil, List.length_replicate]; omega)) rfl ?_)
        | (refine ixA (by omega) (by first | omega | (simp only [List.length_set, List.length_map, List.length_append, List.length_cons, List.length_nil, List.length_replicate]; omega)) ?_)
        | (refine ltM (by omega) (by first | omega | (simp only [List.length_set, List.length_map, List.length_append, List.length_cons, List.length_nil, List.length_replicate]; omega)) ?_)
        | (refine calI (by omega) ?_)
        | (refine cu8 (by omega) ?_)
        | (refine cu64 (by omega) ?_)
        | (refine And.intro (by omega) ?_; refine crem (by omega) ?_)
        | (refine And.intro (by omega) ?_; refine cquo (by omega) ?_)
        | ((with_reducible refine preI ?_); (first | refine preNil ?_ | refine preOp rfl rfl ?_ | refine preT rfl rfl rfl rfl ?_ | refine preF rfl rfl rfl rfl ?_ | refine preTS rfl rfl rfl rfl ?_ | refine preFS rfl rfl rfl rfl ?_ | refine preSkip rfl rfl rfl rfl ?_ | refine preGT rfl rfl rfl rfl ?_ | refine preGF rfl rfl rfl rfl ?_))
        | (refine AltS.own (by assumption) ?_)
        | (refine AltS.im ?_)
        | (refine AltT.own (by assumption) ?_)
        | (refine AltT.im ?_)
        | (refine NilK.mk (fun _ => ?_) ?_)
        | (refine AltV.own (by assumption) ?_)
        | (refine AltV.im ?_)
        | ((first | refine drawA2 (by decide +kernel) ?_ | refine drawA (by decide +kernel) ?_ | refine drawL (by decide +kernel) ?_); conv => whnf; (try dsimp only [St.after, St.afterAt, St.pin, St.unpin, initSt, initT, numO, cellsA, Option.map, ren, renL, renO, St.setObj, headSt, List.cons_append, List.nil_append, List.length_nil, Nat.reduceAdd]); try (conv => enter [7, 3]; whnf))
        | (refine ap1 (by decide) (by omega) rfl rfl ?_)
        | (refine ap0 (by decide) rfl ?_)
        | (refine apL (by decide) (by omega) (fun _ => rfl) ?_)
        | (refine apM (by decide) (by omega) (fun _ => rfl) ?_)
        | (refine setI (z := _) rfl ?_)
        | (refine And.intro (by omega) (And.intro (by omega) ?_))
        | (refine ifB_intro (fun _ => ?_) (fun _ => ?_))) <;> (conv => whnf; try dsimp only [St.after, St.afterAt, St.pin, St.unpin, initSt, initT, numO, cellsA, Option.map, ren, renL, renO, St.setObj, headSt, List.cons_append, List.nil_append, List.length_nil, Nat.reduceAdd]))
      · rename_i q1 q2
        have he : bfs1 c (s.out, s.queue) (nth (nth b.lks (nth p.queue 0)) s.i) = (s.out.set (nth (nth b.lks (nth p.queue 0)) s.i).toNat c, s.queue ++ [nth (nth b.lks (nth p.queue 0)) s.i]) := if_pos q2
        have hnx := hs.next (by omega) hq (by omega) (by omega) hmem (by omega)
        rw [he] at hnx
        refine ⟨(⟨s.i + 1, s.out.set (nth (nth b.lks (nth p.queue 0)) s.i).toNat c, s.queue ++ [nth (nth b.lks (nth p.queue 0)) s.i]⟩ : IS), ⟨[], (by kernel_rfl), (by kernel_rfl), (by kernel_rfl), ?_, ?_⟩, ?_, by (try dsimp only); omega, rfl⟩
        rotate_left 1
        focus
          conv => whnf
          repeat' (first
            | exact trivial
            | with_reducible rfl
            | (refine srcI ?_; kernel_rfl)
            | (refine nsI ?_; kernel_rfl)
            | (refine And.intro ?_ ?_ <;> conv => whnf; try dsimp only [St.after, St.afterAt, St.pin, St.unpin, initSt, initT, numO, cellsA, Option.map, ren, renL, renO, St.setObj, headSt, List.cons_append, List.nil_append, List.length_nil, Nat.reduceAdd]))
        rotate_right 1
        focus
          conv => whnf
          repeat' (first
            | exact trivial
            | with_reducible rfl
            | (refine srcI ?_; kernel_rfl)
            | (refine nsI ?_; kernel_rfl)
            | (refine And.intro ?_ ?_ <;> conv => whnf; try dsimp only [St.after, St.afterAt, St.pin, St.unpin, initSt, initT, numO, cellsA, Option.map, ren, renL, renO, St.setObj, headSt, List.cons_append, List.nil_append, List.length_nil, Nat.reduceAdd]))
        exact hnx
      · rename_i q1 q2
        have he : bfs1 c (s.out, s.queue) (nth (nth b.lks (nth p.queue 0)) s.i) = (s.out, s.queue) := if_neg q2
        have hnx := hs.next (by omega) hq (by omega) (by omega) hmem (by omega)
        rw [he] at hnx
        refine ⟨(⟨s.i + 1, s.out, s.queue⟩ : IS), ⟨[], (by kernel_rfl), (by kernel_rfl), (by kernel_rfl), ?_, ?_⟩, ?_, by (try dsimp only); omega, rfl⟩
        rotate_left 1
        focus
          conv => whnf
          repeat' (first
            | exact trivial
            | with_reducible rfl
            | (refine srcI ?_; kernel_rfl)
            | (refine nsI ?_; kernel_rfl)
            | (refine And.intro ?_ ?_ <;> conv => whnf; try dsimp only [St.after, St.afterAt, St.pin, St.unpin, initSt, initT, numO, cellsA, Option.map, ren, renL, renO, St.setObj, headSt, List.cons_append, List.nil_append, List.length_nil, Nat.reduceAdd]))
        rotate_right 1
        focus
          conv => whnf
          repeat' (first
            | exact trivial
            | with_reducible rfl
            | (refine srcI ?_; kernel_rfl)
            | (refine nsI ?_; kernel_rfl)
            | (refine And.intro ?_ ?_ <;> conv => whnf; try dsimp only [St.after, St.afterAt, St.pin, St.unpin, initSt, initT, numO, cellsA, Option.map, ren, renL, renO, St.setObj, headSt, List.cons_append, List.nil_append, List.length_nil, Nat.reduceAdd]))
        exact hnx
      · refine ⟨by omega, ?_⟩
        conv => whnf
        obtain ⟨k', hk, hq', hb⟩ := hs.fin (by omega) (by omega)
        have hub' := hs.ub
        refine ⟨(⟨k', s.out, s.queue.tail⟩ : QS), ⟨[], (by kernel_rfl), (by kernel_rfl), (by kernel_rfl), ?_, ?_⟩, ?_, by (try dsimp only); omega, rfl⟩
        rotate_left 1
        focus
          conv => whnf
          repeat' (first
            | exact trivial
            | with_reducible rfl
            | (refine srcI ?_; kernel_rfl)
            | (refine nsI ?_; kernel_rfl)
            | (refine And.intro ?_ ?_ <;> conv => whnf; try dsimp only [St.after, St.afterAt, St.pin, St.unpin, initSt, initT, numO, cellsA, Option.map, ren, renL, renO, St.setObj, headSt, List.cons_append, List.nil_append, List.length_nil, Nat.reduceAdd]))
        rotate_right 1
        focus
          conv => whnf
          repeat' (first
            | exact trivial
            | with_reducible rfl
            | (refine srcI ?_; kernel_rfl)
            | (refine nsI ?_; kernel_rfl)
            | (refine And.intro ?_ ?_ <;> conv => whnf; try dsimp only [St.after, St.afterAt, St.pin, St.unpin, initSt, initT, numO, cellsA, Option.map, ren, renL, renO, St.setObj, headSt, List.cons_append, List.nil_append, List.length_nil, Nat.reduceAdd]))
        · rw [List.map_tail, List.take_of_length_le (by omega)]; exact List.drop_one
        · exact ⟨by simp only; omega, hub', hq', by rw [← hpe]; exact hb _ _ rfl rfl⟩
    · have hout : p.out = pq1 (nth b.lks) o0 c := by
        rw [← hpe, List.length_eq_zero_iff.1 (show p.queue.length = 0 by omega)]
        cases p.k <;> rfl
      refine ⟨c + 1, ⟨[], (by kernel_rfl), (by kernel_rfl), (by kernel_rfl), ?_, ?_⟩, ?_, by (try dsimp only); omega, rfl⟩
      rotate_left 1
      focus
        conv => whnf
        repeat' (first
          | exact trivial
          | with_reducible rfl
          | (refine srcI ?_; kernel_rfl)
          | (refine nsI ?_; kernel_rfl)
          | (refine And.intro ?_ ?_ <;> conv => whnf; try dsimp only [St.after, St.afterAt, St.pin, St.unpin, initSt, initT, numO, cellsA, Option.map, ren, renL, renO, St.setObj, headSt, List.cons_append, List.nil_append, List.length_nil, Nat.reduceAdd]))
      rotate_right 1
      focus
        conv => whnf
        repeat' (first
          | exact trivial
          | with_reducible rfl
          | (refine srcI ?_; kernel_rfl)
          | (refine nsI ?_; kernel_rfl)
          | (refine And.intro ?_ ?_ <;> conv => whnf; try dsimp only [St.after, St.afterAt, St.pin, St.unpin, initSt, initT, numO, cellsA, Option.map, ren, renL, renO, St.setObj, headSt, List.cons_append, List.nil_append, List.length_nil, Nat.reduceAdd]))
      · rw [hsucc, hout]
      · exact ⟨by omega, by omega, by rw [hsucc, ← hout]; exact ho, by rw [hsucc, ← hout]; exact hub⟩
  · obtain rfl : c = b.cells := by omega
    repeat' ((first
      | (refine Ck.mk ?_)
      | (refine ifD (fun _ => ?_) (fun _ => ?_))
      | (refine ifE (fun _ => ?_) (fun _ => ?_))
      | (refine ifN (fun _ => ?_) (fun _ => ?_))
      | ((with_reducible refine natI ?_))
      | ((with_reducible refine ifNot ?_))
      | ((with_reducible refine ifAndD (fun _ _ => ?_) (fun _ => ?_)))
      | ((with_reducible refine ifAnd (fun _ _ => ?_) (fun _ => ?_)))
      | (refine ixM (by omega) (by first | omega | (simp only [List.length_set, List.length_map, List.length_append, List.length_cons, List.length_nil, List.length_replicate]; omega)) rfl ?_)
      | (refine ixA (by omega) (by first | omega | (simp only [List.length_set, List.length_map, List.length_append, List.length_cons, List.length_nil, List.length_replicate]; omega)) ?_)
      | (refine ltM (by omega) (by first | omega | (simp only [List.length_set, List.length_map, List.length_append, List.length_cons, List.length_nil, List.length_replicate]; omega)) ?_)
      | (refine calI (by omega) ?_)
      | (refine cu8 (by omega) ?_)
      | (refine cu64 (by omega) ?_)
      | (refine And.intro (by omega) ?_; refine crem (by omega) ?_)
      | (refine And.intro (by omega) ?_; refine cquo (by omega) ?_)
      | ((with_reducible refine preI ?_); (first | refine preNil ?_ | refine preOp rfl rfl ?_ | refine preT rfl rfl rfl rfl ?_ | refine preF rfl rfl rfl rfl ?_ | refine preTS rfl rfl rfl rfl ?_ | refine preFS rfl rfl rfl rfl ?_ | refine preSkip rfl rfl rfl rfl ?_ | refine preGT rfl rfl rfl rfl ?_ | refine preGF rfl rfl rfl rfl ?_))
      | (refine AltS.own (by assumption) ?_)
      | (refine AltS.im ?_)
      | (refine AltT.own (by assumption) ?_)
      | (refine AltT.im ?_)
      | (refine NilK.mk (fun _ => ?_) ?_)
      | (refine AltV.own (by assumption) ?_)
      | (refine AltV.im ?_)
      | ((first | refine drawA2 (by decide +kernel) ?_ | refine drawA (by decide +kernel) ?_ | refine drawL (by decide +kernel) ?_); conv => whnf; (try dsimp only [St.after, St.afterAt, St.pin, St.unpin, initSt, initT, numO, cellsA, Option.map, ren, renL, renO, St.setObj, headSt, List.cons_append, List.nil_append, List.length_nil, Nat.reduceAdd]); try (conv => enter [7, 3]; whnf))
      | (refine ap1 (by decide) (by omega) rfl rfl ?_)
      | (refine ap0 (by decide) rfl ?_)
      | (refine apL (by decide) (by omega) (fun _ => rfl) ?_)
      | (refine apM (by decide) (by omega) (fun _ => rfl) ?_)
      | (refine setI (z := _) rfl ?_)
      | (refine And.intro (by omega) (And.intro (by omega) ?_))
      | (refine ifB_intro (fun _ => ?_) (fun _ => ?_))
      | (refine exitA (by kernel_rfl) (by kernel_rfl) ⟨?_, trivial⟩ ?_ <;> (conv => whnf) <;> repeat' (first | exact trivial | with_reducible rfl | (refine srcI ?_; kernel_rfl) | (refine nsI ?_; kernel_rfl) | (refine And.intro ?_ ?_ <;> conv => whnf; try dsimp only [St.after, St.afterAt, St.pin, St.unpin, initSt, initT, numO, cellsA, Option.map, ren, renL, renO, St.setObj, headSt, List.cons_append, List.nil_append, List.length_nil, Nat.reduceAdd])))) <;> (conv => whnf; try dsimp only [St.after, St.afterAt, St.pin, St.unpin, initSt, initT, numO, cellsA, Option.map, ren, renL, renO, St.setObj, headSt, List.cons_append, List.nil_append, List.length_nil, Nat.reduceAdd]))
    rw [ho0]; rfl
end Go.Proofs.Ytkecpgidolphfaa
namespace Go.Proofs.Ytkecpgidolphfaa
open Go Go.Sk
structure San (G A B : Bd) : Prop where
  g : Pure Try.prog 32 [I 3, I 2] (.tup [G.av, I 0]) none
  a : Pure Try.prog 20 [G.av, I 1] (.tup [A.av, I 0]) none
  b : Pure Try.prog 20 [A.av, I 4] (.tup [B.av, I 0]) none
  x : Pure Try.prog 20 [G.av, I 6] (.tup [(⟨0, [], []⟩ : Bd).av, I 1]) none
  og : G.ok
  oa : A.ok
  ob : B.ok
  t1 : G.to 0 0 4 = 1
  t2 : G.to 1 0 4 = -1
  t3 : G.to 2 0 4 = -1
  n : G.near 4 = [0, 1, 2, 3, 5]
  p : B.partsQ = [0, 1, 2, 0, 4, 2]
  l : G.line 0 2 0 = [1, 2]
theorem grid_one (w h : Int) (hf : ¬ fits w h) : Pure Try.prog 32 [I w, I h] (.tup [(⟨0, [], []⟩ : Bd).av, I 1]) none := by
  have := Grid32_p w h
  unfold grid at this
  rwa [if_neg hf] at this
theorem San.mk' : ∃ G A B, San G A B := by
  have og : (gridB 3 2).ok := by decide +kernel
  have oa : ((gridB 3 2).without 1).1.ok := by decide +kernel
  refine ⟨gridB 3 2, ((gridB 3 2).without 1).1, (((gridB 3 2).without 1).1.without 4).1, ?_, ?_, ?_, ?_, og, oa, by decide +kernel, by decide +kernel, by decide +kernel, by decide +kernel, by decide +kernel, by decide +kernel, by decide +kernel⟩
  · have := Grid32_p 3 2
    unfold grid at this
    rwa [if_pos (by decide +kernel)] at this
  · have := Without20_p _ og 1
    rwa [show ((gridB 3 2).without 1).2 = 0 by decide +kernel] at this
  · have := Without20_p _ oa 4
    rwa [show (((gridB 3 2).without 1).1.without 4).2 = 0 by decide +kernel] at this
  · have := Without20_p _ og 6
    unfold Bd.without at this
    rwa [if_pos (by decide +kernel)] at this
theorem valid14 (b : Bd) (hb : b.ok) : Pure Try.prog 14 [b.av] (Bo true) none := by
  have h1 := hb.n8; have h2 := hb.tl; have h3 := hb.c64
  have := Valid14_p b (by omega) (fun d h0 h1 => by have := hb.ll d h0 h1; omega) (by omega)
  rwa [decide_eq_true hb] at this
theorem valid13 (b : Bd) (hb : b.ok) : Pure Try.prog 13 [b.av] (Bo true) none := by
  have h1 := hb.n8; have h2 := hb.tl; have h3 := hb.c64; have h4 := hb.c1
  have := Valid13_p b (by omega) (by omega) (fun d h0 h1 => by have := hb.ll d h0 h1; omega) (by omega)
  rwa [decide_eq_true hb] at this
theorem valid13_nil : Pure Try.prog 13 [(⟨0, [], []⟩ : Bd).av] (Bo false) none := by
  have := Valid13_p ⟨0, [], []⟩ (by decide) (by decide) (fun d h0 h1 => by simp at h1; omega) (by decide)
  rwa [decide_eq_false (fun h : (⟨0, [], []⟩ : Bd).ok => absurd h.c1 (by decide))] at this
set_option maxHeartbeats 2000000 in
set_option maxRecDepth 10000 in
theorem sanity_p : Pure Try.prog 11 [] (Bo true) none := by
  obtain ⟨G, A, B, h⟩ := San.mk'
  have hg := h.g
  have h05 := grid_one 0 5 (by decide +kernel)
  have h98 := grid_one 9 8 (by decide +kernel)
  have ha := h.a
  have hb := h.b
  have hx := h.x
  have vg := valid14 G h.og
  have va := valid14 A h.oa
  have vb := valid14 B h.ob
  have wg := valid13 G h.og
  have t1 := To15_p G h.og 0 0 4
  have t2 := To15_p G h.og 1 0 4
  have t3 := To15_p G h.og 2 0 4
  rw [h.t1] at t1
  rw [h.t2] at t2
  rw [h.t3] at t3
  have nr := Near22_p G h.og 4
  rw [h.n] at nr
  have pr := Parts18_p B h.ob
  rw [h.p] at pr
  have ln := Line16_p G h.og 0 2 0
  rw [h.l] at ln
  have i1 := Ints_p [0, 1, 2, 3, 5] [0, 1, 2, 3, 5] (by decide)
  have i2 := Ints_p [0, 1, 2, 0, 4, 2] [0, 1, 2, 0, 4, 2] (by decide)
  have i3 := Ints_p [1, 2] [1, 2] (by decide)
  refine fun_of tok D_ok Try.func11 rfl Try.ntmps11 Try.results11 (by kernel_rfl) (by simp) (by simp) ?_
  conv => whnf
  repeat' ((first
    | (refine Ck.mk ?_)
    | (refine ifD (fun _ => ?_) (fun _ => ?_))
    | (refine ifE (fun _ => ?_) (fun _ => ?_))
    | (refine ifN (fun _ => ?_) (fun _ => ?_))
    | ((with_reducible refine natI ?_))
    | ((with_reducible refine ifNot ?_))
    | ((with_reducible refine ifAndD (fun _ _ => ?_) (fun _ => ?_)))
    | ((with_reducible refine ifAnd (fun _ _ => ?_) (fun _ => ?_)))
    | (refine ixM (by omega) (by first | omega | (simp only [List.length_set, List.length_map, List.length_append, List.length_cons, List.length_nil, List.length_replicate]; omega)) rfl ?_)
    | (refine ixA (by omega) (by first | omega | (simp only [List.length_set, List.length_map, List.length_append, List.length_cons, List.length_nil, List.length_replicate]; omega)) ?_)
    | (refine ltM (by omega) (by first | omega | (simp only [List.length_set, List.length_map, List.length_append, List.length_cons, List.length_nil, List.length_replicate]; omega)) ?_)
    | (refine calI (by omega) ?_)
    | (refine cu8 (by omega) ?_)
    | (refine cu64 (by omega) ?_)
    | (refine And.intro (by omega) ?_; refine crem (by omega) ?_)
    | (refine And.intro (by omega) ?_; refine cquo (by omega) ?_)
    | (refine ⟨_, _, hg, ?_⟩)
    | (refine .inl ?_; (conv => whnf); refine ⟨_, _, hg, ?_⟩)
    | (refine ⟨_, _, h05, ?_⟩)
    | (refine .inl ?_; (conv => whnf); refine ⟨_, _, h05, ?_⟩)
    | (refine ⟨_, _, h98, ?_⟩)
    | (refine .inl ?_; (conv => whnf); refine ⟨_, _, h98, ?_⟩)
    | (refine ⟨_, _, ha, ?_⟩)
    | (refine .inl ?_; (conv => whnf); refine ⟨_, _, ha, ?_⟩)
    | (refine ⟨_, _, hb, ?_⟩)
    | (refine .inl ?_; (conv => whnf); refine ⟨_, _, hb, ?_⟩)
    | (refine ⟨_, _, hx, ?_⟩)
    | (refine .inl ?_; (conv => whnf); refine ⟨_, _, hx, ?_⟩)
    | (refine ⟨_, _, vg, ?_⟩)
    | (refine .inl ?_; (conv => whnf); refine ⟨_, _, vg, ?_⟩)
    | (refine ⟨_, _, va, ?_⟩)
    | (refine .inl ?_; (conv => whnf); refine ⟨_, _, va, ?_⟩)
    | (refine ⟨_, _, vb, ?_⟩)
    | (refine .inl ?_; (conv => whnf); refine ⟨_, _, vb, ?_⟩)
    | (refine ⟨_, _, wg, ?_⟩)
    | (refine .inl ?_; (conv => whnf); refine ⟨_, _, wg, ?_⟩)
    | (refine ⟨_, _, valid13_nil, ?_⟩)
    | (refine .inl ?_; (conv => whnf); refine ⟨_, _, valid13_nil, ?_⟩)
    | (refine ⟨_, _, t1, ?_⟩)
    | (refine .inl ?_; (conv => whnf); refine ⟨_, _, t1, ?_⟩)
    | (refine ⟨_, _, t2, ?_⟩)
    | (refine .inl ?_; (conv => whnf); refine ⟨_, _, t2, ?_⟩)
    | (refine ⟨_, _, t3, ?_⟩)
    | (refine .inl ?_; (conv => whnf); refine ⟨_, _, t3, ?_⟩)
    | (refine ⟨_, _, nr, ?_⟩)
    | (refine .inl ?_; (conv => whnf); refine ⟨_, _, nr, ?_⟩)
    | (refine ⟨_, _, pr, ?_⟩)
    | (refine .inl ?_; (conv => whnf); refine ⟨_, _, pr, ?_⟩)
    | (refine ⟨_, _, ln, ?_⟩)
    | (refine .inl ?_; (conv => whnf); refine ⟨_, _, ln, ?_⟩)
    | (refine .inl ?_; (conv => whnf); refine ⟨_, i1, rfl, ?_⟩)
    | (refine .inl ?_; (conv => whnf); refine ⟨_, i2, rfl, ?_⟩)
    | (refine .inl ?_; (conv => whnf); refine ⟨_, i3, rfl, ?_⟩)
    | ((with_reducible refine preI ?_); (first | refine preNil ?_ | refine preOp rfl rfl ?_ | refine preT rfl rfl rfl rfl ?_ | refine preF rfl rfl rfl rfl ?_ | refine preTS rfl rfl rfl rfl ?_ | refine preFS rfl rfl rfl rfl ?_ | refine preSkip rfl rfl rfl rfl ?_ | refine preGT rfl rfl rfl rfl ?_ | refine preGF rfl rfl rfl rfl ?_))
    | (refine AltS.own (by assumption) ?_)
    | (refine AltS.im ?_)
    | (refine AltT.own (by assumption) ?_)
    | (refine AltT.im ?_)
    | (refine NilK.mk (fun _ => ?_) ?_)
    | (refine AltV.own (by assumption) ?_)
    | (refine AltV.im ?_)
    | ((first | refine drawA2 (by decide +kernel) ?_ | refine drawA (by decide +kernel) ?_ | refine drawL (by decide +kernel) ?_); conv => whnf; (try dsimp only [St.after, St.afterAt, St.pin, St.unpin, initSt, initT, numO, cellsA, Option.map, ren, renL, renO, St.setObj, headSt, List.cons_append, List.nil_append, List.length_nil, Nat.reduceAdd]); try (conv => enter [7, 3]; whnf))
    | (refine ap1 (by decide) (by omega) rfl rfl ?_)
    | (refine ap0 (by decide) rfl ?_)
    | (refine apL (by decide) (by omega) (fun _ => rfl) ?_)
    | (refine apM (by decide) (by omega) (fun _ => rfl) ?_)
    | (refine setI (z := _) rfl ?_)
    | (refine And.intro (by omega) (And.intro (by omega) ?_))
    | (refine ifB_intro (fun _ => ?_) (fun _ => ?_))) <;> (conv => whnf; try dsimp only [St.after, St.afterAt, St.pin, St.unpin, initSt, initT, numO, cellsA, Option.map, ren, renL, renO, St.setObj, headSt, List.cons_append, List.nil_append, List.length_nil, Nat.reduceAdd]))
  refine exitS [] (by kernel_rfl) (by kernel_rfl) (by kernel_rfl) ?_ ?_
  rotate_left 1
  focus
    conv => whnf
    repeat' (first
      | exact trivial
      | with_reducible rfl
      | (refine srcI ?_; kernel_rfl)
      | (refine nsI ?_; kernel_rfl)
      | (refine And.intro ?_ ?_ <;> conv => whnf; try dsimp only [St.after, St.afterAt, St.pin, St.unpin, initSt, initT, numO, cellsA, Option.map, ren, renL, renO, St.setObj, headSt, List.cons_append, List.nil_append, List.length_nil, Nat.reduceAdd])
      | rfl)
  rotate_right 1
  focus
    conv => whnf
    repeat' (first
      | exact trivial
      | with_reducible rfl
      | (refine srcI ?_; kernel_rfl)
      | (refine nsI ?_; kernel_rfl)
      | (refine And.intro ?_ ?_ <;> conv => whnf; try dsimp only [St.after, St.afterAt, St.pin, St.unpin, initSt, initT, numO, cellsA, Option.map, ren, renL, renO, St.setObj, headSt, List.cons_append, List.nil_append, List.length_nil, Nat.reduceAdd])
      | rfl)
end Go.Proofs.Ytkecpgidolphfaa
