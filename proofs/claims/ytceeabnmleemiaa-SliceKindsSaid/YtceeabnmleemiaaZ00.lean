/- Contracts of functions of the program, proved by the checker; and plain laws. -/
import Derived.Test.YtceeabnmleemiaaTab
import Derived.Test.YtceeabnmleemiaaMkA
set_option linter.unusedVariables false
set_option linter.unusedSimpArgs false
namespace Go.Proofs.Ytceeabnmleemiaa
open Go Go.Sk
def D : Draw := vcDrawF Try.prog tab
theorem D_ok : DOK Try.prog D := vcDrawF_ok tok (by kernel_rfl)
def I (n : Int) : AV := .v (.int .i64 n)
def Bo (b : Bool) : AV := .v (.bool b)
def Is (l : List Int) : AV := .sl (l.map I)
def Iss (l : List (List Int)) : AV := .sl (l.map Is)
theorem nth_mem {α : Type} [Inhabited α] {l : List α} {i : Int} (h0 : 0 ≤ i) (h : i < l.length) : nth l i ∈ l := List.mem_of_getElem? (nth_some h0 h)
theorem take_snoc {α : Type} [Inhabited α] {l : List α} {i : Int} (h0 : 0 ≤ i) (h : i < l.length) : l.take (i + 1).toNat = l.take i.toNat ++ [nth l i] := by
  rw [show (i + 1).toNat = i.toNat + 1 by omega, List.take_succ_eq_append_getElem (by omega)]
  unfold nth; rw [List.getD_eq_getElem?_getD, List.getElem?_eq_getElem (by omega)]; rfl
theorem take_all {α : Type} {l : List α} {i : Int} (h : l.length ≤ i) : l.take i.toNat = l := List.take_of_length_le (by omega)
theorem mem_nth {α : Type} [Inhabited α] {l : List α} {x : α} (h : x ∈ l) : ∃ i : Int, 0 ≤ i ∧ i < l.length ∧ nth l i = x := by
  obtain ⟨i, h1, h2⟩ := List.mem_iff_getElem.1 h
  refine ⟨i, by omega, by omega, ?_⟩
  have := nth_some (l := l) (i := (i : Int)) (by omega) (by omega)
  rw [show ((i : Int)).toNat = i by omega, List.getElem?_eq_getElem h1] at this
  injection this with this
  rw [← this, h2]
theorem all_nth {α : Type} [Inhabited α] {l : List α} {p : α → Prop} : (∀ x, x ∈ l → p x) ↔ ∀ i : Int, 0 ≤ i → i < l.length → p (nth l i) :=
  ⟨fun h i h0 h1 => h _ (nth_mem h0 h1), fun h x hx => by obtain ⟨i, h0, h1, rfl⟩ := mem_nth hx; exact h i h0 h1⟩
theorem nth_map {α β : Type} [Inhabited α] [Inhabited β] {l : List α} {f : α → β} {i : Int} (h0 : 0 ≤ i) (h : i < l.length) : nth (l.map f) i = f (nth l i) := by
  have h1 := nth_some (l := l.map f) (i := i) h0 (by rw [List.length_map]; exact h)
  rw [List.getElem?_map, nth_some h0 h] at h1
  injection h1 with h1
  exact h1.symm
theorem ext_nth {α : Type} [Inhabited α] {l r : List α} (hl : l.length = r.length) (h : ∀ i : Int, 0 ≤ i → i < l.length → nth l i = nth r i) : l = r := by
  refine List.ext_getElem? fun k => ?_
  rcases Nat.lt_or_ge k l.length with hk | hk
  · have h1 := nth_some (l := l) (i := (k : Int)) (by omega) (by omega)
    have h2 := nth_some (l := r) (i := (k : Int)) (by omega) (by omega)
    rw [show ((k : Int)).toNat = k by omega] at h1 h2
    rw [h1, h2, h k (by omega) (by omega)]
  · rw [List.getElem?_eq_none hk, List.getElem?_eq_none (by omega)]
theorem nth_append_left {α : Type} [Inhabited α] {l r : List α} {i : Int} (h0 : 0 ≤ i) (h : i < l.length) : nth (l ++ r) i = nth l i := by
  unfold nth; rw [List.getD_eq_getElem?_getD, List.getD_eq_getElem?_getD, List.getElem?_append_left (by omega)]
theorem nth_append_len {α : Type} [Inhabited α] {l : List α} {x : α} {i : Int} (h : i = l.length) : nth (l ++ [x]) i = x := by
  subst h; unfold nth; rw [List.getD_eq_getElem?_getD, show ((l.length : Int)).toNat = l.length by omega, List.getElem?_append_right (Nat.le_refl _)]; simp
theorem nth_set_eq {α : Type} [Inhabited α] {l : List α} {x : α} {i : Int} (h0 : 0 ≤ i) (h : i < l.length) : nth (l.set i.toNat x) i = x := by
  unfold nth; rw [List.getD_eq_getElem?_getD, List.getElem?_set_self (by omega)]; rfl
theorem nth_set_ne {α : Type} [Inhabited α] {l : List α} {x : α} {i j : Int} (h0 : 0 ≤ i) (h1 : 0 ≤ j) (h : i ≠ j) : nth (l.set i.toNat x) j = nth l j := by
  unfold nth; rw [List.getD_eq_getElem?_getD, List.getD_eq_getElem?_getD, List.getElem?_set_ne (by omega)]
structure Bd where
  cells : Int
  next : List (List Int)
  turn : List Int
def Bd.av (b : Bd) : AV := .ag [I b.cells, Iss b.next, Is b.turn]
instance : Inhabited Bd := ⟨⟨0, [], []⟩⟩
def Bd.nx (b : Bd) (d c : Int) : Int := nth (nth b.next d) c
def Bd.tn (b : Bd) (d : Int) : Int := nth b.turn d
structure Bd.ok (b : Bd) : Prop where
  c1 : 1 ≤ b.cells
  c64 : b.cells ≤ 64
  n1 : 1 ≤ b.next.length
  n8 : b.next.length ≤ 8
  tl : b.turn.length = b.next.length
  ll : ∀ d : Int, 0 ≤ d → d < b.next.length → ((nth b.next d).length : Int) = b.cells
  lx : ∀ d c : Int, 0 ≤ d → d < b.next.length → 0 ≤ c → c < b.cells → -1 ≤ b.nx d c ∧ b.nx d c < b.cells
  t0 : ∀ d : Int, 0 ≤ d → d < b.next.length → 0 ≤ b.tn d ∧ b.tn d < b.next.length ∧ b.tn (b.tn d) = d
def Bd.to (b : Bd) (side d c : Int) : Int :=
  if side < 0 ∨ side > 1 ∨ d < 0 ∨ d ≥ b.next.length ∨ c < 0 ∨ c ≥ b.cells then -1 else b.nx (if side = 1 then b.tn d else d) c
end Go.Proofs.Ytceeabnmleemiaa
namespace Go.Proofs.Ytceeabnmleemiaa
open Go Go.Sk
structure Tot {α : Type} (c : α → α → Int) : Prop where
  eq0 : ∀ a b, c a b = 0 ↔ a = b
  anti : ∀ a b, c a b = - c b a
  trans : ∀ a b d, c a b < 0 → c b d < 0 → c a d < 0
theorem Tot.self {α : Type} {c : α → α → Int} (h : Tot c) (a : α) : c a a = 0 := (h.eq0 a a).2 rfl
theorem Tot.irr {α : Type} {c : α → α → Int} (h : Tot c) {a b : α} (hl : c a b < 0) : a ≠ b := fun e => by subst e; rw [h.self] at hl; omega
def cmpI (a b : Int) : Int := if a < b then -1 else if a > b then 1 else 0
theorem cmpI_tot : Tot cmpI := by
  refine ⟨fun a b => ?_, fun a b => ?_, fun a b d => ?_⟩
  all_goals
    unfold cmpI
    repeat' split
    all_goals omega
def cmpL {α : Type} (c : α → α → Int) : List α → List α → Int
  | [], [] => 0
  | [], _ :: _ => -1
  | _ :: _, [] => 1
  | a :: r, b :: s => if c a b = 0 then cmpL c r s else c a b
theorem cmpL_tot {α : Type} {c : α → α → Int} (h : Tot c) : Tot (cmpL c) := by
  refine ⟨?_, ?_, ?_⟩
  · intro a
    induction a with
    | nil => intro b; cases b <;> simp [cmpL]
    | cons x r ih =>
      intro b
      cases b with
      | nil => simp [cmpL]
      | cons y s =>
        simp only [cmpL]
        split
        · rename_i e; rw [ih, (h.eq0 x y).1 e]; simp
        · rename_i e
          refine ⟨fun q => absurd q e, fun q => ?_⟩
          injection q with q1 q2
          exact absurd ((h.eq0 x y).2 q1) e
  · intro a
    induction a with
    | nil => intro b; cases b <;> simp [cmpL]
    | cons x r ih =>
      intro b
      cases b with
      | nil => simp [cmpL]
      | cons y s =>
        simp only [cmpL]
        have := h.anti x y
        by_cases e : c x y = 0
        · rw [if_pos e, if_pos (by omega), ih]
        · rw [if_neg e, if_neg (by omega)]; exact this
  · intro a
    induction a with
    | nil =>
      intro b d
      cases b <;> cases d <;> simp [cmpL]
    | cons x r ih =>
      intro b d
      cases b with
      | nil => simp [cmpL]
      | cons y s =>
        cases d with
        | nil => simp [cmpL]
        | cons z t =>
          simp only [cmpL]
          intro h1 h2
          by_cases e1 : c x y = 0
          · rw [if_pos e1] at h1
            have := (h.eq0 _ _).1 e1; subst this
            by_cases e2 : c x z = 0
            · rw [if_pos e2] at h2 ⊢; exact ih _ _ h1 h2
            · rw [if_neg e2] at h2 ⊢; exact h2
          · rw [if_neg e1] at h1
            by_cases e2 : c y z = 0
            · have := (h.eq0 _ _).1 e2; subst this
              rw [if_neg e1]; exact h1
            · rw [if_neg e2] at h2
              have h3 := h.trans _ _ _ h1 h2
              rw [if_neg (by omega)]; exact h3
def Asc {α : Type} (c : α → α → Int) (l : List α) : Prop := l.Pairwise fun a b => c a b < 0
theorem Asc.uniq {α : Type} {c : α → α → Int} (h : Tot c) : ∀ {l r : List α}, Asc c l → Asc c r → (∀ x, x ∈ l ↔ x ∈ r) → l = r
  | [], [], _, _, _ => rfl
  | [], y :: s, _, _, e => absurd ((e y).2 (by simp)) (by simp)
  | x :: r, [], _, _, e => absurd ((e x).1 (by simp)) (by simp)
  | x :: r, y :: s, hl, hr, e => by
    unfold Asc at hl hr
    rw [List.pairwise_cons] at hl hr
    have hxy : x = y := by
      rcases List.mem_cons.1 ((e x).1 (by simp)) with q | q
      · exact q
      · rcases List.mem_cons.1 ((e y).2 (by simp)) with q' | q'
        · exact q'.symm
        · have h1 := hl.1 y q'
          have h2 := hr.1 x q
          have := h.anti x y
          omega
    subst hxy
    rw [Asc.uniq h hl.2 hr.2 fun z => ?_]
    constructor
    · intro hz
      rcases List.mem_cons.1 ((e z).1 (List.mem_cons_of_mem _ hz)) with q | q
      · subst q; exact absurd rfl (h.irr (hl.1 z hz))
      · exact q
    · intro hz
      rcases List.mem_cons.1 ((e z).2 (List.mem_cons_of_mem _ hz)) with q | q
      · subst q; exact absurd rfl (h.irr (hr.1 z hz))
      · exact q
def put {α : Type} (c : α → α → Int) (x : α) : List α → List α
  | [] => [x]
  | y :: r => if c x y < 0 then x :: y :: r else if c x y = 0 then y :: r else y :: put c x r
def canon {α : Type} (c : α → α → Int) : List α → List α
  | [] => []
  | x :: r => put c x (canon c r)
theorem mem_put {α : Type} {c : α → α → Int} (h : Tot c) {x z : α} : ∀ {l : List α}, z ∈ put c x l ↔ z = x ∨ z ∈ l
  | [] => by simp [put]
  | y :: r => by
    unfold put
    split
    · simp
    · split
      · rename_i e; rw [(h.eq0 _ _).1 e]; simp
      · rw [List.mem_cons, mem_put h, List.mem_cons]
        constructor
        · rintro (q | q | q) <;> simp [q]
        · rintro (q | q | q) <;> simp [q]
theorem put_asc {α : Type} {c : α → α → Int} (h : Tot c) {x : α} : ∀ {l : List α}, Asc c l → Asc c (put c x l)
  | [], _ => by simp [put, Asc]
  | y :: r, hl => by
    unfold Asc at hl
    have hl' := hl
    rw [List.pairwise_cons] at hl
    unfold put
    split
    · rename_i q
      unfold Asc
      refine List.pairwise_cons.2 ⟨fun z hz => ?_, hl'⟩
      rcases List.mem_cons.1 hz with rfl | hz
      · exact q
      · exact h.trans _ _ _ q (hl.1 z hz)
    · split
      · exact hl'
      · rename_i q1 q2
        unfold Asc
        refine List.pairwise_cons.2 ⟨fun z hz => ?_, put_asc h hl.2⟩
        rcases (mem_put h).1 hz with rfl | hz
        · have := h.anti y z; omega
        · exact hl.1 z hz
theorem canon_asc {α : Type} {c : α → α → Int} (h : Tot c) : ∀ l : List α, Asc c (canon c l)
  | [] => by simp [canon, Asc]
  | x :: r => put_asc h (canon_asc h r)
theorem mem_canon {α : Type} {c : α → α → Int} (h : Tot c) {x : α} : ∀ {l : List α}, x ∈ canon c l ↔ x ∈ l
  | [] => by simp [canon]
  | y :: r => by unfold canon; rw [mem_put h, mem_canon h]; simp
theorem Asc.canon {α : Type} {c : α → α → Int} (h : Tot c) {l r : List α} (hl : Asc c l) (hm : ∀ x, x ∈ l ↔ x ∈ r) : l = canon c r :=
  Asc.uniq h hl (canon_asc h r) fun x => by rw [hm, mem_canon h]
theorem put_len {α : Type} {c : α → α → Int} {x : α} : ∀ {l : List α}, (put c x l).length ≤ l.length + 1
  | [] => by simp [put]
  | y :: r => by
    unfold put
    have := put_len (c := c) (x := x) (l := r)
    split
    · simp
    · split <;> simp
      omega
theorem canon_len {α : Type} {c : α → α → Int} : ∀ l : List α, (canon c l).length ≤ l.length
  | [] => by simp [canon]
  | x :: r => by
    have h1 := canon_len (c := c) r
    have h2 := put_len (c := c) (x := x) (l := canon c r)
    unfold canon
    simp only [List.length_cons]
    omega
end Go.Proofs.Ytceeabnmleemiaa
namespace Go.Proofs.Ytceeabnmleemiaa
open Go Go.Sk
def ints (n : Int) : List Int := (List.range n.toNat).map fun (k : Nat) => (k : Int)
theorem ints_zero : ints 0 = [] := rfl
theorem ints_neg {n : Int} (h : n ≤ 0) : ints n = [] := by unfold ints; rw [show n.toNat = 0 by omega]; rfl
theorem ints_succ {i : Int} (h : 0 ≤ i) : ints (i + 1) = ints i ++ [i] := by
  unfold ints
  rw [show (i + 1).toNat = i.toNat + 1 by omega, List.range_succ, List.map_append]
  simp; omega
theorem mem_ints {n x : Int} : x ∈ ints n ↔ 0 ≤ x ∧ x < n := by
  unfold ints
  simp only [List.mem_map, List.mem_range]
  exact ⟨fun ⟨k, h1, h2⟩ => by omega, fun ⟨h1, h2⟩ => ⟨x.toNat, by omega, by omega⟩⟩
theorem ints_len (n : Int) : (ints n).length = n.toNat := by simp [ints]
theorem nth_ints {n i : Int} (h0 : 0 ≤ i) (h : i < n) : nth (ints n) i = i := by
  unfold nth ints
  rw [List.getD_eq_getElem?_getD, List.getElem?_map, List.getElem?_range (by omega)]
  simp; omega
theorem any_ints_succ {i : Int} (h : 0 ≤ i) (p : Int → Bool) : (ints (i + 1)).any p = ((ints i).any p || p i) := by rw [ints_succ h]; simp
theorem filter_ints_succ {i : Int} (h : 0 ≤ i) (p : Int → Bool) : (ints (i + 1)).filter p = (ints i).filter p ++ if p i then [i] else [] := by
  rw [ints_succ h, List.filter_append]; congr 1; simp only [List.filter_cons, List.filter_nil]
theorem all_ints_succ {i : Int} (h : 0 ≤ i) (p : Int → Bool) : (ints (i + 1)).all p = ((ints i).all p && p i) := by rw [ints_succ h]; simp
theorem map_ints_succ {β : Type} {i : Int} (h : 0 ≤ i) (f : Int → β) : (ints (i + 1)).map f = (ints i).map f ++ [f i] := by rw [ints_succ h]; simp
theorem map_ints_nth {α : Type} [Inhabited α] (l : List α) : (ints l.length).map (nth l) = l := by
  refine ext_nth (by simp [ints_len]) fun i h0 h1 => ?_
  rw [List.length_map] at h1
  have : i < l.length := by rw [ints_len] at h1; omega
  rw [nth_map h0 h1, nth_ints h0 this]
theorem nth_map_ints {β : Type} [Inhabited β] {n i : Int} {f : Int → β} (h0 : 0 ≤ i) (h : i < n) : nth ((ints n).map f) i = f i := by
  rw [nth_map h0 (by rw [ints_len]; omega), nth_ints h0 h]
theorem filter_ints_le (n : Int) (p : Int → Bool) : ((ints n).filter p).length ≤ n.toNat := by
  have := List.length_filter_le p (ints n); rwa [ints_len] at this
end Go.Proofs.Ytceeabnmleemiaa
namespace Go.Proofs.Ytceeabnmleemiaa
open Go Go.Sk
set_option maxRecDepth 10000 in
theorem Has_p (l : List Int) (n : Int) (hl : l.length ≤ 4611686018427387904) : Pure Try.prog 22 [Is l, I n] (Bo (l.contains n)) none := by
  refine fun_of tok D_ok Try.func22 rfl Try.ntmps22 Try.results22 (by kernel_rfl) (by simp) (by simp) ?_
  have e : l.length = (l.map I).length := by simp
  conv => whnf
  refine .of (fun i => [(5, I i)]) (fun _ => []) 0 (fun i => 0 ≤ i ∧ i ≤ l.length ∧ n ∉ l.take i.toNat) (fun i => (l.length - i).toNat) 0 ?_
  conv => whnf
  refine ⟨⟨[], rfl, rfl, rfl, ⟨rfl, trivial⟩, trivial⟩, ⟨by omega, by omega, by simp⟩, fun i ⟨hi0, hi1, hi⟩ => ?_⟩
  conv => whnf
  repeat' (first
    | (refine lvA (k := ?_); apply Cj.mk <;> first | exact trivial | intros)
    | (refine lvE (k := ?_); apply Cj.mk <;> first | exact trivial | intros)
    | fail)
  · rename_i h
    rw [show l.contains n = true from List.contains_iff_mem.2 (by rw [← h]; exact nth_mem (by omega) (by omega))]
  · rename_i h
    refine ⟨i + 1, ⟨[], rfl, rfl, rfl, ⟨rfl, trivial⟩, trivial⟩, ⟨by omega, by omega, ?_⟩, ?_, rfl⟩
    · rw [take_snoc (by omega) (by omega)]
      simp [hi, Ne.symm h]
    · show (l.length - (i + 1)).toNat < (l.length - i).toNat
      omega
  · rw [take_all (by omega)] at hi
    simp [hi]
end Go.Proofs.Ytceeabnmleemiaa
namespace Go.Proofs.Ytceeabnmleemiaa
open Go Go.Sk
set_option maxRecDepth 10000 in
theorem To23_p (b : Bd) (hb : b.ok) (side d c : Int) : Pure Try.prog 91 [b.av, I side, I d, I c] (I (b.to side d c)) none := by
  refine fun_of tok D_ok Try.func91 rfl Try.ntmps91 Try.results91 (by kernel_rfl) (by simp) (by simp) ?_
  have tl := hb.tl
  have t0 := hb.t0 d
  have l0 := hb.ll d
  have l1 := hb.ll (b.tn d)
  have e : b.next.length = (b.next.map Is).length := by simp
  unfold Bd.tn at t0 l1
  conv => whnf
  repeat' (first
    | (refine lvA (k := ?_); apply Cj.mk <;> first | exact trivial | intros)
    | (refine lvE (k := ?_); apply Cj.mk <;> first | exact trivial | intros)
    | fail)
  iterate 6 (unfold Bd.to; rw [if_pos (by omega)])
  · unfold Bd.to; rw [if_neg (by omega), if_pos (by omega)]; rfl
  · unfold Bd.to; rw [if_neg (by omega), if_neg (by omega)]; rfl
end Go.Proofs.Ytceeabnmleemiaa
namespace Go.Proofs.Ytceeabnmleemiaa
open Go Go.Sk Go.RowKit Go.Maps Go.Sort Go.Shelf
theorem fun_read {P : Program} {f : FuncId} {os : List AO} {args : List AV} {k : Nat} {xs : List AV} (hen : Go.Sk.Enters P f)
    (h : ∀ (N : Nat → Prop) (w : World) (V : VV) (vs : Array Value), vs.size = args.length → Own N V (obL os) (ltA os.length) w → (∀ (j : Nat) (h1 : j < args.length) (h2 : j < vs.size), RepT N w V args[j] vs[j]) →
      Calls P f vs w fun e w' => ∃ v, e = .returned v ∧ Below w.heap.size w w' ∧ v.oneCell' = true ∧ (∀ N', ArrAt N' w' v k xs) ∧ ∀ b, bl v b → w.heap.size ≤ b ∧ b < w'.heap.size) :
    Fun P f os args (.ref os.length) (os ++ [.arr k xs]) := by
  refine ⟨hen, by simp, fun N w V vs hs hown hrep hbd => (h N w V vs hs hown hrep).mono ?_⟩
  rintro e w' ⟨v, rfl, hb, hone, harr, hbl⟩
  have hob : ∀ i o, obL (os ++ [AO.arr k xs]) i = some o → (i < os.length ∧ obL os i = some o) ∨ (i = os.length ∧ o = .arr k xs) := fun i o ho => by
    unfold obL at ho ⊢
    rcases Nat.lt_trichotomy i os.length with hi | hi | hi
    · rw [List.getElem?_append_left hi] at ho; exact .inl ⟨hi, ho⟩
    · subst hi; rw [List.getElem?_append_right (Nat.le_refl _), Nat.sub_self] at ho; injection ho with ho; exact .inr ⟨rfl, ho.symm⟩
    · rw [List.getElem?_eq_none (by simp; omega)] at ho; cases ho
  have hV : ∀ i, ltA os.length i → updV V os.length v i = V i := fun i hi => updV_ne _ _ _ (by unfold ltA at hi; omega)
  have hF : ∀ i, i < os.length → (updV V os.length v).f i = V.f i := fun i hi => updV_fne _ _ _ (by omega)
  have hlive : ∀ i, live (obL (os ++ [AO.arr k xs])) i → (i < os.length ∧ live (obL os) i) ∨ i = os.length := fun i ⟨o, h1, h2⟩ => by
    rcases hob i o h1 with ⟨q1, q2⟩ | ⟨q1, _⟩
    · exact .inl ⟨q1, o, q2, h2⟩
    · exact .inr q1
  have hNf : ∀ b, N b → b < w.heap.size → Nf (fun b => N b ∨ foot V (obL os) b) w.heap.size (updV V os.length v) (obL (os ++ [AO.arr k xs])) b ∧ w'.heap[b]? = w.heap[b]? := fun b hN hlt =>
    ⟨⟨fun _ => .inl hN, fun i hl hbi => by
      rcases hlive i hl with ⟨q1, q2⟩ | rfl
      · rw [hF i q1] at hbi; exact (hown.low i b q2 hbi).2 hN
      · rw [updV_f] at hbi; have := (hbl b hbi).1; omega⟩, hb.block b hlt⟩
  refine ⟨v, rfl, ⟨hb.os, hb.tape, hb.output, hb.size, fun q hq _ => hb.block q hq⟩, updV V os.length v, fun i hi => updV_ne _ _ _ (by omega), ?_, by unfold bd; simp [ltA], fun i o ho => ?_, fun i j b hi hj hbi hbj => ?_, fun i b hi hbi => ?_⟩
  · have := RepT.ref (N := Nf (fun b => N b ∨ foot V (obL os) b) w.heap.size (updV V os.length v) (obL (os ++ [AO.arr k xs]))) (w := w') (V := updV V os.length v) os.length (by rw [updV_same]; exact hone)
    rwa [updV_same] at this
  · rcases hob i o ho with ⟨q1, q2⟩ | ⟨rfl, rfl⟩
    · obtain ⟨r1, r2⟩ := hown.bdo i o q2
      exact ⟨(hown.obs i o q2).mono (A := ltA os.length) hNf hb.size hV (fun b => by rw [hF i q1]) r1 (fun hl b hbi => hb.block b (hown.low i b ⟨o, q2, hl⟩ hbi).1) r2, bdO_mono (fun j hj => by unfold ltA at hj ⊢; simp; omega) o r2⟩
    · exact ⟨⟨fun b => by rw [updV_same, updV_f], by rw [updV_same]; exact harr _⟩, trivial⟩
  · rcases hlive i hi with ⟨q1, q2⟩ | rfl <;> rcases hlive j hj with ⟨q3, q4⟩ | rfl
    · rw [hF i q1] at hbi; rw [hF j q3] at hbj; exact hown.inj i j b q2 q4 hbi hbj
    · rw [hF i q1] at hbi; rw [updV_f] at hbj
      have := (hown.low i b q2 hbi).1; have := (hbl b hbj).1; omega
    · rw [hF j q3] at hbj; rw [updV_f] at hbi
      have := (hown.low j b q4 hbj).1; have := (hbl b hbi).1; omega
    · rfl
  · rcases hlive i hi with ⟨q1, q2⟩ | rfl
    · rw [hF i q1] at hbi; exact ⟨.inr ⟨i, q2, hbi⟩, Nat.lt_of_lt_of_le (hown.low i b q2 hbi).1 hb.size⟩
    · rw [updV_f] at hbi; exact ⟨.inl (hbl b hbi).1, (hbl b hbi).2⟩
def sortI (l : List Int) : List Int := l.mergeSort fun x y => decide (x ≤ y)
theorem sortI_perm {l r : List Int} (h : l.Perm r) : sortI l = sortI r := by
  have tr : ∀ a b c : Int, decide (a ≤ b) = true → decide (b ≤ c) = true → decide (a ≤ c) = true := fun a b c h1 h2 => by simp only [decide_eq_true_eq] at *; omega
  have to : ∀ a b : Int, (decide (a ≤ b) || decide (b ≤ a)) = true := fun a b => by simp only [Bool.or_eq_true, decide_eq_true_eq]; omega
  exact List.Perm.eq_of_pairwise (le := fun a b => decide (a ≤ b) = true) (fun a b _ _ h1 h2 => by simp only [decide_eq_true_eq] at h1 h2; omega) (List.pairwise_mergeSort tr to l) (List.pairwise_mergeSort tr to r) (((List.mergeSort_perm l _).trans h).trans (List.mergeSort_perm r _).symm)
theorem sortsA (m : Nat) : Go.Proofs.AnyZI.SortsIn Try.prog Go.Proofs.Try.sortedA_ren Fence.wide m :=
  ⟨fun blk off cap ss W hH hblk hsz => callsIn_wide.2 (Go.Proofs.AnyM.slices_Sort_int Go.Proofs.Try.sortA blk off cap ss W hH hblk hsz),
   fun p cap W => callsIn_wide.2 (Go.Proofs.AnyM.slices_Sort_int_none Go.Proofs.Try.sortA p cap W)⟩
theorem SortedKeys_p (l : List Int) (hl : l.length ≤ 10000000) (hw : ∀ x, x ∈ l → (Go.Lit.int .i64 x).wf = true) (xs : List AV) :
    Fun Try.prog 26 [.mp (.int .i64) (l.map fun x => .int .i64 x) xs, .box [.ref 0]] [.fn (.func 38) [] [.ptr 1 0]] (.ref 2) [.mp (.int .i64) (l.map fun x => .int .i64 x) xs, .box [.ref 0], .arr 1 ((sortI l).map I)] := by
  refine fun_read (os := [.mp (.int .i64) (l.map fun x => .int .i64 x) xs, .box [.ref 0]]) ⟨_, Try.func26, rfl, rfl⟩ fun N w V vs hs hown hrep => ?_
  obtain ⟨b, es, clock, G, hR⟩ := MpR.of (hown.obs 0 _ rfl)
  obtain ⟨_, bB, arr, Ty, hB1, hB2, hB3, hB4⟩ := hown.obs 1 _ rfl
  obtain ⟨u, hu1, hu2, _⟩ := hB4 0 _ rfl
  have hu : u = .map (some b) := by
    cases hu2 with
    | im h => cases h
    | ref _ _ => exact hR.v
  subst hu
  have hvs : vs = #[.func (.func 38) #[] #[.pointer (some ⟨bB, 0, none⟩)]] := by
    have h0 := hrep 0 (by simp) (by rw [hs]; simp)
    have hs1 : vs.size = 1 := hs
    apply Array.ext (by simp [hs1])
    intro i h1 h2
    have : i = 0 := by omega
    subst this
    simp only [List.getElem_cons_zero] at h0
    generalize vs[0] = v at h0
    cases h0 with
    | im h => cases h
    | fn _ _ _ us ws hs2 hs3 hr2 hr3 =>
      have e1 : us = #[] := Array.eq_empty_of_size_eq_zero hs2
      have h3 := hr3 0 (by simp) (by rw [hs3]; simp)
      have e2 : ws = #[.pointer (some ⟨bB, 0, none⟩)] := by
        apply Array.ext (by simpa using hs3)
        intro i h4 h5
        have : i = 0 := by simp at h5; omega
        subst this
        simp only [List.getElem_cons_zero] at h3
        generalize ws[0] = x at h3
        cases h3 with
        | im h => cases h
        | ptr _ _ b' o' h' =>
          rw [hB1] at h'
          injection h' with h'
          injection h' with h'
          injection h' with q1 q2
          subst q1 q2
          rfl
      rw [e1, e2]; rfl
  subst hvs
  have hcell : w.cell? ⟨bB, 0, none⟩ = some (.map (some b)) := by simp [World.cell?, hB2, hu1]
  have hBlt : bB < w.heap.size := (Array.getElem?_eq_some_iff.1 hB2).1
  let R : Value → Option (DataW Unit × List MemPlace) := fun _ => some (.nil, [])
  have hkey : ∀ x ∈ es.toList, ∃ z, x.key = .int .i64 z ∧ z ∈ l := fun x hx => by
    have : x.key ∈ l.map fun x => Value.int .i64 x := by rw [← hR.ke]; exact List.mem_map_of_mem hx
    obtain ⟨z, hz, h⟩ := List.mem_map.1 this
    exact ⟨z, h.symm, hz⟩
  have hrd : ∀ (x : MapEntry) (z : Int), x.key = .int .i64 z → (Go.Lit.int .i64 z).wf = true → WideElems.rd Try.prog 3 R x = some (Lit.int .i64 z, DataW.nil) := fun x z h1 h2 => by
    unfold WideElems.rd
    rw [h1, keyOf_int_mk Try.underlying3 h2]
    rfl
  have hesl : es.size = l.length := by
    have := congrArg List.length hR.ke
    simpa using this
  have hfit : WideElems.Fit Try.prog 3 R es clock := ⟨by unfold maxLen; omega, hR.st, fun x hx => by
    obtain ⟨z, h1, h2⟩ := hkey x hx
    exact ⟨_, hrd x z h1 (hw z h2)⟩⟩
  have hD : w.ownsMap Try.prog 3 R b es.size (.map ((es.toList.map (WideElems.rg Try.prog 3 R)).foldr DataW.insert [])) := ⟨es, clock, hR.h, hfit, Nat.le_refl _, rfl⟩
  obtain ⟨D0, hD0⟩ : ∃ D0 : DataW Unit, D0 = .map ((es.toList.map (WideElems.rg Try.prog 3 R)).foldr DataW.insert []) := ⟨_, rfl⟩
  have hperm : (Go.intKeys D0).Perm l := by
    rw [hD0]
    have h1 := (Go.WideShapes.sorted_perm (es.toList.map (WideElems.rg Try.prog 3 R))).map (fun p => Go.intOf p.1)
    refine (show _ = _ from rfl : Go.intKeys (.map _) = _) ▸ h1.trans ?_
    have h2 : (es.toList.map (WideElems.rg Try.prog 3 R)).map (fun p => Go.intOf p.1) = l := by
      have h3 := hR.ke
      refine List.ext_getElem (by simp [hesl]) fun i h4 h5 => ?_
      have h6 : i < es.toList.length := by simpa using h4
      have h7 : (es.toList[i]).key = .int .i64 l[i] := by
        have := congrArg (fun l => l[i]?) h3
        simp only [List.getElem?_map, List.getElem?_eq_getElem h6, List.getElem?_eq_getElem h5, Option.map_some, Option.some.injEq] at this
        exact this
      have h8 := hrd _ _ h7 (hw _ (List.getElem_mem h5))
      simp only [List.getElem_map]
      unfold WideElems.rg
      rw [h8]
      rfl
    rw [h2]
  rw [← hD0] at hD
  have hsz : Maps.size D0 = l.length := by
    have := hperm.length_eq
    rw [← this, hD0]
    simp [Maps.size, Go.intKeys]
  have hseq := Go.Proofs.AnyZI.keys_gives (ρ := Go.Proofs.Try.keysA_ren) { Go.Proofs.Try.keysA with } Fence.wide 2 trivial rfl (by omega) bB b es.size D0 w hBlt hcell hD
  have cS := Go.Proofs.AnyZI.sorted_in Go.Proofs.Try.sortedA Fence.wide 5 trivial trivial trivial trivial rfl (by omega) (sortsA _) (enters_of Try.func37 (by kernel_rfl) rfl) 38 #[.pointer (some ⟨bB, 0, none⟩)] trivial (enters_of Try.func38 (by kernel_rfl) rfl) _ _ (by rw [hsz]; unfold maxLen; omega) (by rw [hsz]; omega) _ hseq
  refine (callsIn_wide.1 cS).mono ?_
  rintro e w' ⟨v, ss, rfl, hS, hrow, hnil, hb⟩
  have hss : ss.mergeSort (fun x y => decide (x ≤ y)) = sortI l := sortI_perm (hS.trans hperm)
  rw [hss] at hrow
  have hsl : ss.length = (sortI l).length := by rw [← hss, List.length_mergeSort]
  obtain ⟨hr1, hr2⟩ := hrow
  rcases hr2 with ⟨rfl, hz⟩ | ⟨g, cap, cur, rfl, hg1, hg2, hg3, hg4, hg5, hg6⟩
  · refine ⟨_, rfl, hb, rfl, fun N' => .inl ⟨none, rfl, ?_⟩, fun b' hb' => by simp [bl, blk] at hb'⟩
    have : (sortI l).length = 0 := by omega
    rw [List.eq_nil_of_length_eq_zero this]; rfl
  · have hpos : 0 < ss.length := by
      rcases Nat.eq_zero_or_pos ss.length with h | h
      · have := hnil.2 (List.eq_nil_of_length_eq_zero h)
        cases this
      · exact h
    have hglt := (Array.getElem?_eq_some_iff.1 hg2).1
    refine ⟨_, rfl, hb, rfl, fun N' => .inr ⟨g, 0, cap, cur, _, by rw [List.length_map, ← hsl], hg2, by omega, by rw [List.length_map]; omega, by omega, fun e he => ?_, fun i e j c hi hj => ?_⟩, fun b' hb' => ?_⟩
    · obtain ⟨x, _, rfl⟩ := List.mem_map.1 he; rfl
    · rw [List.getElem?_map] at hi
      cases hx : (sortI l)[i]? with
      | none => rw [hx] at hi; cases hi
      | some x =>
        rw [hx] at hi
        injection hi with hi
        subst hi
        cases j with
        | succ j => simp [cellsA, I] at hj
        | zero =>
          simp [cellsA, I] at hj
          subst hj
          refine ⟨.int .i64 x, ?_, .v _ rfl⟩
          have hil := (List.getElem?_eq_some_iff.1 hx).1
          have h1 : (cur.toList.take (ss.length * 1))[i]? = some (encZ x) := by rw [hg6, List.getElem?_map, hx]; rfl
          rw [List.getElem?_take, if_pos (by omega), Array.getElem?_toList] at h1
          rw [show 0 + (i * 1 + 0) = i by omega]
          exact h1
    · simp only [bl, blk] at hb'
      split at hb'
      · cases hb'
      · injection hb' with hb'
        subst hb'
        exact ⟨hg1, hglt⟩
end Go.Proofs.Ytceeabnmleemiaa
namespace Go.Proofs.Ytceeabnmleemiaa
open Go Go.Sk
theorem take_eq_all {α : Type} {a b : List α} {i : Int} (hl : a.length = b.length) (h : a.length ≤ i) (ht : a.take i.toNat = b.take i.toNat) : a = b := by
  rwa [take_all h, take_all (by omega)] at ht
theorem take_eq_succ {α : Type} [Inhabited α] {a b : List α} {i : Int} (h0 : 0 ≤ i) (h1 : i < a.length) (h2 : i < b.length) (ht : a.take i.toNat = b.take i.toNat) (h : nth a i = nth b i) : a.take (i + 1).toNat = b.take (i + 1).toNat := by
  rw [take_snoc h0 h1, take_snoc h0 h2, ht, h]
set_option maxRecDepth 10000 in
theorem Ints_p (a b : List Int) (ha : a.length ≤ 4611686018427387904) : Pure Try.prog 14 [Is a, Is b] (Bo (decide (a = b))) none := by
  refine fun_of tok D_ok Try.func14 rfl Try.ntmps14 Try.results14 (by kernel_rfl) (by simp) (by simp) ?_
  have e1 : a.length = (a.map I).length := by simp
  have e2 : b.length = (b.map I).length := by simp
  conv => whnf
  repeat' ((first
    | (refine Ck.mk ?_)
    | (refine ifD (fun _ => ?_) (fun _ => ?_))
    | (refine ifE (fun _ => ?_) (fun _ => ?_))
    | (refine ifN (fun _ => ?_) (fun _ => ?_))
    | ((with_reducible refine natI ?_))
    | ((with_reducible refine ifNot ?_))
    | ((with_reducible refine ifAndD (fun _ _ => ?_) (fun _ => ?_)))
    | ((with_reducible refine ifAnd (fun _ _ => ?_) (fun _ => ?_)))
    | (refine ixM (by omega) (by first | omega | (simp only [List.length_set, List.length_map, List.length_append, List.length_cons, List.length_nil, List.length_replicate]; omega)) rfl ?_)
    | (refine ixA (by omega) (by first | omega | (simp only [List.length_set, List.length_map, List.length_append, List.length_cons, List.length_nil, List.length_replicate]; omega)) ?_)
    | (refine ltM (by omega) (by first | omega | (simp only [List.length_set, List.length_map, List.length_append, List.length_cons, List.length_nil, List.length_replicate]; omega)) ?_)
    | (refine calI (by omega) ?_)
    | (refine cu8 (by omega) ?_)
    | (refine cu64 (by omega) ?_)
    | (refine And.intro (by omega) ?_; refine crem (by omega) ?_)
    | (refine And.intro (by omega) ?_; refine cquo (by omega) ?_)
    | ((with_reducible refine preI ?_); (first | refine preNil ?_ | refine preOp rfl rfl ?_ | refine preT rfl rfl rfl rfl ?_ | refine preF rfl rfl rfl rfl ?_ | refine preTS rfl rfl rfl rfl ?_ | refine preFS rfl rfl rfl rfl ?_ | refine preSkip rfl rfl rfl rfl ?_ | refine preGT rfl rfl rfl rfl ?_ | refine preGF rfl rfl rfl rfl ?_))
    | (refine AltS.own (by assumption) ?_)
    | (refine AltS.im ?_)
    | ((first | refine drawA2 (by decide +kernel) ?_ | refine drawA (by decide +kernel) ?_ | refine drawL (by decide +kernel) ?_); conv => whnf; (try dsimp only [St.after, St.afterAt, St.pin, St.unpin, initSt, initT, numO, cellsA, Option.map, ren, renL, renO, St.setObj, headSt, List.cons_append, List.nil_append, List.length_nil, Nat.reduceAdd]); try (conv => enter [7, 3]; whnf))
    | (refine ap1 (by decide) (by omega) rfl rfl ?_)
    | (refine ap0 (by decide) rfl ?_)
    | (refine apL (by decide) (by omega) (fun _ => rfl) ?_)
    | (refine apM (by decide) (by omega) (fun _ => rfl) ?_)
    | (refine setI (z := _) rfl ?_)
    | (refine And.intro (by omega) (And.intro (by omega) ?_))
    | (refine ifB_intro (fun _ => ?_) (fun _ => ?_))) <;> (conv => whnf; try dsimp only [St.after, St.afterAt, St.pin, St.unpin, initSt, initT, numO, cellsA, Option.map, ren, renL, renO, St.setObj, headSt, List.cons_append, List.nil_append, List.length_nil, Nat.reduceAdd]))
  · rename_i h
    repeat' ((first
      | (refine Ck.mk ?_)
      | (refine ifD (fun _ => ?_) (fun _ => ?_))
      | (refine ifE (fun _ => ?_) (fun _ => ?_))
      | (refine ifN (fun _ => ?_) (fun _ => ?_))
      | ((with_reducible refine natI ?_))
      | ((with_reducible refine ifNot ?_))
      | ((with_reducible refine ifAndD (fun _ _ => ?_) (fun _ => ?_)))
      | ((with_reducible refine ifAnd (fun _ _ => ?_) (fun _ => ?_)))
      | (refine ixM (by omega) (by first | omega | (simp only [List.length_set, List.length_map, List.length_append, List.length_cons, List.length_nil, List.length_replicate]; omega)) rfl ?_)
      | (refine ixA (by omega) (by first | omega | (simp only [List.length_set, List.length_map, List.length_append, List.length_cons, List.length_nil, List.length_replicate]; omega)) ?_)
      | (refine ltM (by omega) (by first | omega | (simp only [List.length_set, List.length_map, List.length_append, List.length_cons, List.length_nil, List.length_replicate]; omega)) ?_)
      | (refine calI (by omega) ?_)
      | (refine cu8 (by omega) ?_)
      | (refine cu64 (by omega) ?_)
      | (refine And.intro (by omega) ?_; refine crem (by omega) ?_)
      | (refine And.intro (by omega) ?_; refine cquo (by omega) ?_)
      | ((with_reducible refine preI ?_); (first | refine preNil ?_ | refine preOp rfl rfl ?_ | refine preT rfl rfl rfl rfl ?_ | refine preF rfl rfl rfl rfl ?_ | refine preTS rfl rfl rfl rfl ?_ | refine preFS rfl rfl rfl rfl ?_ | refine preSkip rfl rfl rfl rfl ?_ | refine preGT rfl rfl rfl rfl ?_ | refine preGF rfl rfl rfl rfl ?_))
      | (refine AltS.own (by assumption) ?_)
      | (refine AltS.im ?_)
      | ((first | refine drawA2 (by decide +kernel) ?_ | refine drawA (by decide +kernel) ?_ | refine drawL (by decide +kernel) ?_); conv => whnf; (try dsimp only [St.after, St.afterAt, St.pin, St.unpin, initSt, initT, numO, cellsA, Option.map, ren, renL, renO, St.setObj, headSt, List.cons_append, List.nil_append, List.length_nil, Nat.reduceAdd]); try (conv => enter [7, 3]; whnf))
      | (refine ap1 (by decide) (by omega) rfl rfl ?_)
      | (refine ap0 (by decide) rfl ?_)
      | (refine apL (by decide) (by omega) (fun _ => rfl) ?_)
      | (refine apM (by decide) (by omega) (fun _ => rfl) ?_)
      | (refine setI (z := _) rfl ?_)
      | (refine And.intro (by omega) (And.intro (by omega) ?_))
      | (refine ifB_intro (fun _ => ?_) (fun _ => ?_))
      | (refine exitA (by kernel_rfl) (by kernel_rfl) ⟨?_, trivial⟩ ?_ <;> (conv => whnf) <;> repeat' (first | exact trivial | with_reducible rfl | (refine srcI ?_; kernel_rfl) | (refine nsI ?_; kernel_rfl) | (refine And.intro ?_ ?_ <;> conv => whnf; try dsimp only [St.after, St.afterAt, St.pin, St.unpin, initSt, initT, numO, cellsA, Option.map, ren, renL, renO, St.setObj, headSt, List.cons_append, List.nil_append, List.length_nil, Nat.reduceAdd])))) <;> (conv => whnf; try dsimp only [St.after, St.afterAt, St.pin, St.unpin, initSt, initT, numO, cellsA, Option.map, ren, renL, renO, St.setObj, headSt, List.cons_append, List.nil_append, List.length_nil, Nat.reduceAdd]))
    rw [decide_eq_false]
    intro h'; subst h'; exact h rfl
  rename_i h
  refine .of (fun i => [(5, I i)]) (fun i => []) 0 (fun i => 0 ≤ i ∧ i ≤ a.length ∧ a.take i.toNat = b.take i.toNat) (fun i => (a.length - i).toNat) 0 ?_
  conv => whnf
  refine ⟨⟨[], (by kernel_rfl), (by kernel_rfl), (by kernel_rfl), ?_, ?_⟩, ?_, fun i ⟨h0, h1, ht⟩ => ?_⟩
  rotate_left 1
  focus
    conv => whnf
    repeat' (first
      | exact trivial
      | with_reducible rfl
      | (refine srcI ?_; kernel_rfl)
      | (refine nsI ?_; kernel_rfl)
      | (refine And.intro ?_ ?_ <;> conv => whnf; try dsimp only [St.after, St.afterAt, St.pin, St.unpin, initSt, initT, numO, cellsA, Option.map, ren, renL, renO, St.setObj, headSt, List.cons_append, List.nil_append, List.length_nil, Nat.reduceAdd])
      | rfl)
  rotate_right 1
  focus
    conv => whnf
    repeat' (first
      | exact trivial
      | with_reducible rfl
      | (refine srcI ?_; kernel_rfl)
      | (refine nsI ?_; kernel_rfl)
      | (refine And.intro ?_ ?_ <;> conv => whnf; try dsimp only [St.after, St.afterAt, St.pin, St.unpin, initSt, initT, numO, cellsA, Option.map, ren, renL, renO, St.setObj, headSt, List.cons_append, List.nil_append, List.length_nil, Nat.reduceAdd])
      | rfl)
  rotate_right 1
  focus
    conv => whnf
  rotate_left 1
  · exact ⟨by omega, by omega, rfl⟩
  repeat' ((first
    | (refine Ck.mk ?_)
    | (refine ifD (fun _ => ?_) (fun _ => ?_))
    | (refine ifE (fun _ => ?_) (fun _ => ?_))
    | (refine ifN (fun _ => ?_) (fun _ => ?_))
    | ((with_reducible refine natI ?_))
    | ((with_reducible refine ifNot ?_))
    | ((with_reducible refine ifAndD (fun _ _ => ?_) (fun _ => ?_)))
    | ((with_reducible refine ifAnd (fun _ _ => ?_) (fun _ => ?_)))
    | (refine ixM (by omega) (by first | omega | (simp only [List.length_set, List.length_map, List.length_append, List.length_cons, List.length_nil, List.length_replicate]; omega)) rfl ?_)
    | (refine ixA (by omega) (by first | omega | (simp only [List.length_set, List.length_map, List.length_append, List.length_cons, List.length_nil, List.length_replicate]; omega)) ?_)
    | (refine ltM (by omega) (by first | omega | (simp only [List.length_set, List.length_map, List.length_append, List.length_cons, List.length_nil, List.length_replicate]; omega)) ?_)
    | (refine calI (by omega) ?_)
    | (refine cu8 (by omega) ?_)
    | (refine cu64 (by omega) ?_)
    | (refine And.intro (by omega) ?_; refine crem (by omega) ?_)
    | (refine And.intro (by omega) ?_; refine cquo (by omega) ?_)
    | ((with_reducible refine preI ?_); (first | refine preNil ?_ | refine preOp rfl rfl ?_ | refine preT rfl rfl rfl rfl ?_ | refine preF rfl rfl rfl rfl ?_ | refine preTS rfl rfl rfl rfl ?_ | refine preFS rfl rfl rfl rfl ?_ | refine preSkip rfl rfl rfl rfl ?_ | refine preGT rfl rfl rfl rfl ?_ | refine preGF rfl rfl rfl rfl ?_))
    | (refine AltS.own (by assumption) ?_)
    | (refine AltS.im ?_)
    | ((first | refine drawA2 (by decide +kernel) ?_ | refine drawA (by decide +kernel) ?_ | refine drawL (by decide +kernel) ?_); conv => whnf; (try dsimp only [St.after, St.afterAt, St.pin, St.unpin, initSt, initT, numO, cellsA, Option.map, ren, renL, renO, St.setObj, headSt, List.cons_append, List.nil_append, List.length_nil, Nat.reduceAdd]); try (conv => enter [7, 3]; whnf))
    | (refine ap1 (by decide) (by omega) rfl rfl ?_)
    | (refine ap0 (by decide) rfl ?_)
    | (refine apL (by decide) (by omega) (fun _ => rfl) ?_)
    | (refine apM (by decide) (by omega) (fun _ => rfl) ?_)
    | (refine setI (z := _) rfl ?_)
    | (refine And.intro (by omega) (And.intro (by omega) ?_))
    | (refine ifB_intro (fun _ => ?_) (fun _ => ?_))
    | (refine exitA (by kernel_rfl) (by kernel_rfl) ⟨?_, trivial⟩ ?_ <;> (conv => whnf) <;> repeat' (first | exact trivial | with_reducible rfl | (refine srcI ?_; kernel_rfl) | (refine nsI ?_; kernel_rfl) | (refine And.intro ?_ ?_ <;> conv => whnf; try dsimp only [St.after, St.afterAt, St.pin, St.unpin, initSt, initT, numO, cellsA, Option.map, ren, renL, renO, St.setObj, headSt, List.cons_append, List.nil_append, List.length_nil, Nat.reduceAdd])))) <;> (conv => whnf; try dsimp only [St.after, St.afterAt, St.pin, St.unpin, initSt, initT, numO, cellsA, Option.map, ren, renL, renO, St.setObj, headSt, List.cons_append, List.nil_append, List.length_nil, Nat.reduceAdd]))
  · rename_i h4
    rw [decide_eq_false]
    intro h'; subst h'; exact h4 rfl
  · rename_i h4
    refine ⟨i + 1, ⟨[], (by kernel_rfl), (by kernel_rfl), (by kernel_rfl), ?_, ?_⟩, ?_, by (try dsimp only); omega, rfl⟩
    rotate_left 1
    focus
      conv => whnf
      repeat' (first
        | exact trivial
        | with_reducible rfl
        | (refine srcI ?_; kernel_rfl)
        | (refine nsI ?_; kernel_rfl)
        | (refine And.intro ?_ ?_ <;> conv => whnf; try dsimp only [St.after, St.afterAt, St.pin, St.unpin, initSt, initT, numO, cellsA, Option.map, ren, renL, renO, St.setObj, headSt, List.cons_append, List.nil_append, List.length_nil, Nat.reduceAdd]))
    rotate_right 1
    focus
      conv => whnf
      repeat' (first
        | exact trivial
        | with_reducible rfl
        | (refine srcI ?_; kernel_rfl)
        | (refine nsI ?_; kernel_rfl)
        | (refine And.intro ?_ ?_ <;> conv => whnf; try dsimp only [St.after, St.afterAt, St.pin, St.unpin, initSt, initT, numO, cellsA, Option.map, ren, renL, renO, St.setObj, headSt, List.cons_append, List.nil_append, List.length_nil, Nat.reduceAdd]))
    exact ⟨by omega, by omega, take_eq_succ h0 (by omega) (by omega) ht h4⟩
  · rw [decide_eq_true (take_eq_all (by omega) (by omega) ht)]
end Go.Proofs.Ytceeabnmleemiaa
