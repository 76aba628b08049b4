/- Contracts of functions of the program, proved by the checker; and plain laws. -/
import Derived.Test.YtkecpgidolphfaaZ00
import Derived.Test.YtkecpgidolphfaaShelf
set_option linter.unusedVariables false
set_option linter.unusedSimpArgs false
namespace Go.Proofs.Ytkecpgidolphfaa
open Go Go.Sk
def Bd.step (b : Bd) (a c : Int) : Bool := (ints b.next.length).any fun d => b.to 0 d a == c
def Bd.near (b : Bd) (c : Int) : List Int := (ints b.cells).filter fun x => x != c && b.step c x
end Go.Proofs.Ytkecpgidolphfaa
namespace Go.Proofs.Ytkecpgidolphfaa
open Go Go.Sk
def ins (x : Int) (s : List Int) : List Int := s.takeWhile (· ≤ x) ++ x :: s.dropWhile (· ≤ x)
def isort (l : List Int) : List Int := l.foldl (fun s x => ins x s) []
theorem isort_snoc (l : List Int) (x : Int) : isort (l ++ [x]) = ins x (isort l) := by simp [isort]
theorem ins_perm (x : Int) (s : List Int) : (ins x s).Perm (x :: s) := by
  unfold ins
  refine (List.perm_middle).trans (List.Perm.cons x ?_)
  rw [List.takeWhile_append_dropWhile]
theorem mem_dropWhile_of {s : List Int} {x : Int} (hs : s.Pairwise (· ≤ ·)) : ∀ y, y ∈ s.dropWhile (· ≤ x) → x < y := by
  induction s with
  | nil => intro y hy; simp at hy
  | cons z r ih =>
    intro y hy
    rw [List.dropWhile_cons] at hy
    rw [List.pairwise_cons] at hs
    split at hy
    · exact ih hs.2 y hy
    · rename_i hz
      have hz' : x < z := by simpa using hz
      rcases List.mem_cons.1 hy with rfl | hy
      · exact hz'
      · have := hs.1 y hy; omega
theorem mem_takeWhile_le {s : List Int} {x : Int} : ∀ y, y ∈ s.takeWhile (· ≤ x) → y ≤ x := by
  induction s with
  | nil => intro y hy; simp at hy
  | cons z r ih =>
    intro y hy
    rw [List.takeWhile_cons] at hy
    split at hy
    · rename_i hz
      rcases List.mem_cons.1 hy with rfl | hy
      · simpa using hz
      · exact ih y hy
    · simp at hy
theorem ins_sorted (x : Int) {s : List Int} (hs : s.Pairwise (· ≤ ·)) : (ins x s).Pairwise (· ≤ ·) := by
  have h0 : (s.takeWhile (· ≤ x) ++ s.dropWhile (· ≤ x)).Pairwise (· ≤ ·) := by rw [List.takeWhile_append_dropWhile]; exact hs
  rw [List.pairwise_append] at h0
  unfold ins
  rw [List.pairwise_append, List.pairwise_cons]
  refine ⟨h0.1, ⟨fun y hy => Int.le_of_lt (mem_dropWhile_of hs y hy), h0.2.1⟩, fun a ha b hb => ?_⟩
  have := mem_takeWhile_le a ha
  rcases List.mem_cons.1 hb with rfl | hb
  · exact this
  · have := mem_dropWhile_of hs b hb; omega
theorem isort_sorted (l : List Int) : (isort l).Pairwise (· ≤ ·) := by
  unfold isort
  suffices h : ∀ (l s : List Int), s.Pairwise (· ≤ ·) → (l.foldl (fun s x => ins x s) s).Pairwise (· ≤ ·) from h l [] List.Pairwise.nil
  intro l
  induction l with
  | nil => intro s hs; exact hs
  | cons x r ih => intro s hs; exact ih _ (ins_sorted x hs)
theorem isort_perm (l : List Int) : (isort l).Perm l := by
  unfold isort
  suffices h : ∀ (l s : List Int), (l.foldl (fun s x => ins x s) s).Perm (s ++ l) from h l []
  intro l
  induction l with
  | nil => intro s; simp
  | cons x r ih =>
    intro s
    refine (ih _).trans ?_
    refine ((ins_perm x s).append_right r).trans ?_
    exact List.perm_middle.symm
theorem isort_len (l : List Int) : (isort l).length = l.length := (isort_perm l).length_eq
theorem mem_isort {l : List Int} {x : Int} : x ∈ isort l ↔ x ∈ l := (isort_perm l).mem_iff
theorem sorted_nth {s : List Int} (hs : s.Pairwise (· ≤ ·)) {i j : Int} (h0 : 0 ≤ i) (h1 : i ≤ j) (h2 : j < s.length) : nth s i ≤ nth s j := by
  rcases Int.lt_or_eq_of_le h1 with h | rfl
  · rw [List.pairwise_iff_getElem] at hs
    have q1 := nth_some h0 (show i < s.length by omega)
    have q2 := nth_some (show 0 ≤ j by omega) h2
    rw [List.getElem?_eq_getElem (by omega)] at q1 q2
    injection q1 with q1
    injection q2 with q2
    rw [← q1, ← q2]
    exact hs i.toNat j.toNat (by omega) (by omega) (by omega)
  · exact Int.le_refl _
def mid (s : List Int) (j : Int) (x : Int) : List Int := s.take j.toNat ++ x :: s.drop j.toNat
theorem mid_len {s : List Int} {j : Int} (x : Int) (h0 : 0 ≤ j) (h1 : j ≤ s.length) : (mid s j x).length = s.length + 1 := by unfold mid; simp; omega
theorem mid_at {s : List Int} {j : Int} (x : Int) (h0 : 0 ≤ j) (h1 : j ≤ s.length) : nth (mid s j x) j = x := by
  unfold mid nth
  rw [List.getD_eq_getElem?_getD, List.getElem?_append_right (by simp; omega)]
  simp [show min j.toNat s.length = j.toNat by omega]
theorem mid_below {s : List Int} {i j : Int} (x : Int) (h0 : 0 ≤ i) (h1 : i < j) (h2 : j ≤ s.length) : nth (mid s j x) i = nth s i := by
  unfold mid
  rw [nth_append_left h0 (by rw [List.length_take]; omega)]
  unfold nth
  rw [List.getD_eq_getElem?_getD, List.getD_eq_getElem?_getD, List.getElem?_take, if_pos (by omega)]
theorem mid_swap {s : List Int} {j : Int} {x : Int} (h0 : 1 ≤ j) (h1 : j ≤ s.length) (r : List Int) :
    ((mid s j x ++ r).set j.toNat (nth s (j - 1))).set (j - 1).toNat x = mid s (j - 1) x ++ r := by
  have e1 : j.toNat = (j - 1).toNat + 1 := by omega
  have e2 : s.take j.toNat = s.take (j - 1).toNat ++ [nth s (j - 1)] := by
    have := take_snoc (l := s) (i := j - 1) (by omega) (by omega)
    rwa [show j - 1 + 1 = j by omega] at this
  have e3 : s.drop (j - 1).toNat = nth s (j - 1) :: s.drop j.toNat := by
    have := nth_some (l := s) (i := j - 1) (by omega) (by omega)
    rw [List.getElem?_eq_getElem (by omega)] at this
    injection this with this
    rw [List.drop_eq_getElem_cons (by omega), this, ← e1]
  have hl : (s.take (j - 1).toNat).length = (j - 1).toNat := by rw [List.length_take]; omega
  unfold mid
  rw [e2, e3]
  simp only [List.append_assoc, List.cons_append, List.nil_append]
  rw [List.set_append_right _ _ (by omega), List.set_append_right _ _ (by omega), hl]
  have : j.toNat - (j - 1).toNat = 1 := by omega
  rw [this, Nat.sub_self]
  rfl
theorem mid_top (s : List Int) (x : Int) : mid s s.length x = s ++ [x] := by unfold mid; simp
theorem mid_done {s : List Int} {j x : Int} (hs : s.Pairwise (· ≤ ·)) (h0 : 0 ≤ j) (h1 : j ≤ s.length) (hup : ∀ i : Int, j ≤ i → i < s.length → x < nth s i) (hlo : j = 0 ∨ nth s (j - 1) ≤ x) : mid s j x = ins x s := by
  have ht : ∀ y, y ∈ s.take j.toNat → y ≤ x := fun y hy => by
    obtain ⟨i, g0, g1, rfl⟩ := mem_nth hy
    rw [List.length_take] at g1
    rcases hlo with h | h
    · omega
    · have e : nth (s.take j.toNat) i = nth s i := by
        unfold nth
        rw [List.getD_eq_getElem?_getD, List.getD_eq_getElem?_getD, List.getElem?_take, if_pos (by omega)]
      rw [e]
      have := sorted_nth hs g0 (show i ≤ j - 1 by omega) (by omega)
      omega
  have hd : ∀ y, y ∈ s.drop j.toNat → x < y := fun y hy => by
    obtain ⟨i, g0, g1, rfl⟩ := mem_nth hy
    rw [List.length_drop] at g1
    have e : nth (s.drop j.toNat) i = nth s (j + i) := by
      unfold nth
      rw [List.getD_eq_getElem?_getD, List.getD_eq_getElem?_getD, List.getElem?_drop, show j.toNat + i.toNat = (j + i).toNat by omega]
    rw [e]
    exact hup _ (by omega) (by omega)
  unfold mid ins
  have key : ∀ (a b : List Int), (∀ y, y ∈ a → y ≤ x) → (∀ y, y ∈ b → x < y) → (a ++ b).takeWhile (· ≤ x) = a ∧ (a ++ b).dropWhile (· ≤ x) = b := by
    intro a
    induction a with
    | nil =>
      intro b _ hb
      cases b with
      | nil => simp
      | cons y r =>
        have := hb y (by simp)
        have h' : ¬ (y ≤ x) := by omega
        simp [h']
    | cons y r ih =>
      intro b ha hb
      have h1 := ha y (by simp)
      obtain ⟨i1, i2⟩ := ih b (fun z hz => ha z (by simp [hz])) hb
      simp [h1, i1, i2]
  obtain ⟨k1, k2⟩ := key _ _ ht hd
  rw [List.take_append_drop] at k1 k2
  rw [k1, k2]
theorem strict_eq : ∀ {a b : List Int}, a.Pairwise (· < ·) → b.Pairwise (· < ·) → (∀ x, x ∈ a ↔ x ∈ b) → a = b
  | [], [], _, _, _ => rfl
  | [], y :: b, _, _, h => absurd ((h y).2 (by simp)) (by simp)
  | x :: a, [], _, _, h => absurd ((h x).1 (by simp)) (by simp)
  | x :: a, y :: b, ha, hb, h => by
    rw [List.pairwise_cons] at ha hb
    have e : x = y := by
      rcases List.mem_cons.1 ((h x).1 (by simp)) with h1 | h1
      · exact h1
      · rcases List.mem_cons.1 ((h y).2 (by simp)) with h2 | h2
        · exact h2.symm
        · have := hb.1 x h1; have := ha.1 y h2; omega
    subst e
    congr 1
    refine strict_eq ha.2 hb.2 fun z => ⟨fun hz => ?_, fun hz => ?_⟩
    · rcases List.mem_cons.1 ((h z).1 (by simp [hz])) with h1 | h1
      · have := ha.1 z hz; omega
      · exact h1
    · rcases List.mem_cons.1 ((h z).2 (by simp [hz])) with h1 | h1
      · have := hb.1 z hz; omega
      · exact h1
theorem ints_sorted (n : Int) : (ints n).Pairwise (· < ·) := by
  unfold ints
  rw [List.pairwise_map]
  exact List.pairwise_lt_range.imp (fun h => by omega)
end Go.Proofs.Ytkecpgidolphfaa
namespace Go.Proofs.Ytkecpgidolphfaa
open Go Go.Sk Go.RowKit Go.Sort
theorem enters_Compact : Go.Sk.Enters Try.prog 41 := ⟨_, Try.func41, by kernel_rfl, by kernel_rfl⟩
theorem enters_Len : Go.Sk.Enters Try.prog 49 := ⟨_, Try.func49, by kernel_rfl, by kernel_rfl⟩
theorem enters_Mul : Go.Sk.Enters Try.prog 47 := ⟨_, Try.func47, by kernel_rfl, by kernel_rfl⟩
theorem Len_p (x : Int) (h0 : 0 ≤ x) (h1 : x ≤ 18446744073709551615) : Pure Try.prog 49 [.v (.int .u64 x)] (I (Lib.bitLen x.toNat)) none := by
  refine fun_plain enters_Len rfl fun N w V vs hs hrep => ?_
  have hvs : vs = #[.int .u64 x] := by
    have hs1 : vs.size = 1 := hs
    apply Array.ext (by simp [hs1])
    intro i g1 g2
    have : i = 0 := by omega
    subst this
    exact eval_v (hrep 0 (by simp) g1)
  rw [hvs]
  refine (Try.bits_Len x w h0 h1).mono ?_
  rintro e w' ⟨rfl, rfl⟩
  exact ⟨rfl, Blw.refl _ _⟩
theorem Compact_p (l : List Int) (hl : l.length ≤ 4611686018427387904) : Fun Try.prog 41 [.arr 1 (l.map I)] [.ref 0] (.ref 1) [.dead, .arr 1 ((Lib.compact l).map I)] := by
  refine fun_turn enters_Compact fun N w v hv => ?_
  rcases hv with ⟨a, rfl, h0⟩ | ⟨b, o, cap, arr, T, rfl, h2, h3, h4, h5, h6, h7⟩
  · have hl0 : l = [] := by cases l with | nil => rfl | cons x r => simp at h0
    subst hl0
    refine (Try.slices_Compact_int_empty a 0 w).mono ?_
    rintro e w' ⟨rfl, rfl⟩
    exact ⟨_, rfl, rfl, rfl, .refl _, Nat.le_refl _, fun _ _ _ => rfl, rfl, fun N' => .inl ⟨a, rfl, rfl⟩, fun b hb => hb⟩
  · rw [List.length_map] at h4 ⊢
    have harr : ∀ j, j < l.length → arr[o + j]? = some (.int .i64 (l.getD j 0)) := fun j hj => by
      obtain ⟨u, q1, q2⟩ := h7 j (I (l.getD j 0)) 0 (I (l.getD j 0)) (by rw [List.getElem?_map, List.getElem?_eq_getElem hj]; simp [hj]) rfl
      cases q2
      simpa using q1
    refine (Try.slices_Compact_int b o cap l w (fun j hj => ?_) (by omega) h4).mono ?_
    · simp only [List.size_toArray] at hj
      rw [cell_of_row w b _ arr T (0, 0) h2, harr j hj, frozen_of_row w b _ arr T h2]
      simp [hj]
    · rintro e w' ⟨rfl, q, rfl⟩
      have hcl : (Lib.compact l).length ≤ l.length := by
        unfold Lib.compact Lib.compactUpTo
        rw [List.length_map]
        refine Nat.le_trans (List.length_filter_le _ _) (by simp)
      generalize hD : (Lib.compact l ++ List.replicate (l.length - (Lib.compact l).length) 0).toArray = D
      have hDs : D.size = l.length := by rw [← hD]; simp; omega
      have hblk : (putRow (Value.int .i64) (Go.Sort.ahead w q) b o D).heap[b]? = some (.cells (putCells (Value.int .i64) o D arr) T (0, 0)) := by
        unfold putRow mapBlock
        simp only [Go.Sort.ahead, Array.getElem?_modify, if_true, h2, Option.map_some]
        rfl
      refine ⟨_, rfl, rfl, rfl, ⟨rfl, Nat.le_add_right _ _⟩, ?_, fun b' hb' _ => ?_, rfl, fun N' => .inr ⟨b, o, cap, _, T, by simp, hblk, h3, by simp; omega, ?_, fun e he => by obtain ⟨x, _, rfl⟩ := List.mem_map.1 he; rfl, fun i e j c g1 g2 => ?_⟩, fun b' hb' => ?_⟩
      · unfold putRow mapBlock; simp [Go.Sort.ahead]
      · have hne : b ≠ b' := fun e => hb' (by subst e; simp [bl, blk]; omega)
        unfold putRow mapBlock
        simp only [Go.Sort.ahead, Array.getElem?_modify, hne, if_false]
      · unfold putCells; simpa using h5
      · rw [List.getElem?_map] at g1
        cases hx : (Lib.compact l)[i]? with
        | none => rw [hx] at g1; cases g1
        | some x =>
          rw [hx] at g1
          simp only [Option.map_some, Option.some.injEq] at g1
          subst g1
          cases j with
          | succ j => simp [I, cellsA] at g2
          | zero =>
            simp only [I, cellsA, List.getElem?_cons_zero, Option.some.injEq] at g2
            subst g2
            have hi := (List.getElem?_eq_some_iff.1 hx).1
            refine ⟨.int .i64 x, ?_, .v _ rfl⟩
            unfold putCells
            rw [Nat.mul_one, Nat.add_zero, Array.getElem?_mapIdx]
            have := harr i (by omega)
            rw [this]
            simp only [Option.map_some, Option.some.injEq]
            rw [if_pos (by omega), show o + i - o = i by omega, ← hD]
            simp only [List.getElem!_toArray, List.getElem!_eq_getElem?_getD]
            rw [List.getElem?_append_left hi, hx]; rfl
      · simpa [bl, blk] using hb'
end Go.Proofs.Ytkecpgidolphfaa
namespace Go.Proofs.Ytkecpgidolphfaa
open Go Go.Sk
theorem Bd.to_lt {b : Bd} (hb : b.ok) (s d c : Int) : -1 ≤ b.to s d c ∧ b.to s d c < b.cells := by
  have := hb.c1
  unfold Bd.to
  split
  · omega
  · rename_i h
    split
    · have q := hb.t0 d (by omega) (by omega)
      exact hb.lx _ _ q.1 q.2.1 (by omega) (by omega)
    · exact hb.lx _ _ (by omega) (by omega) (by omega) (by omega)
theorem nodup_sub_len : ∀ {a b : List Int}, a.Nodup → (∀ x, x ∈ a → x ∈ b) → a.length ≤ b.length
  | [], _, _, _ => by simp
  | x :: a, b, hn, hs => by
    rw [List.nodup_cons] at hn
    have hb := hs x (by simp)
    have := nodup_sub_len (b := b.erase x) hn.2 fun y hy => by
      have hne : y ≠ x := fun e => hn.1 (e ▸ hy)
      exact (List.mem_erase_of_ne hne).2 (hs y (by simp [hy]))
    rw [List.length_erase_of_mem hb] at this
    have := List.length_pos_of_mem hb
    simp only [List.length_cons]
    omega
theorem cells_len {l : List Int} {n : Int} (hn : l.Nodup) (h : ∀ x, x ∈ l → 0 ≤ x ∧ x < n) : l.length ≤ n.toNat := by
  have := nodup_sub_len hn (b := ints n) fun x hx => mem_ints.2 (h x hx)
  rwa [ints_len] at this
def Bd.lineFrom (b : Bd) (s d c : Int) : Nat → List Int → Int → List Int
  | 0, out, _ => out
  | n + 1, out, x => if 0 ≤ x ∧ x ≠ c ∧ x ∉ out then b.lineFrom s d c n (out ++ [x]) (b.to s d x) else out
def Bd.line (b : Bd) (s d c : Int) : List Int := b.lineFrom s d c 65 [] (b.to s d c)
structure Bd.lineI (b : Bd) (s d c : Int) (out : List Int) (x : Int) : Prop where
  nd : out.Nodup
  rg : ∀ y, y ∈ out → 0 ≤ y ∧ y < b.cells
  xl : x < b.cells
  eq : b.lineFrom s d c (65 - out.length) out x = b.line s d c
theorem Bd.lineI_zero {b : Bd} (hb : b.ok) (s d c : Int) : b.lineI s d c [] (b.to s d c) := ⟨List.nodup_nil, by simp, (b.to_lt hb s d c).2, rfl⟩
theorem Bd.lineI_len {b : Bd} (hb : b.ok) {s d c : Int} {out : List Int} {x : Int} (h : b.lineI s d c out x) : out.length ≤ b.cells.toNat ∧ out.length ≤ 64 := by
  have := cells_len h.nd h.rg
  have := hb.c64
  omega
theorem Bd.lineFrom_go (b : Bd) {s d c : Int} {n : Nat} {out : List Int} {x : Int} (h : 0 ≤ x ∧ x ≠ c ∧ x ∉ out) : b.lineFrom s d c (n + 1) out x = b.lineFrom s d c n (out ++ [x]) (b.to s d x) := if_pos h
theorem Bd.lineFrom_end (b : Bd) {s d c : Int} {n : Nat} {out : List Int} {x : Int} (h : ¬ (0 ≤ x ∧ x ≠ c ∧ x ∉ out)) : b.lineFrom s d c (n + 1) out x = out := if_neg h
theorem Bd.lineI_succ {b : Bd} (hb : b.ok) {s d c : Int} {out : List Int} {x : Int} (h : b.lineI s d c out x) (h1 : 0 ≤ x) (h2 : x ≠ c) (h3 : x ∉ out) : b.lineI s d c (out ++ [x]) (b.to s d x) := by
  have hl := (b.lineI_len hb h).2
  refine ⟨?_, fun y hy => ?_, (b.to_lt hb s d x).2, ?_⟩
  · rw [List.nodup_append]
    exact ⟨h.nd, by simp, fun a ha b hb => by simp at hb; subst hb; rintro rfl; exact h3 ha⟩
  · rcases List.mem_append.1 hy with hy | hy
    · exact h.rg y hy
    · simp at hy; subst hy; exact ⟨h1, h.xl⟩
  · rw [← h.eq, show 65 - out.length = (64 - out.length) + 1 by omega, b.lineFrom_go ⟨h1, h2, h3⟩, List.length_append]
    have : 65 - (out.length + [x].length) = 64 - out.length := by simp only [List.length_cons, List.length_nil]; omega
    rw [this]
theorem Bd.lineI_end {b : Bd} (hb : b.ok) {s d c : Int} {out : List Int} {x : Int} (h : b.lineI s d c out x) (h1 : ¬ (0 ≤ x ∧ x ≠ c ∧ x ∉ out)) : out = b.line s d c := by
  have hl := (b.lineI_len hb h).2
  rw [← h.eq, show 65 - out.length = (64 - out.length) + 1 by omega, b.lineFrom_end h1]
end Go.Proofs.Ytkecpgidolphfaa
namespace Go.Proofs.Ytkecpgidolphfaa
open Go Go.Sk
structure Bd.small (b : Bd) : Prop where
  n : b.next.length ≤ 4611686018427387904
  t : b.turn.length ≤ 4611686018427387904
  l : ∀ i : Int, 0 ≤ i → i < b.next.length → (nth b.next i).length ≤ 4611686018427387904
end Go.Proofs.Ytkecpgidolphfaa
namespace Go.Proofs.Ytkecpgidolphfaa
open Go Go.Sk
theorem Bd.ext {a b : Bd} : a = b ↔ a.cells = b.cells ∧ a.next = b.next ∧ a.turn = b.turn := by cases a; cases b; simp
instance : DecidableEq Bd := fun _ _ => decidable_of_iff _ Bd.ext.symm
theorem Bd.ok.small {b : Bd} (hb : b.ok) : b.small := by
  have h1 := hb.n8; have h2 := hb.tl; have h3 := hb.c64
  exact ⟨by omega, by omega, fun i h4 h5 => by have := hb.ll i h4 h5; omega⟩
end Go.Proofs.Ytkecpgidolphfaa
namespace Go.Proofs.Ytkecpgidolphfaa
open Go Go.Sk
def cutRow (l : List Int) (c k : Int) : List Int := (ints k).map fun x => if x = c ∨ nth l x = c then -1 else nth l x
def Bd.without (b : Bd) (c : Int) : Bd × Int :=
  if c < 0 ∨ c ≥ b.cells then (⟨0, [], []⟩, 1) else (⟨b.cells, b.next.map fun l => cutRow l c b.cells, b.turn⟩, 0)
theorem cutRow_len (l : List Int) (c k : Int) : (cutRow l c k).length = k.toNat := by simp [cutRow, ints_len]
theorem take_len {α : Type} {l : List α} {i : Int} (h0 : 0 ≤ i) (h : i ≤ l.length) : ((l.take i.toNat).length : Int) = i := by rw [List.length_take]; omega
end Go.Proofs.Ytkecpgidolphfaa
namespace Go.Proofs.Ytkecpgidolphfaa
open Go Go.Sk
end Go.Proofs.Ytkecpgidolphfaa
namespace Go.Proofs.Ytkecpgidolphfaa
open Go Go.Sk
def dxs : List Int := [0, 1, 1, 1, 0, -1, -1, -1]
def dys : List Int := [-1, -1, 0, 1, 1, 1, 0, -1]
def gto (w h d c : Int) : Int :=
  if 0 ≤ c % w + nth dxs d ∧ c % w + nth dxs d < w ∧ 0 ≤ c / w + nth dys d ∧ c / w + nth dys d < h then (c / w + nth dys d) * w + (c % w + nth dxs d) else -1
def fits (w h : Int) : Prop := 1 ≤ w ∧ 1 ≤ h ∧ w ≤ 64 ∧ h ≤ 64 ∧ w * h ≤ 64
instance (w h : Int) : Decidable (fits w h) := by unfold fits; infer_instance
def gridB (w h : Int) : Bd := ⟨w * h, (ints 8).map fun d => (ints (w * h)).map (gto w h d), (ints 8).map fun d => (d + 4) % 8⟩
def grid (w h : Int) : Bd × Int := if fits w h then (gridB w h, 0) else (⟨0, [], []⟩, 1)
theorem mkI {a : Int} {b : Nat} {K : Prop} (hb : b ≤ 4096) (h0 : 0 ≤ a) (h : a ≤ 34359738368) (k : K) : a = a ∧ 0 ≤ a ∧ a ≤ 4611686018427387904 ∧ (b : Int) * a ≤ 140737488355328 ∧ K := by
  refine ⟨rfl, h0, by omega, ?_, k⟩
  calc (b : Int) * a ≤ 4096 * 34359738368 := Int.mul_le_mul (by omega) h h0 (by omega)
    _ ≤ _ := by decide
def gl (w h d c : Int) : List Int := (ints c).map (gto w h d) ++ List.replicate (w * h - c).toNat 0
theorem gl_len {w h d c : Int} (h0 : 0 ≤ c) (h1 : c ≤ w * h) : (gl w h d c).length = (w * h).toNat := by unfold gl; rw [List.length_append, List.length_map, ints_len, List.length_replicate]; omega
theorem gl_zero (w h d : Int) : gl w h d 0 = List.replicate (w * h).toNat 0 := by unfold gl; simp [ints_zero]
theorem gl_succ {w h d c : Int} (h0 : 0 ≤ c) (h1 : c < w * h) : (gl w h d c).set c.toNat (gto w h d c) = gl w h d (c + 1) := by
  unfold gl
  have hl : ((ints c).map (gto w h d)).length = c.toNat := by rw [List.length_map, ints_len]
  rw [List.set_append_right _ _ (by omega), hl, Nat.sub_self, map_ints_succ h0, List.append_assoc]
  congr 1
  rw [show (w * h - c).toNat = (w * h - (c + 1)).toNat + 1 by omega, List.replicate_succ]
  rfl
theorem gl_all (w h d : Int) : gl w h d (w * h) = (ints (w * h)).map (gto w h d) := by unfold gl; simp
theorem dxy {d : Int} (h0 : 0 ≤ d) (h1 : d < 8) : -1 ≤ nth dxs d ∧ nth dxs d ≤ 1 ∧ -1 ≤ nth dys d ∧ nth dys d ≤ 1 := by
  have : d = 0 ∨ d = 1 ∨ d = 2 ∨ d = 3 ∨ d = 4 ∨ d = 5 ∨ d = 6 ∨ d = 7 := by omega
  rcases this with rfl | rfl | rfl | rfl | rfl | rfl | rfl | rfl <;> decide
end Go.Proofs.Ytkecpgidolphfaa
