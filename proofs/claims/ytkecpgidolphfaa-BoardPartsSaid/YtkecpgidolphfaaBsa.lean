/- Contracts of functions of the program, proved by the checker. -/
import Derived.Test.YtkecpgidolphfaaBb
namespace Go.Proofs.Ytkecpgidolphfaa
set_option linter.unusedVariables false
set_option linter.unusedSimpArgs false
open Go Go.Sk

/-! Sorted lists of numbers. -/
def ins (x : Int) (s : List Int) : List Int := s.takeWhile (· ≤ x) ++ x :: s.dropWhile (· ≤ x)
def isort (l : List Int) : List Int := l.foldl (fun s x => ins x s) []
theorem isort_snoc (l : List Int) (x : Int) : isort (l ++ [x]) = ins x (isort l) := by simp [isort]
theorem ins_perm (x : Int) (s : List Int) : (ins x s).Perm (x :: s) := by
  unfold ins
  refine (List.perm_middle).trans (List.Perm.cons x ?_)
  rw [List.takeWhile_append_dropWhile]
theorem mem_dropWhile_of {s : List Int} {x : Int} (hs : s.Pairwise (· ≤ ·)) : ∀ y, y ∈ s.dropWhile (· ≤ x) → x < y := by
  induction s with
  | nil => intro y hy; simp at hy
  | cons z r ih =>
    intro y hy
    rw [List.dropWhile_cons] at hy
    rw [List.pairwise_cons] at hs
    split at hy
    · exact ih hs.2 y hy
    · rename_i hz
      have hz' : x < z := by simpa using hz
      rcases List.mem_cons.1 hy with rfl | hy
      · exact hz'
      · have := hs.1 y hy; omega
theorem mem_takeWhile_le {s : List Int} {x : Int} : ∀ y, y ∈ s.takeWhile (· ≤ x) → y ≤ x := by
  induction s with
  | nil => intro y hy; simp at hy
  | cons z r ih =>
    intro y hy
    rw [List.takeWhile_cons] at hy
    split at hy
    · rename_i hz
      rcases List.mem_cons.1 hy with rfl | hy
      · simpa using hz
      · exact ih y hy
    · simp at hy
theorem ins_sorted (x : Int) {s : List Int} (hs : s.Pairwise (· ≤ ·)) : (ins x s).Pairwise (· ≤ ·) := by
  have h0 : (s.takeWhile (· ≤ x) ++ s.dropWhile (· ≤ x)).Pairwise (· ≤ ·) := by rw [List.takeWhile_append_dropWhile]; exact hs
  rw [List.pairwise_append] at h0
  unfold ins
  rw [List.pairwise_append, List.pairwise_cons]
  refine ⟨h0.1, ⟨fun y hy => Int.le_of_lt (mem_dropWhile_of hs y hy), h0.2.1⟩, fun a ha b hb => ?_⟩
  have := mem_takeWhile_le a ha
  rcases List.mem_cons.1 hb with rfl | hb
  · exact this
  · have := mem_dropWhile_of hs b hb; omega
theorem isort_sorted (l : List Int) : (isort l).Pairwise (· ≤ ·) := by
  unfold isort
  suffices h : ∀ (l s : List Int), s.Pairwise (· ≤ ·) → (l.foldl (fun s x => ins x s) s).Pairwise (· ≤ ·) from h l [] List.Pairwise.nil
  intro l
  induction l with
  | nil => intro s hs; exact hs
  | cons x r ih => intro s hs; exact ih _ (ins_sorted x hs)
theorem isort_perm (l : List Int) : (isort l).Perm l := by
  unfold isort
  suffices h : ∀ (l s : List Int), (l.foldl (fun s x => ins x s) s).Perm (s ++ l) from h l []
  intro l
  induction l with
  | nil => intro s; simp
  | cons x r ih =>
    intro s
    refine (ih _).trans ?_
    refine ((ins_perm x s).append_right r).trans ?_
    exact List.perm_middle.symm
theorem isort_len (l : List Int) : (isort l).length = l.length := (isort_perm l).length_eq
theorem mem_isort {l : List Int} {x : Int} : x ∈ isort l ↔ x ∈ l := (isort_perm l).mem_iff

theorem sorted_nth {s : List Int} (hs : s.Pairwise (· ≤ ·)) {i j : Int} (h0 : 0 ≤ i) (h1 : i ≤ j) (h2 : j < s.length) : nth s i ≤ nth s j := by
  rcases Int.lt_or_eq_of_le h1 with h | rfl
  · rw [List.pairwise_iff_getElem] at hs
    have q1 := nth_some h0 (show i < s.length by omega)
    have q2 := nth_some (show 0 ≤ j by omega) h2
    rw [List.getElem?_eq_getElem (by omega)] at q1 q2
    injection q1 with q1
    injection q2 with q2
    rw [← q1, ← q2]
    exact hs i.toNat j.toNat (by omega) (by omega) (by omega)
  · exact Int.le_refl _

/-- The row while x is brought to its place: the first j of s, x, the others of s. -/
def mid (s : List Int) (j : Int) (x : Int) : List Int := s.take j.toNat ++ x :: s.drop j.toNat
theorem mid_len {s : List Int} {j : Int} (x : Int) (h0 : 0 ≤ j) (h1 : j ≤ s.length) : (mid s j x).length = s.length + 1 := by unfold mid; simp; omega
theorem mid_at {s : List Int} {j : Int} (x : Int) (h0 : 0 ≤ j) (h1 : j ≤ s.length) : nth (mid s j x) j = x := by
  unfold mid nth
  rw [List.getD_eq_getElem?_getD, List.getElem?_append_right (by simp; omega)]
  simp [show min j.toNat s.length = j.toNat by omega]
theorem mid_below {s : List Int} {i j : Int} (x : Int) (h0 : 0 ≤ i) (h1 : i < j) (h2 : j ≤ s.length) : nth (mid s j x) i = nth s i := by
  unfold mid
  rw [nth_append_left h0 (by rw [List.length_take]; omega)]
  unfold nth
  rw [List.getD_eq_getElem?_getD, List.getD_eq_getElem?_getD, List.getElem?_take, if_pos (by omega)]
/-- One exchange. -/
theorem mid_swap {s : List Int} {j : Int} {x : Int} (h0 : 1 ≤ j) (h1 : j ≤ s.length) (r : List Int) :
    ((mid s j x ++ r).set j.toNat (nth s (j - 1))).set (j - 1).toNat x = mid s (j - 1) x ++ r := by
  have e1 : j.toNat = (j - 1).toNat + 1 := by omega
  have e2 : s.take j.toNat = s.take (j - 1).toNat ++ [nth s (j - 1)] := by
    have := take_snoc (l := s) (i := j - 1) (by omega) (by omega)
    rwa [show j - 1 + 1 = j by omega] at this
  have e3 : s.drop (j - 1).toNat = nth s (j - 1) :: s.drop j.toNat := by
    have := nth_some (l := s) (i := j - 1) (by omega) (by omega)
    rw [List.getElem?_eq_getElem (by omega)] at this
    injection this with this
    rw [List.drop_eq_getElem_cons (by omega), this, ← e1]
  have hl : (s.take (j - 1).toNat).length = (j - 1).toNat := by rw [List.length_take]; omega
  unfold mid
  rw [e2, e3]
  simp only [List.append_assoc, List.cons_append, List.nil_append]
  rw [List.set_append_right _ _ (by omega), List.set_append_right _ _ (by omega), hl]
  have : j.toNat - (j - 1).toNat = 1 := by omega
  rw [this, Nat.sub_self]
  rfl
theorem mid_top (s : List Int) (x : Int) : mid s s.length x = s ++ [x] := by unfold mid; simp
/-- At the place where it belongs. -/
theorem mid_done {s : List Int} {j x : Int} (hs : s.Pairwise (· ≤ ·)) (h0 : 0 ≤ j) (h1 : j ≤ s.length) (hup : ∀ i : Int, j ≤ i → i < s.length → x < nth s i) (hlo : j = 0 ∨ nth s (j - 1) ≤ x) : mid s j x = ins x s := by
  have ht : ∀ y, y ∈ s.take j.toNat → y ≤ x := fun y hy => by
    obtain ⟨i, g0, g1, rfl⟩ := mem_nth hy
    rw [List.length_take] at g1
    rcases hlo with h | h
    · omega
    · have e : nth (s.take j.toNat) i = nth s i := by
        unfold nth
        rw [List.getD_eq_getElem?_getD, List.getD_eq_getElem?_getD, List.getElem?_take, if_pos (by omega)]
      rw [e]
      have := sorted_nth hs g0 (show i ≤ j - 1 by omega) (by omega)
      omega
  have hd : ∀ y, y ∈ s.drop j.toNat → x < y := fun y hy => by
    obtain ⟨i, g0, g1, rfl⟩ := mem_nth hy
    rw [List.length_drop] at g1
    have e : nth (s.drop j.toNat) i = nth s (j + i) := by
      unfold nth
      rw [List.getD_eq_getElem?_getD, List.getD_eq_getElem?_getD, List.getElem?_drop, show j.toNat + i.toNat = (j + i).toNat by omega]
    rw [e]
    exact hup _ (by omega) (by omega)
  unfold mid ins
  have key : ∀ (a b : List Int), (∀ y, y ∈ a → y ≤ x) → (∀ y, y ∈ b → x < y) → (a ++ b).takeWhile (· ≤ x) = a ∧ (a ++ b).dropWhile (· ≤ x) = b := by
    intro a
    induction a with
    | nil =>
      intro b _ hb
      cases b with
      | nil => simp
      | cons y r =>
        have := hb y (by simp)
        have h' : ¬ (y ≤ x) := by omega
        simp [h']
    | cons y r ih =>
      intro b ha hb
      have h1 := ha y (by simp)
      obtain ⟨i1, i2⟩ := ih b (fun z hz => ha z (by simp [hz])) hb
      simp [h1, i1, i2]
  obtain ⟨k1, k2⟩ := key _ _ ht hd
  rw [List.take_append_drop] at k1 k2
  rw [k1, k2]

/-! Two strictly sorted lists with the same members are one. -/
theorem strict_eq : ∀ {a b : List Int}, a.Pairwise (· < ·) → b.Pairwise (· < ·) → (∀ x, x ∈ a ↔ x ∈ b) → a = b
  | [], [], _, _, _ => rfl
  | [], y :: b, _, _, h => absurd ((h y).2 (by simp)) (by simp)
  | x :: a, [], _, _, h => absurd ((h x).1 (by simp)) (by simp)
  | x :: a, y :: b, ha, hb, h => by
    rw [List.pairwise_cons] at ha hb
    have e : x = y := by
      rcases List.mem_cons.1 ((h x).1 (by simp)) with h1 | h1
      · exact h1
      · rcases List.mem_cons.1 ((h y).2 (by simp)) with h2 | h2
        · exact h2.symm
        · have := hb.1 x h1; have := ha.1 y h2; omega
    subst e
    congr 1
    refine strict_eq ha.2 hb.2 fun z => ⟨fun hz => ?_, fun hz => ?_⟩
    · rcases List.mem_cons.1 ((h z).1 (by simp [hz])) with h1 | h1
      · have := ha.1 z hz; omega
      · exact h1
    · rcases List.mem_cons.1 ((h z).2 (by simp [hz])) with h1 | h1
      · have := hb.1 z hz; omega
      · exact h1
theorem ints_sorted (n : Int) : (ints n).Pairwise (· < ·) := by
  unfold ints
  rw [List.pairwise_map]
  exact List.pairwise_lt_range.imp (fun h => by omega)
end Go.Proofs.Ytkecpgidolphfaa
