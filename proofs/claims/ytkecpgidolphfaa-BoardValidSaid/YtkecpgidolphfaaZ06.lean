/- Contracts of functions of the program, proved by the checker; and plain laws. -/
import Derived.Test.YtkecpgidolphfaaZ05
import Derived.Test.YtkecpgidolphfaaRows
import Derived.Test.YtkecpgidolphfaaSk17
set_option linter.unusedVariables false
set_option linter.unusedSimpArgs false
namespace Go.Proofs.Ytkecpgidolphfaa
open Go Go.Sk Go.ChangeShapes Go.WideShapes Go.ChangeAt Go.RowKit
theorem BoardValid_p (b : Bd) (hb : b.any) (x : Rw) (hx : x.ok) (v1 v2 v3 v4 : Int) (hv : (-32768 ≤ v1 ∧ v1 ≤ 32767) ∧ (-32768 ≤ v2 ∧ v2 ≤ 32767) ∧ (-32768 ≤ v3 ∧ v3 ≤ 32767) ∧ -32768 ≤ v4 ∧ v4 ≤ 32767) :
    Pure Try.prog 3 [b.av, x.av, .ag [.v (.int .i16 v1), .v (.int .i16 v2), .v (.int .i16 v3), .v (.int .i16 v4)]] (Bo true) none := by
  cases h : decide b.ok with
  | true => exact BoardValid_true b h hb.c hb.n hb.l hb.t x hx v1 v2 v3 v4 hv.1 hv.2.1 hv.2.2.1 hv.2.2.2
  | false => exact BoardValid_false b h hb.c hb.n hb.l hb.t x hx v1 v2 v3 v4 hv.1 hv.2.1 hv.2.2.1 hv.2.2.2
theorem wf_i64 {m : Int} (h : (Lit.int .i64 m).wf = true) : -9223372036854775808 ≤ m ∧ m ≤ 9223372036854775807 := by
  simp [Lit.wf, IntKind.has, IntKind.min, IntKind.max, IntKind.signed, IntKind.bits] at h
  exact h
theorem ck_ints {a : AV} (h : CKok (.row [.int .i64]) a) : ∃ l : List Int, a = Is l ∧ l.length ≤ 9223372036854775807 := by
  simp only [CKok] at h
  obtain ⟨xs, rfl, hl, hx⟩ := h
  have : ∃ l : List Int, xs = l.map I := by
    clear hl
    induction xs with
    | nil => exact ⟨[], rfl⟩
    | cons e r ih =>
      obtain ⟨l, h1⟩ := ih fun e he => hx e (List.mem_cons_of_mem _ he)
      obtain ⟨cs, h3, h4⟩ := hx e (List.mem_cons_self ..)
      simp only [CKoks, CKok] at h4
      obtain ⟨_, _, rfl, ⟨n, rfl, _⟩, rfl⟩ := h4
      exact ⟨n :: l, by rw [h1, h3]; rfl⟩
  obtain ⟨l, rfl⟩ := this
  rw [List.length_map] at hl
  exact ⟨l, rfl, by unfold maxLen at hl; omega⟩
theorem ck_intss {a : AV} (h : CKok (.row [.row [.int .i64]]) a) : ∃ l : List (List Int), a = Iss l ∧ l.length ≤ 9223372036854775807 ∧ ∀ x, x ∈ l → x.length ≤ 9223372036854775807 := by
  simp only [CKok] at h
  obtain ⟨xs, rfl, hl, hx⟩ := h
  have : ∃ l : List (List Int), xs = l.map Is ∧ ∀ x, x ∈ l → x.length ≤ 9223372036854775807 := by
    clear hl
    induction xs with
    | nil => exact ⟨[], rfl, fun x hx => by cases hx⟩
    | cons e r ih =>
      obtain ⟨l, h1, h2⟩ := ih fun e he => hx e (List.mem_cons_of_mem _ he)
      obtain ⟨cs, h3, h4⟩ := hx e (List.mem_cons_self ..)
      simp only [CKoks] at h4
      obtain ⟨a, _, rfl, h5, rfl⟩ := h4
      obtain ⟨n, rfl, hn⟩ := ck_ints (by simpa only [CKok, CKoks] using h5)
      exact ⟨n :: l, by rw [h1, h3]; rfl, fun y hy => by
        rcases List.mem_cons.1 hy with rfl | hy
        · exact hn
        · exact h2 y hy⟩
  obtain ⟨l, rfl, h2⟩ := this
  rw [List.length_map] at hl
  exact ⟨l, rfl, by unfold maxLen at hl; omega, h2⟩
section
variable {H : Type} {enc : TypeId × Value → H} {W : World} {sp : Nat → Bool} {held : Bool} {v : Value} {d : DataW H} {ps : List MemPlace} {b0 : Nat} {r : Reach}
def ksBd : List CK := [.int .i64, .row [.row [.int .i64]], .row [.int .i64]]
set_option maxRecDepth 10000 in
theorem open_bd (hv : Value.okWide Try.prog W r b0 25 v) (h : DataW.Trod enc Try.prog W 0 sp held 25 v d ps) : ∃ b : Bd, b.any ∧ ∀ V : VV, RepT NT W V b.av v := by
  obtain ⟨cs, rfl, hs⟩ := okWide_struct Try.underlying25 hv
  obtain ⟨us, h1, h2⟩ := arg_ag (n := 8) (ks := ksBd) (by kernel_rfl) (by rw [hs]; kernel_rfl) h
  have h3 := h1
  unfold ksBd at h3
  simp only [CKoks] at h3
  obtain ⟨a, _, rfl, ha, b, _, rfl, hb, c, _, rfl, hc, rfl⟩ := h3
  simp only [CKok] at ha
  obtain ⟨n, rfl, hn⟩ := ha
  obtain ⟨l, rfl, l1, l2⟩ := ck_intss hb
  obtain ⟨t, rfl, t1⟩ := ck_ints hc
  exact ⟨⟨n, l, t⟩, ⟨wf_i64 hn, l1, fun d d0 d1 => l2 _ (nth_mem d0 d1), t1⟩, h2⟩
theorem bd_bd {A : Nat → Prop} (b : Bd) : bd A b.av := by
  simp [Bd.av, bd, bdL, I, Is, Iss]
end
end Go.Proofs.Ytkecpgidolphfaa
