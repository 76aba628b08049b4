/- Contracts of functions of the program, proved by the checker. -/
import Derived.Test.YtkecpgidolphfaaBp
import Derived.Test.YtkecpgidolphfaaRows
import Derived.Test.YtkecpgidolphfaaSk11
namespace Go.Proofs.Ytkecpgidolphfaa
set_option linter.unusedVariables false
set_option linter.unusedSimpArgs false
open Go Go.Sk Go.ChangeShapes Go.WideShapes Go.ChangeAt Go.RowKit

theorem own : ownKnob Try.prog.godebug = none := by kernel_rfl

theorem has_u8 {m : Int} (h : IntKind.u8.has m) : u8 m := by
  simp [IntKind.has, IntKind.min, IntKind.max, IntKind.signed, IntKind.bits] at h
  exact ⟨by omega, by omega⟩
theorem wf_i16 {m : Int} (h : (Lit.int .i16 m).wf = true) : -32768 ≤ m ∧ m ≤ 32767 := by
  simp [Lit.wf, IntKind.has, IntKind.min, IntKind.max, IntKind.signed, IntKind.bits] at h
  omega
theorem wf_u8 {m : Int} (h : (Lit.int .u8 m).wf = true) : 0 ≤ m ∧ m ≤ 255 := by
  simp [Lit.wf, IntKind.has, IntKind.min, IntKind.max, IntKind.signed, IntKind.bits] at h
  omega
theorem wf_i8 {m : Int} (h : (Lit.int .i8 m).wf = true) : -128 ≤ m ∧ m ≤ 127 := by
  simp [Lit.wf, IntKind.has, IntKind.min, IntKind.max, IntKind.signed, IntKind.bits] at h
  omega
theorem raw_open {w : World} {r : Reach} {b0 : Nat} {v : Value} (h : Value.okWide Try.prog w r b0 28 v) : ∃ x : Rw, x.ok ∧ ∀ (N : Nat → Prop) (V : VV), RepT N w V x.av v := by
  obtain ⟨ns, rfl, hl, hk⟩ := okWide_ints (ts := List.replicate 35 5) Try.underlying28 (by kernel_rfl) (by kernel_rfl) (fun u hu => by rw [List.eq_of_mem_replicate hu]; exact Try.underlying5) h
  match ns, hl with
  | c :: d :: t :: r, hl =>
    refine ⟨⟨c, d, t, r⟩, ⟨has_u8 (hk 0 _ rfl), has_u8 (hk 1 _ rfl), has_u8 (hk 2 _ rfl), fun i i0 i1 => ?_, by simpa using hl⟩, fun N V => ?_⟩
    · have hl' : r.length = 32 := by simpa using hl
      exact has_u8 (hk (i.toNat + 3) _ (by simpa using nth_some (l := r) i0 (by omega)))
    · have := rep_ints (N := N) (w := w) (V := V) .u8 (c :: d :: t :: r)
      exact this
/-- An array of integers of one kind. -/
theorem okWide_arr {P : Program} {w : World} {r : Reach} {b0 : Nat} {t : TypeId} {k : IntKind} {n0 : Nat} {e : TypeId} {ts : List TypeId} {v : Value} (hu : P.underlying t = some (.array n0 e)) (hc : P.cellTypes P.depth t = some ts) (hn : P.cellsOf t = ts.length)
    (hk : ∀ u, u ∈ ts → P.underlying u = some (.int k)) (h : Value.okWide P w r b0 t v) : ∃ ns : List Int, v = .agg (ns.map (Value.int k)).toArray ∧ ns.length = ts.length ∧ ∀ (i : Nat) (m : Int), ns[i]? = some m → k.has m := by
  simp only [Value.okWide, hu] at h
  obtain ⟨cs, rfl, h2, ts', h3, _, h5⟩ := h
  rw [hc] at h3
  injection h3 with h3
  subst h3
  have hx : ∀ (i : Nat) (x : Value), cs[i]? = some x → ∃ m, x = .int k m ∧ k.has m := fun i x hi => by
    obtain ⟨u, h6, h7⟩ := h5 i x hi
    have := hk u (List.mem_of_getElem? h6)
    simp only [Cell.okWide, this] at h7
    cases x <;> simp_all [Cell.ok]
  let f : Value → Int := fun x => match x with | .int _ m => m | _ => 0
  refine ⟨cs.toList.map f, ?_, by simp [h2, hn], fun i m hi => ?_⟩
  · congr 1
    apply Array.ext'
    apply List.ext_getElem?
    intro i
    simp only [List.getElem?_map, List.map_map]
    cases hi : cs.toList[i]? with
    | none => rfl
    | some x =>
      obtain ⟨m, rfl, _⟩ := hx i x (by simpa using hi)
      rfl
  · simp only [List.getElem?_map] at hi
    cases hi' : cs.toList[i]? with
    | none => rw [hi'] at hi; cases hi
    | some x =>
      obtain ⟨m', rfl, hm⟩ := hx i x (by simpa using hi')
      rw [hi'] at hi
      injection hi with hi
      rw [← hi]; exact hm
theorem has_i16 {m : Int} (h : IntKind.i16.has m) : -32768 ≤ m ∧ m ≤ 32767 := by
  simp [IntKind.has, IntKind.min, IntKind.max, IntKind.signed, IntKind.bits] at h
  omega
theorem a4_open {w : World} {r : Reach} {b0 : Nat} {v : Value} (h : Value.okWide Try.prog w r b0 30 v) : ∃ v1 v2 v3 v4 : Int, v = .agg #[.int .i16 v1, .int .i16 v2, .int .i16 v3, .int .i16 v4] ∧ (-32768 ≤ v1 ∧ v1 ≤ 32767) ∧ (-32768 ≤ v2 ∧ v2 ≤ 32767) ∧ (-32768 ≤ v3 ∧ v3 ≤ 32767) ∧ -32768 ≤ v4 ∧ v4 ≤ 32767 := by
  obtain ⟨ns, rfl, hl, hk⟩ := okWide_arr (ts := List.replicate 4 29) Try.underlying30 (by kernel_rfl) (by kernel_rfl) (fun u hu => by rw [List.eq_of_mem_replicate hu]; exact Try.underlying29) h
  match ns, hl with
  | [a, b, c, d], _ => exact ⟨a, b, c, d, rfl, has_i16 (hk 0 _ rfl), has_i16 (hk 1 _ rfl), has_i16 (hk 2 _ rfl), has_i16 (hk 3 _ rfl)⟩
theorem a4_rep {N : Nat → Prop} {w : World} {V : VV} (a b c d : Int) : RepT N w V (.ag [.v (.int .i16 a), .v (.int .i16 b), .v (.int .i16 c), .v (.int .i16 d)]) (.agg #[.int .i16 a, .int .i16 b, .int .i16 c, .int .i16 d]) := rep_ints .i16 [a, b, c, d]
theorem bdL_U {A : Nat → Prop} : ∀ l : List Int, bdL A (l.map U)
  | [] => by simp [bdL]
  | n :: r => by
    rw [List.map_cons]
    unfold bdL
    exact ⟨by simp [U, bd], bdL_U r⟩
theorem raw_bd {A : Nat → Prop} (x : Rw) : bd A x.av := by
  have := bdL_U (A := A) (x.cells :: x.dirs :: x.turn :: x.ns)
  unfold Rw.av bd
  exact this
end Go.Proofs.Ytkecpgidolphfaa
