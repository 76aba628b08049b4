/- Contracts of functions of the program, proved by the checker; and plain laws. -/
import Derived.Test.YtceeabnmleemiaaZ00
import Derived.Test.YtceeabnmleemiaaZ01
set_option linter.unusedVariables false
set_option linter.unusedSimpArgs false
namespace Go.Proofs.Ytceeabnmleemiaa
open Go Go.Sk
structure Stp where
  op : Int
  n : Int
instance : Inhabited Stp := ⟨⟨0, 0⟩⟩
deriving instance DecidableEq for Stp
def St1 (x : Stp) : AV := .ag [I x.op, I x.n]
def Pg (p : List Stp) : AV := .sl (p.map St1)
structure Kd where
  name : ByteArray
  progs : List (List Stp)
  keep : Bool
instance : Inhabited Kd := ⟨⟨⟨#[]⟩, [], false⟩⟩
def Kn (k : Kd) : AV := .ag [.v (.string k.name), .sl (k.progs.map Pg), Bo k.keep]
structure Cl where
  cf : Int
  kind : Int
  n : Int
  thn : Int
instance : Inhabited Cl := ⟨⟨0, 0, 0, 0⟩⟩
def Ca (c : Cl) : AV := .ag [I c.cf, I c.kind, I c.n, I c.thn]
structure Gm where
  b : Bd
  kinds : List Kd
  rights : Int
  must : Bool
  cls : List Cl
  blocked : Int
  endless : Int
def Gm.av (g : Gm) : AV := .ag [I g.b.cells, Iss g.b.next, Is g.b.turn, .sl (g.kinds.map Kn), I g.rights, Bo g.must, .sl (g.cls.map Ca), I g.blocked, I g.endless]
structure Ps where
  ct : List Int
  h0 : List Int
  h1 : List Int
  rights : Int
  side : Int
instance : Inhabited Ps := ⟨⟨[], [], [], 0, 0⟩⟩
deriving instance DecidableEq for Ps
def Ps.av (p : Ps) : AV := .ag [Is p.ct, Is p.h0, Is p.h1, I p.rights, I p.side]
def U8 (n : Int) : AV := .v (.int .u8 n)
def Us (l : List Int) : AV := .sl (l.map U8)
def b8 (n : Int) : Prop := 0 ≤ n ∧ n ≤ 255
def at8 (l : List Int) (i : Int) : Int := if i < l.length then nth l i else 0
def lib (d e k r i : Int) : List Stp :=
  nth [[⟨1, d⟩, ⟨3, 0⟩], [⟨1, d⟩, ⟨4, 0⟩, ⟨6, 0⟩], [⟨2, d⟩], [⟨2, d⟩, ⟨4, 0⟩, ⟨6, 0⟩], [⟨1, d⟩, ⟨4, 0⟩, ⟨6, 0⟩, ⟨1, d⟩], [⟨1, d⟩, ⟨1, e⟩], [⟨1, d⟩, ⟨7, d⟩], [⟨1, d⟩, ⟨3, 0⟩, ⟨8, k⟩],
    [⟨9, r⟩, ⟨1, d⟩, ⟨1, d⟩, ⟨10, r⟩], [⟨1, d⟩, ⟨5, 0⟩, ⟨1, d⟩, ⟨3, 0⟩], [⟨10, r⟩, ⟨1, d⟩], [⟨1, d⟩, ⟨4, 0⟩, ⟨6, 0⟩, ⟨1, (d + 4) % 8⟩], [⟨1, d⟩, ⟨4, 0⟩, ⟨6, 0⟩, ⟨1, e⟩, ⟨4, 0⟩, ⟨6, 0⟩], [⟨2, d⟩, ⟨5, 0⟩, ⟨1, d⟩], [⟨1, d⟩, ⟨4, 0⟩, ⟨6, 0⟩, ⟨8, k⟩], [⟨1, d⟩, ⟨7, d⟩, ⟨1, e⟩]] i
def libL (l : List Int) : List Stp := lib (at8 l 1 % 8) (at8 l 2 % 8) (at8 l 3 % 6) (at8 l 4 % 4) (at8 l 0 % 16)
def fitS (dirs kinds rights : Int) (x : Stp) : List Stp :=
  if x.op = 1 ∨ x.op = 2 ∨ x.op = 7 then [⟨x.op, x.n % dirs⟩] else if x.op = 8 then [⟨x.op, x.n % kinds⟩] else if x.op = 9 ∨ x.op = 10 then (if rights = 0 then [] else [⟨x.op, x.n % rights⟩]) else [x]
def fitL (p : List Stp) (dirs kinds rights : Int) : List Stp := p.flatMap (fitS dirs kinds rights)
def fit (p : List Stp) (dirs kinds rights : Int) : List Stp := if (fitL p dirs kinds rights).length = 0 then [⟨3, 0⟩] else fitL p dirs kinds rights
def progMade (n dirs kinds rights : Int) : List Stp := fit (libL [n, n / 16, n / 16 + n % 5, n / 3, n]) dirs kinds rights
set_option maxRecDepth 10000 in
theorem at8_p (l : List Int) (i : Int) (h0 : 0 ≤ i) (h8 : ∀ i : Int, 0 ≤ i → i < l.length → b8 (nth l i)) : Pure Try.prog 65 [Us l, I i] (I (at8 l i)) none := by
  refine fun_of tok D_ok Try.func65 rfl Try.ntmps65 Try.results65 (by kernel_rfl) (by simp) (by simp) ?_
  have e : (l.map U8).length = l.length := List.length_map _
  have h := h8 i h0
  unfold b8 at h
  conv => whnf
  repeat' (first
    | (refine lvA (k := ?_); apply Cj.mk <;> first | exact trivial | intros)
    | (refine lvE (k := ?_); apply Cj.mk <;> first | exact trivial | intros)
    | fail)
  · unfold at8; rw [if_pos (by omega)]
  · unfold at8; rw [if_neg (by omega)]
end Go.Proofs.Ytceeabnmleemiaa
namespace Go.Proofs.Ytceeabnmleemiaa
open Go Go.Sk
def Ps.key (p : Ps) : List (List Int) := [p.ct, p.h0, p.h1, [p.rights], [p.side]]
theorem Ps.key_inj {p q : Ps} (h : p.key = q.key) : p = q := by
  cases p; cases q
  simp only [Ps.key, List.cons.injEq, and_true] at h
  simp only [Ps.mk.injEq]
  exact h
def cmpP (p q : Ps) : Int := cmpL (cmpL cmpI) p.key q.key
theorem cmpK_tot : Tot (cmpL (cmpL cmpI)) := cmpL_tot (cmpL_tot cmpI_tot)
theorem cmpP_tot : Tot cmpP := ⟨fun a b => ⟨fun h => Ps.key_inj ((cmpK_tot.eq0 _ _).1 h), fun h => by subst h; exact cmpK_tot.self _⟩, fun a b => cmpK_tot.anti _ _, fun a b d => cmpK_tot.trans _ _ _⟩
theorem cmpL_rg : ∀ a b : List Int, -1 ≤ cmpL cmpI a b ∧ cmpL cmpI a b ≤ 1
  | [], [] => by simp [cmpL]
  | [], _ :: _ => by simp [cmpL]
  | _ :: _, [] => by simp [cmpL]
  | x :: r, y :: s => by
    have := cmpL_rg r s
    simp only [cmpL]
    split
    · exact this
    · unfold cmpI; split <;> (try split) <;> omega
theorem cmpP_def (p q : Ps) : cmpP p q = if cmpL cmpI p.ct q.ct ≠ 0 then cmpL cmpI p.ct q.ct else if cmpL cmpI p.h0 q.h0 ≠ 0 then cmpL cmpI p.h0 q.h0 else if cmpL cmpI p.h1 q.h1 ≠ 0 then cmpL cmpI p.h1 q.h1 else if cmpI p.rights q.rights ≠ 0 then cmpI p.rights q.rights else cmpI p.side q.side := by
  have h1 : ∀ a b, cmpL cmpI [a] [b] = cmpI a b := fun a b => by simp only [cmpL]; split <;> rename_i e <;> simp [e]
  unfold cmpP Ps.key
  simp only [cmpL, h1]
  repeat' split
  all_goals first | rfl | contradiction | (simp_all; done) | omega
theorem drop_nth {α : Type} [Inhabited α] {l : List α} {i : Int} (h0 : 0 ≤ i) (h : i < l.length) : l.drop i.toNat = nth l i :: l.drop (i + 1).toNat := by
  rw [show (i + 1).toNat = i.toNat + 1 by omega, List.drop_eq_getElem_cons (by omega)]
  unfold nth; rw [List.getD_eq_getElem?_getD, List.getElem?_eq_getElem (by omega)]; rfl
theorem drop_all {α : Type} {l : List α} {i : Int} (h : l.length ≤ i) : l.drop i.toNat = [] := List.drop_eq_nil_of_le (by omega)
theorem cmpL_end {a b : List Int} {i : Int} (h : i = a.length ∨ i = b.length) (h1 : i ≤ a.length) (h2 : i ≤ b.length) : cmpL cmpI (a.drop i.toNat) (b.drop i.toNat) = cmpI a.length b.length := by
  by_cases ha : i = a.length
  · rw [drop_all (l := a) (by omega)]
    by_cases hb : i = b.length
    · rw [drop_all (l := b) (by omega)]
      unfold cmpI cmpL; rw [if_neg (by omega), if_neg (by omega)]
    · rw [drop_nth (by omega) (by omega)]
      unfold cmpI cmpL; rw [if_pos (by omega)]
  · rw [drop_all (l := b) (by omega), drop_nth (by omega) (by omega)]
    unfold cmpI cmpL; rw [if_neg (by omega), if_pos (by omega)]
set_option maxRecDepth 10000 in
theorem R4number_p (a b : Int) : Pure Try.prog 88 [I a, I b] (I (cmpI a b)) none := by
  refine fun_of tok D_ok Try.func88 rfl Try.ntmps88 Try.results88 (by kernel_rfl) (by simp) (by simp) ?_
  conv => whnf
  repeat' (first
    | (refine lvA (k := ?_); apply Cj.mk <;> first | exact trivial | intros)
    | (refine lvE (k := ?_); apply Cj.mk <;> first | exact trivial | intros)
    | fail)
  all_goals (congr 1; unfold cmpI)
  all_goals first | rw [if_pos (by omega)] | (rw [if_neg (by omega)]; first | rw [if_pos (by omega)] | rw [if_neg (by omega)])
set_option maxRecDepth 10000 in
theorem R4list_p (a b : List Int) (ha : a.length ≤ 4611686018427387904) (hb : b.length ≤ 4611686018427387904) : Pure Try.prog 87 [Is a, Is b] (I (cmpL cmpI a b)) none := by
  have ea : (a.map I).length = a.length := List.length_map _
  have eb : (b.map I).length = b.length := List.length_map _
  refine fun_of tok D_ok Try.func87 rfl Try.ntmps87 Try.results87 (by kernel_rfl) (by simp) (by simp) ?_
  conv => whnf
  refine .of (fun i => [(5, I i)]) (fun i => []) 0 (fun i => 0 ≤ i ∧ i ≤ a.length ∧ i ≤ b.length ∧ cmpL cmpI (a.drop i.toNat) (b.drop i.toNat) = cmpL cmpI a b) (fun i => (a.length - i).toNat) 0 ?_
  conv => whnf
  refine ⟨⟨[], (by kernel_rfl), (by kernel_rfl), (by kernel_rfl), lvL (k := ?_), lvL (k := ?_)⟩, ?_, fun i ⟨i0, i1, i2, hi⟩ => lvN (k := ?_)⟩ <;> (first | (apply Cj.mk <;> first | exact trivial | intros) | skip)
  · exact ⟨by omega, by omega, by omega, by simp⟩
  have da := drop_nth (l := a) i0
  have db := drop_nth (l := b) i0
  repeat' (first
    | (refine lvA (k := ?_); apply Cj.mk <;> first | exact trivial | intros)
    | (refine ⟨_, _, R4number_p _ _, lvN (k := ?_)⟩; apply Cj.mk <;> first | exact trivial | intros)
    | (refine .inl ?_; (conv => whnf); refine ⟨_, _, R4number_p _ _, lvN (k := ?_)⟩; apply Cj.mk <;> first | exact trivial | intros)
    | fail)
  · rename_i q1 q2 q3
    rw [← hi, da (by omega), db (by omega)]
    simp only [cmpL]
    rw [if_neg (by unfold cmpI; split <;> (try split) <;> omega)]
    refine exitS [] (by kernel_rfl) (by kernel_rfl) (by kernel_rfl) (lvL (k := ?_)) (lvL (k := ?_)) <;> (first | (apply Cj.mk <;> first | exact trivial | intros) | skip)
  · rename_i q1 q2 q3
    refine ⟨i + 1, ⟨[], (by kernel_rfl), (by kernel_rfl), (by kernel_rfl), lvL (k := ?_), lvL (k := ?_)⟩, ?_, by (try dsimp only); omega, rfl⟩ <;> (first | (apply Cj.mk <;> first | exact trivial | intros) | skip)
    refine ⟨by omega, by omega, by omega, ?_⟩
    rw [← hi, da (by omega), db (by omega)]
    simp only [cmpL]
    rw [if_pos (by unfold cmpI; rw [q3]; simp)]
  all_goals
    rw [← hi, cmpL_end (by omega) (by omega) (by omega), ← ea, ← eb]
    refine exitS [] (by kernel_rfl) (by kernel_rfl) (by kernel_rfl) (lvL (k := ?_)) (lvL (k := ?_)) <;> (first | (apply Cj.mk <;> first | exact trivial | intros) | skip)
theorem cmpP_rg (p q : Ps) : -1 ≤ cmpP p q ∧ cmpP p q ≤ 1 := by
  have h1 := cmpL_rg p.ct q.ct
  have h2 := cmpL_rg p.h0 q.h0
  have h3 := cmpL_rg p.h1 q.h1
  have h4 : ∀ a b : Int, -1 ≤ cmpI a b ∧ cmpI a b ≤ 1 := fun a b => by unfold cmpI; split <;> (try split) <;> omega
  have h5 := h4 p.rights q.rights
  have h6 := h4 p.side q.side
  rw [cmpP_def]
  repeat' split
  all_goals omega
structure Ps.small (p : Ps) : Prop where
  c : p.ct.length ≤ 1000000
  a : p.h0.length ≤ 1000000
  b : p.h1.length ≤ 1000000
set_option maxHeartbeats 2000000 in
set_option maxRecDepth 10000 in
theorem R4Compare_p (p q : Ps) (hp : p.small) (hq : q.small) : Pure Try.prog 81 [p.av, q.av] (I (cmpP p q)) none := by
  have c1 := R4list_p p.ct q.ct (by have := hp.c; omega) (by have := hq.c; omega)
  have c2 := R4list_p p.h0 q.h0 (by have := hp.a; omega) (by have := hq.a; omega)
  have c3 := R4list_p p.h1 q.h1 (by have := hp.b; omega) (by have := hq.b; omega)
  have c4 := R4number_p p.rights q.rights
  have c5 := R4number_p p.side q.side
  rw [cmpP_def]
  generalize cmpL cmpI p.ct q.ct = n1 at *
  generalize cmpL cmpI p.h0 q.h0 = n2 at *
  generalize cmpL cmpI p.h1 q.h1 = n3 at *
  generalize cmpI p.rights q.rights = n4 at *
  generalize cmpI p.side q.side = n5 at *
  refine fun_of tok D_ok Try.func81 rfl Try.ntmps81 Try.results81 (by kernel_rfl) (by simp) (by simp) ?_
  conv => whnf
  repeat' (first
    | (refine lvA (k := ?_); apply Cj.mk <;> first | exact trivial | intros)
    | (refine ⟨_, _, c1, lvN (k := ?_)⟩; apply Cj.mk <;> first | exact trivial | intros)
    | (refine .inl ?_; (conv => whnf); refine ⟨_, _, c1, lvN (k := ?_)⟩; apply Cj.mk <;> first | exact trivial | intros)
    | (refine ⟨_, _, c2, lvN (k := ?_)⟩; apply Cj.mk <;> first | exact trivial | intros)
    | (refine .inl ?_; (conv => whnf); refine ⟨_, _, c2, lvN (k := ?_)⟩; apply Cj.mk <;> first | exact trivial | intros)
    | (refine ⟨_, _, c3, lvN (k := ?_)⟩; apply Cj.mk <;> first | exact trivial | intros)
    | (refine .inl ?_; (conv => whnf); refine ⟨_, _, c3, lvN (k := ?_)⟩; apply Cj.mk <;> first | exact trivial | intros)
    | (refine ⟨_, _, c4, lvN (k := ?_)⟩; apply Cj.mk <;> first | exact trivial | intros)
    | (refine .inl ?_; (conv => whnf); refine ⟨_, _, c4, lvN (k := ?_)⟩; apply Cj.mk <;> first | exact trivial | intros)
    | (refine ⟨_, _, c5, lvN (k := ?_)⟩; apply Cj.mk <;> first | exact trivial | intros)
    | (refine .inl ?_; (conv => whnf); refine ⟨_, _, c5, lvN (k := ?_)⟩; apply Cj.mk <;> first | exact trivial | intros)
    | fail)
  refine .of (fun i => [(6, I i)]) (fun i => []) 2 (fun i => 0 ≤ i ∧ i ≤ 5 ∧ (0 < i → n1 = 0) ∧ (1 < i → n2 = 0) ∧ (2 < i → n3 = 0) ∧ (3 < i → n4 = 0) ∧ (4 < i → n5 = 0)) (fun i => (5 - i).toNat) 0 ?_
  conv => whnf
  refine ⟨⟨[], (by kernel_rfl), (by kernel_rfl), (by kernel_rfl), lvL (k := ?_), lvL (k := ?_)⟩, ?_, fun i ⟨i0, i5, k1, k2, k3, k4, k5⟩ => lvN (k := ?_)⟩ <;> (first | (apply Cj.mk <;> first | exact trivial | intros) | skip)
  · refine ⟨by omega, by omega, ?_, ?_, ?_, ?_, ?_⟩ <;> (intros; omega)
  have hi : i = 0 ∨ i = 1 ∨ i = 2 ∨ i = 3 ∨ i = 4 ∨ i = 5 := by omega
  rcases hi with rfl | rfl | rfl | rfl | rfl | rfl
  · repeat' (first
      | (refine lvK (k := ?_); apply Cj.mk <;> first | exact trivial | intros)
      | fail)
    · rename_i h
      repeat (first | rw [if_pos (by omega)] | rw [if_neg (by omega)])
      refine exitS [] (by kernel_rfl) (by kernel_rfl) (by kernel_rfl) (lvL (k := ?_)) (lvL (k := ?_)) <;> (first | (apply Cj.mk <;> first | exact trivial | intros) | skip)
    · rename_i h
      refine ⟨0 + 1, ⟨[], (by kernel_rfl), (by kernel_rfl), (by kernel_rfl), lvL (k := ?_), lvL (k := ?_)⟩, ?_, by (try dsimp only); omega, rfl⟩ <;> (first | (apply Cj.mk <;> first | exact trivial | intros) | skip)
      refine ⟨by omega, by omega, ?_, ?_, ?_, ?_, ?_⟩ <;> (intros; omega)
  · repeat' (first
      | (refine lvK (k := ?_); apply Cj.mk <;> first | exact trivial | intros)
      | fail)
    · rename_i h
      repeat (first | rw [if_pos (by omega)] | rw [if_neg (by omega)])
      refine exitS [] (by kernel_rfl) (by kernel_rfl) (by kernel_rfl) (lvL (k := ?_)) (lvL (k := ?_)) <;> (first | (apply Cj.mk <;> first | exact trivial | intros) | skip)
    · rename_i h
      refine ⟨1 + 1, ⟨[], (by kernel_rfl), (by kernel_rfl), (by kernel_rfl), lvL (k := ?_), lvL (k := ?_)⟩, ?_, by (try dsimp only); omega, rfl⟩ <;> (first | (apply Cj.mk <;> first | exact trivial | intros) | skip)
      refine ⟨by omega, by omega, ?_, ?_, ?_, ?_, ?_⟩ <;> (intros; omega)
  · repeat' (first
      | (refine lvK (k := ?_); apply Cj.mk <;> first | exact trivial | intros)
      | fail)
    · rename_i h
      repeat (first | rw [if_pos (by omega)] | rw [if_neg (by omega)])
      refine exitS [] (by kernel_rfl) (by kernel_rfl) (by kernel_rfl) (lvL (k := ?_)) (lvL (k := ?_)) <;> (first | (apply Cj.mk <;> first | exact trivial | intros) | skip)
    · rename_i h
      refine ⟨2 + 1, ⟨[], (by kernel_rfl), (by kernel_rfl), (by kernel_rfl), lvL (k := ?_), lvL (k := ?_)⟩, ?_, by (try dsimp only); omega, rfl⟩ <;> (first | (apply Cj.mk <;> first | exact trivial | intros) | skip)
      refine ⟨by omega, by omega, ?_, ?_, ?_, ?_, ?_⟩ <;> (intros; omega)
  · repeat' (first
      | (refine lvK (k := ?_); apply Cj.mk <;> first | exact trivial | intros)
      | fail)
    · rename_i h
      repeat (first | rw [if_pos (by omega)] | rw [if_neg (by omega)])
      refine exitS [] (by kernel_rfl) (by kernel_rfl) (by kernel_rfl) (lvL (k := ?_)) (lvL (k := ?_)) <;> (first | (apply Cj.mk <;> first | exact trivial | intros) | skip)
    · rename_i h
      refine ⟨3 + 1, ⟨[], (by kernel_rfl), (by kernel_rfl), (by kernel_rfl), lvL (k := ?_), lvL (k := ?_)⟩, ?_, by (try dsimp only); omega, rfl⟩ <;> (first | (apply Cj.mk <;> first | exact trivial | intros) | skip)
      refine ⟨by omega, by omega, ?_, ?_, ?_, ?_, ?_⟩ <;> (intros; omega)
  · repeat' (first
      | (refine lvK (k := ?_); apply Cj.mk <;> first | exact trivial | intros)
      | fail)
    · rename_i h
      repeat (first | rw [if_pos (by omega)] | rw [if_neg (by omega)])
      refine exitS [] (by kernel_rfl) (by kernel_rfl) (by kernel_rfl) (lvL (k := ?_)) (lvL (k := ?_)) <;> (first | (apply Cj.mk <;> first | exact trivial | intros) | skip)
    · rename_i h
      refine ⟨4 + 1, ⟨[], (by kernel_rfl), (by kernel_rfl), (by kernel_rfl), lvL (k := ?_), lvL (k := ?_)⟩, ?_, by (try dsimp only); omega, rfl⟩ <;> (first | (apply Cj.mk <;> first | exact trivial | intros) | skip)
      refine ⟨by omega, by omega, ?_, ?_, ?_, ?_, ?_⟩ <;> (intros; omega)
  · rw [k1 (by omega), k2 (by omega), k3 (by omega), k4 (by omega), k5 (by omega)]
    repeat' (first
      | (refine lvK (k := ?_); apply Cj.mk <;> first | exact trivial | intros)
      | (refine lvE (k := ?_); apply Cj.mk <;> first | exact trivial | intros)
      | fail)
set_option maxRecDepth 10000 in
theorem R4Same_p (p q : Ps) (hp : p.small) (hq : q.small) : Pure Try.prog 71 [p.av, q.av] (Bo (decide (p = q))) none := by
  have c := R4Compare_p p q hp hq
  have e : (cmpP p q == 0) = decide (p = q) := by
    by_cases h : p = q
    · rw [decide_eq_true h, (cmpP_tot.eq0 p q).2 h]; rfl
    · rw [decide_eq_false h]
      exact beq_eq_false_iff_ne.2 fun q' => h ((cmpP_tot.eq0 _ _).1 q')
  rw [← e]
  refine fun_of tok D_ok Try.func71 rfl Try.ntmps71 Try.results71 (by kernel_rfl) (by simp) (by simp) ?_
  conv => whnf
  repeat' (first
    | (refine lvA (k := ?_); apply Cj.mk <;> first | exact trivial | intros)
    | (refine ⟨_, _, c, lvN (k := ?_)⟩; apply Cj.mk <;> first | exact trivial | intros)
    | (refine .inl ?_; (conv => whnf); refine ⟨_, _, c, lvN (k := ?_)⟩; apply Cj.mk <;> first | exact trivial | intros)
    | (refine lvE (k := ?_); apply Cj.mk <;> first | exact trivial | intros)
    | fail)
end Go.Proofs.Ytceeabnmleemiaa
namespace Go.Proofs.Ytceeabnmleemiaa
open Go Go.Sk
set_option maxHeartbeats 2000000 in
set_option maxRecDepth 10000 in
theorem Lib_p (l : List Int) (hl : l.length ≤ 100) (h8 : ∀ i : Int, 0 ≤ i → i < l.length → b8 (nth l i)) : Pure Try.prog 49 [Us l] (Pg (libL l)) none := by
  have hb : ∀ i, 0 ≤ i → 0 ≤ at8 l i ∧ at8 l i ≤ 255 := fun i i0 => by
    unfold at8
    split
    · exact h8 i i0 (by omega)
    · omega
  have p0 := at8_p l 0 (by omega) h8
  have p1 := at8_p l 1 (by omega) h8
  have p2 := at8_p l 2 (by omega) h8
  have p3 := at8_p l 3 (by omega) h8
  have p4 := at8_p l 4 (by omega) h8
  have h0 := hb 0 (by omega)
  have h1 := hb 1 (by omega)
  have h2 := hb 2 (by omega)
  have h3 := hb 3 (by omega)
  have h4 := hb 4 (by omega)
  unfold libL
  generalize at8 l 0 = a0 at *
  generalize at8 l 1 = a1 at *
  generalize at8 l 2 = a2 at *
  generalize at8 l 3 = a3 at *
  generalize at8 l 4 = a4 at *
  refine fun_of tok D_ok Try.func49 rfl Try.ntmps49 Try.results49 (by kernel_rfl) (by simp) (by simp) ?_
  conv => whnf
  repeat' (first
    | (refine lvA (k := ?_); apply Cj.mk <;> first | exact trivial | intros)
    | (refine ⟨_, _, p0, lvN (k := ?_)⟩; apply Cj.mk <;> first | exact trivial | intros)
    | (refine .inl ?_; (conv => whnf); refine ⟨_, _, p0, lvN (k := ?_)⟩; apply Cj.mk <;> first | exact trivial | intros)
    | (refine ⟨_, _, p1, lvN (k := ?_)⟩; apply Cj.mk <;> first | exact trivial | intros)
    | (refine .inl ?_; (conv => whnf); refine ⟨_, _, p1, lvN (k := ?_)⟩; apply Cj.mk <;> first | exact trivial | intros)
    | (refine ⟨_, _, p2, lvN (k := ?_)⟩; apply Cj.mk <;> first | exact trivial | intros)
    | (refine .inl ?_; (conv => whnf); refine ⟨_, _, p2, lvN (k := ?_)⟩; apply Cj.mk <;> first | exact trivial | intros)
    | (refine ⟨_, _, p3, lvN (k := ?_)⟩; apply Cj.mk <;> first | exact trivial | intros)
    | (refine .inl ?_; (conv => whnf); refine ⟨_, _, p3, lvN (k := ?_)⟩; apply Cj.mk <;> first | exact trivial | intros)
    | (refine ⟨_, _, p4, lvN (k := ?_)⟩; apply Cj.mk <;> first | exact trivial | intros)
    | (refine .inl ?_; (conv => whnf); refine ⟨_, _, p4, lvN (k := ?_)⟩; apply Cj.mk <;> first | exact trivial | intros)
    | fail)
  have hm : 0 ≤ a0 % 16 ∧ a0 % 16 < 16 := by omega
  refine And.intro (show ((16 : Nat) : Int) ≠ 0 from by decide) (Calc.mk (a0 % 16) (Int.tmod_eq_emod_of_nonneg h0.1) ?_)
  generalize a0 % 16 = i at *
  have hi : i = 0 ∨ i = 1 ∨ i = 2 ∨ i = 3 ∨ i = 4 ∨ i = 5 ∨ i = 6 ∨ i = 7 ∨ i = 8 ∨ i = 9 ∨ i = 10 ∨ i = 11 ∨ i = 12 ∨ i = 13 ∨ i = 14 ∨ i = 15 := by omega
  rcases hi with rfl | rfl | rfl | rfl | rfl | rfl | rfl | rfl | rfl | rfl | rfl | rfl | rfl | rfl | rfl | rfl
  all_goals
    conv => whnf
    refine ⟨by decide, (by show (_ : Nat) < 16; decide), ?_⟩
    conv => whnf
    refine ⟨_, rfl, lvN (k := ?_)⟩
    apply Cj.mk <;> first | exact trivial | intros
    refine lvE (k := ?_) <;> (first | (apply Cj.mk <;> first | exact trivial | intros) | skip)
end Go.Proofs.Ytceeabnmleemiaa
namespace Go.Proofs.Ytceeabnmleemiaa
open Go Go.Sk
theorem fitS_len (a b c : Int) (x : Stp) : (fitS a b c x).length ≤ 1 := by
  unfold fitS
  repeat' split
  all_goals simp
theorem fitL_len (a b c : Int) : ∀ p : List Stp, (fitL p a b c).length ≤ p.length
  | [] => by simp [fitL]
  | x :: p => by
    have h1 := fitL_len a b c p
    have h2 := fitS_len a b c x
    unfold fitL at h1 ⊢
    rw [List.flatMap_cons, List.length_append, List.length_cons]
    omega
theorem fitL_succ {a b c : Int} {p : List Stp} {i : Int} (h0 : 0 ≤ i) (h : i < p.length) : fitL (p.take (i + 1).toNat) a b c = fitL (p.take i.toNat) a b c ++ fitS a b c (nth p i) := by
  unfold fitL
  rw [take_snoc h0 h, List.flatMap_append]
  simp
set_option maxHeartbeats 2000000 in
set_option maxRecDepth 10000 in
theorem Fit_p (p : List Stp) (hp : p.length ≤ 100) (hn : ∀ i : Int, 0 ≤ i → i < p.length → 0 ≤ (nth p i).n) (dirs kinds rights : Int) (h1 : 1 ≤ dirs) (h2 : 1 ≤ kinds) (h3 : 0 ≤ rights) :
    Pure Try.prog 48 [Pg p, I dirs, I kinds, I rights] (Pg (fit p dirs kinds rights)) none := by
  have e : (p.map St1).length = p.length := List.length_map _
  refine fun_of tok D_ok Try.func48 rfl Try.ntmps48 Try.results48 (by kernel_rfl) (by simp) (by simp) ?_
  conv => whnf
  refine .of (fun i => [(10, I i), (9, .ref 0)]) (fun i => [(0, .arr 2 ((fitL (p.take i.toNat) dirs kinds rights).map St1))]) 1 (fun i => 0 ≤ i ∧ i ≤ p.length) (fun i => (p.length - i).toNat) 0 ?_
  conv => whnf
  refine ⟨⟨[], (by kernel_rfl), (by kernel_rfl), (by kernel_rfl), lvL (k := ?_), lvL (k := ?_)⟩, ?_, fun i ⟨i0, i1⟩ => lvN (k := ?_)⟩ <;> (first | (apply Cj.mk <;> first | exact trivial | intros) | skip)
  · exact ⟨by omega, by omega⟩
  have hl := fitL_len dirs kinds rights (p.take i.toNat)
  have htl := take_len i0 i1
  have hsu := fun h => fitL_succ (a := dirs) (b := kinds) (c := rights) (p := p) i0 h
  have hni := hn i i0
  by_cases hi : i < p.length
  · have hsu' := hsu hi
    have hni' := hni hi
    unfold fitS at hsu'
    repeat' (first
      | (refine lvK (k := ?_); apply Cj.mk <;> first | exact trivial | intros)
      | (refine ap1 (f := St1) (a := ⟨(nth p i).op, (nth p i).n % dirs⟩) (by decide) (by omega) rfl rfl (lvN (k := ?_)); apply Cj.mk <;> first | exact trivial | intros)
      | (refine ap1 (f := St1) (a := ⟨(nth p i).op, (nth p i).n % kinds⟩) (by decide) (by omega) rfl rfl (lvN (k := ?_)); apply Cj.mk <;> first | exact trivial | intros)
      | (refine ap1 (f := St1) (a := ⟨(nth p i).op, (nth p i).n % rights⟩) (by decide) (by omega) rfl rfl (lvN (k := ?_)); apply Cj.mk <;> first | exact trivial | intros)
      | (refine ap1 (f := St1) (a := (nth p i)) (by decide) (by omega) rfl rfl (lvN (k := ?_)); apply Cj.mk <;> first | exact trivial | intros)
      | fail)
    all_goals
      refine ⟨i + 1, ⟨[], (by kernel_rfl), (by kernel_rfl), (by kernel_rfl), lvL (k := ?_), lvL (k := ?_)⟩, ?_, by (try dsimp only); omega, rfl⟩ <;> (first | (apply Cj.mk <;> first | exact trivial | intros) | skip)
      · rw [hsu']; repeat (first | rw [if_pos (by omega)] | rw [if_neg (by omega)] | rw [List.append_nil])
      · exact ⟨by omega, by omega⟩
  · obtain rfl : i = p.length := by omega
    rw [take_all (Int.le_refl _)] at hl ⊢
    have em : ((fitL p dirs kinds rights).map St1).length = (fitL p dirs kinds rights).length := List.length_map _
    repeat' (first
      | (refine lvK (k := ?_); apply Cj.mk <;> first | exact trivial | intros)
      | fail)
    · rename_i q1 q2
      unfold fit
      rw [if_pos (by omega)]
      refine lvE (k := ?_) <;> (first | (apply Cj.mk <;> first | exact trivial | intros) | skip)
    · rename_i q1 q2
      unfold fit
      rw [if_neg (by omega)]
      refine lvE (k := ?_) <;> (first | (apply Cj.mk <;> first | exact trivial | intros) | skip)
end Go.Proofs.Ytceeabnmleemiaa
