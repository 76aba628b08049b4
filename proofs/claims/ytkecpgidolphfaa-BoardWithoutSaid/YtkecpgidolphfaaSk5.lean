/- A checker of Go functions by conditions over small pure states: part 6. -/
import Derived.Test.YtkecpgidolphfaaSk4

-- SkRa
/- Own slices whose elements are own slices. -/
namespace Go.Sk
set_option linter.unusedVariables false
set_option linter.unusedSimpArgs false
open Go.RowKit

theorem cellsA_newElem {e y : AV} {j k : Nat} {ds : List AV} (he : (cellsA e).length = k) (h0 : 0 < ds.length) (hfit : j + ds.length ≤ k) (hy : cellsA y = ds) : cellsA (newElem e j ds y) = setC (cellsA e) j ds := by
  unfold newElem
  split
  · rfl
  · rename_i hne
    have h1 : cellsA e = [e] := by cases e <;> first | rfl | exact absurd rfl (hne _)
    rw [h1] at he ⊢
    simp at he
    have hj : j = 0 := by omega
    have hl : ds.length = 1 := by omega
    subst hj
    rw [hy]
    simp [setC, hl]

theorem idx_ne {k i i' j j' : Nat} (hj : j < k) (hj' : j' < k) (h : i * k + j = i' * k + j') : i = i' ∧ j = j' := by
  have h1 : (i * k + j) / k = i := by rw [Nat.add_comm, Nat.add_mul_div_right _ _ (by omega), Nat.div_eq_of_lt hj]; omega
  have h2 : (i' * k + j') / k = i' := by rw [Nat.add_comm, Nat.add_mul_div_right _ _ (by omega), Nat.div_eq_of_lt hj']; omega
  have : i = i' := by rw [← h1, ← h2, h]
  subst this
  exact ⟨rfl, by omega⟩

theorem idx_lt {k n i j : Nat} (hj : j < k) (hi : i < n) : i * k + j < n * k := by
  have := Nat.mul_le_mul_right k (show i + 1 ≤ n by omega)
  rw [Nat.add_mul, Nat.one_mul] at this
  omega

variable {N0 : Nat → Prop} {base : Nat} {w0 : W0} {m : Nat} {V : VV} {g : Nat → Option AV} {ob : Nat → Option AO} {A : Nat → Prop} {a : Act} {w : World}

theorem bd_own {A : Nat → Prop} (k : Nat) (ys : List AV) : bd A (.own k ys) := by unfold bd; trivial

/-- Cells of an own slice of slices are written. -/
theorem Rel.trePut (h : Rel N0 base w0 m V g ob A a w) {id k i j : Nat} {xs ds : List AV} {e y : AV} {b o cap : Nat} {arr vs : Array Value} {Ty : TypeId} {G : Nat → Nat → Prop} {ks : List Nat} {gg : Nat → Nat → Prop}
    (hob : ob id = some (.tre k xs)) (h1 : V id = .slice (some ⟨b, o, none⟩) xs.length cap) (h2 : w.heap[b]? = some (.cells arr Ty (0, 0))) (h3 : 0 < cap) (h4 : xs.length ≤ cap) (h5 : o + cap * k ≤ arr.size)
    (h6 : ∀ e, e ∈ xs → (cellsA e).length = k)
    (h7 : ∀ (i : Nat) (e : AV) (j : Nat) (c : AV), xs[i]? = some e → (cellsA e)[j]? = some c → ∃ u : Value, arr[o + (i * k + j)]? = some u ∧ u.oneCell' = true ∧ RepW (Nf N0 base V ob) w V (G (i * k + j)) c u)
    (h8 : ∀ q q' b', G q b' → G q' b' → q = q') (h9 : ∀ q b', G q b' → b' ≠ b ∧ b' < w.heap.size) (h10 : ∀ b', V.f id b' ↔ b' = b ∨ ∃ q, q < xs.length * k ∧ G q b')
    (he : xs[i]? = some e) (hy : cellsA y = ds) (hL : 0 < ds.length) (hfit : j + ds.length ≤ k) (hvs : vs.size = ds.length) (hks : ∀ i, i ∈ ks → live ob i) (hidk : id ∉ ks)
    (hgg : ∀ p b', gg p b' → ∃ i, i ∈ ks ∧ V.f i b') (hgd : ∀ p p' b', gg p b' → gg p' b' → p = p')
    (hds : ∀ (p : Nat) (c : AV), ds[p]? = some c → ∃ u, vs[p]? = some u ∧ u.oneCell' = true ∧ RepW (Nf N0 base V ob) w V (gg p) c u) (hbd : bdL A ds) :
    ∃ V', Rel N0 base w0 m V' g (updK ob ks id (.tre k (xs.set i (newElem e j ds y)))) A a (w.setRow b (arr.toList.take (o + (i * k + j)) ++ vs.toList ++ arr.toList.drop (o + (i * k + j) + vs.toList.length)).toArray) := by
  have hlid : live ob id := ⟨_, hob, rfl⟩
  have hek : (cellsA e).length = k := h6 e (List.mem_of_getElem? he)
  have hil : i < xs.length := (List.getElem?_eq_some_iff.1 he).1
  have hce := cellsA_newElem hek hL hfit hy
  have hfid : V.f id b := (h10 b).2 (.inl rfl)
  let G' : Nat → Nat → Prop := fun q b' => if i * k + j ≤ q ∧ q < i * k + j + ds.length then gg (q - (i * k + j)) b' else q < xs.length * k ∧ G q b'
  let f' : Nat → Prop := fun b' => b' = b ∨ ∃ q, q < xs.length * k ∧ G' q b'
  have hgk : ∀ p b', gg p b' → b' ≠ b ∧ b' < w.heap.size ∧ ¬ V.f id b' := fun p b' hp => by
    obtain ⟨i', q1, q2⟩ := hgg p b' hp
    have hne : i' ≠ id := fun e => hidk (e ▸ q1)
    have hno : ¬ V.f id b' := fun hc => hne (h.inj i' id b' (hks i' q1) hlid q2 hc)
    exact ⟨fun e => hno (e ▸ hfid), (h.low i' b' (hks i' q1) q2).2, hno⟩
  have hGlt : ∀ q b', q < xs.length * k → G q b' → V.f id b' := fun q b' hq hb => (h10 b').2 (.inr ⟨q, hq, hb⟩)
  refine ⟨setF V id f', h.turnL (f := f') hob rfl hidk hks (fun b' hb' => ?_) (by rw [setRow_size]; exact Nat.le_refl _) (fun b' _ hne => setRow_other w b b' _ (fun e => hne (e ▸ hfid))) rfl rfl rfl (fun hN => ?_) (fun z hz => ?_)⟩
  · rcases hb' with rfl | ⟨q, hq, hb'⟩
    · exact .inl hfid
    · by_cases hin : i * k + j ≤ q ∧ q < i * k + j + ds.length
      · simp only [G', if_pos hin] at hb'
        exact .inr (hgg _ _ hb')
      · simp only [G', if_neg hin] at hb'
        exact .inl (hGlt q b' hq hb'.2)
  · have hcl : vs.toList.length = ds.length := by simp [hvs]
    have hbnd : (i + 1) * k ≤ cap * k := Nat.mul_le_mul_right _ (by omega)
    rw [Nat.add_mul, Nat.one_mul] at hbnd
    have hlenx : (xs.set i (newElem e j ds y)).length = xs.length := by simp
    refine .inr ⟨b, o, cap, _, Ty, G', by rw [setF_v, hlenx]; exact h1, setRow_heap w b arr _ Ty _ h2, h3, by rw [hlenx]; exact h4, by simp; omega, fun z hz => ?_, fun i' z q c hz hq => ?_, fun q q' b' r1 r2 => ?_, fun q b' r1 => ?_, fun b' => by rw [setF_f, hlenx]⟩
    · rcases List.mem_or_eq_of_mem_set hz with hz | rfl
      · exact h6 z hz
      · rw [hce, setC_len (by omega)]; exact hek
    · have hzk : (cellsA z).length = k := by
        rcases List.mem_or_eq_of_mem_set (List.mem_of_getElem? hz) with hm | rfl
        · exact h6 z hm
        · rw [hce, setC_len (by omega)]; exact hek
      have hql : q < k := by rw [← hzk]; exact (List.getElem?_eq_some_iff.1 hq).1
      simp only [List.getElem?_toArray]
      rw [splice_get (by rw [hcl]; simp; omega), hcl]
      have old : ∀ {c : AV} {u : Value}, arr[o + (i' * k + q)]? = some u → u.oneCell' = true → RepW (Nf N0 base V ob) w V (G (i' * k + q)) c u → bd A c → i' < xs.length → ¬ (i * k + j ≤ i' * k + q ∧ i' * k + q < i * k + j + ds.length) →
          ∃ u : Value, (if o + (i * k + j) ≤ o + (i' * k + q) ∧ o + (i' * k + q) < o + (i * k + j) + ds.length then vs.toList[o + (i' * k + q) - (o + (i * k + j))]? else arr.toList[o + (i' * k + q)]?) = some u ∧ u.oneCell' = true ∧
            RepW (Nf N0 base (setF V id f') (updK ob ks id (.tre k (xs.set i (newElem e j ds y))))) (w.setRow b (arr.toList.take (o + (i * k + j)) ++ vs.toList ++ arr.toList.drop (o + (i * k + j) + ds.length)).toArray) (setF V id f') (G' (i' * k + q)) c u := by
        intro c u r1 r2 r3 r4 r5 r6
        rw [if_neg (by omega)]
        refine ⟨u, by simpa using r1, r2, ?_⟩
        have : G' (i' * k + q) = G (i' * k + q) := by
          funext b'; simp only [G', if_neg r6]
          exact propext ⟨fun h => h.2, fun h => ⟨idx_lt hql r5, h⟩⟩
        rw [this]
        rw [hcl] at hN
        exact RepW.mono (V := V) (A := A) hN (fun _ _ => rfl) (fun b' hb' => setRow_other w b b' _ (h9 _ _ hb').1) r3 r4
      by_cases hii : i' = i
      · subst hii
        have hze : z = newElem e j ds y := by
          rw [List.getElem?_set_self hil] at hz
          injection hz with hz; exact hz.symm
        subst hze
        rw [hce, setC_get (by omega)] at hq
        by_cases hin : j ≤ q ∧ q < j + ds.length
        · rw [if_pos hin] at hq
          obtain ⟨u, r1, r2, r3⟩ := hds _ _ hq
          rw [if_pos ⟨by omega, by omega⟩, show o + (i' * k + q) - (o + (i' * k + j)) = q - j by omega]
          refine ⟨u, by simpa using r1, r2, ?_⟩
          have : G' (i' * k + q) = gg (q - j) := by
            funext b'
            simp only [G']
            rw [if_pos ⟨by omega, by omega⟩, show i' * k + q - (i' * k + j) = q - j by omega]
          rw [this]
          rw [hcl] at hN
          exact RepW.mono (V := V) (A := A) hN (fun _ _ => rfl) (fun b' hb' => setRow_other w b b' _ (hgk _ _ hb').1) r3 (bdL_get hbd hq)
        · rw [if_neg hin] at hq
          obtain ⟨u, r1, r2, r3⟩ := h7 _ _ _ _ he hq
          have := old r1 r2 r3 (bdL_get ((h.bdo id _ hob).2 e (List.mem_of_getElem? he)) hq) hil (by omega)
          exact this
      · have hz' : xs[i']? = some z := by rw [List.getElem?_set_ne (Ne.symm hii)] at hz; exact hz
        have hi' : i' < xs.length := (List.getElem?_eq_some_iff.1 hz').1
        obtain ⟨u, r1, r2, r3⟩ := h7 _ _ _ _ hz' hq
        have := old r1 r2 r3 (bdL_get ((h.bdo id _ hob).2 z (List.mem_of_getElem? hz')) hq) hi' (by
          intro hh
          rcases Nat.lt_or_gt_of_ne hii with hlt | hgt
          · have := Nat.mul_le_mul_right k (show i' + 1 ≤ i by omega)
            rw [Nat.add_mul, Nat.one_mul] at this
            omega
          · have := Nat.mul_le_mul_right k (show i + 1 ≤ i' by omega)
            rw [Nat.add_mul, Nat.one_mul] at this
            omega)
        exact this
    · simp only [G'] at r1 r2
      split at r1 <;> split at r2
      · have := hgd _ _ _ r1 r2; omega
      · exfalso
        obtain ⟨_, _, r3⟩ := hgk _ _ r1
        exact r3 (hGlt _ _ r2.1 r2.2)
      · exfalso
        obtain ⟨_, _, r3⟩ := hgk _ _ r2
        exact r3 (hGlt _ _ r1.1 r1.2)
      · exact h8 _ _ _ r1.2 r2.2
    · simp only [G'] at r1
      split at r1
      · have := hgk _ _ r1
        exact ⟨this.1, by rw [setRow_size]; exact this.2.1⟩
      · have := h9 _ _ r1.2
        exact ⟨this.1, by rw [setRow_size]; exact this.2⟩
  · rcases List.mem_or_eq_of_mem_set hz with hz | rfl
    · exact (h.bdo id _ hob).2 z hz
    · rw [hce]
      refine bdL_iff.2 fun c hc => ?_
      unfold setC at hc
      rcases List.mem_append.1 hc with hc | hc
      · rcases List.mem_append.1 hc with hc | hc
        · exact bdL_iff.1 ((h.bdo id _ hob).2 e (List.mem_of_getElem? he)) c (List.mem_of_mem_take hc)
        · exact bdL_iff.1 hbd c hc
      · exact bdL_iff.1 ((h.bdo id _ hob).2 e (List.mem_of_getElem? he)) c (List.mem_of_mem_drop hc)

/-- An element's own row is taken out, as an object n. -/
theorem Rel.treOut (h : Rel N0 base w0 m V g ob A a w) {id n i k2 : Nat} {xs ys : List AV} {dst : Option Nat} (hd : ∀ d, dst = some d → d < m) (hob : ob id = some (.tre 1 xs)) (he : xs[i]? = some (.own k2 ys)) (hn : ¬ A n) :
    ∃ (b o cap : Nat) (u : Value), V id = .slice (some ⟨b, o, none⟩) xs.length cap ∧ w.cell? ⟨b, o + i, none⟩ = some u ∧ u.oneCell' = true ∧
      ∃ V', Rel N0 base w0 m V' (upd g dst (.ref n)) (updO (updO ob id (.tre 1 (xs.set i (.ref n)))) n (.arr k2 ys)) (addA A n) (a.put dst u) w := by
  have hlid : live ob id := ⟨_, hob, rfl⟩
  have hidA : A id := (h.bdo id _ hob).1
  have hne : id ≠ n := fun e => hn (e ▸ hidA)
  rcases h.obs id _ hob with ⟨a', _, rfl, _⟩ | ⟨b, o, cap, arr, Ty, G, h1, h2, h3, h4, h5, h6, h7, h8, h9, h10⟩
  · simp at he
  have hil : i < xs.length := (List.getElem?_eq_some_iff.1 he).1
  obtain ⟨u, q1, q2, q3, q4⟩ := h7 i _ 0 (.own k2 ys) he rfl
  simp only [Nat.mul_one, Nat.add_zero] at q1 q4
  refine ⟨b, o, cap, u, h1, by rw [cell_of_row w b _ arr Ty (0, 0) h2]; exact q1, q2, ?_⟩
  let G' : Nat → Nat → Prop := fun q b' => q ≠ i ∧ q < xs.length ∧ G q b'
  let f' : Nat → Prop := fun b' => b' = b ∨ ∃ q, q < xs.length ∧ G' q b'
  have hGi : ∀ b', bl u b' → V.f id b' := fun b' hb' => (h10 b').2 (.inr ⟨i, by omega, (q4 b').2 hb'⟩)
  have hf' : ∀ b', f' b' → V.f id b' := fun b' hb' => by
    rcases hb' with rfl | ⟨q, _, r1, r2, r3⟩
    · exact (h10 _).2 (.inl rfl)
    · exact (h10 _).2 (.inr ⟨q, by omega, r3⟩)
  have hdis : ∀ b', f' b' → bl u b' → False := fun b' hb' hu => by
    have hg := (q4 b').2 hu
    rcases hb' with rfl | ⟨q, _, r1, r2, r3⟩
    · exact (h9 _ _ hg).1 rfl
    · exact r1 (h8 _ _ _ r3 hg)
  have hVv : ∀ c, A c → setF (updV V n u) id f' c = V c := fun c hc => by rw [setF_v]; exact updV_ne V n u (fun e => hn (e ▸ hc))
  have hFid : (setF (updV V n u) id f').f id = f' := setF_f _ _ _
  have hFn : (setF (updV V n u) id f').f n = bl u := by rw [setF_fne _ _ _ (Ne.symm hne), updV_f]
  have hFo : ∀ c, c ≠ id → c ≠ n → (setF (updV V n u) id f').f c = V.f c := fun c c1 c2 => by rw [setF_fne _ _ _ c1, updV_fne V n u c2]
  have hcase : ∀ c o', updO (updO ob id (.tre 1 (xs.set i (.ref n)))) n (.arr k2 ys) c = some o' → (c = n ∧ o' = .arr k2 ys) ∨ (c = id ∧ o' = .tre 1 (xs.set i (.ref n))) ∨ (c ≠ n ∧ c ≠ id ∧ ob c = some o') := fun c o' hc => by
    unfold updO at hc
    split at hc
    · injection hc with hc; exact .inl ⟨by assumption, hc.symm⟩
    · split at hc
      · injection hc with hc; exact .inr (.inl ⟨by assumption, hc.symm⟩)
      · exact .inr (.inr ⟨by assumption, by assumption, hc⟩)
  have hlive : ∀ c, live (updO (updO ob id (.tre 1 (xs.set i (.ref n)))) n (.arr k2 ys)) c → c = n ∨ c = id ∨ (c ≠ n ∧ c ≠ id ∧ live ob c) := fun c ⟨o', r1, r2⟩ => by
    rcases hcase c o' r1 with ⟨r, _⟩ | ⟨r, _⟩ | ⟨r3, r4, r5⟩
    · exact .inl r
    · exact .inr (.inl r)
    · exact .inr (.inr ⟨r3, r4, o', r5, r2⟩)
  have hsub : ∀ c b', live (updO (updO ob id (.tre 1 (xs.set i (.ref n)))) n (.arr k2 ys)) c → (setF (updV V n u) id f').f c b' → ∃ c', live ob c' ∧ V.f c' b' ∧ (c' = c ∨ ((c = n ∨ c = id) ∧ c' = id)) := fun c b' hl hb => by
    rcases hlive c hl with rfl | rfl | ⟨c1, c2, hl⟩
    · rw [hFn] at hb; exact ⟨id, hlid, hGi b' hb, .inr ⟨.inl rfl, rfl⟩⟩
    · rw [hFid] at hb; exact ⟨_, hlid, hf' b' hb, .inl rfl⟩
    · rw [hFo c c2 c1] at hb; exact ⟨c, hl, hb, .inl rfl⟩
  have hNf : ∀ b', Nf N0 base V ob b' → b' < w.heap.size → Nf N0 base (setF (updV V n u) id f') (updO (updO ob id (.tre 1 (xs.set i (.ref n)))) n (.arr k2 ys)) b' ∧ w.heap[b']? = w.heap[b']? := fun b' hN _ => ⟨⟨hN.1, fun c hl hb => by
    obtain ⟨c', r1, r2, _⟩ := hsub c b' hl hb
    exact hN.2 c' r1 r2⟩, rfl⟩
  refine ⟨setF (updV V n u) id f', Rel.put (m := m) ⟨fun t x hx => RepT.mono (V := V) hNf hVv (h.tm t x hx) (h.bdt t x hx), fun c o' hc => ?_, fun c c' b' hl hl' hb hb' => ?_, fun c b' hl hb => ?_, fun t x hx => bd_mono (fun _ => .inl) x (h.bdt t x hx), fun c o' hc => ?_, h.bel, h.bas, h.dfr, h.siz, fun c hc => ⟨.inl (h.par c hc).1, (hVv c (h.par c hc).1).trans (h.par c hc).2⟩⟩ hd ?_ (by unfold bd; exact .inr rfl)⟩
  · rcases hcase c o' hc with ⟨rfl, rfl⟩ | ⟨rfl, rfl⟩ | ⟨r1, r2, r3⟩
    · refine ⟨fun b' => by rw [hFn, setF_v, updV_same], ?_⟩
      rw [setF_v, updV_same]
      exact q3.mono hNf fun _ _ => rfl
    · refine .inr ⟨b, o, cap, arr, Ty, G', by rw [setF_v, updV_ne V n u hne, List.length_set]; exact h1, h2, h3, by simpa using h4, h5, fun z hz => ?_, fun i' z j c' hz hq => ?_, fun q q' b' r1 r2 => h8 q q' b' r1.2.2 r2.2.2, fun q b' r1 => h9 q b' r1.2.2, fun b' => by rw [hFid]; simp [f']⟩
      · rcases List.mem_or_eq_of_mem_set hz with hz | rfl
        · exact h6 z hz
        · rfl
      · by_cases hii : i' = i
        · subst hii
          rw [List.getElem?_set_self hil] at hz
          injection hz with hz
          subst hz
          cases j with
          | succ j => simp [cellsA] at hq
          | zero =>
            simp [cellsA] at hq
            subst hq
            refine ⟨u, by simpa using q1, q2, ?_, fun b' hb' => hb'.1 (by omega)⟩
            have := RepT.ref (N := Nf N0 base (setF (updV V n u) c f') (updO (updO ob c (.tre 1 (xs.set i' (.ref n)))) n (.arr k2 ys))) (w := w) (V := setF (updV V n u) c f') n (by rw [setF_v, updV_same]; exact q2)
            rwa [setF_v, updV_same] at this
        · rw [List.getElem?_set_ne (Ne.symm hii)] at hz
          have hi' : i' < xs.length := (List.getElem?_eq_some_iff.1 hz).1
          obtain ⟨u', r1, r2, r3⟩ := h7 _ _ _ _ hz hq
          have hj : j = 0 := by
            have := (List.getElem?_eq_some_iff.1 hq).1
            rw [h6 z (List.mem_of_getElem? hz)] at this
            omega
          subst hj
          refine ⟨u', r1, r2, ?_⟩
          have : G' (i' * 1 + 0) = G (i' * 1 + 0) := by
            funext b'
            exact propext ⟨fun hh => hh.2.2, fun hh => ⟨by omega, by omega, hh⟩⟩
          rw [this]
          exact RepW.mono (V := V) (A := A) hNf hVv (fun _ _ => rfl) r3 (bdL_get ((h.bdo _ _ hob).2 z (List.mem_of_getElem? hz)) hq)
    · exact RepO.mono (V := V) hNf (Nat.le_refl _) hVv (fun b' => by rw [hFo c r2 r1]) (h.bdo c o' r3).1 (fun _ _ _ => rfl) (h.obs c o' r3) (h.bdo c o' r3).2
  · obtain ⟨c1, r1, r2, r3⟩ := hsub c b' hl hb
    obtain ⟨c2, r4, r5, r6⟩ := hsub c' b' hl' hb'
    have hcc := h.inj c1 c2 b' r1 r4 r2 r5
    have hmix : ∀ {x y : Nat}, x = n → y = id → (setF (updV V n u) id f').f x b' → (setF (updV V n u) id f').f y b' → False := fun {x y} e1 e2 f1 f2 => by
      subst e1; subst e2
      rw [hFn] at f1; rw [hFid] at f2
      exact hdis b' f2 f1
    rcases r3 with rfl | ⟨r3 | r3, r7⟩ <;> rcases r6 with rfl | ⟨r6 | r6, r8⟩
    · exact hcc
    · exact (hmix r6 (hcc.trans r8) hb' hb).elim
    · rw [r6, hcc, r8]
    · exact (hmix r3 (hcc.symm.trans r7) hb hb').elim
    · rw [r3, r6]
    · exact (hmix r3 r6 hb hb').elim
    · rw [r3, ← hcc, r7]
    · exact (hmix r6 r3 hb' hb).elim
    · rw [r3, r6]
  · obtain ⟨c1, r1, r2, _⟩ := hsub c b' hl hb
    exact h.low c1 b' r1 r2
  · rcases hcase c o' hc with ⟨rfl, rfl⟩ | ⟨rfl, rfl⟩ | ⟨r1, r2, r3⟩
    · exact ⟨.inr rfl, trivial⟩
    · refine ⟨.inl hidA, fun z hz => ?_⟩
      rcases List.mem_or_eq_of_mem_set hz with hz | rfl
      · exact bdL_mono (fun _ => .inl) _ ((h.bdo _ _ hob).2 z hz)
      · simp [cellsA, bdL, bd]; exact .inr rfl
    · exact ⟨.inl (h.bdo c o' r3).1, bdO_mono (fun _ => .inl) o' (h.bdo c o' r3).2⟩
  · have := RepT.ref (N := Nf N0 base (setF (updV V n u) id f') (updO (updO ob id (.tre 1 (xs.set i (.ref n)))) n (.arr k2 ys))) (w := w) (V := setF (updV V n u) id f') n (by rw [setF_v, updV_same]; exact q2)
    rwa [setF_v, updV_same] at this

/-- An own slice goes back to the cell that holds it. -/
theorem Rel.treBack (h : Rel N0 base w0 m V g ob A a w) {id p i k2 : Nat} {xs ys : List AV} (hob : ob id = some (.tre 1 xs)) (hp : ob p = some (.arr k2 ys)) (he : xs[i]? = some (.ref p)) :
    ∃ V', Rel N0 base w0 m V' g (updK ob [p] id (.tre 1 (xs.set i (.own k2 ys)))) A a w := by
  have hlid : live ob id := ⟨_, hob, rfl⟩
  have hlp : live ob p := ⟨_, hp, rfl⟩
  have hne : id ≠ p := fun e => by subst e; rw [hob] at hp; cases hp
  obtain ⟨hp0, hpa⟩ := h.obs p _ hp
  rcases h.obs id _ hob with ⟨a', _, rfl, _⟩ | ⟨b, o, cap, arr, Ty, G, h1, h2, h3, h4, h5, h6, h7, h8, h9, h10⟩
  · simp at he
  have hil : i < xs.length := (List.getElem?_eq_some_iff.1 he).1
  obtain ⟨u, q1, q2, q3, q4⟩ := h7 i _ 0 (.ref p) he rfl
  simp only [Nat.mul_one, Nat.add_zero] at q1 q4
  have hu : u = V p := by cases q3 with
    | im h => cases h
    | ref _ _ => rfl
  let G' : Nat → Nat → Prop := fun q b' => if q = i then V.f p b' else q < xs.length ∧ G q b'
  let f' : Nat → Prop := fun b' => b' = b ∨ ∃ q, q < xs.length ∧ G' q b'
  have hGlt : ∀ q b', q < xs.length → G q b' → V.f id b' := fun q b' hq hb => (h10 b').2 (.inr ⟨q, by omega, hb⟩)
  have hpd : ∀ b', V.f p b' → ¬ V.f id b' := fun b' r1 r2 => hne (h.inj id p b' hlid hlp r2 r1)
  refine ⟨setF V id f', h.turnL (f := f') hob rfl (by simpa using hne) (fun c hc => by simp at hc; subst hc; exact hlp) (fun b' hb' => ?_) (Nat.le_refl _) (fun _ _ _ => rfl) rfl rfl rfl (fun hN => ?_) (fun z hz => ?_)⟩
  · rcases hb' with rfl | ⟨q, hq, hb'⟩
    · exact .inl ((h10 _).2 (.inl rfl))
    · simp only [G'] at hb'
      split at hb'
      · exact .inr ⟨p, by simp, hb'⟩
      · exact .inl (hGlt q b' hb'.1 hb'.2)
  · refine .inr ⟨b, o, cap, arr, Ty, G', by rw [setF_v, List.length_set]; exact h1, h2, h3, by simpa using h4, h5, fun z hz => ?_, fun i' z j c' hz hq => ?_, fun q q' b' r1 r2 => ?_, fun q b' r1 => ?_, fun b' => by rw [setF_f]; simp [f']⟩
    · rcases List.mem_or_eq_of_mem_set hz with hz | rfl
      · exact h6 z hz
      · rfl
    · by_cases hii : i' = i
      · subst hii
        rw [List.getElem?_set_self hil] at hz
        injection hz with hz
        subst hz
        cases j with
        | succ j => simp [cellsA] at hq
        | zero =>
          simp [cellsA] at hq
          subst hq
          refine ⟨u, by simpa using q1, q2, ?_, fun b' => ?_⟩
          · rw [hu]; exact hpa.mono hN fun _ _ => rfl
          · simp [G', hu, hp0]
      · rw [List.getElem?_set_ne (Ne.symm hii)] at hz
        have hi' : i' < xs.length := (List.getElem?_eq_some_iff.1 hz).1
        obtain ⟨u', r1, r2, r3⟩ := h7 _ _ _ _ hz hq
        have hj : j = 0 := by
          have := (List.getElem?_eq_some_iff.1 hq).1
          rw [h6 z (List.mem_of_getElem? hz)] at this
          omega
        subst hj
        refine ⟨u', r1, r2, ?_⟩
        have : G' (i' * 1 + 0) = G (i' * 1 + 0) := by
          funext b'
          simp only [G', Nat.mul_one, Nat.add_zero, if_neg hii]
          exact propext ⟨fun hh => hh.2, fun hh => ⟨hi', hh⟩⟩
        rw [this]
        exact RepW.mono (V := V) (A := A) hN (fun _ _ => rfl) (fun _ _ => rfl) r3 (bdL_get ((h.bdo _ _ hob).2 z (List.mem_of_getElem? hz)) hq)
    · simp only [G'] at r1 r2
      split at r1 <;> split at r2
      · omega
      · exact (hpd b' r1 (hGlt _ _ r2.1 r2.2)).elim
      · exact (hpd b' r2 (hGlt _ _ r1.1 r1.2)).elim
      · exact h8 _ _ _ r1.2 r2.2
    · simp only [G'] at r1
      split at r1
      · exact ⟨fun e => hpd b' r1 (e ▸ (h10 b).2 (.inl rfl)), (h.low p b' hlp r1).2⟩
      · exact h9 _ _ r1.2
  · rcases List.mem_or_eq_of_mem_set hz with hz | rfl
    · exact (h.bdo _ _ hob).2 z hz
    · simp [cellsA, bdL, bd]

end Go.Sk

-- SkRb
/- Stores to and loads from own slices of slices; calls that are given own objects. -/
namespace Go.Sk
open Go.RowKit

section
variable {P : Program} {T : TypeId → Option TI} {N0 : Nat → Prop} {base : Nat} {w0 : W0} {σ : St} {a : Act} {w : World}

def tput (σ : St) (ti : TI) (id k k' i j : Nat) (xs : List AV) (x : AV) (K : St → Prop) : Prop :=
  if okA x = true ∧ (cellsA x).length = ti.size ∧ k' = k ∧ 0 < ti.size ∧ j + ti.size ≤ k then ∃ e, xs[i]? = some e ∧ CalcL (xs.set i (newElem e j (cellsA x) x)) fun zs => K (σ.setObj id (.tre k zs)) else False

def tstore (T : TypeId → Option TI) (σ : St) (t : TypeId) (id k i j k' : Nat) (xs : List AV) (x : AV) (K : St → Prop) : Prop :=
  match T t with
  | none => False
  | some ti => match x with
    | .ref p => match σ.obj p with
      | some (.arr k2 ys) => if p ≠ id ∧ k' = k ∧ ti.size = 1 ∧ j + 1 ≤ k then ∃ e, xs[i]? = some e ∧ CalcL (xs.set i (newElem e j [.own k2 ys] (.own k2 ys))) fun zs => K ((σ.setObj p .dead).setObj id (.tre k zs)) else False
      | _ => tput σ ti id k k' i j xs x K
    | x => tput σ ti id k k' i j xs x K

theorem repW_of {N : Nat → Prop} {V : VV} {c : AV} {u : Value} (h : RepT N w V c u) : RepW N w V (fun _ => False) c u := by
  cases c with
  | own k ys => cases h with
    | im h => cases h
  | _ => exact ⟨h, fun _ h => h⟩

theorem setObj_updK1 (σ : St) (p id : Nat) (o : AO) : ((σ.setObj p .dead).setObj id o).obj = updK σ.obj [p] id o := by
  rw [St.obj_setObj, St.obj_setObj]
  funext i
  simp [updK, updO]
theorem setObj_updK0 (σ : St) (id : Nat) (o : AO) : (σ.setObj id o).obj = updK σ.obj [] id o := by
  rw [St.obj_setObj]
  funext i
  simp [updK, updO]

theorem tstore_step (hT : TOK P T) {o : Oper} {t : TypeId} {p x : Operand} {id k i j k' : Nat} {xs : List AV} {xv : AV} {K : St → Prop} (ho : o.op = .store t p x) (hdst : o.dst = none) (hp : σ.eval p = some (.pea id k i j)) (hx : σ.eval x = some xv) (hob : σ.obj id = some (.tre k' xs))
    (h : tstore T σ t id k i j k' xs xv K) (hr : RS N0 base w0 σ a w)
    {next : Act → World → Prop} {Q : Exit → Act → World → Prop} (hK : ∀ σ' a' w', K σ' → RS N0 base w0 σ' a' w' → next a' w') : o.wp P a w next Q := by
  obtain ⟨hpar, V, hV⟩ := hr
  obtain ⟨hrp, hbp⟩ := eval_rep hV hp
  obtain ⟨hrx, hbx⟩ := eval_rep hV hx
  unfold tstore at h
  split at h
  · exact h.elim
  · rename_i ti hti
    have fin : ∀ {w' : World} {σ' : St}, (Instr.storeAt t (a.eval p) (a.eval x)).run P w = .ok () w' → K σ' → RS N0 base w0 σ' a w' → o.wp P a w next Q := fun {w' σ'} h1 h2 h3 => by
      unfold Oper.wp
      simp only [execOp, ho, Sem.run_bind, h1, Result.andThen_ok, Sem.run_pure, Oper.upon, hdst, Act.put]
      exact hK _ _ _ h2 h3
    -- the row
    have row : ∀ {e : AV}, xs[i]? = some e → k' = k → ∀ {ds : List AV} {y : AV} {ks : List Nat} {gg : Nat → Nat → Prop} {σ' : St}, cellsA y = ds → 0 < ds.length → ds.length = ti.size → j + ds.length ≤ k → (a.eval x).cells.size = ds.length → (∀ i, i ∈ ks → live σ.obj i) → id ∉ ks →
        (∀ p b', gg p b' → ∃ i, i ∈ ks ∧ V.f i b') → (∀ p p' b', gg p b' → gg p' b' → p = p') → (∀ (p : Nat) (c : AV), ds[p]? = some c → ∃ u, (a.eval x).cells[p]? = some u ∧ u.oneCell' = true ∧ RepW (Nf N0 base V σ.obj) w V (gg p) c u) → bdL (fun i => i < σ.next) ds →
        σ'.obj = updK σ.obj ks id (.tre k (xs.set i (newElem e j ds y))) → σ'.get = σ.get → σ'.next = σ.next → σ'.size = σ.size → σ'.par = σ.par → K σ' → o.wp P a w next Q := by
      intro e he hkk ds y ks gg σ' hy hL hsz hfit hvs hks hidk hgg hgd hds hbd e1 e2 e3 e4 e5 hKσ
      subst hkk
      rcases hV.obs id _ hob with ⟨a', _, rfl, _⟩ | ⟨b, o', cap, arr, Ty, G, h1, h2, h3, h4, h5, h6, h7, h8, h9, h10⟩
      · simp at he
      generalize hv : a.eval p = pvv at hrp
      cases hrp with
      | im h => cases h
      | pea _ _ _ _ b' o'' n c h' =>
        rw [h1] at h'
        simp only [Value.slice.injEq, Option.some.injEq, Addr.mk.injEq] at h'
        obtain ⟨⟨rfl, rfl, _⟩, _, _⟩ := h'
        have hil : i < xs.length := (List.getElem?_eq_some_iff.1 he).1
        have hbnd : (i + 1) * k' ≤ cap * k' := Nat.mul_le_mul_right _ (by omega)
        rw [Nat.add_mul, Nat.one_mul] at hbnd
        obtain ⟨V', hV'⟩ := hV.trePut hob h1 h2 h3 h4 h5 h6 h7 h8 h9 h10 he hy hL hfit hvs hks hidk hgg hgd hds hbd
        have hone : ∀ u, u ∈ (a.eval x).cells.toList → u.oneCell' = true := fun u hu => by
          obtain ⟨q, q1, q2⟩ := List.mem_iff_getElem.1 hu
          have q3 : q < ds.length := by rw [← hvs]; simpa using q1
          obtain ⟨u', r1, r2, _⟩ := hds q _ (List.getElem?_eq_getElem q3)
          rw [Array.getElem_toList] at q2
          rw [Array.getElem?_eq_getElem (by simpa using q1), q2] at r1
          injection r1 with r1; exact r1 ▸ r2
        refine fin (by rw [hv]; exact run_storeAt hT hti h2 (by rw [hvs, hsz]) (by omega) hone) hKσ ⟨by rw [e5]; exact hpar, V', ?_⟩
        rw [e1, e2, e3, e4]; exact hV'
    have plain : tput σ ti id k k' i j xs xv K → o.wp P a w next Q := fun h => by
      unfold tput at h
      by_cases hc : okA xv = true ∧ (cellsA xv).length = ti.size ∧ k' = k ∧ 0 < ti.size ∧ j + ti.size ≤ k
      · rw [if_pos hc] at h
        obtain ⟨hok, hl, hkk, hpos, hfit⟩ := hc
        obtain ⟨e, he, hKe⟩ := h
        replace hKe := hKe.elim
        obtain ⟨c1, c2⟩ := cells_rep hok hrx
        exact row he hkk (ks := []) (gg := fun _ _ => False) rfl (by omega) hl (by omega) c1 (by simp) (by simp) (fun _ _ h => h.elim) (fun _ _ _ h => h.elim)
          (fun p c hc => let ⟨u, q1, q2, q3⟩ := c2 p c hc; ⟨u, q1, q3, repW_of q2⟩) (bd_cells hbx) (setObj_updK0 _ _ _) rfl rfl rfl rfl hKe
      · rw [if_neg hc] at h; exact h.elim
    split at h
    · rename_i p'
      split at h
      · rename_i k2 ys hob2
        by_cases hc : p' ≠ id ∧ k' = k ∧ ti.size = 1 ∧ j + 1 ≤ k
        · rw [if_pos hc] at h
          obtain ⟨hne, hkk, hs1, hfit⟩ := hc
          obtain ⟨e, he, hKe⟩ := h
          replace hKe := hKe.elim
          obtain ⟨hF, hA⟩ := hV.obs p' _ hob2
          obtain ⟨hxv, hxo⟩ : a.eval x = V p' ∧ (V p').oneCell' = true := by
            generalize a.eval x = v at hrx
            cases hrx with
            | im h => cases h
            | ref _ h => exact ⟨rfl, h⟩
          have hcs : (a.eval x).cells = #[V p'] := by rw [hxv]; exact cells_one hxo
          refine row he hkk (ds := [.own k2 ys]) (y := .own k2 ys) (ks := [p']) (gg := fun p b' => p = 0 ∧ V.f p' b') rfl (by simp) (by simp [hs1]) (by simpa using hfit) (by rw [hcs]; rfl) (fun c hc => by simp at hc; subst hc; exact ⟨_, hob2, rfl⟩) (by simpa using Ne.symm hne)
            (fun p b' h => ⟨p', by simp, h.2⟩) (fun q q' b' h h' => by rw [h.1, h'.1]) (fun p c hc => ?_) (by simp [bdL, bd]) (setObj_updK1 _ _ _ _) rfl rfl rfl rfl hKe
          cases p with
          | zero =>
            simp at hc; subst hc
            exact ⟨V p', by rw [hcs]; rfl, hxo, hA, fun b' => by simp [hF]⟩
          | succ p => simp at hc
        · rw [if_neg hc] at h; exact h.elim
      · exact plain h
    · exact plain h

/-- A load of an element's row. -/
def tload (P : Program) (T : TypeId → Option TI) (σ : St) (o : Oper) (t : TypeId) (id i : Nat) (xs : List AV) (K : St → Prop) : Prop :=
  match T t with
  | none => False
  | some ti => match ti.agg with
    | true => False
    | false => ∃ e, xs[i]? = some e ∧ (match e with
      | .own k2 ys => K ((σ.setObj id (.tre 1 (xs.set i (.ref σ.next)))).after o.dst (.ref σ.next) (some (.arr k2 ys)))
      | _ => pstep P T true σ.eval σ.obj σ.next o fun x no => K (σ.after o.dst x no))

theorem tload_step (hT : TOK P T) {o : Oper} {t : TypeId} {p : Operand} {id i : Nat} {xs : List AV} {K : St → Prop} (hd : dstOk σ o = true) (ho : o.op = .load t p) (hp : σ.eval p = some (.pea id 1 i 0)) (hob : σ.obj id = some (.tre 1 xs))
    (h : tload P T σ o t id i xs K) (hr : RS N0 base w0 σ a w)
    {next : Act → World → Prop} {Q : Exit → Act → World → Prop} (hK : ∀ σ' a' w', K σ' → RS N0 base w0 σ' a' w' → next a' w') : o.wp P a w next Q := by
  unfold tload at h
  split at h
  · exact h.elim
  · rename_i ti hti
    split at h
    · exact h.elim
    · rename_i hag
      obtain ⟨e, he, h⟩ := h
      split at h
      · rename_i k2 ys
        obtain ⟨hpar, V, hV⟩ := hr
        obtain ⟨hrp, hbp⟩ := eval_rep hV hp
        obtain ⟨b, o', cap, u, h1, h2, h3, V', hV'⟩ := hV.treOut (dst := o.dst) (n := σ.next) (dstOk_spec hd) hob he (by simp)
        have hpr : PtrR (fun _ => True) w V [.v u] (a.eval p) := by
          generalize a.eval p = pvv at hrp
          cases hrp with
          | im h => cases h
          | pea _ _ _ _ b' o'' n c h' =>
            rw [h1] at h'
            simp only [Value.slice.injEq, Option.some.injEq, Addr.mk.injEq] at h'
            obtain ⟨⟨rfl, rfl, _⟩, _, _⟩ := h'
            refine ⟨b, _, rfl, fun j c hc => ?_⟩
            cases j with
            | zero => simp at hc; subst hc; exact ⟨u, by simpa using h2, .im (.v u h3), h3⟩
            | succ j => simp at hc
        obtain ⟨u', h4, h5⟩ := hpr.load hT hti (x := .v u) (by unfold partA; rw [hag]; rfl)
        have hu := eval_v h5
        subst hu
        unfold Oper.wp
        simp only [execOp, ho, Sem.run_bind, h4, Result.andThen_ok, Sem.run_pure]
        refine hK _ _ _ h ⟨hpar, V', ?_⟩
        rw [St.get_after, St.obj_after, St.next_after, St.obj_setObj]
        exact hV'
      · exact pure_step hT hd h hr hK

/-! ### calls -/

mutual
theorem ren_bd_inv {f : Nat → Nat} {A A' : Nat → Prop} (h : ∀ i, A' (f i) → A i) : ∀ (x : AV), bd A' (ren f x) → bd A x
  | .ref id, hb => by unfold ren bd at hb; unfold bd; exact h _ hb
  | .ptr id _, hb => by unfold ren bd at hb; unfold bd; exact h _ hb
  | .pea id _ _ _, hb => by unfold ren bd at hb; unfold bd; exact h _ hb
  | .ag cs, hb => by unfold ren bd at hb; unfold bd; exact renL_bd_inv h cs hb
  | .tup cs, hb => by unfold ren bd at hb; unfold bd; exact renL_bd_inv h cs hb
  | .fn _ fs cs, hb => by unfold ren bd at hb; unfold bd; exact ⟨renL_bd_inv h fs hb.1, renL_bd_inv h cs hb.2⟩
  | .v _, _ | .sl _, _ | .pel _, _ | .nils, _ | .skip, _ | .undef, _ | .own _ _, _ => by unfold bd; trivial
theorem renL_bd_inv {f : Nat → Nat} {A A' : Nat → Prop} (h : ∀ i, A' (f i) → A i) : ∀ (xs : List AV), bdL A' (renL f xs) → bdL A xs
  | [], _ => by unfold bdL; trivial
  | x :: r, hb => by unfold renL bdL at hb; unfold bdL; exact ⟨ren_bd_inv h x hb.1, renL_bd_inv h r hb.2⟩
end

theorem renO_bd_inv {f : Nat → Nat} {A A' : Nat → Prop} (h : ∀ i, A' (f i) → A i) : ∀ (o : AO), bdO A' (renO f o) → bdO A o
  | .box cs, hb => renL_bd_inv h cs hb
  | .tre k xs, hb => fun e he => by
    have := hb (ren f e) (by rw [renL_eq]; exact List.mem_map_of_mem he)
    rw [cellsA_ren] at this
    exact renL_bd_inv h _ this
  | .arr _ _, _ | .pub _, _ | .dead, _ | .gh _, _ => trivial

def pubA1 (ob : Nat → Option AO) : AV → AV
  | .ref i => match ob i with
    | some (.pub xs) => .sl xs
    | _ => .ref i
  | .nils => .sl []
  | x => x
def pubA (ob : Nat → Option AO) : AV → AV
  | .ag cs => .ag (cs.map (pubA1 ob))
  | x => pubA1 ob x

theorem pubA1_rep {N : Nat → Prop} {V : VV} {ob : Nat → Option AO} {x : AV} {v : Value} (ho : ∀ i u, ob i = some u → RepO N w V i u) (h : RepT N w V x v) : RepT N w V (pubA1 ob x) v := by
  unfold pubA1
  split
  · rename_i i
    split
    · rename_i xs hob
      cases h with
      | im h => cases h
      | ref _ _ => exact .im (ho i _ hob)
    · exact h
  · cases h with
    | im h => cases h
    | nils b => exact .im (.nil b 0)
  · exact h

theorem pubA1_bd {A : Nat → Prop} {ob : Nat → Option AO} {x : AV} (h : bd A x) : bd A (pubA1 ob x) := by
  unfold pubA1
  split
  · split
    · simp [bd]
    · exact h
  · simp [bd]
  · exact h

theorem pubA_rep {N : Nat → Prop} {V : VV} {ob : Nat → Option AO} {x : AV} {v : Value} (ho : ∀ i u, ob i = some u → RepO N w V i u) (h : RepT N w V x v) : RepT N w V (pubA ob x) v := by
  unfold pubA
  split
  · cases h with
    | im h => cases h
    | ag cs vs hs hr hoc => exact .ag _ vs (by simpa using hs) (fun j h1 h2 => by simpa using pubA1_rep ho (hr j (by simpa using h1) h2)) hoc
  · exact pubA1_rep ho h

theorem pubA_bd {A : Nat → Prop} {ob : Nat → Option AO} {x : AV} (h : bd A x) : bd A (pubA ob x) := by
  unfold pubA
  split
  · unfold bd at h ⊢
    refine bdL_iff.2 fun y hy => ?_
    obtain ⟨z, hz, rfl⟩ := List.mem_map.1 hy
    exact pubA1_bd (bdL_iff.1 h z hz)
  · exact pubA1_bd h

/-- No number twice, all below n. -/
def numsOK (n : Nat) : List Nat → Bool
  | [] => true
  | i :: r => i.blt n && !(r.contains i) && numsOK n r

theorem numsOK_spec {n : Nat} : ∀ {is : List Nat}, numsOK n is = true → is.Nodup ∧ ∀ i, i ∈ is → i < n
  | [], _ => ⟨List.nodup_nil, fun i h => by cases h⟩
  | i :: r, h => by
    simp only [numsOK, Bool.and_eq_true, Bool.not_eq_true'] at h
    obtain ⟨⟨h1, h2⟩, h3⟩ := h
    obtain ⟨h4, h5⟩ := numsOK_spec h3
    refine ⟨List.nodup_cons.2 ⟨fun hm => ?_, h4⟩, fun j hj => ?_⟩
    · have := List.contains_iff_mem.2 hm
      rw [h2] at this; cases this
    · rcases List.mem_cons.1 hj with rfl | hj
      · exact by simpa [Nat.blt_eq] using h1
      · exact h5 j hj

/-- A call that is given own objects is: their numbers in order; the objects and the values as the callee numbers them; what it answers; what the objects are then. -/
def gcall (P : Program) (σ : St) (o : Oper) (fid : FuncId) (ys : List AV) (K : St → Prop) : Prop :=
  ∃ (is : List Nat) (os : List AO) (as : List AV) (x : AV) (os' : List AO), (is.map σ.obj = os.map (fun o => some (renO (rn is σ.next) o)) ∧ as.map (ren (rn is σ.next)) = ys.map (pubA σ.obj) ∧ numsOK σ.next is = true) ∧
    Fun P fid os as x os' ∧
    K { tmps := match o.dst with | some d => (d, ren (rn is σ.next) x) :: σ.tmps | none => σ.tmps
        objs := prs (rn is σ.next) 0 os' ++ σ.objs
        next := σ.next + (os'.length - os.length), size := σ.size, par := σ.par }

theorem look_append {α : Type} : ∀ (l r : List (Nat × α)) (t : Nat), look (l ++ r) t = match look l t with | some x => some x | none => look r t
  | [], r, t => rfl
  | (u, x) :: l, r, t => by
    simp only [List.cons_append, look]
    split
    · rfl
    · exact look_append l r t

/-- The state behind a call. -/
def afterCall (σ : St) (o : Oper) (is : List Nat) (os os' : List AO) (x : AV) : St :=
  { tmps := match o.dst with | some d => (d, ren (rn is σ.next) x) :: σ.tmps | none => σ.tmps
    objs := prs (rn is σ.next) 0 os' ++ σ.objs
    next := σ.next + (os'.length - os.length), size := σ.size, par := σ.par }

section
variable {is : List Nat} {os : List AO} {V : VV}
theorem rn_in (n : Nat) {j : Nat} (hj : j < is.length) : rn is n j = is[j] := by unfold rn; rw [List.getElem?_eq_getElem hj]
theorem rn_out (n : Nat) {j : Nat} (hj : is.length ≤ j) : rn is n j = n + (j - is.length) := by unfold rn; rw [List.getElem?_eq_none hj]
theorem rn_inj {n : Nat} (e3 : numsOK n is = true) (p q : Nat) (e : rn is n p = rn is n q) : p = q := by
  obtain ⟨hnd, hlt⟩ := numsOK_spec e3
  rcases Nat.lt_or_ge p is.length with h | h <;> rcases Nat.lt_or_ge q is.length with h' | h'
  · rw [rn_in n h, rn_in n h'] at e
    exact (List.getElem_inj hnd).1 e
  · rw [rn_in n h, rn_out n h'] at e
    have := hlt _ (List.getElem_mem h); omega
  · rw [rn_in n h', rn_out n h] at e
    have := hlt _ (List.getElem_mem h'); omega
  · rw [rn_out n h, rn_out n h'] at e; omega
theorem rn_obj {ob : Nat → Option AO} {n : Nat} (e1 : is.map ob = os.map fun o => some (renO (rn is n) o)) (j : Nat) (o : AO) (hj : os[j]? = some o) : ob (rn is n j) = some (renO (rn is n) o) := by
  have hlen : is.length = os.length := by have := congrArg List.length e1; simpa using this
  have hj' := (List.getElem?_eq_some_iff.1 hj).1
  have := congrArg (·[j]?) e1
  simp only [List.getElem?_map, hj, Option.map_some, List.getElem?_eq_getElem (show j < is.length by omega)] at this
  rw [rn_in n (by omega)]
  injection this

/-- What a callee is given. -/
theorem call_give (hV : Rel N0 base w0 σ.size V σ.get σ.obj (fun i => i < σ.next) a w) {as ys : List AV} {vs : Array Value} (e1 : is.map σ.obj = os.map fun o => some (renO (rn is σ.next) o)) (e2 : as.map (ren (rn is σ.next)) = ys.map (pubA σ.obj))
    (e3 : numsOK σ.next is = true) (h1 : vs.size = ys.length) (h3 : ∀ (j : Nat) (h1 : j < ys.length) (h2 : j < vs.size), RepT (Nf N0 base V σ.obj) w V ys[j] vs[j] ∧ bd (fun i => i < σ.next) ys[j]) :
    vs.size = as.length ∧ Own (Nf N0 base V σ.obj) (V.at (rn is σ.next)) (obL os) (ltA os.length) w ∧ (∀ (j : Nat) (h1 : j < as.length) (h2 : j < vs.size), RepT (Nf N0 base V σ.obj) w (V.at (rn is σ.next)) as[j] vs[j]) ∧ bdL (ltA os.length) as := by
  have hlen : is.length = os.length := by have := congrArg List.length e1; simpa using this
  have hal : as.length = ys.length := by have := congrArg List.length e2; simpa using this
  have hinv : ∀ i, rn is σ.next i < σ.next → ltA os.length i := fun i hi => by
    unfold ltA
    rcases Nat.lt_or_ge i is.length with h | h
    · omega
    · rw [rn_out _ h] at hi; omega
  have hbdo : ∀ (j : Nat) (o : AO), os[j]? = some o → bdO (ltA os.length) o := fun j o hj => renO_bd_inv hinv o (hV.bdo _ _ (rn_obj e1 j o hj)).2
  have hget : ∀ (j : Nat) (h1 : j < as.length) (h2 : j < ys.length), ren (rn is σ.next) as[j] = pubA σ.obj ys[j] := fun j q1 q2 => by
    have := congrArg (·[j]?) e2
    simp only [List.getElem?_map, List.getElem?_eq_getElem q1, List.getElem?_eq_getElem q2, Option.map_some] at this
    injection this
  refine ⟨by omega, hV.give (fun a b _ _ => rn_inj e3 a b) (rn_obj e1) hbdo, fun j q1 q2 => ren_inv (V := V.at (rn is σ.next)) (V' := V) (f := rn is σ.next) (fun _ => rfl) (pubA_rep (fun i u hu => hV.obs i u hu) (h3 j (by omega) q2).1) (hget j q1 (by omega)).symm,
    bdL_iff.2 fun z hz => ?_⟩
  obtain ⟨j, hj, rfl⟩ := List.mem_iff_getElem.1 hz
  refine ren_bd_inv (f := rn is σ.next) (A' := fun i => i < σ.next) hinv _ ?_
  rw [hget j hj (by omega)]
  exact pubA_bd (h3 j (by omega) (by omega)).2

/-- What the caller has then. -/
theorem call_take {o : Oper} (hd : dstOk σ o = true) (hpar : w0.m = σ.par) (hV : Rel N0 base w0 σ.size V σ.get σ.obj (fun i => i < σ.next) a w) (e1 : is.map σ.obj = os.map fun o => some (renO (rn is σ.next) o)) (e3 : numsOK σ.next is = true)
    {w' : World} {v : Value} {x : AV} {os' : List AO} (hle : os.length ≤ os'.length) (hfr : Frm w.heap.size { w := w, f := foot (V.at (rn is σ.next)) (obL os) } w')
    (hout : Outc (Nf N0 base V σ.obj) w (V.at (rn is σ.next)) os w' x os' v) : RS N0 base w0 (afterCall σ o is os os' x) (a.put o.dst v) w' := by
  have hlen : is.length = os.length := by have := congrArg List.length e1; simpa using this
  obtain ⟨V', hV'⟩ := hV.called (f := rn is σ.next) (dst := o.dst) (A2 := fun i => i < σ.next + (os'.length - os.length)) (dstOk_spec hd) (fun i hi => by omega) hle (fun a b _ _ => rn_inj e3 a b) (rn_obj e1)
    (fun j q1 q2 => by rw [rn_out _ (by omega)]; exact ⟨by omega, by omega⟩) hfr hout
  refine ⟨hpar, V', ?_⟩
  have e4 : (afterCall σ o is os os' x).get = upd σ.get o.dst (ren (rn is σ.next) x) := by
    funext t
    unfold afterCall
    cases o.dst with
    | none => rfl
    | some d => simp [St.get, look, upd]
  have e5 : (afterCall σ o is os os' x).obj = addL σ.obj (prs (rn is σ.next) 0 os') := by
    funext c
    simp only [St.obj, afterCall, look_append, addL]
    cases look (prs (rn is σ.next) 0 os') c <;> rfl
  rw [e4, e5]
  exact hV'
end

/-- A contract that leaves open which of several outcomes there is. -/
structure FunX (P : Program) (f : FuncId) (os : List AO) (args : List AV) (Ψ : AV → List AO → Prop) : Prop where
  en : Enters P f
  run : ∀ (N : Nat → Prop) (w : World) (V : VV) (vs : Array Value), vs.size = args.length → Own N V (obL os) (ltA os.length) w →
    (∀ (j : Nat) (h1 : j < args.length) (h2 : j < vs.size), RepT N w V args[j] vs[j]) → bdL (ltA os.length) args →
    Calls P f vs w fun e w' => ∃ v x os', Ψ x os' ∧ os.length ≤ os'.length ∧ e = .returned v ∧ Frm w.heap.size { w := w, f := foot V (obL os) } w' ∧ Outc N w V os w' x os' v
def gcallX (P : Program) (σ : St) (o : Oper) (fid : FuncId) (ys : List AV) (K : St → Prop) : Prop :=
  ∃ (is : List Nat) (os : List AO) (as : List AV) (Ψ : AV → List AO → Prop), (is.map σ.obj = os.map (fun o => some (renO (rn is σ.next) o)) ∧ as.map (ren (rn is σ.next)) = ys.map (pubA σ.obj) ∧ numsOK σ.next is = true) ∧
    FunX P fid os as Ψ ∧ ∀ x os', Ψ x os' →
    K { tmps := match o.dst with | some d => (d, ren (rn is σ.next) x) :: σ.tmps | none => σ.tmps
        objs := prs (rn is σ.next) 0 os' ++ σ.objs
        next := σ.next + (os'.length - os.length), size := σ.size, par := σ.par }
theorem Fun.x {P : Program} {f : FuncId} {os os' : List AO} {args : List AV} {x : AV} (h : Fun P f os args x os') : FunX P f os args fun y ys => y = x ∧ ys = os' :=
  ⟨h.en, fun N w V vs h1 h2 h3 h4 => (h.run N w V vs h1 h2 h3 h4).mono fun e w' ⟨v, q1, q2, q3⟩ => ⟨v, x, os', ⟨rfl, rfl⟩, h.le, q1, q2, q3⟩⟩

theorem gcallX_step {o : Oper} {fid : FuncId} {ys : List AV} {K : St → Prop} (hd : dstOk σ o = true) (h : gcallX P σ o fid ys K) (hr : RS N0 base w0 σ a w)
    (hex : ∀ V, Rel N0 base w0 σ.size V σ.get σ.obj (fun i => i < σ.next) a w → ∃ vs : Array Value, vs.size = ys.length ∧ (execOp a.eval o).run P w = (callFunc fid vs).run P w ∧ ∀ (j : Nat) (h1 : j < ys.length) (h2 : j < vs.size), RepT (Nf N0 base V σ.obj) w V ys[j] vs[j] ∧ bd (fun i => i < σ.next) ys[j])
    {next : Act → World → Prop} {Q : Exit → Act → World → Prop} (hK : ∀ σ' a' w', K σ' → RS N0 base w0 σ' a' w' → next a' w') : o.wp P a w next Q := by
  obtain ⟨is, os, as, Ψ, ⟨e1, e2, e3⟩, ⟨hen, hf⟩, hKK⟩ := h
  obtain ⟨hpar, V, hV⟩ := hr
  obtain ⟨vs, h1, h2, h3⟩ := hex V hV
  obtain ⟨g1, g2, g3, g4⟩ := call_give hV e1 e2 e3 h1 h3
  unfold Oper.wp
  rw [h2, run_callFunc hen]
  simp only [Oper.upon]
  refine (hf _ w _ vs g1 g2 g3 g4).mono ?_
  rintro e w' ⟨v, x, os', hΨ, hle, rfl, hfr, hout⟩
  exact hK _ _ _ (hKK x os' hΨ) (call_take hd hpar hV e1 e3 hle hfr hout)
theorem gcall_step {o : Oper} {fid : FuncId} {ys : List AV} {K : St → Prop} (hd : dstOk σ o = true) (h : gcall P σ o fid ys K) (hr : RS N0 base w0 σ a w)
    (hex : ∀ V, Rel N0 base w0 σ.size V σ.get σ.obj (fun i => i < σ.next) a w → ∃ vs : Array Value, vs.size = ys.length ∧ (execOp a.eval o).run P w = (callFunc fid vs).run P w ∧ ∀ (j : Nat) (h1 : j < ys.length) (h2 : j < vs.size), RepT (Nf N0 base V σ.obj) w V ys[j] vs[j] ∧ bd (fun i => i < σ.next) ys[j])
    {next : Act → World → Prop} {Q : Exit → Act → World → Prop} (hK : ∀ σ' a' w', K σ' → RS N0 base w0 σ' a' w' → next a' w') : o.wp P a w next Q := by
  obtain ⟨is, os, as, x, os', e, hf, hKK⟩ := h
  exact gcallX_step hd ⟨is, os, as, _, e, hf.x, fun y ys h => by rw [h.1, h.2]; exact hKK⟩ hr hex hK

end
end Go.Sk
