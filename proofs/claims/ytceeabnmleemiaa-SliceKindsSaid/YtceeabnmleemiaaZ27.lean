/- Contracts of functions of the program, proved by the checker; and plain laws. -/
import Derived.Test.YtceeabnmleemiaaZ26
set_option linter.unusedVariables false
set_option linter.unusedSimpArgs false
namespace Go.Proofs.Ytceeabnmleemiaa
open Go Go.Sk
set_option maxHeartbeats 8000000 in
set_option maxRecDepth 10000 in
theorem sanity_p : Pure Try.prog 7 [] (Bo true) none := by
  refine fun_of tok D_ok Try.func7 rfl Try.ntmps7 Try.results7 (by kernel_rfl) (by simp) (by simp) ?_
  conv => whnf
  repeat' (first
    | (refine lvD (k := ?_); apply Cj.mk <;> first | exact trivial | intros)
    | (refine ShowsJ.mk (by kernel_rfl) (by kernel_rfl) (by kernel_rfl) (lvL (k := ?_)) (lvL (k := ?_)) rfl <;> (first | (apply Cj.mk <;> first | exact trivial | intros) | skip))
    | (refine lvE (k := ?_); apply Cj.mk <;> first | exact trivial | intros)
    | fail)
  refine drawS (P := Try.prog) (T := tab) { tmps := [(2, AV.ptr 9 0), (22, AV.ag [AV.ref 7, AV.ref 8]), (21, AV.ref 8), (20, AV.ref 7), (1, AV.ptr 6 0), (19, AV.ag [I 3, AV.ref 1, AV.ref 2, AV.ref 5, I 1, Bo false, AV.nils, I 3, I 2]), (18, AV.ref 5), (17, AV.ag [AV.v (Value.string ⟨#[98]⟩), AV.nils, Bo false]), (16, AV.ag [AV.v (Value.string ⟨#[97]⟩), AV.ref 4, Bo false]), (15, AV.ref 4), (14, AV.ref 3), (13, AV.ag [I 8, I 1]), (12, AV.ag [I 1, I 0]), (11, AV.ag [I 3, AV.ref 1, AV.ref 2]), (10, AV.ref 2), (9, AV.ref 1), (8, AV.ref 0), (0, Bo false)], objs := [(9, AO.box [AV.ref 7, AV.ref 8]), (9, AO.box [AV.nils, AV.nils]), (8, AO.arr 1 [I 0, I 0]), (7, AO.arr 1 [I 0, I 0]), (6, AO.box [I 3, AV.ref 1, AV.ref 2, AV.ref 5, I 1, Bo false, AV.nils, I 3, I 2]), (6, AO.box [I 0, AV.nils, AV.nils, AV.nils, I 0, Bo false, AV.nils, I 0, I 0]), (5, AO.arr 3 [AV.ag [AV.v (Value.string ⟨#[97]⟩), AV.sl [AV.sl [AV.ag [I 1, I 0], AV.ag [I 8, I 1]]], Bo false], AV.ag [AV.v (Value.string ⟨#[98]⟩), AV.sl [], Bo false]]), (4, AO.pub [AV.sl [AV.ag [I 1, I 0], AV.ag [I 8, I 1]]]), (4, AO.arr 1 [AV.sl [AV.ag [I 1, I 0], AV.ag [I 8, I 1]]]), (3, AO.pub [AV.ag [I 1, I 0], AV.ag [I 8, I 1]]), (3, AO.arr 2 [AV.ag [I 1, I 0], AV.ag [I 8, I 1]]), (2, AO.arr 1 [I 0]), (1, AO.arr 1 [AV.sl [I 1, I 2, I (-1)]]), (0, AO.pub [I 1, I 2, I (-1)]), (0, AO.arr 1 [I 1, I 2, I (-1)])], next := 10, size := 109 } (by kernel_rfl) ?_
  conv => whnf
  refine drawP [7, 8] ?_
  conv => whnf
  try dsimp only [St.after, St.afterAt, St.pin, St.unpin, initSt, initT, numO, cellsA, Option.map, ren, renL, renO, St.setObj, headSt, List.cons_append, List.nil_append, List.length_nil, Nat.reduceAdd]
  refine drawJE [1, 4] [(2, [0, 1]), (5, [3, 4])] (pinAll 9 0 [.ref 7, .ref 8]) [(3, .ptr 10 0), (4, .ptr 11 0)] [(10, .box [.ref 12, .ref 7, .ref 8, I 1, I 0]), (11, .box [.ref 13, .ref 7, .ref 8, I 0, I 0]), (12, .arr 1 [I 1, I 0, I 4]), (13, .arr 1 [I 3, I 0, I 4])] 14 (by decide +kernel) ?_
  conv => whnf
  refine And.intro ?_ ?_
  · skip
    conv => whnf
    try dsimp only [St.after, St.afterAt, St.pin, St.unpin, initSt, initT, numO, cellsA, Option.map, ren, renL, renO, St.setObj, headSt, List.cons_append, List.nil_append, List.length_nil, Nat.reduceAdd]
    repeat'
      ((first
        | (refine Ck.mk ?_)
        | (refine PinE.mk (by kernel_rfl) ?_)
        | (refine AndJ.mk ?_ ?_)
        | (refine ifD (fun _ => ?_) (fun _ => ?_))
        | (refine ifE (fun _ => ?_) (fun _ => ?_))
        | (refine ifN (fun _ => ?_) (fun _ => ?_))
        | ((with_reducible refine natI ?_))
        | ((with_reducible refine ifNot ?_))
        | ((with_reducible refine ifAndD (fun _ _ => ?_) (fun _ => ?_)))
        | ((with_reducible refine ifAnd (fun _ _ => ?_) (fun _ => ?_)))
        | (refine ixM (by omega) (by first | omega | (simp only [List.length_set, List.length_map, List.length_append, List.length_cons, List.length_nil, List.length_replicate]; omega)) rfl ?_)
        | (refine ixA (by omega) (by first | omega | (simp only [List.length_set, List.length_map, List.length_append, List.length_cons, List.length_nil, List.length_replicate]; omega)) ?_)
        | (refine ixC (by decide) rfl rfl ?_)
        | (refine ltM (by omega) (by first | omega | (simp only [List.length_set, List.length_map, List.length_append, List.length_cons, List.length_nil, List.length_replicate]; omega)) ?_)
        | (with_reducible refine candlow (by omega) ?_)
        | (refine calI (by omega) ?_)
        | (refine cu8 (by omega) ?_)
        | (refine cu64 (by omega) ?_)
        | (refine And.intro (by omega) ?_; refine crem (by omega) ?_)
        | (refine And.intro (by omega) ?_; refine cquo (by omega) ?_)
        | (refine And.intro (by omega) ?_; refine cquo8 (by omega) ?_)
        | (refine And.intro (by omega) ?_; refine cshr8 (by omega) ?_)
        | (refine And.intro (by omega) ?_; refine cshr64 (by omega) ?_)
        | (refine And.intro (by omega) ?_; refine cshl64 (by omega) ?_)
        | (refine candn (by omega) ?_)
        | (refine cand8 ?_)
        | (refine cand64 ?_)
        | ((with_reducible refine preI ?_); (first | refine preNil ?_ | refine preOp rfl rfl ?_ | refine preT rfl rfl rfl rfl ?_ | refine preF rfl rfl rfl rfl ?_ | refine preTS rfl rfl rfl rfl ?_ | refine preFS rfl rfl rfl rfl ?_ | refine preSkip rfl rfl rfl rfl ?_ | refine preGT rfl rfl rfl rfl ?_ | refine preGF rfl rfl rfl rfl ?_))
        | (refine AltS.own (by assumption) ?_)
        | (refine AltS.im ?_)
        | (refine mkS (by decide) (by omega) (by omega) ?_)
        | (refine ap1 (by decide) (by omega) rfl rfl ?_)
        | (refine ap0 (by decide) rfl ?_)
        | (refine apL (by decide) (by omega) (fun _ => rfl) ?_)
        | (refine apM (by decide) (by omega) (fun _ => rfl) ?_)
        | (refine slM1 (fun _ => rfl) ?_)
        | (refine And.intro (by omega) ?_; refine slM ?_)
        | (refine setI (z := _) rfl ?_)
        | (refine And.intro (by omega) (And.intro (by omega) ?_))
        | (refine ifB_intro (fun _ => ?_) (fun _ => ?_))
        | (refine ShowsJ.mk (by kernel_rfl) (by kernel_rfl) (by kernel_rfl) ?_ ?_ rfl)
        | exact trivial
        | with_reducible rfl
        | (refine srcI ?_; kernel_rfl)
        | (refine nsI ?_; kernel_rfl)
        | (refine And.intro ?_ ?_)
        | rfl
        | fail) <;> (conv => whnf; try dsimp only [St.after, St.afterAt, St.pin, St.unpin, initSt, initT, numO, cellsA, Option.map, ren, renL, renO, St.setObj, headSt, List.cons_append, List.nil_append, List.length_nil, Nat.reduceAdd]))
  · exact vcS sS (by kernel_rfl) sanityB
end Go.Proofs.Ytceeabnmleemiaa
