/-
  No cell of these rows narrows 'for every input' (looked for: loops, veiled, ifaces, maps, wideKeys, modest, calm, conditions, laid).
  DERIVED. THE GIVEN ROWS OF THIS SEAT. 8 by the template 'for every input the law returns true; each argument reads behind the call as it read before'; 0 by the template 'total and deterministic' (their statements: YtkecpgidolphfaaTotals.lean).
  GIVEN WITH THE SEED: the statements are not yours to turn. If you find one false, say at which input.
  Laid BY PROGRAM, IN A SANDBOX (cutbox-rows.mjs): the forced cells as the released guide's own fill.sh prints them over the translation 72514d666139b34f… (all of the seat's roots in one cut). By AI agents, Wed Nov 11 2026. No macro, syntax, notation, axiom, sorry.
-/
import Derived.Test.YtkecpgidolphfaaChecked
import GoSem.Claim
import GoSem.ClaimJoined
import GoSem.ClaimMapViews
import Derived.JoinedTies
import Derived.KernelRfl
namespace Go.Proofs.Ytkecpgidolphfaa
/- THE CELL 'sum', in the pinned program and in every row, IS THE sha256 OF THE DUMP (.gsa) THAT YtkecpgidolphfaaProg.lean LOADS. Nothing in Lean hashes anything: it is a label: what it is worth is what the hold of that sum in a sandbox is worth. -/
noncomputable def Try.pinned : Pinned := { name := "ytkecpgidolphfaa", sum := "72514d666139b34f2f31b46e97d2f85c5368072f12ae7790e699126b7f12c431", checked := Try.checked }
namespace Rows
def none {H : Type} : Left H := { results := [], args := [] }

/-- 'skewerlaw01.BoardValid': WHATEVER THE INPUT: true; the input reads as it did. -/
def boardValidSpec : ChangeSpec := { name := "boardValid", fn := fun _ => fun
  | [d1, d2, d3] => { results := [.lit (.bool true)], args := [d1, d2, d3] }
  | _ => none }
def boardValidRow : OpenClaim := { program := "ytkecpgidolphfaa", sum := "72514d666139b34f2f31b46e97d2f85c5368072f12ae7790e699126b7f12c431", func := "skewer/skewerlaw01.BoardValid", spec := "boardValid", unfollowed := true, recurses := true, apart := false }
def BoardValidSaid : Prop := boardValidRow.holds Try.pinned (OpenSpec.ofChange boardValidSpec)

/-- ITS FALSE NEIGHBOUR: 'it returns false'. Refute it at one input. -/
def boardValidWrong : ChangeSpec := { name := "boardValid", fn := fun _ => fun
  | [d1, d2, d3] => { results := [.lit (.bool false)], args := [d1, d2, d3] }
  | _ => none }
def BoardValidWrongFalsely : Prop := boardValidRow.holds Try.pinned (OpenSpec.ofChange boardValidWrong)

/-- 'skewerlaw01.BoardSides': WHATEVER THE INPUT: true; the input reads as it did. -/
def boardSidesSpec : ChangeSpec := { name := "boardSides", fn := fun _ => fun
  | [d1, d2] => { results := [.lit (.bool true)], args := [d1, d2] }
  | _ => none }
def boardSidesRow : OpenClaim := { program := "ytkecpgidolphfaa", sum := "72514d666139b34f2f31b46e97d2f85c5368072f12ae7790e699126b7f12c431", func := "skewer/skewerlaw01.BoardSides", spec := "boardSides", unfollowed := true, recurses := true, apart := false }
def BoardSidesSaid : Prop := boardSidesRow.holds Try.pinned (OpenSpec.ofChange boardSidesSpec)

/-- ITS FALSE NEIGHBOUR: 'it returns false'. Refute it at one input. -/
def boardSidesWrong : ChangeSpec := { name := "boardSides", fn := fun _ => fun
  | [d1, d2] => { results := [.lit (.bool false)], args := [d1, d2] }
  | _ => none }
def BoardSidesWrongFalsely : Prop := boardSidesRow.holds Try.pinned (OpenSpec.ofChange boardSidesWrong)

/-- 'skewerlaw01.BoardLines': WHATEVER THE INPUT: true; the input reads as it did. -/
def boardLinesSpec : ChangeSpec := { name := "boardLines", fn := fun _ => fun
  | [d1, d2] => { results := [.lit (.bool true)], args := [d1, d2] }
  | _ => none }
def boardLinesRow : OpenClaim := { program := "ytkecpgidolphfaa", sum := "72514d666139b34f2f31b46e97d2f85c5368072f12ae7790e699126b7f12c431", func := "skewer/skewerlaw01.BoardLines", spec := "boardLines", unfollowed := true, recurses := true, apart := false }
def BoardLinesSaid : Prop := boardLinesRow.holds Try.pinned (OpenSpec.ofChange boardLinesSpec)

/-- ITS FALSE NEIGHBOUR: 'it returns false'. Refute it at one input. -/
def boardLinesWrong : ChangeSpec := { name := "boardLines", fn := fun _ => fun
  | [d1, d2] => { results := [.lit (.bool false)], args := [d1, d2] }
  | _ => none }
def BoardLinesWrongFalsely : Prop := boardLinesRow.holds Try.pinned (OpenSpec.ofChange boardLinesWrong)

/-- 'skewerlaw01.BoardParts': WHATEVER THE INPUT: true; the input reads as it did. -/
def boardPartsSpec : ChangeSpec := { name := "boardParts", fn := fun _ => fun
  | [d] => { results := [.lit (.bool true)], args := [d] }
  | _ => none }
def boardPartsRow : OpenClaim := { program := "ytkecpgidolphfaa", sum := "72514d666139b34f2f31b46e97d2f85c5368072f12ae7790e699126b7f12c431", func := "skewer/skewerlaw01.BoardParts", spec := "boardParts", unfollowed := true, recurses := true, apart := false }
def BoardPartsSaid : Prop := boardPartsRow.holds Try.pinned (OpenSpec.ofChange boardPartsSpec)

/-- ITS FALSE NEIGHBOUR: 'it returns false'. Refute it at one input. -/
def boardPartsWrong : ChangeSpec := { name := "boardParts", fn := fun _ => fun
  | [d] => { results := [.lit (.bool false)], args := [d] }
  | _ => none }
def BoardPartsWrongFalsely : Prop := boardPartsRow.holds Try.pinned (OpenSpec.ofChange boardPartsWrong)

/-- 'skewerlaw01.BoardWithout': WHATEVER THE INPUT: true; the input reads as it did. -/
def boardWithoutSpec : ChangeSpec := { name := "boardWithout", fn := fun _ => fun
  | [d1, d2] => { results := [.lit (.bool true)], args := [d1, d2] }
  | _ => none }
def boardWithoutRow : OpenClaim := { program := "ytkecpgidolphfaa", sum := "72514d666139b34f2f31b46e97d2f85c5368072f12ae7790e699126b7f12c431", func := "skewer/skewerlaw01.BoardWithout", spec := "boardWithout", unfollowed := true, recurses := true, apart := false }
def BoardWithoutSaid : Prop := boardWithoutRow.holds Try.pinned (OpenSpec.ofChange boardWithoutSpec)

/-- ITS FALSE NEIGHBOUR: 'it returns false'. Refute it at one input. -/
def boardWithoutWrong : ChangeSpec := { name := "boardWithout", fn := fun _ => fun
  | [d1, d2] => { results := [.lit (.bool false)], args := [d1, d2] }
  | _ => none }
def BoardWithoutWrongFalsely : Prop := boardWithoutRow.holds Try.pinned (OpenSpec.ofChange boardWithoutWrong)

/-- 'skewerlaw01.BoardMatchesReference': WHATEVER THE INPUT: true; the input reads as it did. -/
def boardMatchesReferenceSpec : ChangeSpec := { name := "boardMatchesReference", fn := fun _ => fun
  | [d1, d2] => { results := [.lit (.bool true)], args := [d1, d2] }
  | _ => none }
def boardMatchesReferenceRow : OpenClaim := { program := "ytkecpgidolphfaa", sum := "72514d666139b34f2f31b46e97d2f85c5368072f12ae7790e699126b7f12c431", func := "skewer/skewerlaw01.BoardMatchesReference", spec := "boardMatchesReference", unfollowed := true, recurses := true, apart := false }
def BoardMatchesReferenceSaid : Prop := boardMatchesReferenceRow.holds Try.pinned (OpenSpec.ofChange boardMatchesReferenceSpec)

/-- ITS FALSE NEIGHBOUR: 'it returns false'. Refute it at one input. -/
def boardMatchesReferenceWrong : ChangeSpec := { name := "boardMatchesReference", fn := fun _ => fun
  | [d1, d2] => { results := [.lit (.bool false)], args := [d1, d2] }
  | _ => none }
def BoardMatchesReferenceWrongFalsely : Prop := boardMatchesReferenceRow.holds Try.pinned (OpenSpec.ofChange boardMatchesReferenceWrong)

/-- 'skewerlaw01.BoardFar': WHATEVER THE INPUT: true; the input reads as it did. -/
def boardFarSpec : ChangeSpec := { name := "boardFar", fn := fun _ => fun
  | [d] => { results := [.lit (.bool true)], args := [d] }
  | _ => none }
def boardFarRow : OpenClaim := { program := "ytkecpgidolphfaa", sum := "72514d666139b34f2f31b46e97d2f85c5368072f12ae7790e699126b7f12c431", func := "skewer/skewerlaw01.BoardFar", spec := "boardFar", unfollowed := true, recurses := true, apart := false }
def BoardFarSaid : Prop := boardFarRow.holds Try.pinned (OpenSpec.ofChange boardFarSpec)

/-- ITS FALSE NEIGHBOUR: 'it returns false'. Refute it at one input. -/
def boardFarWrong : ChangeSpec := { name := "boardFar", fn := fun _ => fun
  | [d] => { results := [.lit (.bool false)], args := [d] }
  | _ => none }
def BoardFarWrongFalsely : Prop := boardFarRow.holds Try.pinned (OpenSpec.ofChange boardFarWrong)

/-- 'skewerlaw01.BoardGrids': WHATEVER THE INPUT: true; the input reads as it did. -/
def boardGridsSpec : ChangeSpec := { name := "boardGrids", fn := fun _ => fun
  | [d1, d2, d3] => { results := [.lit (.bool true)], args := [d1, d2, d3] }
  | _ => none }
def boardGridsRow : OpenClaim := { program := "ytkecpgidolphfaa", sum := "72514d666139b34f2f31b46e97d2f85c5368072f12ae7790e699126b7f12c431", func := "skewer/skewerlaw01.BoardGrids", spec := "boardGrids", unfollowed := true, recurses := true, apart := false }
def BoardGridsSaid : Prop := boardGridsRow.holds Try.pinned (OpenSpec.ofChange boardGridsSpec)

/-- ITS FALSE NEIGHBOUR: 'it returns false'. Refute it at one input. -/
def boardGridsWrong : ChangeSpec := { name := "boardGrids", fn := fun _ => fun
  | [d1, d2, d3] => { results := [.lit (.bool false)], args := [d1, d2, d3] }
  | _ => none }
def BoardGridsWrongFalsely : Prop := boardGridsRow.holds Try.pinned (OpenSpec.ofChange boardGridsWrong)

/- THE SECOND FORM. 'bulk': how many values and letters a reading holds, each counted each time it is reached (what is shared counts as often as it is met; a slice's spare places count too). A statement '..UptoSaid' is the law's where the arguments, and the package variables that the reading takes, are together of bulk at most 1048576: NARROWER than '..Said'. Prove '..Said' where nothing that the law and all that it calls make is longer than what came in: it says more and counts as full. Else prove '..UptoSaid'. A law counts once. -/
mutual
def uptoBulk {H : Type} : DataW H → Nat
  | .lit (.string bytes) => bytes.length + 1
  | .lit _ => 1
  | .nil => 1
  | .ptr d => uptoBulk d + 1
  | .slice elems spare => uptoBulkAll elems + uptoBulkAll spare + 1
  | .agg parts => uptoBulkAll parts + 1
  | .iface _ d => uptoBulk d + 1
  | .map entries => uptoBulkEntries entries + 1
  | .held _ => 1
def uptoBulkAll {H : Type} : List (DataW H) → Nat
  | [] => 0
  | d :: r => uptoBulk d + uptoBulkAll r
def uptoBulkEntries {H : Type} : List (Lit × DataW H) → Nat
  | [] => 0
  | x :: r => uptoBulkEntry x + uptoBulkEntries r
def uptoBulkEntry {H : Type} : Lit × DataW H → Nat
  | (.string bytes, d) => bytes.length + uptoBulk d + 1
  | (_, d) => uptoBulk d + 1
 end
def uptoSmall : (H : Type) → List (DataW H) → Bool := fun _ ds => decide (uptoBulkAll ds ≤ 1048576)
def OpenSpec.upto (s : _root_.Go.ChangeSpec) : _root_.Go.OpenSpec := { _root_.Go.OpenSpec.ofChange s with cond := some uptoSmall }

/-- 'skewerlaw01.BoardValid', WHERE WHAT IT READS IS OF BULK AT MOST 1048576: true; the input reads as it did. -/
def boardValidUptoRow : OpenClaim := { program := "ytkecpgidolphfaa", sum := "72514d666139b34f2f31b46e97d2f85c5368072f12ae7790e699126b7f12c431", func := "skewer/skewerlaw01.BoardValid", spec := "boardValid", unfollowed := true, recurses := true, apart := false, narrowed := true }
def BoardValidUptoSaid : Prop := boardValidUptoRow.holds Try.pinned (OpenSpec.upto boardValidSpec)

/-- 'skewerlaw01.BoardSides', WHERE WHAT IT READS IS OF BULK AT MOST 1048576: true; the input reads as it did. -/
def boardSidesUptoRow : OpenClaim := { program := "ytkecpgidolphfaa", sum := "72514d666139b34f2f31b46e97d2f85c5368072f12ae7790e699126b7f12c431", func := "skewer/skewerlaw01.BoardSides", spec := "boardSides", unfollowed := true, recurses := true, apart := false, narrowed := true }
def BoardSidesUptoSaid : Prop := boardSidesUptoRow.holds Try.pinned (OpenSpec.upto boardSidesSpec)

/-- 'skewerlaw01.BoardLines', WHERE WHAT IT READS IS OF BULK AT MOST 1048576: true; the input reads as it did. -/
def boardLinesUptoRow : OpenClaim := { program := "ytkecpgidolphfaa", sum := "72514d666139b34f2f31b46e97d2f85c5368072f12ae7790e699126b7f12c431", func := "skewer/skewerlaw01.BoardLines", spec := "boardLines", unfollowed := true, recurses := true, apart := false, narrowed := true }
def BoardLinesUptoSaid : Prop := boardLinesUptoRow.holds Try.pinned (OpenSpec.upto boardLinesSpec)

/-- 'skewerlaw01.BoardParts', WHERE WHAT IT READS IS OF BULK AT MOST 1048576: true; the input reads as it did. -/
def boardPartsUptoRow : OpenClaim := { program := "ytkecpgidolphfaa", sum := "72514d666139b34f2f31b46e97d2f85c5368072f12ae7790e699126b7f12c431", func := "skewer/skewerlaw01.BoardParts", spec := "boardParts", unfollowed := true, recurses := true, apart := false, narrowed := true }
def BoardPartsUptoSaid : Prop := boardPartsUptoRow.holds Try.pinned (OpenSpec.upto boardPartsSpec)

/-- 'skewerlaw01.BoardWithout', WHERE WHAT IT READS IS OF BULK AT MOST 1048576: true; the input reads as it did. -/
def boardWithoutUptoRow : OpenClaim := { program := "ytkecpgidolphfaa", sum := "72514d666139b34f2f31b46e97d2f85c5368072f12ae7790e699126b7f12c431", func := "skewer/skewerlaw01.BoardWithout", spec := "boardWithout", unfollowed := true, recurses := true, apart := false, narrowed := true }
def BoardWithoutUptoSaid : Prop := boardWithoutUptoRow.holds Try.pinned (OpenSpec.upto boardWithoutSpec)

/-- 'skewerlaw01.BoardMatchesReference', WHERE WHAT IT READS IS OF BULK AT MOST 1048576: true; the input reads as it did. -/
def boardMatchesReferenceUptoRow : OpenClaim := { program := "ytkecpgidolphfaa", sum := "72514d666139b34f2f31b46e97d2f85c5368072f12ae7790e699126b7f12c431", func := "skewer/skewerlaw01.BoardMatchesReference", spec := "boardMatchesReference", unfollowed := true, recurses := true, apart := false, narrowed := true }
def BoardMatchesReferenceUptoSaid : Prop := boardMatchesReferenceUptoRow.holds Try.pinned (OpenSpec.upto boardMatchesReferenceSpec)

/-- 'skewerlaw01.BoardFar', WHERE WHAT IT READS IS OF BULK AT MOST 1048576: true; the input reads as it did. -/
def boardFarUptoRow : OpenClaim := { program := "ytkecpgidolphfaa", sum := "72514d666139b34f2f31b46e97d2f85c5368072f12ae7790e699126b7f12c431", func := "skewer/skewerlaw01.BoardFar", spec := "boardFar", unfollowed := true, recurses := true, apart := false, narrowed := true }
def BoardFarUptoSaid : Prop := boardFarUptoRow.holds Try.pinned (OpenSpec.upto boardFarSpec)

/-- 'skewerlaw01.BoardGrids', WHERE WHAT IT READS IS OF BULK AT MOST 1048576: true; the input reads as it did. -/
def boardGridsUptoRow : OpenClaim := { program := "ytkecpgidolphfaa", sum := "72514d666139b34f2f31b46e97d2f85c5368072f12ae7790e699126b7f12c431", func := "skewer/skewerlaw01.BoardGrids", spec := "boardGrids", unfollowed := true, recurses := true, apart := false, narrowed := true }
def BoardGridsUptoSaid : Prop := boardGridsUptoRow.holds Try.pinned (OpenSpec.upto boardGridsSpec)

end Rows
end Go.Proofs.Ytkecpgidolphfaa
