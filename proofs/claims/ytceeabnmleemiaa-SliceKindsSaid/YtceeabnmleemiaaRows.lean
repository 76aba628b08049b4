/-
  No cell of these rows narrows 'for every input' (looked for: loops, veiled, ifaces, maps, wideKeys, modest, calm, conditions, laid).
  DERIVED. THE GIVEN ROWS OF THIS SEAT. 4 by the template 'for every input the law returns true; each argument reads behind the call as it read before'; 0 by the template 'total and deterministic' (their statements: YtceeabnmleemiaaTotals.lean).
  GIVEN WITH THE SEED: the statements are not yours to turn. If you find one false, say at which input.
  Laid BY PROGRAM, IN A SANDBOX (cutbox-rows.mjs): the forced cells as the released guide's own fill.sh prints them over the translation ac57fddc5ef6e9d4… (all of the seat's roots in one cut). By AI agents, Wed Nov 11 2026. No macro, syntax, notation, axiom, sorry.
-/
import Derived.Test.YtceeabnmleemiaaChecked
import GoSem.Claim
import GoSem.ClaimJoined
import GoSem.ClaimMapViews
import Derived.JoinedTies
import Derived.KernelRfl
namespace Go.Proofs.Ytceeabnmleemiaa
/- THE CELL 'sum', in the pinned program and in every row, IS THE sha256 OF THE DUMP (.gsa) THAT YtceeabnmleemiaaProg.lean LOADS. Nothing in Lean hashes anything: it is a label: what it is worth is what the hold of that sum in a sandbox is worth. -/
noncomputable def Try.pinned : Pinned := { name := "ytceeabnmleemiaa", sum := "ac57fddc5ef6e9d4e1d699f2d059d560bd4e2f5fd338d4f72ae5a91c9d8390f0", checked := Try.checked }
namespace Rows
def none {H : Type} : Left H := { results := [], args := [] }

/-- 'skewerlaw12.SliceMatchesReference': WHATEVER THE INPUT: true; the input reads as it did. -/
def sliceMatchesReferenceSpec : ChangeSpec := { name := "sliceMatchesReference", fn := fun _ => fun
  | [d1, d2, d3] => { results := [.lit (.bool true)], args := [d1, d2, d3] }
  | _ => none }
def sliceMatchesReferenceRow : OpenClaim := { program := "ytceeabnmleemiaa", sum := "ac57fddc5ef6e9d4e1d699f2d059d560bd4e2f5fd338d4f72ae5a91c9d8390f0", func := "skewer/skewerlaw12.SliceMatchesReference", spec := "sliceMatchesReference", unfollowed := true, recurses := true, apart := false }
def SliceMatchesReferenceSaid : Prop := sliceMatchesReferenceRow.holds Try.pinned (OpenSpec.ofChange sliceMatchesReferenceSpec)

/-- ITS FALSE NEIGHBOUR: 'it returns false'. Refute it at one input. -/
def sliceMatchesReferenceWrong : ChangeSpec := { name := "sliceMatchesReference", fn := fun _ => fun
  | [d1, d2, d3] => { results := [.lit (.bool false)], args := [d1, d2, d3] }
  | _ => none }
def SliceMatchesReferenceWrongFalsely : Prop := sliceMatchesReferenceRow.holds Try.pinned (OpenSpec.ofChange sliceMatchesReferenceWrong)

/-- 'skewerlaw12.SliceCuts': WHATEVER THE INPUT: true; the input reads as it did. -/
def sliceCutsSpec : ChangeSpec := { name := "sliceCuts", fn := fun _ => fun
  | [d1, d2] => { results := [.lit (.bool true)], args := [d1, d2] }
  | _ => none }
def sliceCutsRow : OpenClaim := { program := "ytceeabnmleemiaa", sum := "ac57fddc5ef6e9d4e1d699f2d059d560bd4e2f5fd338d4f72ae5a91c9d8390f0", func := "skewer/skewerlaw12.SliceCuts", spec := "sliceCuts", unfollowed := true, recurses := true, apart := false }
def SliceCutsSaid : Prop := sliceCutsRow.holds Try.pinned (OpenSpec.ofChange sliceCutsSpec)

/-- ITS FALSE NEIGHBOUR: 'it returns false'. Refute it at one input. -/
def sliceCutsWrong : ChangeSpec := { name := "sliceCuts", fn := fun _ => fun
  | [d1, d2] => { results := [.lit (.bool false)], args := [d1, d2] }
  | _ => none }
def SliceCutsWrongFalsely : Prop := sliceCutsRow.holds Try.pinned (OpenSpec.ofChange sliceCutsWrong)

/-- 'skewerlaw12.SliceKinds': WHATEVER THE INPUT: true; the input reads as it did. -/
def sliceKindsSpec : ChangeSpec := { name := "sliceKinds", fn := fun _ => fun
  | [d1, d2] => { results := [.lit (.bool true)], args := [d1, d2] }
  | _ => none }
def sliceKindsRow : OpenClaim := { program := "ytceeabnmleemiaa", sum := "ac57fddc5ef6e9d4e1d699f2d059d560bd4e2f5fd338d4f72ae5a91c9d8390f0", func := "skewer/skewerlaw12.SliceKinds", spec := "sliceKinds", unfollowed := true, recurses := true, apart := false }
def SliceKindsSaid : Prop := sliceKindsRow.holds Try.pinned (OpenSpec.ofChange sliceKindsSpec)

/-- ITS FALSE NEIGHBOUR: 'it returns false'. Refute it at one input. -/
def sliceKindsWrong : ChangeSpec := { name := "sliceKinds", fn := fun _ => fun
  | [d1, d2] => { results := [.lit (.bool false)], args := [d1, d2] }
  | _ => none }
def SliceKindsWrongFalsely : Prop := sliceKindsRow.holds Try.pinned (OpenSpec.ofChange sliceKindsWrong)

/-- 'skewerlaw12.SliceLevels': WHATEVER THE INPUT: true; the input reads as it did. -/
def sliceLevelsSpec : ChangeSpec := { name := "sliceLevels", fn := fun _ => fun
  | [d1, d2] => { results := [.lit (.bool true)], args := [d1, d2] }
  | _ => none }
def sliceLevelsRow : OpenClaim := { program := "ytceeabnmleemiaa", sum := "ac57fddc5ef6e9d4e1d699f2d059d560bd4e2f5fd338d4f72ae5a91c9d8390f0", func := "skewer/skewerlaw12.SliceLevels", spec := "sliceLevels", unfollowed := true, recurses := true, apart := false }
def SliceLevelsSaid : Prop := sliceLevelsRow.holds Try.pinned (OpenSpec.ofChange sliceLevelsSpec)

/-- ITS FALSE NEIGHBOUR: 'it returns false'. Refute it at one input. -/
def sliceLevelsWrong : ChangeSpec := { name := "sliceLevels", fn := fun _ => fun
  | [d1, d2] => { results := [.lit (.bool false)], args := [d1, d2] }
  | _ => none }
def SliceLevelsWrongFalsely : Prop := sliceLevelsRow.holds Try.pinned (OpenSpec.ofChange sliceLevelsWrong)

/- THE SECOND FORM. 'bulk': how many values and letters a reading holds, each counted each time it is reached (what is shared counts as often as it is met; a slice's spare places count too). A statement '..UptoSaid' is the law's where the arguments, and the package variables that the reading takes, are together of bulk at most 1048576: NARROWER than '..Said'. Prove '..Said' where nothing that the law and all that it calls make is longer than what came in: it says more and counts as full. Else prove '..UptoSaid'. A law counts once. -/
mutual
def uptoBulk {H : Type} : DataW H → Nat
  | .lit (.string bytes) => bytes.length + 1
  | .lit _ => 1
  | .nil => 1
  | .ptr d => uptoBulk d + 1
  | .slice elems spare => uptoBulkAll elems + uptoBulkAll spare + 1
  | .agg parts => uptoBulkAll parts + 1
  | .iface _ d => uptoBulk d + 1
  | .map entries => uptoBulkEntries entries + 1
  | .held _ => 1
def uptoBulkAll {H : Type} : List (DataW H) → Nat
  | [] => 0
  | d :: r => uptoBulk d + uptoBulkAll r
def uptoBulkEntries {H : Type} : List (Lit × DataW H) → Nat
  | [] => 0
  | x :: r => uptoBulkEntry x + uptoBulkEntries r
def uptoBulkEntry {H : Type} : Lit × DataW H → Nat
  | (.string bytes, d) => bytes.length + uptoBulk d + 1
  | (_, d) => uptoBulk d + 1
 end
def uptoSmall : (H : Type) → List (DataW H) → Bool := fun _ ds => decide (uptoBulkAll ds ≤ 1048576)
def OpenSpec.upto (s : _root_.Go.ChangeSpec) : _root_.Go.OpenSpec := { _root_.Go.OpenSpec.ofChange s with cond := some uptoSmall }

/-- 'skewerlaw12.SliceMatchesReference', WHERE WHAT IT READS IS OF BULK AT MOST 1048576: true; the input reads as it did. -/
def sliceMatchesReferenceUptoRow : OpenClaim := { program := "ytceeabnmleemiaa", sum := "ac57fddc5ef6e9d4e1d699f2d059d560bd4e2f5fd338d4f72ae5a91c9d8390f0", func := "skewer/skewerlaw12.SliceMatchesReference", spec := "sliceMatchesReference", unfollowed := true, recurses := true, apart := false, narrowed := true }
def SliceMatchesReferenceUptoSaid : Prop := sliceMatchesReferenceUptoRow.holds Try.pinned (OpenSpec.upto sliceMatchesReferenceSpec)

/-- 'skewerlaw12.SliceCuts', WHERE WHAT IT READS IS OF BULK AT MOST 1048576: true; the input reads as it did. -/
def sliceCutsUptoRow : OpenClaim := { program := "ytceeabnmleemiaa", sum := "ac57fddc5ef6e9d4e1d699f2d059d560bd4e2f5fd338d4f72ae5a91c9d8390f0", func := "skewer/skewerlaw12.SliceCuts", spec := "sliceCuts", unfollowed := true, recurses := true, apart := false, narrowed := true }
def SliceCutsUptoSaid : Prop := sliceCutsUptoRow.holds Try.pinned (OpenSpec.upto sliceCutsSpec)

/-- 'skewerlaw12.SliceKinds', WHERE WHAT IT READS IS OF BULK AT MOST 1048576: true; the input reads as it did. -/
def sliceKindsUptoRow : OpenClaim := { program := "ytceeabnmleemiaa", sum := "ac57fddc5ef6e9d4e1d699f2d059d560bd4e2f5fd338d4f72ae5a91c9d8390f0", func := "skewer/skewerlaw12.SliceKinds", spec := "sliceKinds", unfollowed := true, recurses := true, apart := false, narrowed := true }
def SliceKindsUptoSaid : Prop := sliceKindsUptoRow.holds Try.pinned (OpenSpec.upto sliceKindsSpec)

/-- 'skewerlaw12.SliceLevels', WHERE WHAT IT READS IS OF BULK AT MOST 1048576: true; the input reads as it did. -/
def sliceLevelsUptoRow : OpenClaim := { program := "ytceeabnmleemiaa", sum := "ac57fddc5ef6e9d4e1d699f2d059d560bd4e2f5fd338d4f72ae5a91c9d8390f0", func := "skewer/skewerlaw12.SliceLevels", spec := "sliceLevels", unfollowed := true, recurses := true, apart := false, narrowed := true }
def SliceLevelsUptoSaid : Prop := sliceLevelsUptoRow.holds Try.pinned (OpenSpec.upto sliceLevelsSpec)

end Rows
end Go.Proofs.Ytceeabnmleemiaa
