/-
  DERIVED. GIVEN WITH THE SEED: THE CARDS: each row of YthgobfncgnjimaaGreatDoorRows.lean that lists a variable, with what it lists TIED to the program's text (the seventh form; the later family's looks); each row that meets fmt, with fmt's text TOLD by the authors' own Lean function (tested against real Go, not proved from fmt's source: count such statements apart). THE CARD IS WHAT COUNTS. Prove the row's statement (the work); the ties are given (YthgobfncgnjimaaGreatDoorTie.lean); close each card by the builder's one call (the guide's Derived/Test/ToyasCard.lean, 'card_holds'). Laid BY PROGRAM, IN A SANDBOX (cutbox-door.mjs). By AI agents, Wed Nov 11 2026. No macro, syntax, notation, axiom, sorry.
-/
import Derived.Test.YthgobfncgnjimaaGreatDoorRows
import GoSem.ClaimSeven
namespace Go.Proofs.YthgobfncgnjimaaGreatDoor
namespace Rows

/-- THE TIED CARD OF 'skewerlaw05.RunMen'. -/
def runMenCard : Claim7 := { stood := { row := runMenRow, standIns := [], harness := (true, "8754cc6d6fb758c5645a986d81842e74f9290f2199215b0010ea45d95f9adb6a"), looks := false }, kinds := [], alts := [], laidByText := true, laidKinds := [.data, .data, .data], laidTests := true, laidLooks := .later }
def RunMenCardSaid : Prop := Claim7.holds Tryz.pinned (.plain (OpenSpec.ofChange runMenSpec)) runMenCard

/-- THE TIED CARD OF 'skewerlaw05.RunOrder'. -/
def runOrderCard : Claim7 := { stood := { row := runOrderRow, standIns := [], harness := (true, "8754cc6d6fb758c5645a986d81842e74f9290f2199215b0010ea45d95f9adb6a"), looks := false }, kinds := [], alts := [], laidByText := true, laidKinds := [.data, .data, .data], laidTests := true, laidLooks := .later }
def RunOrderCardSaid : Prop := Claim7.holds Tryz.pinned (.plain (OpenSpec.ofChange runOrderSpec)) runOrderCard

/-- THE TIED CARD OF 'skewerlaw05.RunReads'. -/
def runReadsCard : Claim7 := { stood := { row := runReadsRow, standIns := [], harness := (true, "8754cc6d6fb758c5645a986d81842e74f9290f2199215b0010ea45d95f9adb6a"), looks := false }, kinds := [], alts := [], laidByText := true, laidKinds := [.data, .data, .data], laidTests := true, laidLooks := .later }
def RunReadsCardSaid : Prop := Claim7.holds Tryz.pinned (.plain (OpenSpec.ofChange runReadsSpec)) runReadsCard

/-- THE TIED CARD OF 'skewerlaw05.RunSides'. -/
def runSidesCard : Claim7 := { stood := { row := runSidesRow, standIns := [], harness := (true, "8754cc6d6fb758c5645a986d81842e74f9290f2199215b0010ea45d95f9adb6a"), looks := false }, kinds := [], alts := [], laidByText := true, laidKinds := [.data, .data, .data], laidTests := true, laidLooks := .later }
def RunSidesCardSaid : Prop := Claim7.holds Tryz.pinned (.plain (OpenSpec.ofChange runSidesSpec)) runSidesCard

/-- THE TIED CARD OF 'skewerlaw05.RunErrors'. -/
def runErrorsCard : Claim7 := { stood := { row := runErrorsRow, standIns := [], harness := (true, "8754cc6d6fb758c5645a986d81842e74f9290f2199215b0010ea45d95f9adb6a"), looks := false }, kinds := [], alts := [], laidByText := true, laidKinds := [.data, .data, .data], laidTests := true, laidLooks := .later }
def RunErrorsCardSaid : Prop := Claim7.holds Tryz.pinned (.plain (OpenSpec.ofChange runErrorsSpec)) runErrorsCard

/-- THE TIED CARD OF 'skewerlaw05.RunSteps'. -/
def runStepsCard : Claim7 := { stood := { row := runStepsRow, standIns := [], harness := (true, "8754cc6d6fb758c5645a986d81842e74f9290f2199215b0010ea45d95f9adb6a"), looks := false }, kinds := [], alts := [], laidByText := true, laidKinds := [.data, .data, .data], laidTests := true, laidLooks := .later }
def RunStepsCardSaid : Prop := Claim7.holds Tryz.pinned (.plain (OpenSpec.ofChange runStepsSpec)) runStepsCard

/-- THE TIED CARD OF 'skewerlaw05.RunMatchesReference'. -/
def runMatchesReferenceCard : Claim7 := { stood := { row := runMatchesReferenceRow, standIns := [], harness := (true, "8754cc6d6fb758c5645a986d81842e74f9290f2199215b0010ea45d95f9adb6a"), looks := false }, kinds := [], alts := [], laidByText := true, laidKinds := [.data, .data, .data], laidTests := true, laidLooks := .later }
def RunMatchesReferenceCardSaid : Prop := Claim7.holds Tryz.pinned (.plain (OpenSpec.ofChange runMatchesReferenceSpec)) runMatchesReferenceCard

/-- THE TIED CARD OF 'skewerlaw05.RunDrops'. -/
def runDropsCard : Claim7 := { stood := { row := runDropsRow, standIns := [], harness := (true, "8754cc6d6fb758c5645a986d81842e74f9290f2199215b0010ea45d95f9adb6a"), looks := false }, kinds := [], alts := [], laidByText := true, laidKinds := [.data, .data, .data], laidTests := true, laidLooks := .later }
def RunDropsCardSaid : Prop := Claim7.holds Tryz.pinned (.plain (OpenSpec.ofChange runDropsSpec)) runDropsCard

/-- THE SECOND FORM's CARD OF 'skewerlaw05.RunMen'. -/
def runMenUptoCard : Claim7 := { stood := { row := runMenUptoRow, standIns := [], harness := (true, "8754cc6d6fb758c5645a986d81842e74f9290f2199215b0010ea45d95f9adb6a"), looks := false }, kinds := [], alts := [], laidByText := true, laidKinds := [.data, .data, .data], laidTests := true, laidLooks := .later }
def RunMenUptoCardSaid : Prop := Claim7.holds Tryz.pinned (.plain (OpenSpec.upto runMenSpec)) runMenUptoCard

/-- THE SECOND FORM's CARD OF 'skewerlaw05.RunOrder'. -/
def runOrderUptoCard : Claim7 := { stood := { row := runOrderUptoRow, standIns := [], harness := (true, "8754cc6d6fb758c5645a986d81842e74f9290f2199215b0010ea45d95f9adb6a"), looks := false }, kinds := [], alts := [], laidByText := true, laidKinds := [.data, .data, .data], laidTests := true, laidLooks := .later }
def RunOrderUptoCardSaid : Prop := Claim7.holds Tryz.pinned (.plain (OpenSpec.upto runOrderSpec)) runOrderUptoCard

/-- THE SECOND FORM's CARD OF 'skewerlaw05.RunReads'. -/
def runReadsUptoCard : Claim7 := { stood := { row := runReadsUptoRow, standIns := [], harness := (true, "8754cc6d6fb758c5645a986d81842e74f9290f2199215b0010ea45d95f9adb6a"), looks := false }, kinds := [], alts := [], laidByText := true, laidKinds := [.data, .data, .data], laidTests := true, laidLooks := .later }
def RunReadsUptoCardSaid : Prop := Claim7.holds Tryz.pinned (.plain (OpenSpec.upto runReadsSpec)) runReadsUptoCard

/-- THE SECOND FORM's CARD OF 'skewerlaw05.RunSides'. -/
def runSidesUptoCard : Claim7 := { stood := { row := runSidesUptoRow, standIns := [], harness := (true, "8754cc6d6fb758c5645a986d81842e74f9290f2199215b0010ea45d95f9adb6a"), looks := false }, kinds := [], alts := [], laidByText := true, laidKinds := [.data, .data, .data], laidTests := true, laidLooks := .later }
def RunSidesUptoCardSaid : Prop := Claim7.holds Tryz.pinned (.plain (OpenSpec.upto runSidesSpec)) runSidesUptoCard

/-- THE SECOND FORM's CARD OF 'skewerlaw05.RunErrors'. -/
def runErrorsUptoCard : Claim7 := { stood := { row := runErrorsUptoRow, standIns := [], harness := (true, "8754cc6d6fb758c5645a986d81842e74f9290f2199215b0010ea45d95f9adb6a"), looks := false }, kinds := [], alts := [], laidByText := true, laidKinds := [.data, .data, .data], laidTests := true, laidLooks := .later }
def RunErrorsUptoCardSaid : Prop := Claim7.holds Tryz.pinned (.plain (OpenSpec.upto runErrorsSpec)) runErrorsUptoCard

/-- THE SECOND FORM's CARD OF 'skewerlaw05.RunSteps'. -/
def runStepsUptoCard : Claim7 := { stood := { row := runStepsUptoRow, standIns := [], harness := (true, "8754cc6d6fb758c5645a986d81842e74f9290f2199215b0010ea45d95f9adb6a"), looks := false }, kinds := [], alts := [], laidByText := true, laidKinds := [.data, .data, .data], laidTests := true, laidLooks := .later }
def RunStepsUptoCardSaid : Prop := Claim7.holds Tryz.pinned (.plain (OpenSpec.upto runStepsSpec)) runStepsUptoCard

/-- THE SECOND FORM's CARD OF 'skewerlaw05.RunMatchesReference'. -/
def runMatchesReferenceUptoCard : Claim7 := { stood := { row := runMatchesReferenceUptoRow, standIns := [], harness := (true, "8754cc6d6fb758c5645a986d81842e74f9290f2199215b0010ea45d95f9adb6a"), looks := false }, kinds := [], alts := [], laidByText := true, laidKinds := [.data, .data, .data], laidTests := true, laidLooks := .later }
def RunMatchesReferenceUptoCardSaid : Prop := Claim7.holds Tryz.pinned (.plain (OpenSpec.upto runMatchesReferenceSpec)) runMatchesReferenceUptoCard

/-- THE SECOND FORM's CARD OF 'skewerlaw05.RunDrops'. -/
def runDropsUptoCard : Claim7 := { stood := { row := runDropsUptoRow, standIns := [], harness := (true, "8754cc6d6fb758c5645a986d81842e74f9290f2199215b0010ea45d95f9adb6a"), looks := false }, kinds := [], alts := [], laidByText := true, laidKinds := [.data, .data, .data], laidTests := true, laidLooks := .later }
def RunDropsUptoCardSaid : Prop := Claim7.holds Tryz.pinned (.plain (OpenSpec.upto runDropsSpec)) runDropsUptoCard
end Rows
end Go.Proofs.YthgobfncgnjimaaGreatDoor
