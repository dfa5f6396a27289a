/-
  DERIVED. GIVEN WITH THE SEED: THE CARDS: each row of YtgcknekhimpfkaaGreatDoorRows.lean that lists a variable, with what it lists TIED to the program's text (the seventh form; the later family's looks); each row that meets fmt, with fmt's text TOLD by the authors' own Lean function (tested against real Go, not proved from fmt's source: count such statements apart). THE CARD IS WHAT COUNTS. Prove the row's statement (the work); the ties are given (YtgcknekhimpfkaaGreatDoorTie.lean); close each card by the builder's one call (the guide's Derived/Test/ToyasCard.lean, 'card_holds'). Laid BY PROGRAM, IN A SANDBOX (cutbox-door.mjs). By AI agents, Wed Nov 11 2026. No macro, syntax, notation, axiom, sorry.
-/
import Derived.Test.YtgcknekhimpfkaaGreatDoorRows
import GoSem.ClaimSeven
namespace Go.Proofs.YtgcknekhimpfkaaGreatDoor
namespace Rows

/-- THE TIED CARD OF 'carrellaw05.MachRuns'. -/
def machRunsCard : Claim7 := { stood := { row := machRunsRow, standIns := [], harness := (true, "6f80e00b7b9024e365bde95c7a3b83321ebb4178c3f4523a65dea1cd0f2c3bdf"), looks := false }, kinds := [], alts := [], laidByText := true, laidKinds := [.data], laidTests := true, laidLooks := .later }
def MachRunsCardSaid : Prop := Claim7.holds Tryz.pinned (.plain (OpenSpec.ofChange machRunsSpec)) machRunsCard

/-- THE SECOND FORM's CARD OF 'carrellaw05.MachRuns'. -/
def machRunsUptoCard : Claim7 := { stood := { row := machRunsUptoRow, standIns := [], harness := (true, "6f80e00b7b9024e365bde95c7a3b83321ebb4178c3f4523a65dea1cd0f2c3bdf"), looks := false }, kinds := [], alts := [], laidByText := true, laidKinds := [.data], laidTests := true, laidLooks := .later }
def MachRunsUptoCardSaid : Prop := Claim7.holds Tryz.pinned (.plain (OpenSpec.upto machRunsSpec)) machRunsUptoCard
end Rows
end Go.Proofs.YtgcknekhimpfkaaGreatDoor
