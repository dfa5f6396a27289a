/-
  DERIVED. GIVEN WITH THE SEED: THE CARDS: each row of YtnghhkageiceaaaDoorRows.lean that lists a variable, with what it lists TIED to the program's text (the seventh form; the later family's looks); each row that meets fmt, with fmt's text TOLD by the authors' own Lean function (tested against real Go, not proved from fmt's source: count such statements apart). THE CARD IS WHAT COUNTS. Prove the row's statement (the work); the ties are given (YtnghhkageiceaaaDoorTie.lean); close each card by the builder's one call (the guide's Derived/Test/ToyasCard.lean, 'card_holds'). Laid BY PROGRAM, IN A SANDBOX (cutbox-door.mjs). By AI agents, Wed Nov 11 2026. No macro, syntax, notation, axiom, sorry.
-/
import Derived.Test.YtnghhkageiceaaaDoorRows
import GoSem.ClaimSeven
namespace Go.Proofs.YtnghhkageiceaaaDoor
namespace Rows

/-- THE TIED CARD OF 'carrellaw02.CpuDivides'. -/
def cpuDividesCard : Claim7 := { stood := { row := cpuDividesRow, standIns := [], harness := (true, "26ec26e4bb9f6ec303338d4bfb6c4baebaf6ec20551d7d3c49d16b1dc81e1f6c"), looks := false }, kinds := [], alts := [], laidByText := true, laidKinds := [.data], laidTests := true, laidLooks := .later }
def CpuDividesCardSaid : Prop := Claim7.holds Tryd.pinned (.plain (OpenSpec.ofChange cpuDividesSpec)) cpuDividesCard

/-- THE TIED CARD OF 'carrellaw02.CpuWords'. -/
def cpuWordsCard : Claim7 := { stood := { row := cpuWordsRow, standIns := [], harness := (true, "26ec26e4bb9f6ec303338d4bfb6c4baebaf6ec20551d7d3c49d16b1dc81e1f6c"), looks := false }, kinds := [], alts := [], laidByText := true, laidKinds := [.data], laidTests := true, laidLooks := .later }
def CpuWordsCardSaid : Prop := Claim7.holds Tryd.pinned (.plain (OpenSpec.ofChange cpuWordsSpec)) cpuWordsCard

/-- THE TIED CARD OF 'carrellaw02.CpuInstrs'. -/
def cpuInstrsCard : Claim7 := { stood := { row := cpuInstrsRow, standIns := [], harness := (true, "26ec26e4bb9f6ec303338d4bfb6c4baebaf6ec20551d7d3c49d16b1dc81e1f6c"), looks := false }, kinds := [], alts := [], laidByText := true, laidKinds := [.data], laidTests := true, laidLooks := .later }
def CpuInstrsCardSaid : Prop := Claim7.holds Tryd.pinned (.plain (OpenSpec.ofChange cpuInstrsSpec)) cpuInstrsCard

/-- THE TIED CARD OF 'carrellaw02.CpuBack'. -/
def cpuBackCard : Claim7 := { stood := { row := cpuBackRow, standIns := [], harness := (true, "26ec26e4bb9f6ec303338d4bfb6c4baebaf6ec20551d7d3c49d16b1dc81e1f6c"), looks := false }, kinds := [], alts := [], laidByText := true, laidKinds := [.data], laidTests := true, laidLooks := .later }
def CpuBackCardSaid : Prop := Claim7.holds Tryd.pinned (.plain (OpenSpec.ofChange cpuBackSpec)) cpuBackCard

/-- THE TIED CARD OF 'carrellaw02.CpuExecs'. -/
def cpuExecsCard : Claim7 := { stood := { row := cpuExecsRow, standIns := [], harness := (true, "26ec26e4bb9f6ec303338d4bfb6c4baebaf6ec20551d7d3c49d16b1dc81e1f6c"), looks := false }, kinds := [], alts := [], laidByText := true, laidKinds := [.data], laidTests := true, laidLooks := .later }
def CpuExecsCardSaid : Prop := Claim7.holds Tryd.pinned (.plain (OpenSpec.ofChange cpuExecsSpec)) cpuExecsCard

/-- THE TIED CARD OF 'carrellaw02.CpuRuns'. -/
def cpuRunsCard : Claim7 := { stood := { row := cpuRunsRow, standIns := [], harness := (true, "26ec26e4bb9f6ec303338d4bfb6c4baebaf6ec20551d7d3c49d16b1dc81e1f6c"), looks := false }, kinds := [], alts := [], laidByText := true, laidKinds := [.data], laidTests := true, laidLooks := .later }
def CpuRunsCardSaid : Prop := Claim7.holds Tryd.pinned (.plain (OpenSpec.ofChange cpuRunsSpec)) cpuRunsCard

/-- THE TIED CARD OF 'carrellaw02.CpuKeeps'. -/
def cpuKeepsCard : Claim7 := { stood := { row := cpuKeepsRow, standIns := [], harness := (true, "26ec26e4bb9f6ec303338d4bfb6c4baebaf6ec20551d7d3c49d16b1dc81e1f6c"), looks := false }, kinds := [], alts := [], laidByText := true, laidKinds := [.data], laidTests := true, laidLooks := .later }
def CpuKeepsCardSaid : Prop := Claim7.holds Tryd.pinned (.plain (OpenSpec.ofChange cpuKeepsSpec)) cpuKeepsCard

/-- THE TIED CARD OF 'carrellaw02.CpuWide'. -/
def cpuWideCard : Claim7 := { stood := { row := cpuWideRow, standIns := [], harness := (true, "26ec26e4bb9f6ec303338d4bfb6c4baebaf6ec20551d7d3c49d16b1dc81e1f6c"), looks := false }, kinds := [], alts := [], laidByText := true, laidKinds := [.data], laidTests := true, laidLooks := .later }
def CpuWideCardSaid : Prop := Claim7.holds Tryd.pinned (.plain (OpenSpec.ofChange cpuWideSpec)) cpuWideCard

/-- THE TIED CARD OF 'carrellaw02.CpuAccesses'. -/
def cpuAccessesCard : Claim7 := { stood := { row := cpuAccessesRow, standIns := [], harness := (true, "26ec26e4bb9f6ec303338d4bfb6c4baebaf6ec20551d7d3c49d16b1dc81e1f6c"), looks := false }, kinds := [], alts := [], laidByText := true, laidKinds := [.data], laidTests := true, laidLooks := .later }
def CpuAccessesCardSaid : Prop := Claim7.holds Tryd.pinned (.plain (OpenSpec.ofChange cpuAccessesSpec)) cpuAccessesCard

/-- THE SECOND FORM's CARD OF 'carrellaw02.CpuDivides'. -/
def cpuDividesUptoCard : Claim7 := { stood := { row := cpuDividesUptoRow, standIns := [], harness := (true, "26ec26e4bb9f6ec303338d4bfb6c4baebaf6ec20551d7d3c49d16b1dc81e1f6c"), looks := false }, kinds := [], alts := [], laidByText := true, laidKinds := [.data], laidTests := true, laidLooks := .later }
def CpuDividesUptoCardSaid : Prop := Claim7.holds Tryd.pinned (.plain (OpenSpec.upto cpuDividesSpec)) cpuDividesUptoCard

/-- THE SECOND FORM's CARD OF 'carrellaw02.CpuWords'. -/
def cpuWordsUptoCard : Claim7 := { stood := { row := cpuWordsUptoRow, standIns := [], harness := (true, "26ec26e4bb9f6ec303338d4bfb6c4baebaf6ec20551d7d3c49d16b1dc81e1f6c"), looks := false }, kinds := [], alts := [], laidByText := true, laidKinds := [.data], laidTests := true, laidLooks := .later }
def CpuWordsUptoCardSaid : Prop := Claim7.holds Tryd.pinned (.plain (OpenSpec.upto cpuWordsSpec)) cpuWordsUptoCard

/-- THE SECOND FORM's CARD OF 'carrellaw02.CpuInstrs'. -/
def cpuInstrsUptoCard : Claim7 := { stood := { row := cpuInstrsUptoRow, standIns := [], harness := (true, "26ec26e4bb9f6ec303338d4bfb6c4baebaf6ec20551d7d3c49d16b1dc81e1f6c"), looks := false }, kinds := [], alts := [], laidByText := true, laidKinds := [.data], laidTests := true, laidLooks := .later }
def CpuInstrsUptoCardSaid : Prop := Claim7.holds Tryd.pinned (.plain (OpenSpec.upto cpuInstrsSpec)) cpuInstrsUptoCard

/-- THE SECOND FORM's CARD OF 'carrellaw02.CpuBack'. -/
def cpuBackUptoCard : Claim7 := { stood := { row := cpuBackUptoRow, standIns := [], harness := (true, "26ec26e4bb9f6ec303338d4bfb6c4baebaf6ec20551d7d3c49d16b1dc81e1f6c"), looks := false }, kinds := [], alts := [], laidByText := true, laidKinds := [.data], laidTests := true, laidLooks := .later }
def CpuBackUptoCardSaid : Prop := Claim7.holds Tryd.pinned (.plain (OpenSpec.upto cpuBackSpec)) cpuBackUptoCard

/-- THE SECOND FORM's CARD OF 'carrellaw02.CpuExecs'. -/
def cpuExecsUptoCard : Claim7 := { stood := { row := cpuExecsUptoRow, standIns := [], harness := (true, "26ec26e4bb9f6ec303338d4bfb6c4baebaf6ec20551d7d3c49d16b1dc81e1f6c"), looks := false }, kinds := [], alts := [], laidByText := true, laidKinds := [.data], laidTests := true, laidLooks := .later }
def CpuExecsUptoCardSaid : Prop := Claim7.holds Tryd.pinned (.plain (OpenSpec.upto cpuExecsSpec)) cpuExecsUptoCard

/-- THE SECOND FORM's CARD OF 'carrellaw02.CpuRuns'. -/
def cpuRunsUptoCard : Claim7 := { stood := { row := cpuRunsUptoRow, standIns := [], harness := (true, "26ec26e4bb9f6ec303338d4bfb6c4baebaf6ec20551d7d3c49d16b1dc81e1f6c"), looks := false }, kinds := [], alts := [], laidByText := true, laidKinds := [.data], laidTests := true, laidLooks := .later }
def CpuRunsUptoCardSaid : Prop := Claim7.holds Tryd.pinned (.plain (OpenSpec.upto cpuRunsSpec)) cpuRunsUptoCard

/-- THE SECOND FORM's CARD OF 'carrellaw02.CpuKeeps'. -/
def cpuKeepsUptoCard : Claim7 := { stood := { row := cpuKeepsUptoRow, standIns := [], harness := (true, "26ec26e4bb9f6ec303338d4bfb6c4baebaf6ec20551d7d3c49d16b1dc81e1f6c"), looks := false }, kinds := [], alts := [], laidByText := true, laidKinds := [.data], laidTests := true, laidLooks := .later }
def CpuKeepsUptoCardSaid : Prop := Claim7.holds Tryd.pinned (.plain (OpenSpec.upto cpuKeepsSpec)) cpuKeepsUptoCard

/-- THE SECOND FORM's CARD OF 'carrellaw02.CpuWide'. -/
def cpuWideUptoCard : Claim7 := { stood := { row := cpuWideUptoRow, standIns := [], harness := (true, "26ec26e4bb9f6ec303338d4bfb6c4baebaf6ec20551d7d3c49d16b1dc81e1f6c"), looks := false }, kinds := [], alts := [], laidByText := true, laidKinds := [.data], laidTests := true, laidLooks := .later }
def CpuWideUptoCardSaid : Prop := Claim7.holds Tryd.pinned (.plain (OpenSpec.upto cpuWideSpec)) cpuWideUptoCard

/-- THE SECOND FORM's CARD OF 'carrellaw02.CpuAccesses'. -/
def cpuAccessesUptoCard : Claim7 := { stood := { row := cpuAccessesUptoRow, standIns := [], harness := (true, "26ec26e4bb9f6ec303338d4bfb6c4baebaf6ec20551d7d3c49d16b1dc81e1f6c"), looks := false }, kinds := [], alts := [], laidByText := true, laidKinds := [.data], laidTests := true, laidLooks := .later }
def CpuAccessesUptoCardSaid : Prop := Claim7.holds Tryd.pinned (.plain (OpenSpec.upto cpuAccessesSpec)) cpuAccessesUptoCard
end Rows
end Go.Proofs.YtnghhkageiceaaaDoor
