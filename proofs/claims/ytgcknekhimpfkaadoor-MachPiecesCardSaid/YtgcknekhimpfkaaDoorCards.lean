/-
  DERIVED. GIVEN WITH THE SEED: THE CARDS: each row of YtgcknekhimpfkaaDoorRows.lean that lists a variable, with what it lists TIED to the program's text (the seventh form; the later family's looks); each row that meets fmt, with fmt's text TOLD by the authors' own Lean function (tested against real Go, not proved from fmt's source: count such statements apart). THE CARD IS WHAT COUNTS. Prove the row's statement (the work); the ties are given (YtgcknekhimpfkaaDoorTie.lean); close each card by the builder's one call (the guide's Derived/Test/ToyasCard.lean, 'card_holds'). Laid BY PROGRAM, IN A SANDBOX (cutbox-door.mjs). By AI agents, Wed Nov 11 2026. No macro, syntax, notation, axiom, sorry.
-/
import Derived.Test.YtgcknekhimpfkaaDoorRows
import GoSem.ClaimSeven
namespace Go.Proofs.YtgcknekhimpfkaaDoor
namespace Rows

/-- THE TIED CARD OF 'carrellaw05.MachVector'. -/
def machVectorCard : Claim7 := { stood := { row := machVectorRow, standIns := [], harness := (true, "6f9108ad446e35f5baddfa22673767959269430df2e5b76a9a3a9959393bc103"), looks := false }, kinds := [], alts := [], laidByText := true, laidKinds := [.data], laidTests := true, laidLooks := .later }
def MachVectorCardSaid : Prop := Claim7.holds Tryd.pinned (.plain (OpenSpec.ofChange machVectorSpec)) machVectorCard

/-- THE TIED CARD OF 'carrellaw05.MachEnds'. -/
def machEndsCard : Claim7 := { stood := { row := machEndsRow, standIns := [], harness := (true, "6f9108ad446e35f5baddfa22673767959269430df2e5b76a9a3a9959393bc103"), looks := false }, kinds := [], alts := [], laidByText := true, laidKinds := [.data], laidTests := true, laidLooks := .later }
def MachEndsCardSaid : Prop := Claim7.holds Tryd.pinned (.plain (OpenSpec.ofChange machEndsSpec)) machEndsCard

/-- THE TIED CARD OF 'carrellaw05.MachCuts'. -/
def machCutsCard : Claim7 := { stood := { row := machCutsRow, standIns := [], harness := (true, "6f9108ad446e35f5baddfa22673767959269430df2e5b76a9a3a9959393bc103"), looks := false }, kinds := [], alts := [], laidByText := true, laidKinds := [.data], laidTests := true, laidLooks := .later }
def MachCutsCardSaid : Prop := Claim7.holds Tryd.pinned (.plain (OpenSpec.ofChange machCutsSpec)) machCutsCard

/-- THE TIED CARD OF 'carrellaw05.MachPieces'. -/
def machPiecesCard : Claim7 := { stood := { row := machPiecesRow, standIns := [], harness := (true, "6f9108ad446e35f5baddfa22673767959269430df2e5b76a9a3a9959393bc103"), looks := false }, kinds := [], alts := [], laidByText := true, laidKinds := [.data], laidTests := true, laidLooks := .later }
def MachPiecesCardSaid : Prop := Claim7.holds Tryd.pinned (.plain (OpenSpec.ofChange machPiecesSpec)) machPiecesCard

/-- THE TIED CARD OF 'carrellaw05.MachNone'. -/
def machNoneCard : Claim7 := { stood := { row := machNoneRow, standIns := [], harness := (true, "6f9108ad446e35f5baddfa22673767959269430df2e5b76a9a3a9959393bc103"), looks := false }, kinds := [], alts := [], laidByText := true, laidKinds := [.data], laidTests := true, laidLooks := .later }
def MachNoneCardSaid : Prop := Claim7.holds Tryd.pinned (.plain (OpenSpec.ofChange machNoneSpec)) machNoneCard

/-- THE SECOND FORM's CARD OF 'carrellaw05.MachVector'. -/
def machVectorUptoCard : Claim7 := { stood := { row := machVectorUptoRow, standIns := [], harness := (true, "6f9108ad446e35f5baddfa22673767959269430df2e5b76a9a3a9959393bc103"), looks := false }, kinds := [], alts := [], laidByText := true, laidKinds := [.data], laidTests := true, laidLooks := .later }
def MachVectorUptoCardSaid : Prop := Claim7.holds Tryd.pinned (.plain (OpenSpec.upto machVectorSpec)) machVectorUptoCard

/-- THE SECOND FORM's CARD OF 'carrellaw05.MachEnds'. -/
def machEndsUptoCard : Claim7 := { stood := { row := machEndsUptoRow, standIns := [], harness := (true, "6f9108ad446e35f5baddfa22673767959269430df2e5b76a9a3a9959393bc103"), looks := false }, kinds := [], alts := [], laidByText := true, laidKinds := [.data], laidTests := true, laidLooks := .later }
def MachEndsUptoCardSaid : Prop := Claim7.holds Tryd.pinned (.plain (OpenSpec.upto machEndsSpec)) machEndsUptoCard

/-- THE SECOND FORM's CARD OF 'carrellaw05.MachCuts'. -/
def machCutsUptoCard : Claim7 := { stood := { row := machCutsUptoRow, standIns := [], harness := (true, "6f9108ad446e35f5baddfa22673767959269430df2e5b76a9a3a9959393bc103"), looks := false }, kinds := [], alts := [], laidByText := true, laidKinds := [.data], laidTests := true, laidLooks := .later }
def MachCutsUptoCardSaid : Prop := Claim7.holds Tryd.pinned (.plain (OpenSpec.upto machCutsSpec)) machCutsUptoCard

/-- THE SECOND FORM's CARD OF 'carrellaw05.MachPieces'. -/
def machPiecesUptoCard : Claim7 := { stood := { row := machPiecesUptoRow, standIns := [], harness := (true, "6f9108ad446e35f5baddfa22673767959269430df2e5b76a9a3a9959393bc103"), looks := false }, kinds := [], alts := [], laidByText := true, laidKinds := [.data], laidTests := true, laidLooks := .later }
def MachPiecesUptoCardSaid : Prop := Claim7.holds Tryd.pinned (.plain (OpenSpec.upto machPiecesSpec)) machPiecesUptoCard

/-- THE SECOND FORM's CARD OF 'carrellaw05.MachNone'. -/
def machNoneUptoCard : Claim7 := { stood := { row := machNoneUptoRow, standIns := [], harness := (true, "6f9108ad446e35f5baddfa22673767959269430df2e5b76a9a3a9959393bc103"), looks := false }, kinds := [], alts := [], laidByText := true, laidKinds := [.data], laidTests := true, laidLooks := .later }
def MachNoneUptoCardSaid : Prop := Claim7.holds Tryd.pinned (.plain (OpenSpec.upto machNoneSpec)) machNoneUptoCard
end Rows
end Go.Proofs.YtgcknekhimpfkaaDoor
