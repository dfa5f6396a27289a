/-
  NARROWER THAN 'FOR EVERY INPUT', by the rows' own cells (each row's printed sentence says how): MachVector: laid · MachEnds: laid · MachCuts: laid · MachPieces: laid · MachNone: laid.
  DERIVED. THE GIVEN ROWS OF THIS SEAT. 5 by the template 'for every input the law returns true; each argument reads behind the call as it read before'; 0 by the template 'total and deterministic' (their statements: YtgcknekhimpfkaaDoorTotals.lean).
  GIVEN WITH THE SEED: the statements are not yours to turn. If you find one false, say at which input.
  Laid BY PROGRAM, IN A SANDBOX (cutbox-rows.mjs): the forced cells as the released guide's own fill.sh prints them over the translation 2865aee49f94f2e5… (all of the seat's roots in one cut). By AI agents, Wed Nov 11 2026. No macro, syntax, notation, axiom, sorry.
-/
import Derived.Test.YtgcknekhimpfkaaDoorChecked
import GoSem.Claim
import GoSem.ClaimJoined
import GoSem.ClaimMapViews
import Derived.JoinedTies
import Derived.KernelRfl
namespace Go.Proofs.YtgcknekhimpfkaaDoor
/- THE CELL 'sum', in the pinned program and in every row, IS THE sha256 OF THE DUMP (.gsa) THAT YtgcknekhimpfkaaDoorProg.lean LOADS. Nothing in Lean hashes anything: it is a label: what it is worth is what the hold of that sum in a sandbox is worth. -/
noncomputable def Tryd.pinned : Pinned := { name := "ytgcknekhimpfkaadoor", sum := "2865aee49f94f2e5ec7301846ffcadd3ff28f791afb5221841d5b538c3a08dbd", checked := Tryd.checked }
namespace Rows
def none {H : Type} : Left H := { results := [], args := [] }

/- WHAT THE LISTED PACKAGE-LEVEL VARIABLES READ AS WHEN THE CALL BEGINS. Each datum BY PROGRAM (the guide's laid-datum.mjs) off the statement by which the dump's own 'gosem.cut.vars' lays the variable. In a bare row this is a premise. The card (YtgcknekhimpfkaaDoorCards.lean) ties it to the program's text. -/
def laid_carrel_cpu_takes {H : Type} : DataW H := .agg [.lit (.int .i64 3), .lit (.int .i64 2), .lit (.int .i64 2), .lit (.int .i64 2), .lit (.int .i64 2), .lit (.int .i64 2), .lit (.int .i64 2), .lit (.int .i64 2), .lit (.int .i64 3), .lit (.int .i64 3), .lit (.int .i64 3), .lit (.int .i64 2), .lit (.int .i64 4), .lit (.int .i64 4), .lit (.int .i64 4), .lit (.int .i64 0)]

/-- 'carrellaw05.MachVector': WHATEVER THE INPUT: true; the input reads as it did. -/
def machVectorSpec : ChangeSpec := { name := "machVector", fn := fun _ => fun
  | [d1, d2, d3] => { results := [.lit (.bool true)], args := [d1, d2, d3] }
  | _ => none }
def machVectorRow : OpenClaim := { program := "ytgcknekhimpfkaadoor", sum := "2865aee49f94f2e5ec7301846ffcadd3ff28f791afb5221841d5b538c3a08dbd", func := "carrel/carrellaw05.MachVector", spec := "machVector", unfollowed := true, recurses := true, named := ["carrel/cpu.takes"], apart := false, laid := [("carrel/cpu.takes", laid_carrel_cpu_takes)] }
def MachVectorSaid : Prop := machVectorRow.holds Tryd.pinned (OpenSpec.ofChange machVectorSpec)

/-- ITS FALSE NEIGHBOUR: 'it returns false'. Refute it at one input. -/
def machVectorWrong : ChangeSpec := { name := "machVector", fn := fun _ => fun
  | [d1, d2, d3] => { results := [.lit (.bool false)], args := [d1, d2, d3] }
  | _ => none }
def MachVectorWrongFalsely : Prop := machVectorRow.holds Tryd.pinned (OpenSpec.ofChange machVectorWrong)

/-- 'carrellaw05.MachEnds': WHATEVER THE INPUT: true; the input reads as it did. -/
def machEndsSpec : ChangeSpec := { name := "machEnds", fn := fun _ => fun
  | [d1, d2, d3] => { results := [.lit (.bool true)], args := [d1, d2, d3] }
  | _ => none }
def machEndsRow : OpenClaim := { program := "ytgcknekhimpfkaadoor", sum := "2865aee49f94f2e5ec7301846ffcadd3ff28f791afb5221841d5b538c3a08dbd", func := "carrel/carrellaw05.MachEnds", spec := "machEnds", unfollowed := true, recurses := true, named := ["carrel/cpu.takes"], apart := false, laid := [("carrel/cpu.takes", laid_carrel_cpu_takes)] }
def MachEndsSaid : Prop := machEndsRow.holds Tryd.pinned (OpenSpec.ofChange machEndsSpec)

/-- ITS FALSE NEIGHBOUR: 'it returns false'. Refute it at one input. -/
def machEndsWrong : ChangeSpec := { name := "machEnds", fn := fun _ => fun
  | [d1, d2, d3] => { results := [.lit (.bool false)], args := [d1, d2, d3] }
  | _ => none }
def MachEndsWrongFalsely : Prop := machEndsRow.holds Tryd.pinned (OpenSpec.ofChange machEndsWrong)

/-- 'carrellaw05.MachCuts': WHATEVER THE INPUT: true; the input reads as it did. -/
def machCutsSpec : ChangeSpec := { name := "machCuts", fn := fun _ => fun
  | [d1, d2, d3] => { results := [.lit (.bool true)], args := [d1, d2, d3] }
  | _ => none }
def machCutsRow : OpenClaim := { program := "ytgcknekhimpfkaadoor", sum := "2865aee49f94f2e5ec7301846ffcadd3ff28f791afb5221841d5b538c3a08dbd", func := "carrel/carrellaw05.MachCuts", spec := "machCuts", unfollowed := true, recurses := true, named := ["carrel/cpu.takes"], apart := false, laid := [("carrel/cpu.takes", laid_carrel_cpu_takes)] }
def MachCutsSaid : Prop := machCutsRow.holds Tryd.pinned (OpenSpec.ofChange machCutsSpec)

/-- ITS FALSE NEIGHBOUR: 'it returns false'. Refute it at one input. -/
def machCutsWrong : ChangeSpec := { name := "machCuts", fn := fun _ => fun
  | [d1, d2, d3] => { results := [.lit (.bool false)], args := [d1, d2, d3] }
  | _ => none }
def MachCutsWrongFalsely : Prop := machCutsRow.holds Tryd.pinned (OpenSpec.ofChange machCutsWrong)

/-- 'carrellaw05.MachPieces': WHATEVER THE INPUT: true; the input reads as it did. -/
def machPiecesSpec : ChangeSpec := { name := "machPieces", fn := fun _ => fun
  | [d1, d2, d3] => { results := [.lit (.bool true)], args := [d1, d2, d3] }
  | _ => none }
def machPiecesRow : OpenClaim := { program := "ytgcknekhimpfkaadoor", sum := "2865aee49f94f2e5ec7301846ffcadd3ff28f791afb5221841d5b538c3a08dbd", func := "carrel/carrellaw05.MachPieces", spec := "machPieces", unfollowed := true, recurses := true, named := ["carrel/cpu.takes"], apart := false, laid := [("carrel/cpu.takes", laid_carrel_cpu_takes)] }
def MachPiecesSaid : Prop := machPiecesRow.holds Tryd.pinned (OpenSpec.ofChange machPiecesSpec)

/-- ITS FALSE NEIGHBOUR: 'it returns false'. Refute it at one input. -/
def machPiecesWrong : ChangeSpec := { name := "machPieces", fn := fun _ => fun
  | [d1, d2, d3] => { results := [.lit (.bool false)], args := [d1, d2, d3] }
  | _ => none }
def MachPiecesWrongFalsely : Prop := machPiecesRow.holds Tryd.pinned (OpenSpec.ofChange machPiecesWrong)

/-- 'carrellaw05.MachNone': WHATEVER THE INPUT: true; the input reads as it did. -/
def machNoneSpec : ChangeSpec := { name := "machNone", fn := fun _ => fun
  | [d] => { results := [.lit (.bool true)], args := [d] }
  | _ => none }
def machNoneRow : OpenClaim := { program := "ytgcknekhimpfkaadoor", sum := "2865aee49f94f2e5ec7301846ffcadd3ff28f791afb5221841d5b538c3a08dbd", func := "carrel/carrellaw05.MachNone", spec := "machNone", unfollowed := true, recurses := true, named := ["carrel/cpu.takes"], apart := false, laid := [("carrel/cpu.takes", laid_carrel_cpu_takes)] }
def MachNoneSaid : Prop := machNoneRow.holds Tryd.pinned (OpenSpec.ofChange machNoneSpec)

/-- ITS FALSE NEIGHBOUR: 'it returns false'. Refute it at one input. -/
def machNoneWrong : ChangeSpec := { name := "machNone", fn := fun _ => fun
  | [d] => { results := [.lit (.bool false)], args := [d] }
  | _ => none }
def MachNoneWrongFalsely : Prop := machNoneRow.holds Tryd.pinned (OpenSpec.ofChange machNoneWrong)

/- THE SECOND FORM. 'bulk': how many values and letters a reading holds, each counted each time it is reached (what is shared counts as often as it is met; a slice's spare places count too). A statement '..UptoSaid' is the law's where the arguments, and the package variables that the reading takes, are together of bulk at most 1048576: NARROWER than '..Said'. Prove '..Said' where nothing that the law and all that it calls make is longer than what came in: it says more and counts as full. Else prove '..UptoSaid'. A law counts once. -/
mutual
def uptoBulk {H : Type} : DataW H → Nat
  | .lit (.string bytes) => bytes.length + 1
  | .lit _ => 1
  | .nil => 1
  | .ptr d => uptoBulk d + 1
  | .slice elems spare => uptoBulkAll elems + uptoBulkAll spare + 1
  | .agg parts => uptoBulkAll parts + 1
  | .iface _ d => uptoBulk d + 1
  | .map entries => uptoBulkEntries entries + 1
  | .held _ => 1
def uptoBulkAll {H : Type} : List (DataW H) → Nat
  | [] => 0
  | d :: r => uptoBulk d + uptoBulkAll r
def uptoBulkEntries {H : Type} : List (Lit × DataW H) → Nat
  | [] => 0
  | x :: r => uptoBulkEntry x + uptoBulkEntries r
def uptoBulkEntry {H : Type} : Lit × DataW H → Nat
  | (.string bytes, d) => bytes.length + uptoBulk d + 1
  | (_, d) => uptoBulk d + 1
 end
def uptoSmall : (H : Type) → List (DataW H) → Bool := fun _ ds => decide (uptoBulkAll ds ≤ 1048576)
def OpenSpec.upto (s : _root_.Go.ChangeSpec) : _root_.Go.OpenSpec := { _root_.Go.OpenSpec.ofChange s with cond := some uptoSmall }

/-- 'carrellaw05.MachVector', WHERE WHAT IT READS IS OF BULK AT MOST 1048576: true; the input reads as it did. -/
def machVectorUptoRow : OpenClaim := { program := "ytgcknekhimpfkaadoor", sum := "2865aee49f94f2e5ec7301846ffcadd3ff28f791afb5221841d5b538c3a08dbd", func := "carrel/carrellaw05.MachVector", spec := "machVector", unfollowed := true, recurses := true, named := ["carrel/cpu.takes"], apart := false, laid := [("carrel/cpu.takes", laid_carrel_cpu_takes)], narrowed := true }
def MachVectorUptoSaid : Prop := machVectorUptoRow.holds Tryd.pinned (OpenSpec.upto machVectorSpec)

/-- 'carrellaw05.MachEnds', WHERE WHAT IT READS IS OF BULK AT MOST 1048576: true; the input reads as it did. -/
def machEndsUptoRow : OpenClaim := { program := "ytgcknekhimpfkaadoor", sum := "2865aee49f94f2e5ec7301846ffcadd3ff28f791afb5221841d5b538c3a08dbd", func := "carrel/carrellaw05.MachEnds", spec := "machEnds", unfollowed := true, recurses := true, named := ["carrel/cpu.takes"], apart := false, laid := [("carrel/cpu.takes", laid_carrel_cpu_takes)], narrowed := true }
def MachEndsUptoSaid : Prop := machEndsUptoRow.holds Tryd.pinned (OpenSpec.upto machEndsSpec)

/-- 'carrellaw05.MachCuts', WHERE WHAT IT READS IS OF BULK AT MOST 1048576: true; the input reads as it did. -/
def machCutsUptoRow : OpenClaim := { program := "ytgcknekhimpfkaadoor", sum := "2865aee49f94f2e5ec7301846ffcadd3ff28f791afb5221841d5b538c3a08dbd", func := "carrel/carrellaw05.MachCuts", spec := "machCuts", unfollowed := true, recurses := true, named := ["carrel/cpu.takes"], apart := false, laid := [("carrel/cpu.takes", laid_carrel_cpu_takes)], narrowed := true }
def MachCutsUptoSaid : Prop := machCutsUptoRow.holds Tryd.pinned (OpenSpec.upto machCutsSpec)

/-- 'carrellaw05.MachPieces', WHERE WHAT IT READS IS OF BULK AT MOST 1048576: true; the input reads as it did. -/
def machPiecesUptoRow : OpenClaim := { program := "ytgcknekhimpfkaadoor", sum := "2865aee49f94f2e5ec7301846ffcadd3ff28f791afb5221841d5b538c3a08dbd", func := "carrel/carrellaw05.MachPieces", spec := "machPieces", unfollowed := true, recurses := true, named := ["carrel/cpu.takes"], apart := false, laid := [("carrel/cpu.takes", laid_carrel_cpu_takes)], narrowed := true }
def MachPiecesUptoSaid : Prop := machPiecesUptoRow.holds Tryd.pinned (OpenSpec.upto machPiecesSpec)

/-- 'carrellaw05.MachNone', WHERE WHAT IT READS IS OF BULK AT MOST 1048576: true; the input reads as it did. -/
def machNoneUptoRow : OpenClaim := { program := "ytgcknekhimpfkaadoor", sum := "2865aee49f94f2e5ec7301846ffcadd3ff28f791afb5221841d5b538c3a08dbd", func := "carrel/carrellaw05.MachNone", spec := "machNone", unfollowed := true, recurses := true, named := ["carrel/cpu.takes"], apart := false, laid := [("carrel/cpu.takes", laid_carrel_cpu_takes)], narrowed := true }
def MachNoneUptoSaid : Prop := machNoneUptoRow.holds Tryd.pinned (OpenSpec.upto machNoneSpec)

end Rows
end Go.Proofs.YtgcknekhimpfkaaDoor
