/-
  NARROWER THAN 'FOR EVERY INPUT', by the rows' own cells (each row's printed sentence says how): CpuDivides: laid · CpuWords: laid · CpuInstrs: laid · CpuBack: laid · CpuExecs: laid · CpuRuns: laid · CpuKeeps: laid · CpuWide: laid · CpuAccesses: laid.
  DERIVED. THE GIVEN ROWS OF THIS SEAT. 9 by the template 'for every input the law returns true; each argument reads behind the call as it read before'; 0 by the template 'total and deterministic' (their statements: YtnghhkageiceaaaDoorTotals.lean).
  GIVEN WITH THE SEED: the statements are not yours to turn. If you find one false, say at which input.
  Laid BY PROGRAM, IN A SANDBOX (cutbox-rows.mjs): the forced cells as the released guide's own fill.sh prints them over the translation faae1c0cc562c505… (all of the seat's roots in one cut). By AI agents, Wed Nov 11 2026. No macro, syntax, notation, axiom, sorry.
-/
import Derived.Test.YtnghhkageiceaaaDoorChecked
import GoSem.Claim
import GoSem.ClaimJoined
import GoSem.ClaimMapViews
import Derived.JoinedTies
import Derived.KernelRfl
namespace Go.Proofs.YtnghhkageiceaaaDoor
/- THE CELL 'sum', in the pinned program and in every row, IS THE sha256 OF THE DUMP (.gsa) THAT YtnghhkageiceaaaDoorProg.lean LOADS. Nothing in Lean hashes anything: it is a label: what it is worth is what the hold of that sum in a sandbox is worth. -/
noncomputable def Tryd.pinned : Pinned := { name := "ytnghhkageiceaaadoor", sum := "faae1c0cc562c505fa6f8e360135040d06bf0788427aa74c92ef143f8ae96817", checked := Tryd.checked }
namespace Rows
def none {H : Type} : Left H := { results := [], args := [] }

/- WHAT THE LISTED PACKAGE-LEVEL VARIABLES READ AS WHEN THE CALL BEGINS. Each datum BY PROGRAM (the guide's laid-datum.mjs) off the statement by which the dump's own 'gosem.cut.vars' lays the variable. In a bare row this is a premise. The card (YtnghhkageiceaaaDoorCards.lean) ties it to the program's text. -/
def laid_carrel_cpu_takes {H : Type} : DataW H := .agg [.lit (.int .i64 3), .lit (.int .i64 2), .lit (.int .i64 2), .lit (.int .i64 2), .lit (.int .i64 2), .lit (.int .i64 2), .lit (.int .i64 2), .lit (.int .i64 2), .lit (.int .i64 3), .lit (.int .i64 3), .lit (.int .i64 3), .lit (.int .i64 2), .lit (.int .i64 4), .lit (.int .i64 4), .lit (.int .i64 4), .lit (.int .i64 0)]

/-- 'carrellaw02.CpuDivides': WHATEVER THE INPUT: true; the input reads as it did. -/
def cpuDividesSpec : ChangeSpec := { name := "cpuDivides", fn := fun _ => fun
  | [d1, d2] => { results := [.lit (.bool true)], args := [d1, d2] }
  | _ => none }
def cpuDividesRow : OpenClaim := { program := "ytnghhkageiceaaadoor", sum := "faae1c0cc562c505fa6f8e360135040d06bf0788427aa74c92ef143f8ae96817", func := "carrel/carrellaw02.CpuDivides", spec := "cpuDivides", named := ["carrel/cpu.takes"], apart := false, laid := [("carrel/cpu.takes", laid_carrel_cpu_takes)] }
def CpuDividesSaid : Prop := cpuDividesRow.holds Tryd.pinned (OpenSpec.ofChange cpuDividesSpec)

/-- ITS FALSE NEIGHBOUR: 'it returns false'. Refute it at one input. -/
def cpuDividesWrong : ChangeSpec := { name := "cpuDivides", fn := fun _ => fun
  | [d1, d2] => { results := [.lit (.bool false)], args := [d1, d2] }
  | _ => none }
def CpuDividesWrongFalsely : Prop := cpuDividesRow.holds Tryd.pinned (OpenSpec.ofChange cpuDividesWrong)

/-- 'carrellaw02.CpuWords': WHATEVER THE INPUT: true; the input reads as it did. -/
def cpuWordsSpec : ChangeSpec := { name := "cpuWords", fn := fun _ => fun
  | [d] => { results := [.lit (.bool true)], args := [d] }
  | _ => none }
def cpuWordsRow : OpenClaim := { program := "ytnghhkageiceaaadoor", sum := "faae1c0cc562c505fa6f8e360135040d06bf0788427aa74c92ef143f8ae96817", func := "carrel/carrellaw02.CpuWords", spec := "cpuWords", named := ["carrel/cpu.takes"], apart := false, laid := [("carrel/cpu.takes", laid_carrel_cpu_takes)] }
def CpuWordsSaid : Prop := cpuWordsRow.holds Tryd.pinned (OpenSpec.ofChange cpuWordsSpec)

/-- ITS FALSE NEIGHBOUR: 'it returns false'. Refute it at one input. -/
def cpuWordsWrong : ChangeSpec := { name := "cpuWords", fn := fun _ => fun
  | [d] => { results := [.lit (.bool false)], args := [d] }
  | _ => none }
def CpuWordsWrongFalsely : Prop := cpuWordsRow.holds Tryd.pinned (OpenSpec.ofChange cpuWordsWrong)

/-- 'carrellaw02.CpuInstrs': WHATEVER THE INPUT: true; the input reads as it did. -/
def cpuInstrsSpec : ChangeSpec := { name := "cpuInstrs", fn := fun _ => fun
  | [d] => { results := [.lit (.bool true)], args := [d] }
  | _ => none }
def cpuInstrsRow : OpenClaim := { program := "ytnghhkageiceaaadoor", sum := "faae1c0cc562c505fa6f8e360135040d06bf0788427aa74c92ef143f8ae96817", func := "carrel/carrellaw02.CpuInstrs", spec := "cpuInstrs", named := ["carrel/cpu.takes"], apart := false, laid := [("carrel/cpu.takes", laid_carrel_cpu_takes)] }
def CpuInstrsSaid : Prop := cpuInstrsRow.holds Tryd.pinned (OpenSpec.ofChange cpuInstrsSpec)

/-- ITS FALSE NEIGHBOUR: 'it returns false'. Refute it at one input. -/
def cpuInstrsWrong : ChangeSpec := { name := "cpuInstrs", fn := fun _ => fun
  | [d] => { results := [.lit (.bool false)], args := [d] }
  | _ => none }
def CpuInstrsWrongFalsely : Prop := cpuInstrsRow.holds Tryd.pinned (OpenSpec.ofChange cpuInstrsWrong)

/-- 'carrellaw02.CpuBack': WHATEVER THE INPUT: true; the input reads as it did. -/
def cpuBackSpec : ChangeSpec := { name := "cpuBack", fn := fun _ => fun
  | [d1, d2] => { results := [.lit (.bool true)], args := [d1, d2] }
  | _ => none }
def cpuBackRow : OpenClaim := { program := "ytnghhkageiceaaadoor", sum := "faae1c0cc562c505fa6f8e360135040d06bf0788427aa74c92ef143f8ae96817", func := "carrel/carrellaw02.CpuBack", spec := "cpuBack", named := ["carrel/cpu.takes"], apart := false, laid := [("carrel/cpu.takes", laid_carrel_cpu_takes)] }
def CpuBackSaid : Prop := cpuBackRow.holds Tryd.pinned (OpenSpec.ofChange cpuBackSpec)

/-- ITS FALSE NEIGHBOUR: 'it returns false'. Refute it at one input. -/
def cpuBackWrong : ChangeSpec := { name := "cpuBack", fn := fun _ => fun
  | [d1, d2] => { results := [.lit (.bool false)], args := [d1, d2] }
  | _ => none }
def CpuBackWrongFalsely : Prop := cpuBackRow.holds Tryd.pinned (OpenSpec.ofChange cpuBackWrong)

/-- 'carrellaw02.CpuExecs': WHATEVER THE INPUT: true; the input reads as it did. -/
def cpuExecsSpec : ChangeSpec := { name := "cpuExecs", fn := fun _ => fun
  | [d1, d2, d3] => { results := [.lit (.bool true)], args := [d1, d2, d3] }
  | _ => none }
def cpuExecsRow : OpenClaim := { program := "ytnghhkageiceaaadoor", sum := "faae1c0cc562c505fa6f8e360135040d06bf0788427aa74c92ef143f8ae96817", func := "carrel/carrellaw02.CpuExecs", spec := "cpuExecs", named := ["carrel/cpu.takes"], apart := false, laid := [("carrel/cpu.takes", laid_carrel_cpu_takes)] }
def CpuExecsSaid : Prop := cpuExecsRow.holds Tryd.pinned (OpenSpec.ofChange cpuExecsSpec)

/-- ITS FALSE NEIGHBOUR: 'it returns false'. Refute it at one input. -/
def cpuExecsWrong : ChangeSpec := { name := "cpuExecs", fn := fun _ => fun
  | [d1, d2, d3] => { results := [.lit (.bool false)], args := [d1, d2, d3] }
  | _ => none }
def CpuExecsWrongFalsely : Prop := cpuExecsRow.holds Tryd.pinned (OpenSpec.ofChange cpuExecsWrong)

/-- 'carrellaw02.CpuRuns': WHATEVER THE INPUT: true; the input reads as it did. -/
def cpuRunsSpec : ChangeSpec := { name := "cpuRuns", fn := fun _ => fun
  | [d1, d2, d3] => { results := [.lit (.bool true)], args := [d1, d2, d3] }
  | _ => none }
def cpuRunsRow : OpenClaim := { program := "ytnghhkageiceaaadoor", sum := "faae1c0cc562c505fa6f8e360135040d06bf0788427aa74c92ef143f8ae96817", func := "carrel/carrellaw02.CpuRuns", spec := "cpuRuns", named := ["carrel/cpu.takes"], apart := false, laid := [("carrel/cpu.takes", laid_carrel_cpu_takes)] }
def CpuRunsSaid : Prop := cpuRunsRow.holds Tryd.pinned (OpenSpec.ofChange cpuRunsSpec)

/-- ITS FALSE NEIGHBOUR: 'it returns false'. Refute it at one input. -/
def cpuRunsWrong : ChangeSpec := { name := "cpuRuns", fn := fun _ => fun
  | [d1, d2, d3] => { results := [.lit (.bool false)], args := [d1, d2, d3] }
  | _ => none }
def CpuRunsWrongFalsely : Prop := cpuRunsRow.holds Tryd.pinned (OpenSpec.ofChange cpuRunsWrong)

/-- 'carrellaw02.CpuKeeps': WHATEVER THE INPUT: true; the input reads as it did. -/
def cpuKeepsSpec : ChangeSpec := { name := "cpuKeeps", fn := fun _ => fun
  | [d1, d2, d3] => { results := [.lit (.bool true)], args := [d1, d2, d3] }
  | _ => none }
def cpuKeepsRow : OpenClaim := { program := "ytnghhkageiceaaadoor", sum := "faae1c0cc562c505fa6f8e360135040d06bf0788427aa74c92ef143f8ae96817", func := "carrel/carrellaw02.CpuKeeps", spec := "cpuKeeps", named := ["carrel/cpu.takes"], apart := false, laid := [("carrel/cpu.takes", laid_carrel_cpu_takes)] }
def CpuKeepsSaid : Prop := cpuKeepsRow.holds Tryd.pinned (OpenSpec.ofChange cpuKeepsSpec)

/-- ITS FALSE NEIGHBOUR: 'it returns false'. Refute it at one input. -/
def cpuKeepsWrong : ChangeSpec := { name := "cpuKeeps", fn := fun _ => fun
  | [d1, d2, d3] => { results := [.lit (.bool false)], args := [d1, d2, d3] }
  | _ => none }
def CpuKeepsWrongFalsely : Prop := cpuKeepsRow.holds Tryd.pinned (OpenSpec.ofChange cpuKeepsWrong)

/-- 'carrellaw02.CpuWide': WHATEVER THE INPUT: true; the input reads as it did. -/
def cpuWideSpec : ChangeSpec := { name := "cpuWide", fn := fun _ => fun
  | [d1, d2] => { results := [.lit (.bool true)], args := [d1, d2] }
  | _ => none }
def cpuWideRow : OpenClaim := { program := "ytnghhkageiceaaadoor", sum := "faae1c0cc562c505fa6f8e360135040d06bf0788427aa74c92ef143f8ae96817", func := "carrel/carrellaw02.CpuWide", spec := "cpuWide", named := ["carrel/cpu.takes"], apart := false, laid := [("carrel/cpu.takes", laid_carrel_cpu_takes)] }
def CpuWideSaid : Prop := cpuWideRow.holds Tryd.pinned (OpenSpec.ofChange cpuWideSpec)

/-- ITS FALSE NEIGHBOUR: 'it returns false'. Refute it at one input. -/
def cpuWideWrong : ChangeSpec := { name := "cpuWide", fn := fun _ => fun
  | [d1, d2] => { results := [.lit (.bool false)], args := [d1, d2] }
  | _ => none }
def CpuWideWrongFalsely : Prop := cpuWideRow.holds Tryd.pinned (OpenSpec.ofChange cpuWideWrong)

/-- 'carrellaw02.CpuAccesses': WHATEVER THE INPUT: true; the input reads as it did. -/
def cpuAccessesSpec : ChangeSpec := { name := "cpuAccesses", fn := fun _ => fun
  | [d1, d2] => { results := [.lit (.bool true)], args := [d1, d2] }
  | _ => none }
def cpuAccessesRow : OpenClaim := { program := "ytnghhkageiceaaadoor", sum := "faae1c0cc562c505fa6f8e360135040d06bf0788427aa74c92ef143f8ae96817", func := "carrel/carrellaw02.CpuAccesses", spec := "cpuAccesses", named := ["carrel/cpu.takes"], apart := false, laid := [("carrel/cpu.takes", laid_carrel_cpu_takes)] }
def CpuAccessesSaid : Prop := cpuAccessesRow.holds Tryd.pinned (OpenSpec.ofChange cpuAccessesSpec)

/-- ITS FALSE NEIGHBOUR: 'it returns false'. Refute it at one input. -/
def cpuAccessesWrong : ChangeSpec := { name := "cpuAccesses", fn := fun _ => fun
  | [d1, d2] => { results := [.lit (.bool false)], args := [d1, d2] }
  | _ => none }
def CpuAccessesWrongFalsely : Prop := cpuAccessesRow.holds Tryd.pinned (OpenSpec.ofChange cpuAccessesWrong)

/- THE SECOND FORM. 'bulk': how many values and letters a reading holds, each counted each time it is reached (what is shared counts as often as it is met; a slice's spare places count too). A statement '..UptoSaid' is the law's where the arguments, and the package variables that the reading takes, are together of bulk at most 1048576: NARROWER than '..Said'. Prove '..Said' where nothing that the law and all that it calls make is longer than what came in: it says more and counts as full. Else prove '..UptoSaid'. A law counts once. -/
mutual
def uptoBulk {H : Type} : DataW H → Nat
  | .lit (.string bytes) => bytes.length + 1
  | .lit _ => 1
  | .nil => 1
  | .ptr d => uptoBulk d + 1
  | .slice elems spare => uptoBulkAll elems + uptoBulkAll spare + 1
  | .agg parts => uptoBulkAll parts + 1
  | .iface _ d => uptoBulk d + 1
  | .map entries => uptoBulkEntries entries + 1
  | .held _ => 1
def uptoBulkAll {H : Type} : List (DataW H) → Nat
  | [] => 0
  | d :: r => uptoBulk d + uptoBulkAll r
def uptoBulkEntries {H : Type} : List (Lit × DataW H) → Nat
  | [] => 0
  | x :: r => uptoBulkEntry x + uptoBulkEntries r
def uptoBulkEntry {H : Type} : Lit × DataW H → Nat
  | (.string bytes, d) => bytes.length + uptoBulk d + 1
  | (_, d) => uptoBulk d + 1
 end
def uptoSmall : (H : Type) → List (DataW H) → Bool := fun _ ds => decide (uptoBulkAll ds ≤ 1048576)
def OpenSpec.upto (s : _root_.Go.ChangeSpec) : _root_.Go.OpenSpec := { _root_.Go.OpenSpec.ofChange s with cond := some uptoSmall }

/-- 'carrellaw02.CpuDivides', WHERE WHAT IT READS IS OF BULK AT MOST 1048576: true; the input reads as it did. -/
def cpuDividesUptoRow : OpenClaim := { program := "ytnghhkageiceaaadoor", sum := "faae1c0cc562c505fa6f8e360135040d06bf0788427aa74c92ef143f8ae96817", func := "carrel/carrellaw02.CpuDivides", spec := "cpuDivides", named := ["carrel/cpu.takes"], apart := false, laid := [("carrel/cpu.takes", laid_carrel_cpu_takes)], narrowed := true }
def CpuDividesUptoSaid : Prop := cpuDividesUptoRow.holds Tryd.pinned (OpenSpec.upto cpuDividesSpec)

/-- 'carrellaw02.CpuWords', WHERE WHAT IT READS IS OF BULK AT MOST 1048576: true; the input reads as it did. -/
def cpuWordsUptoRow : OpenClaim := { program := "ytnghhkageiceaaadoor", sum := "faae1c0cc562c505fa6f8e360135040d06bf0788427aa74c92ef143f8ae96817", func := "carrel/carrellaw02.CpuWords", spec := "cpuWords", named := ["carrel/cpu.takes"], apart := false, laid := [("carrel/cpu.takes", laid_carrel_cpu_takes)], narrowed := true }
def CpuWordsUptoSaid : Prop := cpuWordsUptoRow.holds Tryd.pinned (OpenSpec.upto cpuWordsSpec)

/-- 'carrellaw02.CpuInstrs', WHERE WHAT IT READS IS OF BULK AT MOST 1048576: true; the input reads as it did. -/
def cpuInstrsUptoRow : OpenClaim := { program := "ytnghhkageiceaaadoor", sum := "faae1c0cc562c505fa6f8e360135040d06bf0788427aa74c92ef143f8ae96817", func := "carrel/carrellaw02.CpuInstrs", spec := "cpuInstrs", named := ["carrel/cpu.takes"], apart := false, laid := [("carrel/cpu.takes", laid_carrel_cpu_takes)], narrowed := true }
def CpuInstrsUptoSaid : Prop := cpuInstrsUptoRow.holds Tryd.pinned (OpenSpec.upto cpuInstrsSpec)

/-- 'carrellaw02.CpuBack', WHERE WHAT IT READS IS OF BULK AT MOST 1048576: true; the input reads as it did. -/
def cpuBackUptoRow : OpenClaim := { program := "ytnghhkageiceaaadoor", sum := "faae1c0cc562c505fa6f8e360135040d06bf0788427aa74c92ef143f8ae96817", func := "carrel/carrellaw02.CpuBack", spec := "cpuBack", named := ["carrel/cpu.takes"], apart := false, laid := [("carrel/cpu.takes", laid_carrel_cpu_takes)], narrowed := true }
def CpuBackUptoSaid : Prop := cpuBackUptoRow.holds Tryd.pinned (OpenSpec.upto cpuBackSpec)

/-- 'carrellaw02.CpuExecs', WHERE WHAT IT READS IS OF BULK AT MOST 1048576: true; the input reads as it did. -/
def cpuExecsUptoRow : OpenClaim := { program := "ytnghhkageiceaaadoor", sum := "faae1c0cc562c505fa6f8e360135040d06bf0788427aa74c92ef143f8ae96817", func := "carrel/carrellaw02.CpuExecs", spec := "cpuExecs", named := ["carrel/cpu.takes"], apart := false, laid := [("carrel/cpu.takes", laid_carrel_cpu_takes)], narrowed := true }
def CpuExecsUptoSaid : Prop := cpuExecsUptoRow.holds Tryd.pinned (OpenSpec.upto cpuExecsSpec)

/-- 'carrellaw02.CpuRuns', WHERE WHAT IT READS IS OF BULK AT MOST 1048576: true; the input reads as it did. -/
def cpuRunsUptoRow : OpenClaim := { program := "ytnghhkageiceaaadoor", sum := "faae1c0cc562c505fa6f8e360135040d06bf0788427aa74c92ef143f8ae96817", func := "carrel/carrellaw02.CpuRuns", spec := "cpuRuns", named := ["carrel/cpu.takes"], apart := false, laid := [("carrel/cpu.takes", laid_carrel_cpu_takes)], narrowed := true }
def CpuRunsUptoSaid : Prop := cpuRunsUptoRow.holds Tryd.pinned (OpenSpec.upto cpuRunsSpec)

/-- 'carrellaw02.CpuKeeps', WHERE WHAT IT READS IS OF BULK AT MOST 1048576: true; the input reads as it did. -/
def cpuKeepsUptoRow : OpenClaim := { program := "ytnghhkageiceaaadoor", sum := "faae1c0cc562c505fa6f8e360135040d06bf0788427aa74c92ef143f8ae96817", func := "carrel/carrellaw02.CpuKeeps", spec := "cpuKeeps", named := ["carrel/cpu.takes"], apart := false, laid := [("carrel/cpu.takes", laid_carrel_cpu_takes)], narrowed := true }
def CpuKeepsUptoSaid : Prop := cpuKeepsUptoRow.holds Tryd.pinned (OpenSpec.upto cpuKeepsSpec)

/-- 'carrellaw02.CpuWide', WHERE WHAT IT READS IS OF BULK AT MOST 1048576: true; the input reads as it did. -/
def cpuWideUptoRow : OpenClaim := { program := "ytnghhkageiceaaadoor", sum := "faae1c0cc562c505fa6f8e360135040d06bf0788427aa74c92ef143f8ae96817", func := "carrel/carrellaw02.CpuWide", spec := "cpuWide", named := ["carrel/cpu.takes"], apart := false, laid := [("carrel/cpu.takes", laid_carrel_cpu_takes)], narrowed := true }
def CpuWideUptoSaid : Prop := cpuWideUptoRow.holds Tryd.pinned (OpenSpec.upto cpuWideSpec)

/-- 'carrellaw02.CpuAccesses', WHERE WHAT IT READS IS OF BULK AT MOST 1048576: true; the input reads as it did. -/
def cpuAccessesUptoRow : OpenClaim := { program := "ytnghhkageiceaaadoor", sum := "faae1c0cc562c505fa6f8e360135040d06bf0788427aa74c92ef143f8ae96817", func := "carrel/carrellaw02.CpuAccesses", spec := "cpuAccesses", named := ["carrel/cpu.takes"], apart := false, laid := [("carrel/cpu.takes", laid_carrel_cpu_takes)], narrowed := true }
def CpuAccessesUptoSaid : Prop := cpuAccessesUptoRow.holds Tryd.pinned (OpenSpec.upto cpuAccessesSpec)

end Rows
end Go.Proofs.YtnghhkageiceaaaDoor
