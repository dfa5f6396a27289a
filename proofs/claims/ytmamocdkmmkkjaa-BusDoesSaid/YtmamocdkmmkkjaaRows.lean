/-
  No cell of these rows narrows 'for every input' (looked for: loops, veiled, ifaces, maps, wideKeys, modest, calm, conditions, laid).
  DERIVED. THE GIVEN ROWS OF THIS SEAT. 4 by the template 'for every input the law returns true; each argument reads behind the call as it read before'; 0 by the template 'total and deterministic' (their statements: YtmamocdkmmkkjaaTotals.lean).
  GIVEN WITH THE SEED: the statements are not yours to turn. If you find one false, say at which input.
  Laid BY PROGRAM, IN A SANDBOX (cutbox-rows.mjs): the forced cells as the released guide's own fill.sh prints them over the translation df491fecf70f7e82… (all of the seat's roots in one cut). By AI agents, Wed Nov 11 2026. No macro, syntax, notation, axiom, sorry.
-/
import Derived.Test.YtmamocdkmmkkjaaChecked
import GoSem.Claim
import GoSem.ClaimJoined
import GoSem.ClaimMapViews
import Derived.JoinedTies
import Derived.KernelRfl
namespace Go.Proofs.Ytmamocdkmmkkjaa
/- THE CELL 'sum', in the pinned program and in every row, IS THE sha256 OF THE DUMP (.gsa) THAT YtmamocdkmmkkjaaProg.lean LOADS. Nothing in Lean hashes anything: it is a label: what it is worth is what the hold of that sum in a sandbox is worth. -/
noncomputable def Try.pinned : Pinned := { name := "ytmamocdkmmkkjaa", sum := "df491fecf70f7e827cb6c39e9725f94509d03706e9757f9dece571b17978a88b", checked := Try.checked }
namespace Rows
def none {H : Type} : Left H := { results := [], args := [] }

/-- 'carrellaw04.BusMemory': WHATEVER THE INPUT: true; the input reads as it did. -/
def busMemorySpec : ChangeSpec := { name := "busMemory", fn := fun _ => fun
  | [d1, d2, d3] => { results := [.lit (.bool true)], args := [d1, d2, d3] }
  | _ => none }
def busMemoryRow : OpenClaim := { program := "ytmamocdkmmkkjaa", sum := "df491fecf70f7e827cb6c39e9725f94509d03706e9757f9dece571b17978a88b", func := "carrel/carrellaw04.BusMemory", spec := "busMemory", unfollowed := true, recurses := true, apart := false }
def BusMemorySaid : Prop := busMemoryRow.holds Try.pinned (OpenSpec.ofChange busMemorySpec)

/-- ITS FALSE NEIGHBOUR: 'it returns false'. Refute it at one input. -/
def busMemoryWrong : ChangeSpec := { name := "busMemory", fn := fun _ => fun
  | [d1, d2, d3] => { results := [.lit (.bool false)], args := [d1, d2, d3] }
  | _ => none }
def BusMemoryWrongFalsely : Prop := busMemoryRow.holds Try.pinned (OpenSpec.ofChange busMemoryWrong)

/-- 'carrellaw04.BusDisk': WHATEVER THE INPUT: true; the input reads as it did. -/
def busDiskSpec : ChangeSpec := { name := "busDisk", fn := fun _ => fun
  | [d1, d2, d3, d4, d5] => { results := [.lit (.bool true)], args := [d1, d2, d3, d4, d5] }
  | _ => none }
def busDiskRow : OpenClaim := { program := "ytmamocdkmmkkjaa", sum := "df491fecf70f7e827cb6c39e9725f94509d03706e9757f9dece571b17978a88b", func := "carrel/carrellaw04.BusDisk", spec := "busDisk", unfollowed := true, recurses := true, apart := false }
def BusDiskSaid : Prop := busDiskRow.holds Try.pinned (OpenSpec.ofChange busDiskSpec)

/-- ITS FALSE NEIGHBOUR: 'it returns false'. Refute it at one input. -/
def busDiskWrong : ChangeSpec := { name := "busDisk", fn := fun _ => fun
  | [d1, d2, d3, d4, d5] => { results := [.lit (.bool false)], args := [d1, d2, d3, d4, d5] }
  | _ => none }
def BusDiskWrongFalsely : Prop := busDiskRow.holds Try.pinned (OpenSpec.ofChange busDiskWrong)

/-- 'carrellaw04.BusLine': WHATEVER THE INPUT: true; the input reads as it did. -/
def busLineSpec : ChangeSpec := { name := "busLine", fn := fun _ => fun
  | [d1, d2] => { results := [.lit (.bool true)], args := [d1, d2] }
  | _ => none }
def busLineRow : OpenClaim := { program := "ytmamocdkmmkkjaa", sum := "df491fecf70f7e827cb6c39e9725f94509d03706e9757f9dece571b17978a88b", func := "carrel/carrellaw04.BusLine", spec := "busLine", unfollowed := true, recurses := true, apart := false }
def BusLineSaid : Prop := busLineRow.holds Try.pinned (OpenSpec.ofChange busLineSpec)

/-- ITS FALSE NEIGHBOUR: 'it returns false'. Refute it at one input. -/
def busLineWrong : ChangeSpec := { name := "busLine", fn := fun _ => fun
  | [d1, d2] => { results := [.lit (.bool false)], args := [d1, d2] }
  | _ => none }
def BusLineWrongFalsely : Prop := busLineRow.holds Try.pinned (OpenSpec.ofChange busLineWrong)

/-- 'carrellaw04.BusDoes': WHATEVER THE INPUT: true; the input reads as it did. -/
def busDoesSpec : ChangeSpec := { name := "busDoes", fn := fun _ => fun
  | [d1, d2, d3] => { results := [.lit (.bool true)], args := [d1, d2, d3] }
  | _ => none }
def busDoesRow : OpenClaim := { program := "ytmamocdkmmkkjaa", sum := "df491fecf70f7e827cb6c39e9725f94509d03706e9757f9dece571b17978a88b", func := "carrel/carrellaw04.BusDoes", spec := "busDoes", unfollowed := true, recurses := true, apart := false }
def BusDoesSaid : Prop := busDoesRow.holds Try.pinned (OpenSpec.ofChange busDoesSpec)

/-- ITS FALSE NEIGHBOUR: 'it returns false'. Refute it at one input. -/
def busDoesWrong : ChangeSpec := { name := "busDoes", fn := fun _ => fun
  | [d1, d2, d3] => { results := [.lit (.bool false)], args := [d1, d2, d3] }
  | _ => none }
def BusDoesWrongFalsely : Prop := busDoesRow.holds Try.pinned (OpenSpec.ofChange busDoesWrong)

/- THE SECOND FORM. 'bulk': how many values and letters a reading holds, each counted each time it is reached (what is shared counts as often as it is met; a slice's spare places count too). A statement '..UptoSaid' is the law's where the arguments, and the package variables that the reading takes, are together of bulk at most 1048576: NARROWER than '..Said'. Prove '..Said' where nothing that the law and all that it calls make is longer than what came in: it says more and counts as full. Else prove '..UptoSaid'. A law counts once. -/
mutual
def uptoBulk {H : Type} : DataW H → Nat
  | .lit (.string bytes) => bytes.length + 1
  | .lit _ => 1
  | .nil => 1
  | .ptr d => uptoBulk d + 1
  | .slice elems spare => uptoBulkAll elems + uptoBulkAll spare + 1
  | .agg parts => uptoBulkAll parts + 1
  | .iface _ d => uptoBulk d + 1
  | .map entries => uptoBulkEntries entries + 1
  | .held _ => 1
def uptoBulkAll {H : Type} : List (DataW H) → Nat
  | [] => 0
  | d :: r => uptoBulk d + uptoBulkAll r
def uptoBulkEntries {H : Type} : List (Lit × DataW H) → Nat
  | [] => 0
  | x :: r => uptoBulkEntry x + uptoBulkEntries r
def uptoBulkEntry {H : Type} : Lit × DataW H → Nat
  | (.string bytes, d) => bytes.length + uptoBulk d + 1
  | (_, d) => uptoBulk d + 1
 end
def uptoSmall : (H : Type) → List (DataW H) → Bool := fun _ ds => decide (uptoBulkAll ds ≤ 1048576)
def OpenSpec.upto (s : _root_.Go.ChangeSpec) : _root_.Go.OpenSpec := { _root_.Go.OpenSpec.ofChange s with cond := some uptoSmall }

/-- 'carrellaw04.BusMemory', WHERE WHAT IT READS IS OF BULK AT MOST 1048576: true; the input reads as it did. -/
def busMemoryUptoRow : OpenClaim := { program := "ytmamocdkmmkkjaa", sum := "df491fecf70f7e827cb6c39e9725f94509d03706e9757f9dece571b17978a88b", func := "carrel/carrellaw04.BusMemory", spec := "busMemory", unfollowed := true, recurses := true, apart := false, narrowed := true }
def BusMemoryUptoSaid : Prop := busMemoryUptoRow.holds Try.pinned (OpenSpec.upto busMemorySpec)

/-- 'carrellaw04.BusDisk', WHERE WHAT IT READS IS OF BULK AT MOST 1048576: true; the input reads as it did. -/
def busDiskUptoRow : OpenClaim := { program := "ytmamocdkmmkkjaa", sum := "df491fecf70f7e827cb6c39e9725f94509d03706e9757f9dece571b17978a88b", func := "carrel/carrellaw04.BusDisk", spec := "busDisk", unfollowed := true, recurses := true, apart := false, narrowed := true }
def BusDiskUptoSaid : Prop := busDiskUptoRow.holds Try.pinned (OpenSpec.upto busDiskSpec)

/-- 'carrellaw04.BusLine', WHERE WHAT IT READS IS OF BULK AT MOST 1048576: true; the input reads as it did. -/
def busLineUptoRow : OpenClaim := { program := "ytmamocdkmmkkjaa", sum := "df491fecf70f7e827cb6c39e9725f94509d03706e9757f9dece571b17978a88b", func := "carrel/carrellaw04.BusLine", spec := "busLine", unfollowed := true, recurses := true, apart := false, narrowed := true }
def BusLineUptoSaid : Prop := busLineUptoRow.holds Try.pinned (OpenSpec.upto busLineSpec)

/-- 'carrellaw04.BusDoes', WHERE WHAT IT READS IS OF BULK AT MOST 1048576: true; the input reads as it did. -/
def busDoesUptoRow : OpenClaim := { program := "ytmamocdkmmkkjaa", sum := "df491fecf70f7e827cb6c39e9725f94509d03706e9757f9dece571b17978a88b", func := "carrel/carrellaw04.BusDoes", spec := "busDoes", unfollowed := true, recurses := true, apart := false, narrowed := true }
def BusDoesUptoSaid : Prop := busDoesUptoRow.holds Try.pinned (OpenSpec.upto busDoesSpec)

end Rows
end Go.Proofs.Ytmamocdkmmkkjaa
