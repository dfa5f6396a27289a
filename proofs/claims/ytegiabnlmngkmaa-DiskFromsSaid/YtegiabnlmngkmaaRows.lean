/-
  No cell of these rows narrows 'for every input' (looked for: loops, veiled, ifaces, maps, wideKeys, modest, calm, conditions, laid).
  DERIVED. THE GIVEN ROWS OF THIS SEAT. 6 by the template 'for every input the law returns true; each argument reads behind the call as it read before'; 0 by the template 'total and deterministic' (their statements: YtegiabnlmngkmaaTotals.lean).
  GIVEN WITH THE SEED: the statements are not yours to turn. If you find one false, say at which input.
  Laid BY PROGRAM, IN A SANDBOX (cutbox-rows.mjs): the forced cells as the released guide's own fill.sh prints them over the translation 402d000197d736a2… (all of the seat's roots in one cut). By AI agents, Wed Nov 11 2026. No macro, syntax, notation, axiom, sorry.
-/
import Derived.Test.YtegiabnlmngkmaaChecked
import GoSem.Claim
import GoSem.ClaimJoined
import GoSem.ClaimMapViews
import Derived.JoinedTies
import Derived.KernelRfl
namespace Go.Proofs.Ytegiabnlmngkmaa
/- THE CELL 'sum', in the pinned program and in every row, IS THE sha256 OF THE DUMP (.gsa) THAT YtegiabnlmngkmaaProg.lean LOADS. Nothing in Lean hashes anything: it is a label: what it is worth is what the hold of that sum in a sandbox is worth. -/
noncomputable def Try.pinned : Pinned := { name := "ytegiabnlmngkmaa", sum := "402d000197d736a2e390fb18bb6424e3c3f99f84067cd29f8e83b80a87becc12", checked := Try.checked }
namespace Rows
def none {H : Type} : Left H := { results := [], args := [] }

/-- 'carrellaw03.DiskLast': WHATEVER THE INPUT: true; the input reads as it did. -/
def diskLastSpec : ChangeSpec := { name := "diskLast", fn := fun _ => fun
  | [d1, d2, d3, d4] => { results := [.lit (.bool true)], args := [d1, d2, d3, d4] }
  | _ => none }
def diskLastRow : OpenClaim := { program := "ytegiabnlmngkmaa", sum := "402d000197d736a2e390fb18bb6424e3c3f99f84067cd29f8e83b80a87becc12", func := "carrel/carrellaw03.DiskLast", spec := "diskLast", unfollowed := true, recurses := true, apart := false }
def DiskLastSaid : Prop := diskLastRow.holds Try.pinned (OpenSpec.ofChange diskLastSpec)

/-- ITS FALSE NEIGHBOUR: 'it returns false'. Refute it at one input. -/
def diskLastWrong : ChangeSpec := { name := "diskLast", fn := fun _ => fun
  | [d1, d2, d3, d4] => { results := [.lit (.bool false)], args := [d1, d2, d3, d4] }
  | _ => none }
def DiskLastWrongFalsely : Prop := diskLastRow.holds Try.pinned (OpenSpec.ofChange diskLastWrong)

/-- 'carrellaw03.DiskWears': WHATEVER THE INPUT: true; the input reads as it did. -/
def diskWearsSpec : ChangeSpec := { name := "diskWears", fn := fun _ => fun
  | [d] => { results := [.lit (.bool true)], args := [d] }
  | _ => none }
def diskWearsRow : OpenClaim := { program := "ytegiabnlmngkmaa", sum := "402d000197d736a2e390fb18bb6424e3c3f99f84067cd29f8e83b80a87becc12", func := "carrel/carrellaw03.DiskWears", spec := "diskWears", unfollowed := true, recurses := true, apart := false }
def DiskWearsSaid : Prop := diskWearsRow.holds Try.pinned (OpenSpec.ofChange diskWearsSpec)

/-- ITS FALSE NEIGHBOUR: 'it returns false'. Refute it at one input. -/
def diskWearsWrong : ChangeSpec := { name := "diskWears", fn := fun _ => fun
  | [d] => { results := [.lit (.bool false)], args := [d] }
  | _ => none }
def DiskWearsWrongFalsely : Prop := diskWearsRow.holds Try.pinned (OpenSpec.ofChange diskWearsWrong)

/-- 'carrellaw03.DiskDoes': WHATEVER THE INPUT: true; the input reads as it did. -/
def diskDoesSpec : ChangeSpec := { name := "diskDoes", fn := fun _ => fun
  | [d1, d2] => { results := [.lit (.bool true)], args := [d1, d2] }
  | _ => none }
def diskDoesRow : OpenClaim := { program := "ytegiabnlmngkmaa", sum := "402d000197d736a2e390fb18bb6424e3c3f99f84067cd29f8e83b80a87becc12", func := "carrel/carrellaw03.DiskDoes", spec := "diskDoes", unfollowed := true, recurses := true, apart := false }
def DiskDoesSaid : Prop := diskDoesRow.holds Try.pinned (OpenSpec.ofChange diskDoesSpec)

/-- ITS FALSE NEIGHBOUR: 'it returns false'. Refute it at one input. -/
def diskDoesWrong : ChangeSpec := { name := "diskDoes", fn := fun _ => fun
  | [d1, d2] => { results := [.lit (.bool false)], args := [d1, d2] }
  | _ => none }
def DiskDoesWrongFalsely : Prop := diskDoesRow.holds Try.pinned (OpenSpec.ofChange diskDoesWrong)

/-- 'carrellaw03.DiskFroms': WHATEVER THE INPUT: true; the input reads as it did. -/
def diskFromsSpec : ChangeSpec := { name := "diskFroms", fn := fun _ => fun
  | [d1, d2] => { results := [.lit (.bool true)], args := [d1, d2] }
  | _ => none }
def diskFromsRow : OpenClaim := { program := "ytegiabnlmngkmaa", sum := "402d000197d736a2e390fb18bb6424e3c3f99f84067cd29f8e83b80a87becc12", func := "carrel/carrellaw03.DiskFroms", spec := "diskFroms", unfollowed := true, recurses := true, apart := false }
def DiskFromsSaid : Prop := diskFromsRow.holds Try.pinned (OpenSpec.ofChange diskFromsSpec)

/-- ITS FALSE NEIGHBOUR: 'it returns false'. Refute it at one input. -/
def diskFromsWrong : ChangeSpec := { name := "diskFroms", fn := fun _ => fun
  | [d1, d2] => { results := [.lit (.bool false)], args := [d1, d2] }
  | _ => none }
def DiskFromsWrongFalsely : Prop := diskFromsRow.holds Try.pinned (OpenSpec.ofChange diskFromsWrong)

/-- 'carrellaw03.DiskCuts': WHATEVER THE INPUT: true; the input reads as it did. -/
def diskCutsSpec : ChangeSpec := { name := "diskCuts", fn := fun _ => fun
  | [d1, d2, d3] => { results := [.lit (.bool true)], args := [d1, d2, d3] }
  | _ => none }
def diskCutsRow : OpenClaim := { program := "ytegiabnlmngkmaa", sum := "402d000197d736a2e390fb18bb6424e3c3f99f84067cd29f8e83b80a87becc12", func := "carrel/carrellaw03.DiskCuts", spec := "diskCuts", unfollowed := true, recurses := true, apart := false }
def DiskCutsSaid : Prop := diskCutsRow.holds Try.pinned (OpenSpec.ofChange diskCutsSpec)

/-- ITS FALSE NEIGHBOUR: 'it returns false'. Refute it at one input. -/
def diskCutsWrong : ChangeSpec := { name := "diskCuts", fn := fun _ => fun
  | [d1, d2, d3] => { results := [.lit (.bool false)], args := [d1, d2, d3] }
  | _ => none }
def DiskCutsWrongFalsely : Prop := diskCutsRow.holds Try.pinned (OpenSpec.ofChange diskCutsWrong)

/-- 'carrellaw03.DiskNone': WHATEVER THE INPUT: true; the input reads as it did. -/
def diskNoneSpec : ChangeSpec := { name := "diskNone", fn := fun _ => fun
  | [d1, d2] => { results := [.lit (.bool true)], args := [d1, d2] }
  | _ => none }
def diskNoneRow : OpenClaim := { program := "ytegiabnlmngkmaa", sum := "402d000197d736a2e390fb18bb6424e3c3f99f84067cd29f8e83b80a87becc12", func := "carrel/carrellaw03.DiskNone", spec := "diskNone", unfollowed := true, recurses := true, apart := false }
def DiskNoneSaid : Prop := diskNoneRow.holds Try.pinned (OpenSpec.ofChange diskNoneSpec)

/-- ITS FALSE NEIGHBOUR: 'it returns false'. Refute it at one input. -/
def diskNoneWrong : ChangeSpec := { name := "diskNone", fn := fun _ => fun
  | [d1, d2] => { results := [.lit (.bool false)], args := [d1, d2] }
  | _ => none }
def DiskNoneWrongFalsely : Prop := diskNoneRow.holds Try.pinned (OpenSpec.ofChange diskNoneWrong)

/- THE SECOND FORM. 'bulk': how many values and letters a reading holds, each counted each time it is reached (what is shared counts as often as it is met; a slice's spare places count too). A statement '..UptoSaid' is the law's where the arguments, and the package variables that the reading takes, are together of bulk at most 1048576: NARROWER than '..Said'. Prove '..Said' where nothing that the law and all that it calls make is longer than what came in: it says more and counts as full. Else prove '..UptoSaid'. A law counts once. -/
mutual
def uptoBulk {H : Type} : DataW H → Nat
  | .lit (.string bytes) => bytes.length + 1
  | .lit _ => 1
  | .nil => 1
  | .ptr d => uptoBulk d + 1
  | .slice elems spare => uptoBulkAll elems + uptoBulkAll spare + 1
  | .agg parts => uptoBulkAll parts + 1
  | .iface _ d => uptoBulk d + 1
  | .map entries => uptoBulkEntries entries + 1
  | .held _ => 1
def uptoBulkAll {H : Type} : List (DataW H) → Nat
  | [] => 0
  | d :: r => uptoBulk d + uptoBulkAll r
def uptoBulkEntries {H : Type} : List (Lit × DataW H) → Nat
  | [] => 0
  | x :: r => uptoBulkEntry x + uptoBulkEntries r
def uptoBulkEntry {H : Type} : Lit × DataW H → Nat
  | (.string bytes, d) => bytes.length + uptoBulk d + 1
  | (_, d) => uptoBulk d + 1
 end
def uptoSmall : (H : Type) → List (DataW H) → Bool := fun _ ds => decide (uptoBulkAll ds ≤ 1048576)
def OpenSpec.upto (s : _root_.Go.ChangeSpec) : _root_.Go.OpenSpec := { _root_.Go.OpenSpec.ofChange s with cond := some uptoSmall }

/-- 'carrellaw03.DiskLast', WHERE WHAT IT READS IS OF BULK AT MOST 1048576: true; the input reads as it did. -/
def diskLastUptoRow : OpenClaim := { program := "ytegiabnlmngkmaa", sum := "402d000197d736a2e390fb18bb6424e3c3f99f84067cd29f8e83b80a87becc12", func := "carrel/carrellaw03.DiskLast", spec := "diskLast", unfollowed := true, recurses := true, apart := false, narrowed := true }
def DiskLastUptoSaid : Prop := diskLastUptoRow.holds Try.pinned (OpenSpec.upto diskLastSpec)

/-- 'carrellaw03.DiskWears', WHERE WHAT IT READS IS OF BULK AT MOST 1048576: true; the input reads as it did. -/
def diskWearsUptoRow : OpenClaim := { program := "ytegiabnlmngkmaa", sum := "402d000197d736a2e390fb18bb6424e3c3f99f84067cd29f8e83b80a87becc12", func := "carrel/carrellaw03.DiskWears", spec := "diskWears", unfollowed := true, recurses := true, apart := false, narrowed := true }
def DiskWearsUptoSaid : Prop := diskWearsUptoRow.holds Try.pinned (OpenSpec.upto diskWearsSpec)

/-- 'carrellaw03.DiskDoes', WHERE WHAT IT READS IS OF BULK AT MOST 1048576: true; the input reads as it did. -/
def diskDoesUptoRow : OpenClaim := { program := "ytegiabnlmngkmaa", sum := "402d000197d736a2e390fb18bb6424e3c3f99f84067cd29f8e83b80a87becc12", func := "carrel/carrellaw03.DiskDoes", spec := "diskDoes", unfollowed := true, recurses := true, apart := false, narrowed := true }
def DiskDoesUptoSaid : Prop := diskDoesUptoRow.holds Try.pinned (OpenSpec.upto diskDoesSpec)

/-- 'carrellaw03.DiskFroms', WHERE WHAT IT READS IS OF BULK AT MOST 1048576: true; the input reads as it did. -/
def diskFromsUptoRow : OpenClaim := { program := "ytegiabnlmngkmaa", sum := "402d000197d736a2e390fb18bb6424e3c3f99f84067cd29f8e83b80a87becc12", func := "carrel/carrellaw03.DiskFroms", spec := "diskFroms", unfollowed := true, recurses := true, apart := false, narrowed := true }
def DiskFromsUptoSaid : Prop := diskFromsUptoRow.holds Try.pinned (OpenSpec.upto diskFromsSpec)

/-- 'carrellaw03.DiskCuts', WHERE WHAT IT READS IS OF BULK AT MOST 1048576: true; the input reads as it did. -/
def diskCutsUptoRow : OpenClaim := { program := "ytegiabnlmngkmaa", sum := "402d000197d736a2e390fb18bb6424e3c3f99f84067cd29f8e83b80a87becc12", func := "carrel/carrellaw03.DiskCuts", spec := "diskCuts", unfollowed := true, recurses := true, apart := false, narrowed := true }
def DiskCutsUptoSaid : Prop := diskCutsUptoRow.holds Try.pinned (OpenSpec.upto diskCutsSpec)

/-- 'carrellaw03.DiskNone', WHERE WHAT IT READS IS OF BULK AT MOST 1048576: true; the input reads as it did. -/
def diskNoneUptoRow : OpenClaim := { program := "ytegiabnlmngkmaa", sum := "402d000197d736a2e390fb18bb6424e3c3f99f84067cd29f8e83b80a87becc12", func := "carrel/carrellaw03.DiskNone", spec := "diskNone", unfollowed := true, recurses := true, apart := false, narrowed := true }
def DiskNoneUptoSaid : Prop := diskNoneUptoRow.holds Try.pinned (OpenSpec.upto diskNoneSpec)

end Rows
end Go.Proofs.Ytegiabnlmngkmaa
