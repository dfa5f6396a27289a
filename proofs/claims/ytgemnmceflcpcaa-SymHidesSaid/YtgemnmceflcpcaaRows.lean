/-
  NARROWER THAN 'FOR EVERY INPUT', by the rows' own cells (each row's printed sentence says how): SymHides: loops.
  DERIVED. THE GIVEN ROWS OF THIS SEAT. 5 by the template 'for every input the law returns true; each argument reads behind the call as it read before'; 0 by the template 'total and deterministic' (their statements: YtgemnmceflcpcaaTotals.lean).
  GIVEN WITH THE SEED: the statements are not yours to turn. If you find one false, say at which input.
  Laid BY PROGRAM, IN A SANDBOX (cutbox-rows.mjs): the forced cells as the released guide's own fill.sh prints them over the translation 7dafad92c961a357… (all of the seat's roots in one cut). By AI agents, Wed Nov 11 2026. No macro, syntax, notation, axiom, sorry.
-/
import Derived.Test.YtgemnmceflcpcaaChecked
import GoSem.Claim
import GoSem.ClaimJoined
import GoSem.ClaimMapViews
import Derived.JoinedTies
import Derived.KernelRfl
namespace Go.Proofs.Ytgemnmceflcpcaa
/- THE CELL 'sum', in the pinned program and in every row, IS THE sha256 OF THE DUMP (.gsa) THAT YtgemnmceflcpcaaProg.lean LOADS. Nothing in Lean hashes anything: it is a label: what it is worth is what the hold of that sum in a sandbox is worth. -/
noncomputable def Try.pinned : Pinned := { name := "ytgemnmceflcpcaa", sum := "7dafad92c961a3575e018b713c1b5231cb8822573bf9b688851edf99a15c1303", checked := Try.checked }
namespace Rows
def none {H : Type} : Left H := { results := [], args := [] }

/-- 'carrellaw13.SymBytes': WHATEVER THE INPUT: true; the input reads as it did. -/
def symBytesSpec : ChangeSpec := { name := "symBytes", fn := fun _ => fun
  | [d] => { results := [.lit (.bool true)], args := [d] }
  | _ => none }
def symBytesRow : OpenClaim := { program := "ytgemnmceflcpcaa", sum := "7dafad92c961a3575e018b713c1b5231cb8822573bf9b688851edf99a15c1303", func := "carrel/carrellaw13.SymBytes", spec := "symBytes", unfollowed := true, recurses := true, apart := false }
def SymBytesSaid : Prop := symBytesRow.holds Try.pinned (OpenSpec.ofChange symBytesSpec)

/-- ITS FALSE NEIGHBOUR: 'it returns false'. Refute it at one input. -/
def symBytesWrong : ChangeSpec := { name := "symBytes", fn := fun _ => fun
  | [d] => { results := [.lit (.bool false)], args := [d] }
  | _ => none }
def SymBytesWrongFalsely : Prop := symBytesRow.holds Try.pinned (OpenSpec.ofChange symBytesWrong)

/-- 'carrellaw13.SymHides': WHATEVER THE INPUT: true; the input reads as it did. -/
def symHidesSpec : ChangeSpec := { name := "symHides", fn := fun _ => fun
  | [d1, d2, d3, d4] => { results := [.lit (.bool true)], args := [d1, d2, d3, d4] }
  | _ => none }
def symHidesRow : OpenClaim := { program := "ytgemnmceflcpcaa", sum := "7dafad92c961a3575e018b713c1b5231cb8822573bf9b688851edf99a15c1303", func := "carrel/carrellaw13.SymHides", spec := "symHides", unfollowed := true, recurses := true, loops := true, apart := false }
def SymHidesSaid : Prop := symHidesRow.holds Try.pinned (OpenSpec.ofChange symHidesSpec)

/-- ITS FALSE NEIGHBOUR: 'it returns false'. Refute it at one input. -/
def symHidesWrong : ChangeSpec := { name := "symHides", fn := fun _ => fun
  | [d1, d2, d3, d4] => { results := [.lit (.bool false)], args := [d1, d2, d3, d4] }
  | _ => none }
def SymHidesWrongFalsely : Prop := symHidesRow.holds Try.pinned (OpenSpec.ofChange symHidesWrong)

/-- 'carrellaw13.SymReads': WHATEVER THE INPUT: true; the input reads as it did. -/
def symReadsSpec : ChangeSpec := { name := "symReads", fn := fun _ => fun
  | [d] => { results := [.lit (.bool true)], args := [d] }
  | _ => none }
def symReadsRow : OpenClaim := { program := "ytgemnmceflcpcaa", sum := "7dafad92c961a3575e018b713c1b5231cb8822573bf9b688851edf99a15c1303", func := "carrel/carrellaw13.SymReads", spec := "symReads", unfollowed := true, recurses := true, apart := false }
def SymReadsSaid : Prop := symReadsRow.holds Try.pinned (OpenSpec.ofChange symReadsSpec)

/-- ITS FALSE NEIGHBOUR: 'it returns false'. Refute it at one input. -/
def symReadsWrong : ChangeSpec := { name := "symReads", fn := fun _ => fun
  | [d] => { results := [.lit (.bool false)], args := [d] }
  | _ => none }
def SymReadsWrongFalsely : Prop := symReadsRow.holds Try.pinned (OpenSpec.ofChange symReadsWrong)

/-- 'carrellaw13.SymOneForm': WHATEVER THE INPUT: true; the input reads as it did. -/
def symOneFormSpec : ChangeSpec := { name := "symOneForm", fn := fun _ => fun
  | [d] => { results := [.lit (.bool true)], args := [d] }
  | _ => none }
def symOneFormRow : OpenClaim := { program := "ytgemnmceflcpcaa", sum := "7dafad92c961a3575e018b713c1b5231cb8822573bf9b688851edf99a15c1303", func := "carrel/carrellaw13.SymOneForm", spec := "symOneForm", unfollowed := true, recurses := true, apart := false }
def SymOneFormSaid : Prop := symOneFormRow.holds Try.pinned (OpenSpec.ofChange symOneFormSpec)

/-- ITS FALSE NEIGHBOUR: 'it returns false'. Refute it at one input. -/
def symOneFormWrong : ChangeSpec := { name := "symOneForm", fn := fun _ => fun
  | [d] => { results := [.lit (.bool false)], args := [d] }
  | _ => none }
def SymOneFormWrongFalsely : Prop := symOneFormRow.holds Try.pinned (OpenSpec.ofChange symOneFormWrong)

/-- 'carrellaw13.SymBack': WHATEVER THE INPUT: true; the input reads as it did. -/
def symBackSpec : ChangeSpec := { name := "symBack", fn := fun _ => fun
  | [d1, d2, d3] => { results := [.lit (.bool true)], args := [d1, d2, d3] }
  | _ => none }
def symBackRow : OpenClaim := { program := "ytgemnmceflcpcaa", sum := "7dafad92c961a3575e018b713c1b5231cb8822573bf9b688851edf99a15c1303", func := "carrel/carrellaw13.SymBack", spec := "symBack", unfollowed := true, recurses := true, apart := false }
def SymBackSaid : Prop := symBackRow.holds Try.pinned (OpenSpec.ofChange symBackSpec)

/-- ITS FALSE NEIGHBOUR: 'it returns false'. Refute it at one input. -/
def symBackWrong : ChangeSpec := { name := "symBack", fn := fun _ => fun
  | [d1, d2, d3] => { results := [.lit (.bool false)], args := [d1, d2, d3] }
  | _ => none }
def SymBackWrongFalsely : Prop := symBackRow.holds Try.pinned (OpenSpec.ofChange symBackWrong)

/- THE SECOND FORM. 'bulk': how many values and letters a reading holds, each counted each time it is reached (what is shared counts as often as it is met; a slice's spare places count too). A statement '..UptoSaid' is the law's where the arguments, and the package variables that the reading takes, are together of bulk at most 1048576: NARROWER than '..Said'. Prove '..Said' where nothing that the law and all that it calls make is longer than what came in: it says more and counts as full. Else prove '..UptoSaid'. A law counts once. -/
mutual
def uptoBulk {H : Type} : DataW H → Nat
  | .lit (.string bytes) => bytes.length + 1
  | .lit _ => 1
  | .nil => 1
  | .ptr d => uptoBulk d + 1
  | .slice elems spare => uptoBulkAll elems + uptoBulkAll spare + 1
  | .agg parts => uptoBulkAll parts + 1
  | .iface _ d => uptoBulk d + 1
  | .map entries => uptoBulkEntries entries + 1
  | .held _ => 1
def uptoBulkAll {H : Type} : List (DataW H) → Nat
  | [] => 0
  | d :: r => uptoBulk d + uptoBulkAll r
def uptoBulkEntries {H : Type} : List (Lit × DataW H) → Nat
  | [] => 0
  | x :: r => uptoBulkEntry x + uptoBulkEntries r
def uptoBulkEntry {H : Type} : Lit × DataW H → Nat
  | (.string bytes, d) => bytes.length + uptoBulk d + 1
  | (_, d) => uptoBulk d + 1
 end
def uptoSmall : (H : Type) → List (DataW H) → Bool := fun _ ds => decide (uptoBulkAll ds ≤ 1048576)
def OpenSpec.upto (s : _root_.Go.ChangeSpec) : _root_.Go.OpenSpec := { _root_.Go.OpenSpec.ofChange s with cond := some uptoSmall }

/-- 'carrellaw13.SymBytes', WHERE WHAT IT READS IS OF BULK AT MOST 1048576: true; the input reads as it did. -/
def symBytesUptoRow : OpenClaim := { program := "ytgemnmceflcpcaa", sum := "7dafad92c961a3575e018b713c1b5231cb8822573bf9b688851edf99a15c1303", func := "carrel/carrellaw13.SymBytes", spec := "symBytes", unfollowed := true, recurses := true, apart := false, narrowed := true }
def SymBytesUptoSaid : Prop := symBytesUptoRow.holds Try.pinned (OpenSpec.upto symBytesSpec)

/-- 'carrellaw13.SymHides', WHERE WHAT IT READS IS OF BULK AT MOST 1048576: true; the input reads as it did. -/
def symHidesUptoRow : OpenClaim := { program := "ytgemnmceflcpcaa", sum := "7dafad92c961a3575e018b713c1b5231cb8822573bf9b688851edf99a15c1303", func := "carrel/carrellaw13.SymHides", spec := "symHides", unfollowed := true, recurses := true, loops := true, apart := false, narrowed := true }
def SymHidesUptoSaid : Prop := symHidesUptoRow.holds Try.pinned (OpenSpec.upto symHidesSpec)

/-- 'carrellaw13.SymReads', WHERE WHAT IT READS IS OF BULK AT MOST 1048576: true; the input reads as it did. -/
def symReadsUptoRow : OpenClaim := { program := "ytgemnmceflcpcaa", sum := "7dafad92c961a3575e018b713c1b5231cb8822573bf9b688851edf99a15c1303", func := "carrel/carrellaw13.SymReads", spec := "symReads", unfollowed := true, recurses := true, apart := false, narrowed := true }
def SymReadsUptoSaid : Prop := symReadsUptoRow.holds Try.pinned (OpenSpec.upto symReadsSpec)

/-- 'carrellaw13.SymOneForm', WHERE WHAT IT READS IS OF BULK AT MOST 1048576: true; the input reads as it did. -/
def symOneFormUptoRow : OpenClaim := { program := "ytgemnmceflcpcaa", sum := "7dafad92c961a3575e018b713c1b5231cb8822573bf9b688851edf99a15c1303", func := "carrel/carrellaw13.SymOneForm", spec := "symOneForm", unfollowed := true, recurses := true, apart := false, narrowed := true }
def SymOneFormUptoSaid : Prop := symOneFormUptoRow.holds Try.pinned (OpenSpec.upto symOneFormSpec)

/-- 'carrellaw13.SymBack', WHERE WHAT IT READS IS OF BULK AT MOST 1048576: true; the input reads as it did. -/
def symBackUptoRow : OpenClaim := { program := "ytgemnmceflcpcaa", sum := "7dafad92c961a3575e018b713c1b5231cb8822573bf9b688851edf99a15c1303", func := "carrel/carrellaw13.SymBack", spec := "symBack", unfollowed := true, recurses := true, apart := false, narrowed := true }
def SymBackUptoSaid : Prop := symBackUptoRow.holds Try.pinned (OpenSpec.upto symBackSpec)

end Rows
end Go.Proofs.Ytgemnmceflcpcaa
