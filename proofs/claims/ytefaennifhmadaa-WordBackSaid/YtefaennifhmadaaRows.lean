/-
  No cell of these rows narrows 'for every input' (looked for: loops, veiled, ifaces, maps, wideKeys, modest, calm, conditions, laid).
  DERIVED. THE GIVEN ROWS OF THIS SEAT. 7 by the template 'for every input the law returns true; each argument reads behind the call as it read before'; 0 by the template 'total and deterministic' (their statements: YtefaennifhmadaaTotals.lean).
  GIVEN WITH THE SEED: the statements are not yours to turn. If you find one false, say at which input.
  Laid BY PROGRAM, IN A SANDBOX (cutbox-rows.mjs): the forced cells as the released guide's own fill.sh prints them over the translation 67383cb54fa5bf3f… (all of the seat's roots in one cut). By AI agents, Wed Nov 11 2026. No macro, syntax, notation, axiom, sorry.
-/
import Derived.Test.YtefaennifhmadaaChecked
import GoSem.Claim
import GoSem.ClaimJoined
import GoSem.ClaimMapViews
import Derived.JoinedTies
import Derived.KernelRfl
namespace Go.Proofs.Ytefaennifhmadaa
/- THE CELL 'sum', in the pinned program and in every row, IS THE sha256 OF THE DUMP (.gsa) THAT YtefaennifhmadaaProg.lean LOADS. Nothing in Lean hashes anything: it is a label: what it is worth is what the hold of that sum in a sandbox is worth. -/
noncomputable def Try.pinned : Pinned := { name := "ytefaennifhmadaa", sum := "67383cb54fa5bf3ff146d9e856216994ae530487564a06172d8ae7ccecf8dc03", checked := Try.checked }
namespace Rows
def none {H : Type} : Left H := { results := [], args := [] }

/-- 'carrellaw01.WordSumsUp': WHATEVER THE INPUT: true; the input reads as it did. -/
def wordSumsUpSpec : ChangeSpec := { name := "wordSumsUp", fn := fun _ => fun
  | [d] => { results := [.lit (.bool true)], args := [d] }
  | _ => none }
def wordSumsUpRow : OpenClaim := { program := "ytefaennifhmadaa", sum := "67383cb54fa5bf3ff146d9e856216994ae530487564a06172d8ae7ccecf8dc03", func := "carrel/carrellaw01.WordSumsUp", spec := "wordSumsUp", apart := false }
def WordSumsUpSaid : Prop := wordSumsUpRow.holds Try.pinned (OpenSpec.ofChange wordSumsUpSpec)

/-- ITS FALSE NEIGHBOUR: 'it returns false'. Refute it at one input. -/
def wordSumsUpWrong : ChangeSpec := { name := "wordSumsUp", fn := fun _ => fun
  | [d] => { results := [.lit (.bool false)], args := [d] }
  | _ => none }
def WordSumsUpWrongFalsely : Prop := wordSumsUpRow.holds Try.pinned (OpenSpec.ofChange wordSumsUpWrong)

/-- 'carrellaw01.WordSums': WHATEVER THE INPUT: true; the input reads as it did. -/
def wordSumsSpec : ChangeSpec := { name := "wordSums", fn := fun _ => fun
  | [d1, d2, d3] => { results := [.lit (.bool true)], args := [d1, d2, d3] }
  | _ => none }
def wordSumsRow : OpenClaim := { program := "ytefaennifhmadaa", sum := "67383cb54fa5bf3ff146d9e856216994ae530487564a06172d8ae7ccecf8dc03", func := "carrel/carrellaw01.WordSums", spec := "wordSums", apart := false }
def WordSumsSaid : Prop := wordSumsRow.holds Try.pinned (OpenSpec.ofChange wordSumsSpec)

/-- ITS FALSE NEIGHBOUR: 'it returns false'. Refute it at one input. -/
def wordSumsWrong : ChangeSpec := { name := "wordSums", fn := fun _ => fun
  | [d1, d2, d3] => { results := [.lit (.bool false)], args := [d1, d2, d3] }
  | _ => none }
def WordSumsWrongFalsely : Prop := wordSumsRow.holds Try.pinned (OpenSpec.ofChange wordSumsWrong)

/-- 'carrellaw01.WordMoves': WHATEVER THE INPUT: true; the input reads as it did. -/
def wordMovesSpec : ChangeSpec := { name := "wordMoves", fn := fun _ => fun
  | [d1, d2, d3] => { results := [.lit (.bool true)], args := [d1, d2, d3] }
  | _ => none }
def wordMovesRow : OpenClaim := { program := "ytefaennifhmadaa", sum := "67383cb54fa5bf3ff146d9e856216994ae530487564a06172d8ae7ccecf8dc03", func := "carrel/carrellaw01.WordMoves", spec := "wordMoves", apart := false }
def WordMovesSaid : Prop := wordMovesRow.holds Try.pinned (OpenSpec.ofChange wordMovesSpec)

/-- ITS FALSE NEIGHBOUR: 'it returns false'. Refute it at one input. -/
def wordMovesWrong : ChangeSpec := { name := "wordMoves", fn := fun _ => fun
  | [d1, d2, d3] => { results := [.lit (.bool false)], args := [d1, d2, d3] }
  | _ => none }
def WordMovesWrongFalsely : Prop := wordMovesRow.holds Try.pinned (OpenSpec.ofChange wordMovesWrong)

/-- 'carrellaw01.WordProducts': WHATEVER THE INPUT: true; the input reads as it did. -/
def wordProductsSpec : ChangeSpec := { name := "wordProducts", fn := fun _ => fun
  | [d1, d2] => { results := [.lit (.bool true)], args := [d1, d2] }
  | _ => none }
def wordProductsRow : OpenClaim := { program := "ytefaennifhmadaa", sum := "67383cb54fa5bf3ff146d9e856216994ae530487564a06172d8ae7ccecf8dc03", func := "carrel/carrellaw01.WordProducts", spec := "wordProducts", apart := false }
def WordProductsSaid : Prop := wordProductsRow.holds Try.pinned (OpenSpec.ofChange wordProductsSpec)

/-- ITS FALSE NEIGHBOUR: 'it returns false'. Refute it at one input. -/
def wordProductsWrong : ChangeSpec := { name := "wordProducts", fn := fun _ => fun
  | [d1, d2] => { results := [.lit (.bool false)], args := [d1, d2] }
  | _ => none }
def WordProductsWrongFalsely : Prop := wordProductsRow.holds Try.pinned (OpenSpec.ofChange wordProductsWrong)

/-- 'carrellaw01.WordBytes': WHATEVER THE INPUT: true; the input reads as it did. -/
def wordBytesSpec : ChangeSpec := { name := "wordBytes", fn := fun _ => fun
  | [d1, d2, d3] => { results := [.lit (.bool true)], args := [d1, d2, d3] }
  | _ => none }
def wordBytesRow : OpenClaim := { program := "ytefaennifhmadaa", sum := "67383cb54fa5bf3ff146d9e856216994ae530487564a06172d8ae7ccecf8dc03", func := "carrel/carrellaw01.WordBytes", spec := "wordBytes", apart := false }
def WordBytesSaid : Prop := wordBytesRow.holds Try.pinned (OpenSpec.ofChange wordBytesSpec)

/-- ITS FALSE NEIGHBOUR: 'it returns false'. Refute it at one input. -/
def wordBytesWrong : ChangeSpec := { name := "wordBytes", fn := fun _ => fun
  | [d1, d2, d3] => { results := [.lit (.bool false)], args := [d1, d2, d3] }
  | _ => none }
def WordBytesWrongFalsely : Prop := wordBytesRow.holds Try.pinned (OpenSpec.ofChange wordBytesWrong)

/-- 'carrellaw01.WordDigits': WHATEVER THE INPUT: true; the input reads as it did. -/
def wordDigitsSpec : ChangeSpec := { name := "wordDigits", fn := fun _ => fun
  | [d1, d2] => { results := [.lit (.bool true)], args := [d1, d2] }
  | _ => none }
def wordDigitsRow : OpenClaim := { program := "ytefaennifhmadaa", sum := "67383cb54fa5bf3ff146d9e856216994ae530487564a06172d8ae7ccecf8dc03", func := "carrel/carrellaw01.WordDigits", spec := "wordDigits", apart := false }
def WordDigitsSaid : Prop := wordDigitsRow.holds Try.pinned (OpenSpec.ofChange wordDigitsSpec)

/-- ITS FALSE NEIGHBOUR: 'it returns false'. Refute it at one input. -/
def wordDigitsWrong : ChangeSpec := { name := "wordDigits", fn := fun _ => fun
  | [d1, d2] => { results := [.lit (.bool false)], args := [d1, d2] }
  | _ => none }
def WordDigitsWrongFalsely : Prop := wordDigitsRow.holds Try.pinned (OpenSpec.ofChange wordDigitsWrong)

/-- 'carrellaw01.WordBack': WHATEVER THE INPUT: true; the input reads as it did. -/
def wordBackSpec : ChangeSpec := { name := "wordBack", fn := fun _ => fun
  | [d1, d2, d3, d4] => { results := [.lit (.bool true)], args := [d1, d2, d3, d4] }
  | _ => none }
def wordBackRow : OpenClaim := { program := "ytefaennifhmadaa", sum := "67383cb54fa5bf3ff146d9e856216994ae530487564a06172d8ae7ccecf8dc03", func := "carrel/carrellaw01.WordBack", spec := "wordBack", apart := false }
def WordBackSaid : Prop := wordBackRow.holds Try.pinned (OpenSpec.ofChange wordBackSpec)

/-- ITS FALSE NEIGHBOUR: 'it returns false'. Refute it at one input. -/
def wordBackWrong : ChangeSpec := { name := "wordBack", fn := fun _ => fun
  | [d1, d2, d3, d4] => { results := [.lit (.bool false)], args := [d1, d2, d3, d4] }
  | _ => none }
def WordBackWrongFalsely : Prop := wordBackRow.holds Try.pinned (OpenSpec.ofChange wordBackWrong)

/- THE SECOND FORM. 'bulk': how many values and letters a reading holds, each counted each time it is reached (what is shared counts as often as it is met; a slice's spare places count too). A statement '..UptoSaid' is the law's where the arguments, and the package variables that the reading takes, are together of bulk at most 1048576: NARROWER than '..Said'. Prove '..Said' where nothing that the law and all that it calls make is longer than what came in: it says more and counts as full. Else prove '..UptoSaid'. A law counts once. -/
mutual
def uptoBulk {H : Type} : DataW H → Nat
  | .lit (.string bytes) => bytes.length + 1
  | .lit _ => 1
  | .nil => 1
  | .ptr d => uptoBulk d + 1
  | .slice elems spare => uptoBulkAll elems + uptoBulkAll spare + 1
  | .agg parts => uptoBulkAll parts + 1
  | .iface _ d => uptoBulk d + 1
  | .map entries => uptoBulkEntries entries + 1
  | .held _ => 1
def uptoBulkAll {H : Type} : List (DataW H) → Nat
  | [] => 0
  | d :: r => uptoBulk d + uptoBulkAll r
def uptoBulkEntries {H : Type} : List (Lit × DataW H) → Nat
  | [] => 0
  | x :: r => uptoBulkEntry x + uptoBulkEntries r
def uptoBulkEntry {H : Type} : Lit × DataW H → Nat
  | (.string bytes, d) => bytes.length + uptoBulk d + 1
  | (_, d) => uptoBulk d + 1
 end
def uptoSmall : (H : Type) → List (DataW H) → Bool := fun _ ds => decide (uptoBulkAll ds ≤ 1048576)
def OpenSpec.upto (s : _root_.Go.ChangeSpec) : _root_.Go.OpenSpec := { _root_.Go.OpenSpec.ofChange s with cond := some uptoSmall }

/-- 'carrellaw01.WordSumsUp', WHERE WHAT IT READS IS OF BULK AT MOST 1048576: true; the input reads as it did. -/
def wordSumsUpUptoRow : OpenClaim := { program := "ytefaennifhmadaa", sum := "67383cb54fa5bf3ff146d9e856216994ae530487564a06172d8ae7ccecf8dc03", func := "carrel/carrellaw01.WordSumsUp", spec := "wordSumsUp", apart := false, narrowed := true }
def WordSumsUpUptoSaid : Prop := wordSumsUpUptoRow.holds Try.pinned (OpenSpec.upto wordSumsUpSpec)

/-- 'carrellaw01.WordSums', WHERE WHAT IT READS IS OF BULK AT MOST 1048576: true; the input reads as it did. -/
def wordSumsUptoRow : OpenClaim := { program := "ytefaennifhmadaa", sum := "67383cb54fa5bf3ff146d9e856216994ae530487564a06172d8ae7ccecf8dc03", func := "carrel/carrellaw01.WordSums", spec := "wordSums", apart := false, narrowed := true }
def WordSumsUptoSaid : Prop := wordSumsUptoRow.holds Try.pinned (OpenSpec.upto wordSumsSpec)

/-- 'carrellaw01.WordMoves', WHERE WHAT IT READS IS OF BULK AT MOST 1048576: true; the input reads as it did. -/
def wordMovesUptoRow : OpenClaim := { program := "ytefaennifhmadaa", sum := "67383cb54fa5bf3ff146d9e856216994ae530487564a06172d8ae7ccecf8dc03", func := "carrel/carrellaw01.WordMoves", spec := "wordMoves", apart := false, narrowed := true }
def WordMovesUptoSaid : Prop := wordMovesUptoRow.holds Try.pinned (OpenSpec.upto wordMovesSpec)

/-- 'carrellaw01.WordProducts', WHERE WHAT IT READS IS OF BULK AT MOST 1048576: true; the input reads as it did. -/
def wordProductsUptoRow : OpenClaim := { program := "ytefaennifhmadaa", sum := "67383cb54fa5bf3ff146d9e856216994ae530487564a06172d8ae7ccecf8dc03", func := "carrel/carrellaw01.WordProducts", spec := "wordProducts", apart := false, narrowed := true }
def WordProductsUptoSaid : Prop := wordProductsUptoRow.holds Try.pinned (OpenSpec.upto wordProductsSpec)

/-- 'carrellaw01.WordBytes', WHERE WHAT IT READS IS OF BULK AT MOST 1048576: true; the input reads as it did. -/
def wordBytesUptoRow : OpenClaim := { program := "ytefaennifhmadaa", sum := "67383cb54fa5bf3ff146d9e856216994ae530487564a06172d8ae7ccecf8dc03", func := "carrel/carrellaw01.WordBytes", spec := "wordBytes", apart := false, narrowed := true }
def WordBytesUptoSaid : Prop := wordBytesUptoRow.holds Try.pinned (OpenSpec.upto wordBytesSpec)

/-- 'carrellaw01.WordDigits', WHERE WHAT IT READS IS OF BULK AT MOST 1048576: true; the input reads as it did. -/
def wordDigitsUptoRow : OpenClaim := { program := "ytefaennifhmadaa", sum := "67383cb54fa5bf3ff146d9e856216994ae530487564a06172d8ae7ccecf8dc03", func := "carrel/carrellaw01.WordDigits", spec := "wordDigits", apart := false, narrowed := true }
def WordDigitsUptoSaid : Prop := wordDigitsUptoRow.holds Try.pinned (OpenSpec.upto wordDigitsSpec)

/-- 'carrellaw01.WordBack', WHERE WHAT IT READS IS OF BULK AT MOST 1048576: true; the input reads as it did. -/
def wordBackUptoRow : OpenClaim := { program := "ytefaennifhmadaa", sum := "67383cb54fa5bf3ff146d9e856216994ae530487564a06172d8ae7ccecf8dc03", func := "carrel/carrellaw01.WordBack", spec := "wordBack", apart := false, narrowed := true }
def WordBackUptoSaid : Prop := wordBackUptoRow.holds Try.pinned (OpenSpec.upto wordBackSpec)

end Rows
end Go.Proofs.Ytefaennifhmadaa
