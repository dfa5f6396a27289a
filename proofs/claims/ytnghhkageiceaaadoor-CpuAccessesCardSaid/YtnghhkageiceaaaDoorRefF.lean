/- The document's Decode, by what the word is. -/
import Derived.Test.YtnghhkageiceaaaDoorCpuS
import Derived.Test.YtnghhkageiceaaaDoorCpuEnc
import Derived.Test.YtnghhkageiceaaaDoorRefE
import Derived.Test.YtnghhkageiceaaaDoorCpuArg
import Derived.Deep.LoopGhost
namespace Go.Proofs.YtnghhkageiceaaaDoor
open Go Go.RowKit Go.Lib Go.Proofs.YtnghhkageiceaaaDoor.Pl
set_option linter.unusedVariables false
set_option linter.unusedSimpArgs false
attribute [local go_sem ↓] exec_load_cpu exec_store_cpu run_eql_ins run_neq_ins
theorem rdec_yes (x : Int) (h0 : 0 ≤ x) (h1 : x < 4294967296) (hk : decOk x = true) (w : World) :
    Calls Tryd.prog 14 #[.int .u32 x] w fun e w' => e = .returned (.tuple #[.agg #[.int .i64 (decF x), .bool (decU x), .bool (decV x), .int .i64 (decA x), .int .i64 (decB x), .int .i64 (decO x), .int .i64 (decC x), .int .i64 (decN x)], .bool true]) ∧ Below w.heap.size w w' := by
  have := rdec_any x h0 h1 w
  unfold decRes at this
  rw [hk, if_pos rfl] at this
  exact this
theorem rdec_not (x : Int) (h0 : 0 ≤ x) (h1 : x < 4294967296) (hk : decOk x = false) (w : World) :
    Calls Tryd.prog 14 #[.int .u32 x] w fun e w' => e = .returned (.tuple #[.agg #[.int .i64 0, .bool false, .bool false, .int .i64 0, .int .i64 0, .int .i64 0, .int .i64 0, .int .i64 0], .bool false]) ∧ Below w.heap.size w w' := by
  have := rdec_any x h0 h1 w
  unfold decRes at this
  rw [hk, if_neg (by simp)] at this
  exact this
end Go.Proofs.YtnghhkageiceaaaDoor
