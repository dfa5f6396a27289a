/- Exec, the program's and the document's, by what it answers. -/
import Derived.Test.YtnghhkageiceaaaDoorRefL
import Derived.Test.YtnghhkageiceaaaDoorCpuOk
import Derived.Test.YtnghhkageiceaaaDoorCpuEq
import Derived.Test.YtnghhkageiceaaaDoorCpuS
import Derived.Test.YtnghhkageiceaaaDoorCpuArg
import Derived.Test.YtnghhkageiceaaaDoorInsAt
namespace Go.Proofs.YtnghhkageiceaaaDoor
open Go Go.RowKit Go.Lib Go.Proofs.YtnghhkageiceaaaDoor.Pl
set_option linter.unusedVariables false
set_option linter.unusedSimpArgs false
attribute [local go_sem ↓] exec_load_cpu exec_store_cpu run_eql_ins run_neq_ins

theorem exec_as {cs X : Array Value} {f : Int} {u v : Bool} {a b op c n l m : Int} {t : Bool} (hx : exV cs f u v a b op c n l = (X, m, t)) (hc : CpuOk cs) (h0 : 0 ≤ l) (h1 : l < 4294967296) (w : World) (hT : Tab w) :
    Calls Tryd.prog 18 #[.agg cs, .agg #[.int .i64 f, .bool u, .bool v, .int .i64 a, .int .i64 b, .int .i64 op, .int .i64 c, .int .i64 n], .int .u32 l] w fun e w' => e = .returned (.tuple #[.agg X, .int .i64 m, .bool t]) ∧ Below w.heap.size w w' := by
  have := exec_any cs hc f u v a b op c n l h0 h1 w hT
  unfold ExecIs at this
  rw [hx] at this
  exact this
theorem rexec_as {cs X : Array Value} {f : Int} {u v : Bool} {a b op c n l m : Int} {t : Bool} (hx : exV cs f u v a b op c n l = (X, m, t)) (hc : CpuOk cs) (h0 : 0 ≤ l) (h1 : l < 4294967296) (w : World) :
    Calls Tryd.prog 19 #[.agg cs, .agg #[.int .i64 f, .bool u, .bool v, .int .i64 a, .int .i64 b, .int .i64 op, .int .i64 c, .int .i64 n], .int .u32 l] w fun e w' => e = .returned (.tuple #[.agg X, .int .i64 m, .bool t]) ∧ Below w.heap.size w w' := by
  have := rexec_any cs hc f u v a b op c n l h0 h1 w
  rw [hx] at this
  exact this
theorem exV_is (cs : Array Value) (f : Int) (u v : Bool) (a b op c n l : Int) : ∃ X m t, exV cs f u v a b op c n l = (X, m, t) := ⟨_, _, _, rfl⟩
end Go.Proofs.YtnghhkageiceaaaDoor
