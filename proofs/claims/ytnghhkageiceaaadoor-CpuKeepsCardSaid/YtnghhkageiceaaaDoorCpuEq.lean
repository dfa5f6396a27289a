/- Two processors held against each other. -/
import Derived.Test.YtnghhkageiceaaaDoorCpuL
import Derived.DeepKeys
namespace Go.Proofs.YtnghhkageiceaaaDoor
open Go Go.RowKit Go.Lib Go.Proofs.YtnghhkageiceaaaDoor.Pl
set_option linter.unusedVariables false
set_option linter.unusedSimpArgs false
def cpuA (r : Nat → Int) (h : Int) (n z c v : Bool) (pc : Int) : Array Value :=
  #[.int .u32 (r 0), .int .u32 (r 1), .int .u32 (r 2), .int .u32 (r 3), .int .u32 (r 4), .int .u32 (r 5), .int .u32 (r 6), .int .u32 (r 7), .int .u32 (r 8), .int .u32 (r 9), .int .u32 (r 10), .int .u32 (r 11), .int .u32 (r 12), .int .u32 (r 13), .int .u32 (r 14), .int .u32 (r 15), .int .u32 h, .bool n, .bool z, .bool c, .bool v, .int .u32 pc]
theorem CpuOk.lit {cs : Array Value} (h : CpuOk cs) : cs = cpuA (rgV cs) (rgV cs 16) (flV cs 17) (flV cs 18) (flV cs 19) (flV cs 20) (rgV cs 21) := by
  apply Array.ext_getElem?
  intro k
  by_cases hk : k < 22
  · have : k = 0 ∨ k = 1 ∨ k = 2 ∨ k = 3 ∨ k = 4 ∨ k = 5 ∨ k = 6 ∨ k = 7 ∨ k = 8 ∨ k = 9 ∨ k = 10 ∨ k = 11 ∨ k = 12 ∨ k = 13 ∨ k = 14 ∨ k = 15 ∨ k = 16 ∨ k = 17 ∨ k = 18 ∨ k = 19 ∨ k = 20 ∨ k = 21 := by omega
    rcases this with rfl | rfl | rfl | rfl | rfl | rfl | rfl | rfl | rfl | rfl | rfl | rfl | rfl | rfl | rfl | rfl | rfl | rfl | rfl | rfl | rfl | rfl
    all_goals first | exact (h.rg (by omega)).1 | exact h.hV.1 | exact h.nV | exact h.zV | exact h.cV | exact h.vV | exact h.pcV.1
  · rw [Array.getElem?_eq_none (by have := h.size; omega), Array.getElem?_eq_none (by simp [cpuA]; omega)]
theorem cpuEq_lit (r : Nat → Int) (h : Int) (n z c v : Bool) (pc : Int) (w : World) :
    (Op.equalIn 10000 25 (.agg (cpuA r h n z c v pc)) (.agg (cpuA r h n z c v pc))).run Tryd.prog w = .ok true w := by
  obtain ⟨i, hi⟩ := info_of_underlying Tryd.underlying22
  unfold cpuA
  simp [go_sem, Tryd.underlying25]
  rw [run_equalIn_array _ _ _ _ Tryd.underlying23 hi]
  have c1 : Tryd.prog.cellsOf 22 = 1 := by kernel_rfl
  rw [c1, show List.range 16 = [0, 1, 2, 3, 4, 5, 6, 7, 8, 9, 10, 11, 12, 13, 14, 15] from rfl]
  simp [Op.eqItems, go_sem, Tryd.underlying22]
theorem run_eql_cpu {cs : Array Value} (h : CpuOk cs) (w : World) : (binOp .eql 25 (.agg cs) (.agg cs)).run Tryd.prog w = .ok (.bool true) w := by
  rw [run_eql_struct, h.lit, cpuEq_lit]
  rfl
theorem run_neq_cpu {cs : Array Value} (h : CpuOk cs) (w : World) : (binOp .neq 25 (.agg cs) (.agg cs)).run Tryd.prog w = .ok (.bool false) w := by
  rw [run_neq_struct, h.lit, cpuEq_lit]
  rfl
end Go.Proofs.YtnghhkageiceaaaDoor
