/- Exec of what is reckoned: what its operands are. -/
import Derived.Test.YtgcknekhimpfkaaDoorQI
namespace Go.Proofs.YtgcknekhimpfkaaDoor
open Go Go.RowKit Go.Lib Go.Proofs.YtgcknekhimpfkaaDoor.Pl
set_option linter.unusedVariables false
set_option linter.unusedSimpArgs false
attribute [local go_sem ↓] exec_load_cpu exec_store_cpu
def opX (cs : Array Value) (f : Int) (v : Bool) (c : Nat) (n : Int) : Int := if f = 0 then rgV cs c else if v then n + 4294901760 else n
theorem opX_bd {cs : Array Value} (hc : CpuOk cs) (f : Int) (v : Bool) {c : Nat} (hcc : c ≤ 15) {n : Int} (h0 : 0 ≤ n) (h1 : n ≤ 65535) : 0 ≤ opX cs f v c n ∧ opX cs f v c n < 4294967296 := by
  have := hc.rg (k := c) (by omega)
  unfold opX
  split
  · exact this.2
  · split <;> omega
theorem reck_n {f : Int} {u v : Bool} {a b op c n : Int} (hf : f = 0 ∨ f = 1) (h : rightB f u v a b op c n = true) : 0 ≤ n ∧ n ≤ 65535 := by
  obtain ⟨_, _, _, _, h⟩ := right_inv h
  omega
theorem or_top (n : Int) (h0 : 0 ≤ n) (h1 : n ≤ 65535) : bits .or .u32 n 4294901760 = n + 4294901760 := or_join n 4294901760 16 h0 (by omega) (by simp; omega) (by omega) (by omega) (by simp)
theorem u32_bits_bd (o : BinOp) (x y : Int) : 0 ≤ bits o .u32 x y ∧ bits o .u32 x y < 4294967296 := by
  have := bounds_u32 (wf_bits o .u32 x y)
  omega
def flagsV (n z c v : Bool) : Int := bits .or .u32 (bits .or .u32 (bits .or .u32 (flagV n 31) (flagV z 30)) (flagV c 29)) (flagV v 28)
end Go.Proofs.YtgcknekhimpfkaaDoor
