/- The table of what the operations take, as the row lists it. -/
import Derived.Test.YtgcknekhimpfkaaGreatDoorRows
import Derived.Test.YtgcknekhimpfkaaGreatDoorQC
import Derived.ProofKit
import Derived.OpenShut
import Derived.LaidMore
import Derived.Lay
import Derived.SevenTiedAt
import Derived.Stop.Joined
namespace Go.Proofs.YtgcknekhimpfkaaGreatDoor
open Go.ChangeShapes Go.WideShapes Go.ChangeAt Go.RowKit
theorem tables {W : World} (h : laidMetH Tryz.prog [("carrel/cpu.takes", Rows.laid_carrel_cpu_takes)] W) : Tab W := by
 rw [MakeChecks.laidMetH_plain _ _ _ (by kernel_rfl)] at h
 obtain ⟨ps, ⟨g, t, cs, fuel, p, q, hg, ht, hv, hd, _, _⟩, _, _⟩ := h
 obtain rfl := Option.some.inj ((show Tryz.prog.globalNamed "carrel/cpu.takes" = some 0 by kernel_rfl).symm.trans hg)
 obtain rfl := Option.some.inj ((show (Tryz.prog.globals[0]?).map (·.type) = some 157 by kernel_rfl).symm.trans ht)
 obtain ⟨xs, m, _, ex, _, hl, hel⟩ := DataW.trod_array Tryz.underlying157 hd
 have c5 : Tryz.prog.cellsOf 3 = 1 := by kernel_rfl
 have e3 : (xs.map (·.1)) = tk.map fun n => .lit (.int .i64 n) := (DataW.agg.inj (Prod.mk.inj ex).1).symm
 intro r hr
 have hE := hel r hr
 rw [c5, Nat.mul_one, List.getElem?_eq_getElem (by omega)] at hE
 obtain ⟨z, e1, e2, _⟩ := DataW.trod_int Tryz.underlying3 hE
 have hlen : tk.length = 16 := rfl
 have e4 : (xs.map (·.1))[r]? = (tk.map fun n => (DataW.lit (.int .i64 n) : DataW Unit))[r]? := by rw [e3]
 rw [List.getElem?_map, List.getElem?_map, List.getElem?_eq_getElem (by omega : r < xs.length), List.getElem?_eq_getElem (by omega : r < tk.length), e2] at e4
 have hz : z = tk.getD r 0 := by
  simp only [Option.map_some, Option.some.injEq, DataW.lit.injEq, Lit.int.injEq, true_and] at e4
  rw [e4, List.getD, List.getElem?_eq_getElem (by omega : r < tk.length)]; rfl
 rw [World.var?_cell hg hv r, ← hz]
 have : cs.toList[r]? = some (.int .i64 z) := by
  have h0 : ((cs.toList.drop r).take 1)[0]? = some (.int .i64 z) := by rw [e1]; rfl
  simpa using h0
 simpa using this
end Go.Proofs.YtgcknekhimpfkaaGreatDoor
