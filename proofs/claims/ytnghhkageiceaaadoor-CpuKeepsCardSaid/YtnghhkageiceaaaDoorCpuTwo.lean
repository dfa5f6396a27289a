/- Two registers reckoned with. -/
import Derived.Test.YtnghhkageiceaaaDoorCpuOk
import Derived.Test.YtnghhkageiceaaaDoorCpuS
namespace Go.Proofs.YtnghhkageiceaaaDoor
open Go Go.RowKit Go.Lib Go.Proofs.YtnghhkageiceaaaDoor.Pl
set_option linter.unusedVariables false
set_option linter.unusedSimpArgs false
attribute [local go_sem ↓] exec_load_cpu exec_store_cpu
def twoR (cs : Array Value) (op : Int) (u : Bool) : Array Value := (exV cs 0 u false 0 1 op 2 0 0).1
def twoT (cs : Array Value) (op : Int) (u : Bool) : Bool := (exV cs 0 u false 0 1 op 2 0 0).2.2
theorem twoR_ok {cs : Array Value} (h : CpuOk cs) (op : Int) (u : Bool) : CpuOk (twoR cs op u) := exV_ok h 0 u false 0 1 op 2 0 0 (by omega) (by omega)
theorem exec_two (cs : Array Value) (hc : CpuOk cs) (op : Int) (u : Bool) (w : World) (hT : Tab w) :
    Calls Tryd.prog 18 #[.agg cs, .agg #[.int .i64 0, .bool u, .bool false, .int .i64 0, .int .i64 1, .int .i64 op, .int .i64 2, .int .i64 0], .int .u32 0] w fun e w' => e = .returned (.tuple #[.agg (twoR cs op u), .int .i64 (exV cs 0 u false 0 1 op 2 0 0).2.1, .bool (twoT cs op u)]) ∧ Below w.heap.size w w' :=
  exec_any cs hc 0 u false 0 1 op 2 0 0 (by omega) (by omega) w hT
set_option maxHeartbeats 1000000 in
theorem two_any (cs : Array Value) (hc : CpuOk cs) (op : Int) (u : Bool) (w : World) (hT : Tab w) :
    Calls Tryd.prog 12 #[.agg cs, .int .i64 op, .bool u] w fun e w' => e = .returned (.tuple #[.agg (twoR cs op u), .bool (twoT cs op u)]) ∧ Below w.heap.size w w' := by
  have HT : Hid (∀ W, Below w.heap.size w W → Tab W) := fun W hB => hT.below hB hT.lt
  have HC := Lib.hid hc
  have HR := Lib.hid (twoR_ok hc op u)
  clear hc hT
  have b0 : Blk (w.alloc (.cells cs 25)) w.heap.size cs 25 := Blk.new _ _ _
  have b1 := Blk.new (w.alloc (.cells cs 25)) #[.int .u32 0, .int .u32 0, .int .u32 0, .int .u32 0, .int .u32 0, .int .u32 0, .int .u32 0, .int .u32 0, .int .u32 0, .int .u32 0, .int .u32 0, .int .u32 0, .int .u32 0, .int .u32 0, .int .u32 0, .int .u32 0, .int .u32 0, .bool false, .bool false, .bool false, .bool false, .int .u32 0] 25
  simp only [World.size_alloc] at b1
  have hl := load_cpu (b0.old (.cells #[.int .u32 0, .int .u32 0, .int .u32 0, .int .u32 0, .int .u32 0, .int .u32 0, .int .u32 0, .int .u32 0, .int .u32 0, .int .u32 0, .int .u32 0, .int .u32 0, .int .u32 0, .int .u32 0, .int .u32 0, .int .u32 0, .int .u32 0, .bool false, .bool false, .bool false, .bool false, .int .u32 0] 25)) HC.out.size
  have HB0 := Lib.hid (((Below.refl w.heap.size w).alloc (Nat.le_refl _) (.cells cs 25)).alloc (by simp) (.cells #[.int .u32 0, .int .u32 0, .int .u32 0, .int .u32 0, .int .u32 0, .int .u32 0, .int .u32 0, .int .u32 0, .int .u32 0, .int .u32 0, .int .u32 0, .int .u32 0, .int .u32 0, .int .u32 0, .int .u32 0, .int .u32 0, .int .u32 0, .bool false, .bool false, .bool false, .bool false, .int .u32 0] 25))
  have HB1 := Lib.hid b1
  clear b0 b1
  go_enter Tryd.func12, Tryd.ntmps12
  go_wp2_with fail
  refine (exec_two cs HC.out op u _ (HT.out _ HB0.out)).mono ?_
  rintro e w1 ⟨rfl, hb1⟩
  have hs1 := hb1.size
  simp only [World.size_alloc] at hs1
  have hst := store_new (w := w1) (Z := #[.int .u32 0, .int .u32 0, .int .u32 0, .int .u32 0, .int .u32 0, .int .u32 0, .int .u32 0, .int .u32 0, .int .u32 0, .int .u32 0, .int .u32 0, .int .u32 0, .int .u32 0, .int .u32 0, .int .u32 0, .int .u32 0, .int .u32 0, .bool false, .bool false, .bool false, .bool false, .int .u32 0]) (t := 25) rfl HR.out.size HR.out.one
  have k0 := Blk.new w1 (twoR cs op u) 25
  have k1 := Blk.old (HB1.out.step hb1) (.cells (twoR cs op u) 25)
  have hl2 := load_cpu k0 HR.out.size
  have hst2 := store_cpu k1 rfl HR.out.size HR.out.one
  have hres := loadVar_cpu (k1.setRow (twoR cs op u)) HR.out.size
  have HB2 := Lib.hid (belRow ((HB0.out.trans (hb1.mono HB0.out.size)).alloc (by omega) (.cells (twoR cs op u) 25)) (g := w.heap.size + 1) (by omega) (twoR cs op u))
  have K_hres := Lib.hid hres
  clear k0 k1 hres hb1 HB0 HB1 hl hs1
  go_wp2_with fail
  have hres := K_hres.out
  refine bodyPost_ret (v := .tuple #[.agg (twoR cs op u), .bool (twoT cs op u)]) ?_ rfl ⟨rfl, HB2.out⟩
  simp [results, Tryd.results12, asAddr, hres]
end Go.Proofs.YtnghhkageiceaaaDoor
