/- The document's example. -/
import Derived.Test.YtnghhkageiceaaaDoorCpuJ2
import Derived.Test.YtnghhkageiceaaaDoorCpuO
import Derived.Test.YtnghhkageiceaaaDoorCpuTab
namespace Go.Proofs.YtnghhkageiceaaaDoor
open Go Go.RowKit Go.Lib Go.Proofs.YtnghhkageiceaaaDoor.Pl
set_option linter.unusedVariables false
set_option linter.unusedSimpArgs false
attribute [local go_sem ↓] exec_load_cpu exec_store_cpu
def sIn : Array Value := #[.int .u32 0, .int .u32 0, .int .u32 2147483647, .int .u32 1, .int .u32 0, .int .u32 0, .int .u32 0, .int .u32 0, .int .u32 0, .int .u32 0, .int .u32 0, .int .u32 0, .int .u32 0, .int .u32 0, .int .u32 0, .int .u32 0, .int .u32 0, .bool false, .bool false, .bool false, .bool false, .int .u32 100]
def sOut : Array Value := #[.int .u32 0, .int .u32 2147483648, .int .u32 2147483647, .int .u32 1, .int .u32 0, .int .u32 0, .int .u32 0, .int .u32 0, .int .u32 0, .int .u32 0, .int .u32 0, .int .u32 0, .int .u32 0, .int .u32 0, .int .u32 0, .int .u32 0, .int .u32 0, .bool true, .bool false, .bool false, .bool true, .int .u32 104]
theorem cpuOk_lit (r : Nat → Int) (hr : ∀ k, 0 ≤ r k ∧ r k < 4294967296) (h pc : Int) (hh : 0 ≤ h ∧ h < 4294967296) (hp : 0 ≤ pc ∧ pc < 4294967296) (n z c v : Bool) :
    CpuOk #[.int .u32 (r 0), .int .u32 (r 1), .int .u32 (r 2), .int .u32 (r 3), .int .u32 (r 4), .int .u32 (r 5), .int .u32 (r 6), .int .u32 (r 7), .int .u32 (r 8), .int .u32 (r 9), .int .u32 (r 10), .int .u32 (r 11), .int .u32 (r 12), .int .u32 (r 13), .int .u32 (r 14), .int .u32 (r 15), .int .u32 h, .bool n, .bool z, .bool c, .bool v, .int .u32 pc] where
  size := rfl
  one := fun x hx => by simp at hx; rcases hx with rfl | rfl | rfl | rfl | rfl | rfl | rfl | rfl | rfl | rfl | rfl | rfl | rfl | rfl | rfl | rfl | rfl | rfl | rfl | rfl | rfl | rfl <;> rfl
  reg := fun k hk => ⟨r k, by
    have : k = 0 ∨ k = 1 ∨ k = 2 ∨ k = 3 ∨ k = 4 ∨ k = 5 ∨ k = 6 ∨ k = 7 ∨ k = 8 ∨ k = 9 ∨ k = 10 ∨ k = 11 ∨ k = 12 ∨ k = 13 ∨ k = 14 ∨ k = 15 := by omega
    rcases this with rfl | rfl | rfl | rfl | rfl | rfl | rfl | rfl | rfl | rfl | rfl | rfl | rfl | rfl | rfl | rfl <;> rfl, hr k⟩
  h := ⟨h, rfl, hh⟩
  n := ⟨n, rfl⟩
  z := ⟨z, rfl⟩
  c := ⟨c, rfl⟩
  v := ⟨v, rfl⟩
  pc := ⟨pc, rfl, hp⟩
theorem sIn_ok : CpuOk sIn := cpuOk_lit (fun k => if k = 2 then 2147483647 else if k = 3 then 1 else 0) (fun k => by (repeat' split) <;> omega) 0 100 (by omega) (by omega) false false false false
theorem sOut_ok : CpuOk sOut := cpuOk_lit (fun k => if k = 1 then 2147483648 else if k = 2 then 2147483647 else if k = 3 then 1 else 0) (fun k => by (repeat' split) <;> omega) 0 104 (by omega) (by omega) true false false true
theorem sDec (w : World) (hT : Tab w) : Calls Tryd.prog 13 #[.int .u32 19398659] w fun e w' => e = .returned (.tuple #[.agg #[.int .i64 0, .bool false, .bool false, .int .i64 1, .int .i64 2, .int .i64 8, .int .i64 3, .int .i64 0], .bool true]) ∧ Below w.heap.size w w' := by
  have := dec_any 19398659 (by omega) (by omega) w hT
  rwa [show decRes 19398659 = .agg #[.int .i64 0, .bool false, .bool false, .int .i64 1, .int .i64 2, .int .i64 8, .int .i64 3, .int .i64 0] by kernel_rfl, show decOk 19398659 = true by kernel_rfl] at this
theorem sExec (w : World) (hT : Tab w) : Calls Tryd.prog 18 #[.agg sIn, .agg #[.int .i64 0, .bool false, .bool false, .int .i64 1, .int .i64 2, .int .i64 8, .int .i64 3, .int .i64 0], .int .u32 0] w fun e w' => e = .returned (.tuple #[.agg sOut, .int .i64 0, .bool false]) ∧ Below w.heap.size w w' := by
  have := exec_any sIn sIn_ok 0 false false 1 2 8 3 0 0 (by omega) (by omega) w hT
  unfold ExecIs at this
  rwa [show exV sIn 0 false false 1 2 8 3 0 0 = (sOut, 0, false) by kernel_rfl] at this
set_option maxRecDepth 100000 in
set_option maxHeartbeats 1000000 in
theorem shown_any (w : World) (hT : Tab w) : Calls Tryd.prog 15 #[] w fun e w' => e = .returned (.bool true) ∧ Below w.heap.size w w' := by
  have HT : Hid (∀ W, Below w.heap.size w W → Tab W) := fun W hB => hT.below hB hT.lt
  go_enter Tryd.func15, Tryd.ntmps15
  go_upto_region 2 with (go_at_call 13; refine (sDec _ hT).mono ?_; rintro e w1 ⟨rfl, hb1⟩)
  have hB1 : Below w.heap.size w (w1.alloc (.cells #[.int .i64 0, .bool false, .bool false, .int .i64 1, .int .i64 2, .int .i64 8, .int .i64 3, .int .i64 0] 33)) := hb1.alloc (by have := hb1.size; omega) _
  have hst := store_new (w := w1.alloc (.cells #[.int .i64 0, .bool false, .bool false, .int .i64 1, .int .i64 2, .int .i64 8, .int .i64 3, .int .i64 0] 33)) (Z := #[.int .u32 0, .int .u32 0, .int .u32 0, .int .u32 0, .int .u32 0, .int .u32 0, .int .u32 0, .int .u32 0, .int .u32 0, .int .u32 0, .int .u32 0, .int .u32 0, .int .u32 0, .int .u32 0, .int .u32 0, .int .u32 0, .int .u32 0, .bool false, .bool false, .bool false, .bool false, .int .u32 0]) (cs := #[.int .u32 0, .int .u32 0, .int .u32 0, .int .u32 0, .int .u32 0, .int .u32 0, .int .u32 0, .int .u32 0, .int .u32 0, .int .u32 0, .int .u32 0, .int .u32 0, .int .u32 0, .int .u32 0, .int .u32 0, .int .u32 0, .int .u32 0, .bool false, .bool false, .bool false, .bool false, .int .u32 100]) (t := 25) rfl rfl (cpuOk_lit (fun _ => 0) (fun _ => by omega) 0 100 (by omega) (by omega) false false false false).one
  have hl := load_cpu (Blk.new (w1.alloc (.cells #[.int .i64 0, .bool false, .bool false, .int .i64 1, .int .i64 2, .int .i64 8, .int .i64 3, .int .i64 0] 33)) #[.int .u32 0, .int .u32 0, .int .u32 2147483647, .int .u32 1, .int .u32 0, .int .u32 0, .int .u32 0, .int .u32 0, .int .u32 0, .int .u32 0, .int .u32 0, .int .u32 0, .int .u32 0, .int .u32 0, .int .u32 0, .int .u32 0, .int .u32 0, .bool false, .bool false, .bool false, .bool false, .int .u32 100] 25) rfl
  have hT2 := HT.out _ (hB1.alloc (by have := hB1.size; omega) (.cells #[.int .u32 0, .int .u32 0, .int .u32 2147483647, .int .u32 1, .int .u32 0, .int .u32 0, .int .u32 0, .int .u32 0, .int .u32 0, .int .u32 0, .int .u32 0, .int .u32 0, .int .u32 0, .int .u32 0, .int .u32 0, .int .u32 0, .int .u32 0, .bool false, .bool false, .bool false, .bool false, .int .u32 100] 25))
  have HB1 := Lib.hid hB1
  have HT2 := Lib.hid hT2
  simp only [World.size_alloc] at hst hl
  clear hT HT hB1 hT2 hb1
  have e1 : sOut[1]? = some (.int .u32 2147483648) := rfl
  have e17 : sOut[17]? = some (.bool true) := rfl
  have e18 : sOut[18]? = some (.bool false) := rfl
  have e19 : sOut[19]? = some (.bool false) := rfl
  have e20 : sOut[20]? = some (.bool true) := rfl
  have e21 : sOut[21]? = some (.int .u32 104) := rfl
  go_wp2_with (go_at_call 18; refine (sExec _ HT2.out).mono ?_; rintro e w2 ⟨rfl, hb2⟩; have hst2 := store_new (w := w2) (Z := #[.int .u32 0, .int .u32 0, .int .u32 0, .int .u32 0, .int .u32 0, .int .u32 0, .int .u32 0, .int .u32 0, .int .u32 0, .int .u32 0, .int .u32 0, .int .u32 0, .int .u32 0, .int .u32 0, .int .u32 0, .int .u32 0, .int .u32 0, .bool false, .bool false, .bool false, .bool false, .int .u32 0]) (cs := sOut) (t := 25) rfl rfl sOut_ok.one; have HB2 := Lib.hid hb2; clear hb2)
  go_ret
  refine ⟨rfl, ?_⟩
  have h1 := HB1.out
  have h2 := h1.alloc (by have := h1.size; omega) (.cells #[.int .u32 0, .int .u32 0, .int .u32 2147483647, .int .u32 1, .int .u32 0, .int .u32 0, .int .u32 0, .int .u32 0, .int .u32 0, .int .u32 0, .int .u32 0, .int .u32 0, .int .u32 0, .int .u32 0, .int .u32 0, .int .u32 0, .int .u32 0, .bool false, .bool false, .bool false, .bool false, .int .u32 100] 25)
  have h3 := h2.trans (HB2.out.mono (by have := h2.size; omega))
  exact h3.alloc (by have := h3.size; omega) _
end Go.Proofs.YtnghhkageiceaaaDoor
