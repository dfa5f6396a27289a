/- A processor's variable read and written whole; Exec of what is no instruction. -/
import Derived.Test.YtnghhkageiceaaaDoorCpuI
import Derived.Test.YtnghhkageiceaaaDoorCpuWA
import Derived.Test.YtnghhkageiceaaaDoorRow2
import Derived.Deep.DeepCutAuto
namespace Go.Proofs.YtnghhkageiceaaaDoor
open Go Go.RowKit Go.Lib Go.Proofs.YtnghhkageiceaaaDoor.Pl
set_option linter.unusedVariables false
set_option linter.unusedSimpArgs false
theorem exec_load_cpu (ρ : Operand → Value) (dst : Option Tmp) (x : Operand) (ty' : TypeId) (pos : String) (after : Array Edge) (guard : Option (Nat × Bool)) :
    execOp ρ ⟨dst, .load 25 x, ty', pos, after, guard⟩ = (do pure (.value (← loadWhole 25 (ρ x)))) := rfl
theorem exec_store_cpu (ρ : Operand → Value) (dst : Option Tmp) (x y : Operand) (ty' : TypeId) (pos : String) (after : Array Edge) (guard : Option (Nat × Bool)) :
    execOp ρ ⟨dst, .store 25 x y, ty', pos, after, guard⟩ = (do storeWhole 25 (ρ x) (ρ y); pure .skip) := rfl
theorem load_cpu {w : World} {g : Nat} {cs : Array Value} {t : TypeId} (h : Blk w g cs t) (hs : cs.size = 22) : (loadWhole 25 (.pointer (some ⟨g, 0, none⟩))).run Tryd.prog w = .ok (.agg cs) w :=
  run_loadRow h _ _ Tryd.underlying25 rfl (by rw [hs]; kernel_rfl)
theorem store_cpu {w : World} {g : Nat} {old cs : Array Value} {t : TypeId} (h : Blk w g old t) (ho : old.size = 22) (hs : cs.size = 22) (h1 : OneRow cs) : (storeWhole 25 (.pointer (some ⟨g, 0, none⟩)) (.agg cs)).run Tryd.prog w = .ok () (w.setRow g cs) :=
  run_storeRow h _ (by rw [hs]; kernel_rfl) (ho.trans hs.symm) h1
theorem loadVar_cpu {w : World} {g : Nat} {cs : Array Value} {t : TypeId} (h : Blk w g cs t) (hs : cs.size = 22) : (loadVar 25 ⟨g, 0, none⟩).run Tryd.prog w = .ok (.agg cs) w :=
  run_loadVarRow h _ _ Tryd.underlying25 rfl (by rw [hs]; kernel_rfl)
theorem store_new {w : World} {Z cs : Array Value} {t : TypeId} (ho : Z.size = 22) (hs : cs.size = 22) (h1 : OneRow cs) : (storeWhole 25 (.pointer (some ⟨w.heap.size, 0, none⟩)) (.agg cs)).run Tryd.prog (w.alloc (.cells Z t)) = .ok () (w.alloc (.cells cs t)) := by
  have := store_cpu (Blk.new w Z t) ho hs h1
  rwa [alloc_setRow] at this
/-- A processor: its registers, H, its flags, PC. -/
structure CpuOk (cs : Array Value) : Prop where
  size : cs.size = 22
  one : OneRow cs
  reg : ∀ k, k < 16 → ∃ x, cs[k]? = some (.int .u32 x) ∧ 0 ≤ x ∧ x < 4294967296
  h : ∃ x, cs[16]? = some (.int .u32 x) ∧ 0 ≤ x ∧ x < 4294967296
  n : ∃ b, cs[17]? = some (.bool b)
  z : ∃ b, cs[18]? = some (.bool b)
  c : ∃ b, cs[19]? = some (.bool b)
  v : ∃ b, cs[20]? = some (.bool b)
  pc : ∃ x, cs[21]? = some (.int .u32 x) ∧ 0 ≤ x ∧ x < 4294967296
def zCpu : Array Value := #[.int .u32 0, .int .u32 0, .int .u32 0, .int .u32 0, .int .u32 0, .int .u32 0, .int .u32 0, .int .u32 0, .int .u32 0, .int .u32 0, .int .u32 0, .int .u32 0, .int .u32 0, .int .u32 0, .int .u32 0, .int .u32 0, .int .u32 0, .bool false, .bool false, .bool false, .bool false, .int .u32 0]
attribute [local go_sem ↓] exec_load_cpu exec_store_cpu
set_option maxRecDepth 100000 in
set_option maxHeartbeats 1000000 in
theorem exec_no (cs : Array Value) (hc : CpuOk cs) (f : Int) (u v : Bool) (a b op c n l : Int) (hr : rightB f u v a b op c n = false) (w : World) (hT : Tab w) :
    Calls Tryd.prog 18 #[.agg cs, ins f u v a b op c n, .int .u32 l] w fun e w' => e = .returned (.tuple #[.agg cs, .int .i64 0, .bool false]) ∧ Below w.heap.size w w' := by
  have HT : Hid (∀ W, Below w.heap.size w W → Tab W) := fun W hB => hT.below hB hT.lt
  clear hT
  have HC := Lib.hid hc
  clear hc
  unfold ins
  go_enter Tryd.func18, Tryd.ntmps18
  go_wp2_with (go_at_call 27; refine (right_any _ _ _ _ _ _ _ _ _ (HT.out _ (by go_grown))).mono ?_; rintro e w1 ⟨rfl, hb1⟩; obtain ⟨h0, h1, h2, hs, hB⟩ := three hb1; have hl := load_cpu h0 HC.out.size; have hst := store_cpu h2 rfl HC.out.size HC.out.one; have hres := loadVar_cpu (h2.setRow cs) HC.out.size; have Hh2 := Lib.hid h2; have HB := Lib.hid hB; clear hb1 h0 h1 h2 hB)
  refine bodyPost_ret (v := .tuple #[.agg cs, .int .i64 0, .bool false]) ?_ rfl ⟨rfl, belRow HB.out (by omega) cs⟩
  simp [results, Tryd.results18, asAddr, hres]
end Go.Proofs.YtnghhkageiceaaaDoor
