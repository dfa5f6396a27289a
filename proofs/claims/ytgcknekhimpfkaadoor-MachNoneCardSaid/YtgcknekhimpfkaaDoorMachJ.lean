/- The walk of MachNone. -/
import Derived.Test.YtgcknekhimpfkaaDoorQH
import Derived.Test.YtgcknekhimpfkaaDoorGen
import Derived.Test.YtgcknekhimpfkaaDoorCpuTab
namespace Go.Proofs.YtgcknekhimpfkaaDoor
open Go Go.RowKit Go.Lib Go.Proofs.YtgcknekhimpfkaaDoor.Pl
set_option linter.unusedVariables false
set_option linter.unusedSimpArgs false
attribute [local go_sem ↓] exec_load_cpu exec_store_cpu exec_load_end exec_store_end
theorem end_eql (w : World) : (binOp .eql 35 (.agg (endA 0 0 0 0)) (.agg #[.int .i64 0, .int .i64 0, .int .u32 0, .int .i64 0])).run Tryd.prog w = .ok (.bool true) w := by kernel_rfl
theorem cpu_eql (w : World) : (binOp .eql 39 (.agg #[.int .u32 0, .int .u32 0, .int .u32 0, .int .u32 0, .int .u32 0, .int .u32 0, .int .u32 0, .int .u32 0, .int .u32 0, .int .u32 0, .int .u32 0, .int .u32 0, .int .u32 0, .int .u32 0, .int .u32 0, .int .u32 0, .int .u32 0, .bool false, .bool false, .bool false, .bool false, .int .u32 0]) (.agg #[.int .u32 0, .int .u32 0, .int .u32 0, .int .u32 0, .int .u32 0, .int .u32 0, .int .u32 0, .int .u32 0, .int .u32 0, .int .u32 0, .int .u32 0, .int .u32 0, .int .u32 0, .int .u32 0, .int .u32 0, .int .u32 0, .int .u32 0, .bool false, .bool false, .bool false, .bool false, .int .u32 0])).run Tryd.prog w = .ok (.bool true) w := by kernel_rfl
theorem zCpu_one : OneRow #[.int .u32 0, .int .u32 0, .int .u32 0, .int .u32 0, .int .u32 0, .int .u32 0, .int .u32 0, .int .u32 0, .int .u32 0, .int .u32 0, .int .u32 0, .int .u32 0, .int .u32 0, .int .u32 0, .int .u32 0, .int .u32 0, .int .u32 0, .bool false, .bool false, .bool false, .bool false, .int .u32 0] := by
  intro u hu
  simp only [List.mem_toArray, List.mem_cons, List.not_mem_nil, or_false] at hu
  rcases hu with rfl | rfl | rfl | rfl | rfl | rfl | rfl | rfl | rfl | rfl | rfl | rfl | rfl | rfl | rfl | rfl | rfl | rfl | rfl | rfl | rfl | rfl <;> rfl
set_option maxRecDepth 100000 in
set_option maxHeartbeats 1000000 in
theorem mnone_any (a : Int) (w : World) (hT : Tab w) : Calls Tryd.prog 7 #[.int .i64 a] w fun e w' => e = .returned (.bool true) ∧ Below w.heap.size w w' := by
  have HT := Lib.hid hT
  clear hT
  have hee := end_eql
  have hce := cpu_eql
  go_enter Tryd.func7, Tryd.ntmps7
  go_upto_region 2 with (go_at_call 8; refine (mshown_any _ HT.out).mono ?_; rintro e w1 ⟨rfl, hb1⟩; have HB1 := Lib.hid hb1; clear hb1)
  go_upto_region 4 with (go_at_call 11; refine (mnil_Run a _).mono ?_; rintro e w2 ⟨rfl, hb2⟩; have hn : (storeWhole 35 (.pointer (some ⟨w2.heap.size, 0, none⟩)) (.agg #[.int .i64 0, .int .i64 0, .int .u32 0, .int .i64 0])).run Tryd.prog (w2.alloc (.cells #[.int .i64 0, .int .i64 0, .int .u32 0, .int .i64 0] 35)) = .ok () (w2.alloc (.cells (endA 0 0 0 0) 35)) := new_end w2 0 0 0 0 _ rfl; have HB2 := Lib.hid ((HB1.out.trans (hb2.mono HB1.out.size)).alloc (Nat.le_trans HB1.out.size hb2.size) (.cells (endA 0 0 0 0) 35)); have KE := Lib.hid (Blk.new w2 (endA 0 0 0 0) 35); clear hb2)
  clear hn HB1
  generalize w2.alloc (.cells (endA 0 0 0 0) 35) = W2 at HB2 KE ⊢
  generalize w2.heap.size = ge at KE ⊢
  go_upto_region 9 with (first | (go_at_call 15; refine (mnil_Feed _ _).mono ?_; rintro e w9 ⟨rfl, rfl⟩) | (go_at_call 23; refine (mnil_Tick _ _).mono ?_; rintro e w9 ⟨rfl, rfl⟩) | (go_at_call 18; refine (mnil_CutAt _ _).mono ?_; rintro e w9 ⟨rfl, rfl⟩) | (go_at_call 13; refine (mnil_Word _ _).mono ?_; rintro e w9 ⟨rfl, rfl⟩) | (go_at_call 12; refine (mnil_Cpu _).mono ?_; rintro e w3 ⟨rfl, hb3⟩; have hs := store_new (w := w3) (Z := #[.int .u32 0, .int .u32 0, .int .u32 0, .int .u32 0, .int .u32 0, .int .u32 0, .int .u32 0, .int .u32 0, .int .u32 0, .int .u32 0, .int .u32 0, .int .u32 0, .int .u32 0, .int .u32 0, .int .u32 0, .int .u32 0, .int .u32 0, .bool false, .bool false, .bool false, .bool false, .int .u32 0]) (cs := #[.int .u32 0, .int .u32 0, .int .u32 0, .int .u32 0, .int .u32 0, .int .u32 0, .int .u32 0, .int .u32 0, .int .u32 0, .int .u32 0, .int .u32 0, .int .u32 0, .int .u32 0, .int .u32 0, .int .u32 0, .int .u32 0, .int .u32 0, .bool false, .bool false, .bool false, .bool false, .int .u32 0]) (t := 39) rfl rfl zCpu_one; have HB3 := Lib.hid ((HB2.out.trans (hb3.mono HB2.out.size)).alloc (Nat.le_trans HB2.out.size hb3.size) (.cells #[.int .u32 0, .int .u32 0, .int .u32 0, .int .u32 0, .int .u32 0, .int .u32 0, .int .u32 0, .int .u32 0, .int .u32 0, .int .u32 0, .int .u32 0, .int .u32 0, .int .u32 0, .int .u32 0, .int .u32 0, .int .u32 0, .int .u32 0, .bool false, .bool false, .bool false, .bool false, .int .u32 0] 39)); have KE3 := Lib.hid ((KE.out.step hb3).old (.cells #[.int .u32 0, .int .u32 0, .int .u32 0, .int .u32 0, .int .u32 0, .int .u32 0, .int .u32 0, .int .u32 0, .int .u32 0, .int .u32 0, .int .u32 0, .int .u32 0, .int .u32 0, .int .u32 0, .int .u32 0, .int .u32 0, .int .u32 0, .bool false, .bool false, .bool false, .bool false, .int .u32 0] 39)); have KC := Lib.hid (Blk.new w3 #[.int .u32 0, .int .u32 0, .int .u32 0, .int .u32 0, .int .u32 0, .int .u32 0, .int .u32 0, .int .u32 0, .int .u32 0, .int .u32 0, .int .u32 0, .int .u32 0, .int .u32 0, .int .u32 0, .int .u32 0, .int .u32 0, .int .u32 0, .bool false, .bool false, .bool false, .bool false, .int .u32 0] 39); clear hb3; unfold zCpu))
  clear hs HB2 KE
  generalize w3.alloc (.cells #[.int .u32 0, .int .u32 0, .int .u32 0, .int .u32 0, .int .u32 0, .int .u32 0, .int .u32 0, .int .u32 0, .int .u32 0, .int .u32 0, .int .u32 0, .int .u32 0, .int .u32 0, .int .u32 0, .int .u32 0, .int .u32 0, .int .u32 0, .bool false, .bool false, .bool false, .bool false, .int .u32 0] 39) = W3 at HB3 KE3 KC ⊢
  generalize w3.heap.size = gc at KC ⊢
  go_wp2_with (first | (go_at_call 10; refine (mNew_nil _ _ _ _ _).mono ?_; rintro e w4 ⟨rfl, hb4⟩; have hle := load_end (KE3.out.step hb4); have hlc := load_cpu (KC.out.step hb4) rfl; have HB4 := Lib.hid (HB3.out.trans (hb4.mono HB3.out.size)); clear hb4) | (go_at_call 22; refine (mnil_Out _).mono ?_; rintro e w9 ⟨rfl, rfl⟩) | (go_at_call 19; refine (mnil_Disk _).mono ?_; rintro e w9 ⟨rfl, rfl⟩) | (go_at_call 17; refine (mnil_Steps _).mono ?_; rintro e w9 ⟨rfl, rfl⟩))
  go_ret
  exact ⟨rfl, HB4.out⟩
def machNoneAts : List Gen.AT := [.one (.int .i64)]
theorem machNone_args (W : World) (vs : List Value) (h : Gen.ArgsGood W machNoneAts vs) (hT : Tab W) :
    Calls Tryd.prog 7 vs.toArray W fun e W' => e = .returned (.bool true) ∧ Below W.heap.size W W' := by
  match vs, h with
  | [v0], h =>
    obtain ⟨h0, _⟩ := h
    obtain ⟨a, rfl, wa⟩ := h0.int_inv
    exact mnone_any a W hT
end Go.Proofs.YtgcknekhimpfkaaDoor
