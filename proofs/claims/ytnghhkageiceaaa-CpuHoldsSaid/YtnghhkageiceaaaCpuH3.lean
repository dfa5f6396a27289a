/- The walk of CpuHolds. -/
import Derived.Test.YtnghhkageiceaaaCpuH2
import Derived.Test.YtnghhkageiceaaaRow
import Derived.Deep.LoopGhost
namespace Go.Proofs.Ytnghhkageiceaaa
open Go.RowKit
set_option linter.unusedVariables false
attribute [local go_sem ↓] Go.wp_at_zero Go.wp_at_succ

theorem holds_opp (n z c v : Bool) (k : Int) (h0 : 0 ≤ k) (h1 : k < 8) : (holdsV n z c v k == holdsV n z c v (k + 8)) = false := by
  have e : condB n z c v (k + 8) = condB n z c v k := by unfold condB; rw [show (k + 8) % 8 = k % 8 from by omega]
  unfold holdsV
  rw [if_neg (by omega), if_neg (by omega), e, decide_eq_true (by omega : k < 8), decide_eq_false (by omega : ¬ k + 8 < 8)]
  cases condB n z c v k <;> rfl
theorem exec_load_cpu (ρ : Operand → Value) (dst : Option Tmp) (x : Operand) (ty' : TypeId) (pos : String) (after : Array Edge) (guard : Option (Nat × Bool)) :
    execOp ρ ⟨dst, .load 25 x, ty', pos, after, guard⟩ = (do pure (.value (← loadWhole 25 (ρ x)))) := rfl
theorem load_cpu (w : World) (g : Nat) (h : (rowOf w g).size = 22) : (loadWhole 25 (.pointer (some ⟨g, 0, none⟩))).run Try.prog w = .ok (.agg (rowOf w g)) w :=
  run_loadWhole w g _ _ 22 Try.underlying25 rfl (by kernel_rfl) h
attribute [local go_sem ↓] exec_load_cpu
attribute [local go_sem] load_cpu
theorem step_held {a w w1 : World} {cs : Array Value} (h1 : Below w.heap.size w w1) (hr : rowOf w a.heap.size = cs) (hs : a.heap.size < w.heap.size) (h : Hid (Below a.heap.size a w)) :
    rowOf w1 a.heap.size = cs ∧ a.heap.size < w1.heap.size ∧ Hid (Below a.heap.size a w1) :=
  ⟨(rowOf_below h1 hs).trans hr, Nat.lt_of_lt_of_le hs h1.size, h.out.trans (h1.mono (Nat.le_of_lt hs))⟩
theorem Hid_drew {B : Nat} {a w : World} (h : Hid (Below B a w)) : Hid (Below B a w.drew) := h.out.drew
theorem walkx (cs : Array Value) (n z c v : Bool) (hf : FlagsAre cs n z c v) (hsz : cs.size = 22) (k : Int) (w : World) :
    Calls Try.prog 3 #[.agg cs, .int .i64 k] w fun e w' => e = .returned (.bool true) ∧ Below w.heap.size w w' := by
  have h0 := rowOf_new w cs 25 (0, 0)
  have HF := Lib.hid hf; clear hf
  have hB := Lib.hid ((Below.refl w.heap.size w).alloc (Nat.le_refl _) (.cells cs 25))
  have HO := Lib.hid (holds_opp n z c v)
  go_enter Try.func3, Try.ntmps3
  go_wp2_with fail
  go_region_held3 (fun w' => rowOf w' w.heap.size = cs ∧ w.heap.size < w'.heap.size ∧ Hid (Below w.heap.size w w')) ((go_split_ands; refine ⟨?_, ?_, ?_⟩ <;> first | assumption | exact Hid_drew (by assumption) | (simp; done))) (first | (go_at_call 4; refine (holds_any _ _ _ _ _ HF.out _ _).mono ?_; rintro e w1 ⟨rfl, hb1⟩; obtain ⟨hr1, hs1, hB1⟩ := step_held hb1 (by assumption) (by first | assumption | simp) (by first | assumption | exact Hid_drew (by assumption)); clear hb1) | (go_at_call 5; refine (rholds_any _ _ _ _ _ HF.out _ _).mono ?_; rintro e w1 ⟨rfl, hb1⟩; obtain ⟨hr1, hs1, hB1⟩ := step_held hb1 (by assumption) (by first | assumption | simp) (by first | assumption | exact Hid_drew (by assumption)); clear hb1))
  go_wp2_with fail
  go_loopw [5] (fun i wr => ∃ j : Nat, j ≤ 8 ∧ i = .int .i64 j ∧ rowOf wr w.heap.size = cs ∧ w.heap.size < wr.heap.size ∧ Hid (Below w.heap.size w wr)) (fun i _ => 8 - (intOf i).toNat)
  case atStart => exact ⟨0, by omega, rfl, by assumption, by assumption, by assumption⟩
  case round =>
    obtain ⟨j, hj, rfl, hr, hs, hB⟩ := hrel
    by_cases hlt : j < 8
    · have hopp := HO.out j (by omega) (by omega)
      have hw8 : IntKind.i64.wrap ((j : Int) + 8) = (j : Int) + 8 := IntWalk.i64_in _ (by omega)
      go_wp2_with fail
      go_region_held3 (fun w' => rowOf w' w.heap.size = cs ∧ w.heap.size < w'.heap.size ∧ Hid (Below w.heap.size w w')) ((go_split_ands; refine ⟨?_, ?_, ?_⟩ <;> first | assumption | exact Hid_drew (by assumption) | (simp; done))) (first | (go_at_call 4; refine (holds_any _ _ _ _ _ HF.out _ _).mono ?_; rintro e w1 ⟨rfl, hb1⟩; obtain ⟨hr1, hs1, hB1⟩ := step_held hb1 (by assumption) (by first | assumption | simp) (by first | assumption | exact Hid_drew (by assumption)); clear hb1) | (go_at_call 5; refine (rholds_any _ _ _ _ _ HF.out _ _).mono ?_; rintro e w1 ⟨rfl, hb1⟩; obtain ⟨hr1, hs1, hB1⟩ := step_held hb1 (by assumption) (by first | assumption | simp) (by first | assumption | exact Hid_drew (by assumption)); clear hb1))
      all_goals
        clear hw8
        go_wp2_with fail
        go_roundw
        case rel => exact ⟨j + 1, by omega, by go_num, by assumption, by assumption, by assumption⟩
        case measure => simp [intOf]; omega
    · have : j = 8 := by omega
      go_wp2_with fail
      go_ret
      exact ⟨rfl, hB.out⟩

def cpuHoldsAts : List Gen.AT := [.agg [.int .u32, .int .u32, .int .u32, .int .u32, .int .u32, .int .u32, .int .u32, .int .u32, .int .u32, .int .u32, .int .u32, .int .u32, .int .u32, .int .u32, .int .u32, .int .u32, .int .u32, .bool, .bool, .bool, .bool, .int .u32], .one (.int .i64)]
theorem cpuHolds_args (W : World) (vs : List Value) (h : Gen.ArgsGood W cpuHoldsAts vs) :
    Calls Try.prog 3 vs.toArray W fun e W' => e = .returned (.bool true) ∧ Below W.heap.size W W' := by
  match vs, h with
  | [v0, v1], h =>
    obtain ⟨⟨cs, rfl, hg⟩, h1, _⟩ := h
    obtain ⟨k, rfl, _⟩ := h1.int_inv
    obtain ⟨n, hn⟩ := hg.bool 17 rfl
    obtain ⟨z, hz⟩ := hg.bool 18 rfl
    obtain ⟨c, hc⟩ := hg.bool 19 rfl
    obtain ⟨v, hv⟩ := hg.bool 20 rfl
    have hl := hg.1
    exact walkx cs.toArray n z c v ⟨by simpa using hn, by simpa using hz, by simpa using hc, by simpa using hv⟩ (by simpa using hl) k W
end Go.Proofs.Ytnghhkageiceaaa
