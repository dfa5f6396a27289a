/- The document's machine, made: that it is there. -/
import Derived.Test.YtgcknekhimpfkaaGreatDoorRBusA
import Derived.Test.YtgcknekhimpfkaaGreatDoorQH
namespace Go.Proofs.YtgcknekhimpfkaaGreatDoor
open Go Go.RowKit Go.Lib Go.Proofs.YtgcknekhimpfkaaGreatDoor.Pl
set_option linter.unusedVariables false
set_option linter.unusedSimpArgs false
set_option maxRecDepth 100000 in
set_option maxHeartbeats 1000000 in
theorem rmNew_bad (A : Option Addr) (n c : Nat) (ent : Int) (w : World) (d : Addr) (hn : n ≤ 9223372036854775807) (h0 : 0 ≤ ent) (h1 : ent < 4294967296) (hb : ¬ mgood n ent) : Calls Tryz.prog 14 #[.agg #[.slice A n c, .int .u32 ent], .pointer (some d)] w fun e w' => e = .returned (.tuple #[.pointer none, .int .i64 50]) ∧ Below w.heap.size w w' := by
 have hb2 : 262144 < n ∨ (¬ 262144 < n ∧ ¬ ent % 4 = 0) ∨ (¬ 262144 < n ∧ ent % 4 = 0 ∧ 1048576 ≤ ent) := by unfold mgood at hb; omega
 clear hb
 rcases hb2 with hb | ⟨ha, hb⟩ | ⟨ha, hb, hc⟩
 ·have t1 : decide ((262144 : Int) < n) = true := decide_eq_true (by omega)
  go_enter Tryz.func14, Tryz.ntmps14
  go_wp2_with fail
  go_ret2
  exact ⟨rfl, (Below.refl _ _).alloc (Nat.le_refl _) _⟩
 ·have t1 : decide ((262144 : Int) < n) = false := decide_eq_false (by omega)
  have t2 : (ent % 4 != 0) = true := by simpa using hb
  go_enter Tryz.func14, Tryz.ntmps14
  go_wp2_with fail
  go_ret2
  exact ⟨rfl, (Below.refl _ _).alloc (Nat.le_refl _) _⟩
 ·have t1 : decide ((262144 : Int) < n) = false := decide_eq_false (by omega)
  have t2 : (ent % 4 != 0) = false := by simpa using hb
  have t3 : decide ((1048576 : Int) ≤ ent) = true := decide_eq_true hc
  go_enter Tryz.func14, Tryz.ntmps14
  go_wp2_with fail
  go_ret2
  exact ⟨rfl, (Below.refl _ _).alloc (Nat.le_refl _) _⟩
end Go.Proofs.YtgcknekhimpfkaaGreatDoor
