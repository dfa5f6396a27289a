/- The document's bus: a command. -/
import Derived.Test.YtmamocdkmmkkjaaRBusD
import Derived.Deep.QuietTactic
import Derived.BigQuiet
import Derived.Deep.RegionHeld3
namespace Go.Proofs.Ytmamocdkmmkkjaa
open Go Go.RowKit Go.Lib Go.Proofs.Ytmamocdkmmkkjaa.Pl
set_option linter.unusedVariables false
set_option linter.unusedSimpArgs false
section
variable {w : World} {base : Nat} {v : RV} {x : BS} {sec0 : Nat → ByteArray} {hist : List (Nat × ByteArray)}
theorem RBusAt.drewN (B : RBusAt w base v x sec0 hist) (n : Nat) : RBusAt (w.drewN n) base v x sec0 hist := B.below ⟨rfl, rfl, rfl, Nat.le_refl _, fun _ _ => rfl⟩
theorem rsectors_quiet (B : RBusAt w base v x sec0 hist) (n : Nat) : Calls Try.prog 23 #[.pointer (some ⟨v.r, 0, none⟩)] (w.drewN n) fun e w' => e = .returned (.int .i64 (x.N : Int)) ∧ w' = w.drewN n :=
  (rsectors_any (B.drewN n).disk).mono fun e w' ⟨h1, h2⟩ => ⟨h1, h2.symm⟩
/-- A command that may not be. -/
def rmay (x : BS) (c : Int) : Prop := (c = 1 ∨ c = 2) ∧ x.se < x.N ∧ x.ad % 4 = 0 ∧ x.ad ≤ 1047552
set_option maxRecDepth 100000 in
set_option maxHeartbeats 1000000 in
theorem rdone_no (B : RBusAt w base v x sec0 hist) (c : Int) (h : ¬ rmay x c) :
    Calls Try.prog 58 #[.pointer (some ⟨v.b, 0, none⟩), .int .u32 c] w fun e w' => e = .returned (.bool false) ∧ RBusAt w' base v x sec0 hist ∧ RMoves w w' v v := by
  have hw : (¬ c = 1 ∧ ¬ c = 2) ∨ ((c = 1 ∨ c = 2) ∧ (x.N : Int) ≤ x.se) ∨ ((c = 1 ∨ c = 2) ∧ x.se < x.N ∧ ¬ x.ad % 4 = 0) ∨ ((c = 1 ∨ c = 2) ∧ x.se < x.N ∧ x.ad % 4 = 0 ∧ 1047552 < x.ad) := by unfold rmay at h; omega
  clear h
  obtain ⟨-, c1, -, -, -, c5, c6, -⟩ := B.cells
  obtain ⟨n0, n1⟩ := B.nb
  obtain ⟨s0, s1⟩ := B.seb
  obtain ⟨a0, a1⟩ := B.adb
  have m0 : (0 : Int) ≤ (x.N : Int) := by omega
  have m1 : (x.N : Int) ≤ 1024 := by omega
  have HB := Lib.hid B
  have HQ := Lib.hid (fun n => rsectors_quiet B n)
  have HZ := Lib.hid (show ∀ nq, RBusAt (w.drewN nq) base v x sec0 hist ∧ RMoves w (w.drewN nq) v v from fun nq => ⟨B.drewN nq, RMoves.of_below _ ⟨rfl, rfl, rfl, Nat.le_refl _, fun _ _ => rfl⟩⟩)
  generalize x.se = SE at *
  generalize x.ad = AD at *
  generalize x.N = N at *
  clear B HB
  rcases hw with ⟨h1, h2⟩ | ⟨h1, h2⟩ | ⟨h1, h2, h3⟩ | ⟨h1, h2, h3, h4⟩
  · have t1 : (c != 1) = true := by simpa using h1
    have t2 : (c != 2) = true := by simpa using h2
    go_enter Try.func58, Try.ntmps58
    go_wp2_with fail
    refine wp_region_quiet_lit (by kernel_rfl) (by kernel_rfl) ?_
    repeat (first | go_big_quiet_step ((go_at_call 23; exact Calls.quiet_of_same (HQ.out _))) | quiet_step ((go_at_call 23; exact Calls.quiet_of_same (HQ.out _))))
    refine wpQuiet_nil ?_
    intro _ hw'
    obtain ⟨nq, hw''⟩ := hw'
    subst hw''
    go_wp2_with fail
    go_ret
    exact ⟨rfl, HZ.out nq⟩
  · rcases h1 with rfl | rfl
    · have t3 : decide ((N : Int) ≤ SE) = true := decide_eq_true h2
      go_enter Try.func58, Try.ntmps58
      go_wp2_with fail
      refine wp_region_quiet_lit (by kernel_rfl) (by kernel_rfl) ?_
      repeat (first | go_big_quiet_step ((go_at_call 23; exact Calls.quiet_of_same (HQ.out _))) | quiet_step ((go_at_call 23; exact Calls.quiet_of_same (HQ.out _))))
      refine wpQuiet_nil ?_
      intro _ hw'
      obtain ⟨nq, hw''⟩ := hw'
      subst hw''
      go_wp2_with fail
      go_ret
      exact ⟨rfl, HZ.out nq⟩
    · have t3 : decide ((N : Int) ≤ SE) = true := decide_eq_true h2
      go_enter Try.func58, Try.ntmps58
      go_wp2_with fail
      refine wp_region_quiet_lit (by kernel_rfl) (by kernel_rfl) ?_
      repeat (first | go_big_quiet_step ((go_at_call 23; exact Calls.quiet_of_same (HQ.out _))) | quiet_step ((go_at_call 23; exact Calls.quiet_of_same (HQ.out _))))
      refine wpQuiet_nil ?_
      intro _ hw'
      obtain ⟨nq, hw''⟩ := hw'
      subst hw''
      go_wp2_with fail
      go_ret
      exact ⟨rfl, HZ.out nq⟩
  · rcases h1 with rfl | rfl
    · have t3 : decide ((N : Int) ≤ SE) = false := decide_eq_false (by omega)
      have t4 : (AD % 4 != 0) = true := by simpa using h3
      go_enter Try.func58, Try.ntmps58
      go_wp2_with fail
      refine wp_region_quiet_lit (by kernel_rfl) (by kernel_rfl) ?_
      repeat (first | go_big_quiet_step ((go_at_call 23; exact Calls.quiet_of_same (HQ.out _))) | quiet_step ((go_at_call 23; exact Calls.quiet_of_same (HQ.out _))))
      refine wpQuiet_nil ?_
      intro _ hw'
      obtain ⟨nq, hw''⟩ := hw'
      subst hw''
      go_wp2_with fail
      go_ret
      exact ⟨rfl, HZ.out nq⟩
    · have t3 : decide ((N : Int) ≤ SE) = false := decide_eq_false (by omega)
      have t4 : (AD % 4 != 0) = true := by simpa using h3
      go_enter Try.func58, Try.ntmps58
      go_wp2_with fail
      refine wp_region_quiet_lit (by kernel_rfl) (by kernel_rfl) ?_
      repeat (first | go_big_quiet_step ((go_at_call 23; exact Calls.quiet_of_same (HQ.out _))) | quiet_step ((go_at_call 23; exact Calls.quiet_of_same (HQ.out _))))
      refine wpQuiet_nil ?_
      intro _ hw'
      obtain ⟨nq, hw''⟩ := hw'
      subst hw''
      go_wp2_with fail
      go_ret
      exact ⟨rfl, HZ.out nq⟩
  · rcases h1 with rfl | rfl
    · have t3 : decide ((N : Int) ≤ SE) = false := decide_eq_false (by omega)
      have t4 : (AD % 4 != 0) = false := by simpa using h3
      have t5 : decide (1047552 < AD) = true := decide_eq_true h4
      go_enter Try.func58, Try.ntmps58
      go_wp2_with fail
      refine wp_region_quiet_lit (by kernel_rfl) (by kernel_rfl) ?_
      repeat (first | go_big_quiet_step ((go_at_call 23; exact Calls.quiet_of_same (HQ.out _))) | quiet_step ((go_at_call 23; exact Calls.quiet_of_same (HQ.out _))))
      refine wpQuiet_nil ?_
      intro _ hw'
      obtain ⟨nq, hw''⟩ := hw'
      subst hw''
      go_wp2_with fail
      go_ret
      exact ⟨rfl, HZ.out nq⟩
    · have t3 : decide ((N : Int) ≤ SE) = false := decide_eq_false (by omega)
      have t4 : (AD % 4 != 0) = false := by simpa using h3
      have t5 : decide (1047552 < AD) = true := decide_eq_true h4
      go_enter Try.func58, Try.ntmps58
      go_wp2_with fail
      refine wp_region_quiet_lit (by kernel_rfl) (by kernel_rfl) ?_
      repeat (first | go_big_quiet_step ((go_at_call 23; exact Calls.quiet_of_same (HQ.out _))) | quiet_step ((go_at_call 23; exact Calls.quiet_of_same (HQ.out _))))
      refine wpQuiet_nil ?_
      intro _ hw'
      obtain ⟨nq, hw''⟩ := hw'
      subst hw''
      go_wp2_with fail
      go_ret
      exact ⟨rfl, HZ.out nq⟩
end
end Go.Proofs.Ytmamocdkmmkkjaa
