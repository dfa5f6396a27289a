/- The conditions of a branch: the program's. -/
import Derived.Test.YtnghhkageiceaaaDoorCpuA
import Derived.WalkKit
import Derived.ProofKit
import Derived.Handy
import Derived.Lib.Hide
namespace Go.Proofs.YtnghhkageiceaaaDoor
open Go.RowKit
set_option linter.unusedVariables false
/-- The flags of a processor, among its cells. -/
def FlagsAre (cs : Array Value) (n z c v : Bool) : Prop := cs[17]? = some (.bool n) ∧ cs[18]? = some (.bool z) ∧ cs[19]? = some (.bool c) ∧ cs[20]? = some (.bool v)

def condB (n z c v : Bool) (k : Int) : Bool := if k % 8 = 0 then n else if k % 8 = 1 then z else if k % 8 = 2 then c else if k % 8 = 3 then v else if k % 8 = 4 then c || z else if k % 8 = 5 then n != v else if k % 8 = 6 then (n != v) || z else true
def holdsV (n z c v : Bool) (k : Int) : Bool := if k < 0 ∨ 15 < k then false else (condB n z c v k == decide (k < 8))

theorem holds_no (cs : Array Value) (n z c v : Bool) (hf : FlagsAre cs n z c v) (k : Int) (hk : k < 0 ∨ 15 < k) (w : World) :
    Calls Tryd.prog 29 #[.agg cs, .int .i64 k] w fun e w' => e = .returned (.bool (holdsV n z c v k)) ∧ Below w.heap.size w w' := by
  obtain ⟨f17, f18, f19, f20⟩ := hf
  have H : Hid (holdsV n z c v k = false) := by unfold Hid holdsV; rw [if_pos hk]
  have hw : (decide (0 ≤ k) && decide (k ≤ 15)) = false := by simp; omega
  go_enter Tryd.func29, Tryd.ntmps29
  go_wp2_with (go_at_call 42; refine (within_any _ _ _ _).mono ?_; rintro e w' ⟨rfl, rfl⟩)
  go_ret
  exact ⟨by rw [H.out]; rfl, by go_grown⟩

theorem and7 (k : Int) (h0 : 0 ≤ k) (h1 : k ≤ 15) : bits .and .i64 k 7 = k % 8 := by
  obtain ⟨m, rfl⟩ := Int.eq_ofNat_of_zero_le h0
  have : m < 16 := by omega
  have key : ∀ m : Fin 16, bits .and .i64 ((m.val : Nat) : Int) 7 = ((m.val : Nat) : Int) % 8 := by decide +kernel
  exact key ⟨m, this⟩

theorem holds_0 (cs : Array Value) (n z c v : Bool) (hf : FlagsAre cs n z c v) (k : Int) (h0 : 0 ≤ k) (h1 : k ≤ 15) (hm : Hid (k % 8 = 0)) (w : World) :
    Calls Tryd.prog 29 #[.agg cs, .int .i64 k] w fun e w' => e = .returned (.bool (holdsV n z c v k)) ∧ Below w.heap.size w w' := by
  obtain ⟨f17, f18, f19, f20⟩ := hf
  have hw : (decide (0 ≤ k) && decide (k ≤ 15)) = true := by simp; omega
  have ha := and7 k h0 h1
  rw [hm.out] at ha
  have H : holdsV n z c v k = (condB n z c v k == decide (k < 8)) := by unfold holdsV; rw [if_neg (by omega)]
  have HH := Lib.hid H; clear H
  (
    go_enter Tryd.func29, Tryd.ntmps29
    go_wp2_with (go_at_call 42; refine (within_any _ _ _ _).mono ?_; rintro e w' ⟨rfl, rfl⟩)
    go_ret
    refine ⟨by rw [HH.out]; unfold condB; rw [hm.out]; simp, by go_grown⟩)
theorem holds_1 (cs : Array Value) (n z c v : Bool) (hf : FlagsAre cs n z c v) (k : Int) (h0 : 0 ≤ k) (h1 : k ≤ 15) (hm : Hid (k % 8 = 1)) (w : World) :
    Calls Tryd.prog 29 #[.agg cs, .int .i64 k] w fun e w' => e = .returned (.bool (holdsV n z c v k)) ∧ Below w.heap.size w w' := by
  obtain ⟨f17, f18, f19, f20⟩ := hf
  have hw : (decide (0 ≤ k) && decide (k ≤ 15)) = true := by simp; omega
  have ha := and7 k h0 h1
  rw [hm.out] at ha
  have H : holdsV n z c v k = (condB n z c v k == decide (k < 8)) := by unfold holdsV; rw [if_neg (by omega)]
  have HH := Lib.hid H; clear H
  (
    go_enter Tryd.func29, Tryd.ntmps29
    go_wp2_with (go_at_call 42; refine (within_any _ _ _ _).mono ?_; rintro e w' ⟨rfl, rfl⟩)
    go_ret
    refine ⟨by rw [HH.out]; unfold condB; rw [hm.out]; simp, by go_grown⟩)
theorem holds_2 (cs : Array Value) (n z c v : Bool) (hf : FlagsAre cs n z c v) (k : Int) (h0 : 0 ≤ k) (h1 : k ≤ 15) (hm : Hid (k % 8 = 2)) (w : World) :
    Calls Tryd.prog 29 #[.agg cs, .int .i64 k] w fun e w' => e = .returned (.bool (holdsV n z c v k)) ∧ Below w.heap.size w w' := by
  obtain ⟨f17, f18, f19, f20⟩ := hf
  have hw : (decide (0 ≤ k) && decide (k ≤ 15)) = true := by simp; omega
  have ha := and7 k h0 h1
  rw [hm.out] at ha
  have H : holdsV n z c v k = (condB n z c v k == decide (k < 8)) := by unfold holdsV; rw [if_neg (by omega)]
  have HH := Lib.hid H; clear H
  (
    go_enter Tryd.func29, Tryd.ntmps29
    go_wp2_with (go_at_call 42; refine (within_any _ _ _ _).mono ?_; rintro e w' ⟨rfl, rfl⟩)
    go_ret
    refine ⟨by rw [HH.out]; unfold condB; rw [hm.out]; simp, by go_grown⟩)
theorem holds_3 (cs : Array Value) (n z c v : Bool) (hf : FlagsAre cs n z c v) (k : Int) (h0 : 0 ≤ k) (h1 : k ≤ 15) (hm : Hid (k % 8 = 3)) (w : World) :
    Calls Tryd.prog 29 #[.agg cs, .int .i64 k] w fun e w' => e = .returned (.bool (holdsV n z c v k)) ∧ Below w.heap.size w w' := by
  obtain ⟨f17, f18, f19, f20⟩ := hf
  have hw : (decide (0 ≤ k) && decide (k ≤ 15)) = true := by simp; omega
  have ha := and7 k h0 h1
  rw [hm.out] at ha
  have H : holdsV n z c v k = (condB n z c v k == decide (k < 8)) := by unfold holdsV; rw [if_neg (by omega)]
  have HH := Lib.hid H; clear H
  (
    go_enter Tryd.func29, Tryd.ntmps29
    go_wp2_with (go_at_call 42; refine (within_any _ _ _ _).mono ?_; rintro e w' ⟨rfl, rfl⟩)
    go_ret
    refine ⟨by rw [HH.out]; unfold condB; rw [hm.out]; simp, by go_grown⟩)
theorem holds_4 (cs : Array Value) (n z c v : Bool) (hf : FlagsAre cs n z c v) (k : Int) (h0 : 0 ≤ k) (h1 : k ≤ 15) (hm : Hid (k % 8 = 4)) (w : World) :
    Calls Tryd.prog 29 #[.agg cs, .int .i64 k] w fun e w' => e = .returned (.bool (holdsV n z c v k)) ∧ Below w.heap.size w w' := by
  obtain ⟨f17, f18, f19, f20⟩ := hf
  have hw : (decide (0 ≤ k) && decide (k ≤ 15)) = true := by simp; omega
  have ha := and7 k h0 h1
  rw [hm.out] at ha
  have H : holdsV n z c v k = (condB n z c v k == decide (k < 8)) := by unfold holdsV; rw [if_neg (by omega)]
  have HH := Lib.hid H; clear H
  cases c <;> cases z <;> (
    go_enter Tryd.func29, Tryd.ntmps29
    go_wp2_with (go_at_call 42; refine (within_any _ _ _ _).mono ?_; rintro e w' ⟨rfl, rfl⟩)
    go_ret
    refine ⟨by rw [HH.out]; unfold condB; rw [hm.out]; simp, by go_grown⟩)
theorem holds_5 (cs : Array Value) (n z c v : Bool) (hf : FlagsAre cs n z c v) (k : Int) (h0 : 0 ≤ k) (h1 : k ≤ 15) (hm : Hid (k % 8 = 5)) (w : World) :
    Calls Tryd.prog 29 #[.agg cs, .int .i64 k] w fun e w' => e = .returned (.bool (holdsV n z c v k)) ∧ Below w.heap.size w w' := by
  obtain ⟨f17, f18, f19, f20⟩ := hf
  have hw : (decide (0 ≤ k) && decide (k ≤ 15)) = true := by simp; omega
  have ha := and7 k h0 h1
  rw [hm.out] at ha
  have H : holdsV n z c v k = (condB n z c v k == decide (k < 8)) := by unfold holdsV; rw [if_neg (by omega)]
  have HH := Lib.hid H; clear H
  (
    go_enter Tryd.func29, Tryd.ntmps29
    go_wp2_with (go_at_call 42; refine (within_any _ _ _ _).mono ?_; rintro e w' ⟨rfl, rfl⟩)
    go_ret
    refine ⟨by rw [HH.out]; unfold condB; rw [hm.out]; cases n <;> cases v <;> simp, by go_grown⟩)
theorem holds_6 (cs : Array Value) (n z c v : Bool) (hf : FlagsAre cs n z c v) (k : Int) (h0 : 0 ≤ k) (h1 : k ≤ 15) (hm : Hid (k % 8 = 6)) (w : World) :
    Calls Tryd.prog 29 #[.agg cs, .int .i64 k] w fun e w' => e = .returned (.bool (holdsV n z c v k)) ∧ Below w.heap.size w w' := by
  obtain ⟨f17, f18, f19, f20⟩ := hf
  have hw : (decide (0 ≤ k) && decide (k ≤ 15)) = true := by simp; omega
  have ha := and7 k h0 h1
  rw [hm.out] at ha
  have H : holdsV n z c v k = (condB n z c v k == decide (k < 8)) := by unfold holdsV; rw [if_neg (by omega)]
  have HH := Lib.hid H; clear H
  cases n <;> cases v <;> cases z <;> (
    go_enter Tryd.func29, Tryd.ntmps29
    go_wp2_with (go_at_call 42; refine (within_any _ _ _ _).mono ?_; rintro e w' ⟨rfl, rfl⟩)
    go_ret
    refine ⟨by rw [HH.out]; unfold condB; rw [hm.out]; simp, by go_grown⟩)
theorem holds_7 (cs : Array Value) (n z c v : Bool) (hf : FlagsAre cs n z c v) (k : Int) (h0 : 0 ≤ k) (h1 : k ≤ 15) (hm : Hid (k % 8 = 7)) (w : World) :
    Calls Tryd.prog 29 #[.agg cs, .int .i64 k] w fun e w' => e = .returned (.bool (holdsV n z c v k)) ∧ Below w.heap.size w w' := by
  obtain ⟨f17, f18, f19, f20⟩ := hf
  have hw : (decide (0 ≤ k) && decide (k ≤ 15)) = true := by simp; omega
  have ha := and7 k h0 h1
  rw [hm.out] at ha
  have H : holdsV n z c v k = (condB n z c v k == decide (k < 8)) := by unfold holdsV; rw [if_neg (by omega)]
  have HH := Lib.hid H; clear H
  (
    go_enter Tryd.func29, Tryd.ntmps29
    go_wp2_with (go_at_call 42; refine (within_any _ _ _ _).mono ?_; rintro e w' ⟨rfl, rfl⟩)
    go_ret
    refine ⟨by rw [HH.out]; unfold condB; rw [hm.out]; simp, by go_grown⟩)
theorem holds_any (cs : Array Value) (n z c v : Bool) (hf : FlagsAre cs n z c v) (k : Int) (w : World) :
    Calls Tryd.prog 29 #[.agg cs, .int .i64 k] w fun e w' => e = .returned (.bool (holdsV n z c v k)) ∧ Below w.heap.size w w' := by
  by_cases hk : k < 0 ∨ 15 < k
  · exact holds_no cs n z c v hf k hk w
  · have hm : k % 8 = 0 ∨ k % 8 = 1 ∨ k % 8 = 2 ∨ k % 8 = 3 ∨ k % 8 = 4 ∨ k % 8 = 5 ∨ k % 8 = 6 ∨ k % 8 = 7 := by omega
    rcases hm with hm | hm | hm | hm | hm | hm | hm | hm
    · exact holds_0 cs n z c v hf k (by omega) (by omega) hm w
    · exact holds_1 cs n z c v hf k (by omega) (by omega) hm w
    · exact holds_2 cs n z c v hf k (by omega) (by omega) hm w
    · exact holds_3 cs n z c v hf k (by omega) (by omega) hm w
    · exact holds_4 cs n z c v hf k (by omega) (by omega) hm w
    · exact holds_5 cs n z c v hf k (by omega) (by omega) hm w
    · exact holds_6 cs n z c v hf k (by omega) (by omega) hm w
    · exact holds_7 cs n z c v hf k (by omega) (by omega) hm w

end Go.Proofs.YtnghhkageiceaaaDoor
