/- ADD, SUB, MUL; all. -/
import Derived.Test.YtnghhkageiceaaaDoorCpuB
import Derived.Test.YtnghhkageiceaaaDoorCpuC
import Derived.Test.YtnghhkageiceaaaDoorCpuD
import Derived.Handy
import Derived.WalkSpells
import Derived.Lib.Hide
namespace Go.Proofs.YtnghhkageiceaaaDoor
open Go Go.RowKit Go.Lib
set_option linter.unusedVariables false
set_option linter.unusedSimpArgs false
theorem bits31 : bits .and .i64 3 1 = 1 := by kernel_rfl
set_option maxHeartbeats 1000000 in
theorem reck_8 (f : Int) (u v : Bool) (a b c n : Int) (w : World) (hT : Tab w) :
    Calls Tryd.prog 43 #[ins f u v a b 8 c n] w fun e w' => e = .returned (.bool (reckB f u v a b 8 c)) ∧ Below w.heap.size w w' := by
  have hk : ∀ o, (w.alloc o).cell? ⟨0, 8, none⟩ = some (.int .i64 3) := fun o => by rw [World.cell?_alloc_lt _ _ _ hT.lt]; exact hT 8 (by decide)
  have hbt := bits31
  unfold ins
  obtain ⟨tf, htf⟩ : ∃ t, (f == 1) = t := ⟨_, rfl⟩
  have HE : Hid (decide (f = 1) = tf) := (by rw [← htf]; simp [BEq.beq] : decide (f = 1) = tf)
  cases u <;> cases v <;> cases tf
  all_goals
    go_enter Tryd.func43, Tryd.ntmps43
    go_wp2_with (first | (go_at_call 42; refine (within_any _ _ _ _).mono ?_; rintro e w' ⟨rfl, rfl⟩))
  all_goals
    go_ret
    have e1 := HE.out
    simp only [decide_eq_true_eq, decide_eq_false_iff_not] at e1
    exact ⟨by simp [reckB, e1], by go_grown⟩
set_option maxHeartbeats 1000000 in
theorem reck_9 (f : Int) (u v : Bool) (a b c n : Int) (w : World) (hT : Tab w) :
    Calls Tryd.prog 43 #[ins f u v a b 9 c n] w fun e w' => e = .returned (.bool (reckB f u v a b 9 c)) ∧ Below w.heap.size w w' := by
  have hk : ∀ o, (w.alloc o).cell? ⟨0, 9, none⟩ = some (.int .i64 3) := fun o => by rw [World.cell?_alloc_lt _ _ _ hT.lt]; exact hT 9 (by decide)
  have hbt := bits31
  unfold ins
  obtain ⟨tf, htf⟩ : ∃ t, (f == 1) = t := ⟨_, rfl⟩
  have HE : Hid (decide (f = 1) = tf) := (by rw [← htf]; simp [BEq.beq] : decide (f = 1) = tf)
  cases u <;> cases v <;> cases tf
  all_goals
    go_enter Tryd.func43, Tryd.ntmps43
    go_wp2_with (first | (go_at_call 42; refine (within_any _ _ _ _).mono ?_; rintro e w' ⟨rfl, rfl⟩))
  all_goals
    go_ret
    have e1 := HE.out
    simp only [decide_eq_true_eq, decide_eq_false_iff_not] at e1
    exact ⟨by simp [reckB, e1], by go_grown⟩
set_option maxHeartbeats 1000000 in
theorem reck_10 (f : Int) (u v : Bool) (a b c n : Int) (w : World) (hT : Tab w) :
    Calls Tryd.prog 43 #[ins f u v a b 10 c n] w fun e w' => e = .returned (.bool (reckB f u v a b 10 c)) ∧ Below w.heap.size w w' := by
  have hk : ∀ o, (w.alloc o).cell? ⟨0, 10, none⟩ = some (.int .i64 3) := fun o => by rw [World.cell?_alloc_lt _ _ _ hT.lt]; exact hT 10 (by decide)
  have hbt := bits31
  unfold ins
  obtain ⟨tf, htf⟩ : ∃ t, (f == 1) = t := ⟨_, rfl⟩
  have HE : Hid (decide (f = 1) = tf) := (by rw [← htf]; simp [BEq.beq] : decide (f = 1) = tf)
  cases u <;> cases v <;> cases tf
  all_goals
    go_enter Tryd.func43, Tryd.ntmps43
    go_wp2_with (first | (go_at_call 42; refine (within_any _ _ _ _).mono ?_; rintro e w' ⟨rfl, rfl⟩))
  all_goals
    go_ret
    have e1 := HE.out
    simp only [decide_eq_true_eq, decide_eq_false_iff_not] at e1
    exact ⟨by simp [reckB, e1], by go_grown⟩
theorem reck_out (f : Int) (u v : Bool) (a b op c n : Int) (h : op < 0 ∨ 15 < op) (w : World) :
    Calls Tryd.prog 43 #[ins f u v a b op c n] w fun e w' => e = .returned (.bool (reckB f u v a b op c)) ∧ Below w.heap.size w w' := by
  have hw : (decide (0 ≤ op) && decide (op ≤ 15)) = false := by simp; omega
  have hr : reckB f u v a b op c = false := by unfold reckB; rw [if_pos (by omega)]
  have HR := Lib.hid hr
  clear hr
  unfold ins
  go_enter Tryd.func43, Tryd.ntmps43
  go_wp2_with (first | (go_at_call 42; refine (within_any _ _ _ _).mono ?_; rintro e w' ⟨rfl, rfl⟩))
  go_ret
  exact ⟨by rw [HR.out]; rfl, by go_grown⟩
theorem reck_any (f : Int) (u v : Bool) (a b op c n : Int) (w : World) (hT : Tab w) :
    Calls Tryd.prog 43 #[ins f u v a b op c n] w fun e w' => e = .returned (.bool (reckB f u v a b op c)) ∧ Below w.heap.size w w' := by
  have h : (op < 0 ∨ 15 < op) ∨ op = 0 ∨ op = 1 ∨ op = 2 ∨ op = 3 ∨ op = 4 ∨ op = 5 ∨ op = 6 ∨ op = 7 ∨ op = 8 ∨ op = 9 ∨ op = 10 ∨ op = 11 ∨ op = 12 ∨ op = 13 ∨ op = 14 ∨ op = 15 := by omega
  rcases h with h | rfl | rfl | rfl | rfl | rfl | rfl | rfl | rfl | rfl | rfl | rfl | rfl | rfl | rfl | rfl | rfl
  · exact reck_out f u v a b op c n h w
  · exact reck_0 f u v a b c n w hT
  · exact reck_1 f u v a b c n w hT
  · exact reck_2 f u v a b c n w hT
  · exact reck_3 f u v a b c n w hT
  · exact reck_4 f u v a b c n w hT
  · exact reck_5 f u v a b c n w hT
  · exact reck_6 f u v a b c n w hT
  · exact reck_7 f u v a b c n w hT
  · exact reck_8 f u v a b c n w hT
  · exact reck_9 f u v a b c n w hT
  · exact reck_10 f u v a b c n w hT
  · exact reck_11 f u v a b c n w hT
  · exact reck_12 f u v a b c n w hT
  · exact reck_13 f u v a b c n w hT
  · exact reck_14 f u v a b c n w hT
  · exact reck_15 f u v a b c n w hT
end Go.Proofs.YtnghhkageiceaaaDoor
