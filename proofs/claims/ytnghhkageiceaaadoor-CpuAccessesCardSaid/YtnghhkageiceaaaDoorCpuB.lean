/- Operations 1 to 7. -/
import Derived.Test.YtnghhkageiceaaaDoorCpuA
import Derived.Handy
import Derived.WalkSpells
import Derived.Lib.Hide
namespace Go.Proofs.YtnghhkageiceaaaDoor
open Go Go.RowKit Go.Lib
set_option linter.unusedVariables false
set_option linter.unusedSimpArgs false
set_option maxHeartbeats 1000000 in
theorem reck_1 (f : Int) (u v : Bool) (a b c n : Int) (w : World) (hT : Tab w) :
    Calls Tryd.prog 43 #[ins f u v a b 1 c n] w fun e w' => e = .returned (.bool (reckB f u v a b 1 c)) ∧ Below w.heap.size w w' := by
  have hk : ∀ o, (w.alloc o).cell? ⟨0, 1, none⟩ = some (.int .i64 2) := fun o => by rw [World.cell?_alloc_lt _ _ _ hT.lt]; exact hT 1 (by decide)
  unfold ins
  obtain ⟨tf, htf⟩ : ∃ t, (f == 1) = t := ⟨_, rfl⟩
  have HE : Hid (decide (f = 1) = tf) := (by rw [← htf]; simp [BEq.beq] : decide (f = 1) = tf)
  cases u <;> cases v <;> cases tf
  all_goals
    go_enter Tryd.func43, Tryd.ntmps43
    go_wp2_with (first | (go_at_call 42; refine (within_any _ _ _ _).mono ?_; rintro e w' ⟨rfl, rfl⟩))
  all_goals
    go_ret
    have e1 := HE.out
    simp only [decide_eq_true_eq, decide_eq_false_iff_not] at e1
    exact ⟨by simp [reckB, e1], by go_grown⟩
set_option maxHeartbeats 1000000 in
theorem reck_2 (f : Int) (u v : Bool) (a b c n : Int) (w : World) (hT : Tab w) :
    Calls Tryd.prog 43 #[ins f u v a b 2 c n] w fun e w' => e = .returned (.bool (reckB f u v a b 2 c)) ∧ Below w.heap.size w w' := by
  have hk : ∀ o, (w.alloc o).cell? ⟨0, 2, none⟩ = some (.int .i64 2) := fun o => by rw [World.cell?_alloc_lt _ _ _ hT.lt]; exact hT 2 (by decide)
  unfold ins
  obtain ⟨tf, htf⟩ : ∃ t, (f == 1) = t := ⟨_, rfl⟩
  have HE : Hid (decide (f = 1) = tf) := (by rw [← htf]; simp [BEq.beq] : decide (f = 1) = tf)
  cases u <;> cases v <;> cases tf
  all_goals
    go_enter Tryd.func43, Tryd.ntmps43
    go_wp2_with (first | (go_at_call 42; refine (within_any _ _ _ _).mono ?_; rintro e w' ⟨rfl, rfl⟩))
  all_goals
    go_ret
    have e1 := HE.out
    simp only [decide_eq_true_eq, decide_eq_false_iff_not] at e1
    exact ⟨by simp [reckB, e1], by go_grown⟩
set_option maxHeartbeats 1000000 in
theorem reck_3 (f : Int) (u v : Bool) (a b c n : Int) (w : World) (hT : Tab w) :
    Calls Tryd.prog 43 #[ins f u v a b 3 c n] w fun e w' => e = .returned (.bool (reckB f u v a b 3 c)) ∧ Below w.heap.size w w' := by
  have hk : ∀ o, (w.alloc o).cell? ⟨0, 3, none⟩ = some (.int .i64 2) := fun o => by rw [World.cell?_alloc_lt _ _ _ hT.lt]; exact hT 3 (by decide)
  unfold ins
  obtain ⟨tf, htf⟩ : ∃ t, (f == 1) = t := ⟨_, rfl⟩
  have HE : Hid (decide (f = 1) = tf) := (by rw [← htf]; simp [BEq.beq] : decide (f = 1) = tf)
  cases u <;> cases v <;> cases tf
  all_goals
    go_enter Tryd.func43, Tryd.ntmps43
    go_wp2_with (first | (go_at_call 42; refine (within_any _ _ _ _).mono ?_; rintro e w' ⟨rfl, rfl⟩))
  all_goals
    go_ret
    have e1 := HE.out
    simp only [decide_eq_true_eq, decide_eq_false_iff_not] at e1
    exact ⟨by simp [reckB, e1], by go_grown⟩
set_option maxHeartbeats 1000000 in
theorem reck_4 (f : Int) (u v : Bool) (a b c n : Int) (w : World) (hT : Tab w) :
    Calls Tryd.prog 43 #[ins f u v a b 4 c n] w fun e w' => e = .returned (.bool (reckB f u v a b 4 c)) ∧ Below w.heap.size w w' := by
  have hk : ∀ o, (w.alloc o).cell? ⟨0, 4, none⟩ = some (.int .i64 2) := fun o => by rw [World.cell?_alloc_lt _ _ _ hT.lt]; exact hT 4 (by decide)
  unfold ins
  obtain ⟨tf, htf⟩ : ∃ t, (f == 1) = t := ⟨_, rfl⟩
  have HE : Hid (decide (f = 1) = tf) := (by rw [← htf]; simp [BEq.beq] : decide (f = 1) = tf)
  cases u <;> cases v <;> cases tf
  all_goals
    go_enter Tryd.func43, Tryd.ntmps43
    go_wp2_with (first | (go_at_call 42; refine (within_any _ _ _ _).mono ?_; rintro e w' ⟨rfl, rfl⟩))
  all_goals
    go_ret
    have e1 := HE.out
    simp only [decide_eq_true_eq, decide_eq_false_iff_not] at e1
    exact ⟨by simp [reckB, e1], by go_grown⟩
set_option maxHeartbeats 1000000 in
theorem reck_5 (f : Int) (u v : Bool) (a b c n : Int) (w : World) (hT : Tab w) :
    Calls Tryd.prog 43 #[ins f u v a b 5 c n] w fun e w' => e = .returned (.bool (reckB f u v a b 5 c)) ∧ Below w.heap.size w w' := by
  have hk : ∀ o, (w.alloc o).cell? ⟨0, 5, none⟩ = some (.int .i64 2) := fun o => by rw [World.cell?_alloc_lt _ _ _ hT.lt]; exact hT 5 (by decide)
  unfold ins
  obtain ⟨tf, htf⟩ : ∃ t, (f == 1) = t := ⟨_, rfl⟩
  have HE : Hid (decide (f = 1) = tf) := (by rw [← htf]; simp [BEq.beq] : decide (f = 1) = tf)
  cases u <;> cases v <;> cases tf
  all_goals
    go_enter Tryd.func43, Tryd.ntmps43
    go_wp2_with (first | (go_at_call 42; refine (within_any _ _ _ _).mono ?_; rintro e w' ⟨rfl, rfl⟩))
  all_goals
    go_ret
    have e1 := HE.out
    simp only [decide_eq_true_eq, decide_eq_false_iff_not] at e1
    exact ⟨by simp [reckB, e1], by go_grown⟩
set_option maxHeartbeats 1000000 in
theorem reck_6 (f : Int) (u v : Bool) (a b c n : Int) (w : World) (hT : Tab w) :
    Calls Tryd.prog 43 #[ins f u v a b 6 c n] w fun e w' => e = .returned (.bool (reckB f u v a b 6 c)) ∧ Below w.heap.size w w' := by
  have hk : ∀ o, (w.alloc o).cell? ⟨0, 6, none⟩ = some (.int .i64 2) := fun o => by rw [World.cell?_alloc_lt _ _ _ hT.lt]; exact hT 6 (by decide)
  unfold ins
  obtain ⟨tf, htf⟩ : ∃ t, (f == 1) = t := ⟨_, rfl⟩
  have HE : Hid (decide (f = 1) = tf) := (by rw [← htf]; simp [BEq.beq] : decide (f = 1) = tf)
  cases u <;> cases v <;> cases tf
  all_goals
    go_enter Tryd.func43, Tryd.ntmps43
    go_wp2_with (first | (go_at_call 42; refine (within_any _ _ _ _).mono ?_; rintro e w' ⟨rfl, rfl⟩))
  all_goals
    go_ret
    have e1 := HE.out
    simp only [decide_eq_true_eq, decide_eq_false_iff_not] at e1
    exact ⟨by simp [reckB, e1], by go_grown⟩
set_option maxHeartbeats 1000000 in
theorem reck_7 (f : Int) (u v : Bool) (a b c n : Int) (w : World) (hT : Tab w) :
    Calls Tryd.prog 43 #[ins f u v a b 7 c n] w fun e w' => e = .returned (.bool (reckB f u v a b 7 c)) ∧ Below w.heap.size w w' := by
  have hk : ∀ o, (w.alloc o).cell? ⟨0, 7, none⟩ = some (.int .i64 2) := fun o => by rw [World.cell?_alloc_lt _ _ _ hT.lt]; exact hT 7 (by decide)
  unfold ins
  obtain ⟨tf, htf⟩ : ∃ t, (f == 1) = t := ⟨_, rfl⟩
  have HE : Hid (decide (f = 1) = tf) := (by rw [← htf]; simp [BEq.beq] : decide (f = 1) = tf)
  cases u <;> cases v <;> cases tf
  all_goals
    go_enter Tryd.func43, Tryd.ntmps43
    go_wp2_with (first | (go_at_call 42; refine (within_any _ _ _ _).mono ?_; rintro e w' ⟨rfl, rfl⟩))
  all_goals
    go_ret
    have e1 := HE.out
    simp only [decide_eq_true_eq, decide_eq_false_iff_not] at e1
    exact ⟨by simp [reckB, e1], by go_grown⟩
end Go.Proofs.YtnghhkageiceaaaDoor
