/- Operations 11 to 15. -/
import Derived.Test.YtnghhkageiceaaaDoorCpuA
import Derived.Handy
import Derived.WalkSpells
import Derived.Lib.Hide
namespace Go.Proofs.YtnghhkageiceaaaDoor
open Go Go.RowKit Go.Lib
set_option linter.unusedVariables false
set_option linter.unusedSimpArgs false
set_option maxHeartbeats 1000000 in
theorem reck_11 (f : Int) (u v : Bool) (a b c n : Int) (w : World) (hT : Tab w) :
    Calls Tryd.prog 43 #[ins f u v a b 11 c n] w fun e w' => e = .returned (.bool (reckB f u v a b 11 c)) ∧ Below w.heap.size w w' := by
  have hk : ∀ o, (w.alloc o).cell? ⟨0, 11, none⟩ = some (.int .i64 2) := fun o => by rw [World.cell?_alloc_lt _ _ _ hT.lt]; exact hT 11 (by decide)
  unfold ins
  obtain ⟨tf, htf⟩ : ∃ t, (f == 1) = t := ⟨_, rfl⟩
  have HE : Hid (decide (f = 1) = tf) := (by rw [← htf]; simp [BEq.beq] : decide (f = 1) = tf)
  cases u <;> cases v <;> cases tf
  all_goals
    go_enter Tryd.func43, Tryd.ntmps43
    go_wp2_with (first | (go_at_call 42; refine (within_any _ _ _ _).mono ?_; rintro e w' ⟨rfl, rfl⟩))
  all_goals
    go_ret
    have e1 := HE.out
    simp only [decide_eq_true_eq, decide_eq_false_iff_not] at e1
    exact ⟨by simp [reckB, e1], by go_grown⟩
set_option maxHeartbeats 1000000 in
theorem reck_12 (f : Int) (u v : Bool) (a b c n : Int) (w : World) (hT : Tab w) :
    Calls Tryd.prog 43 #[ins f u v a b 12 c n] w fun e w' => e = .returned (.bool (reckB f u v a b 12 c)) ∧ Below w.heap.size w w' := by
  have hk : ∀ o, (w.alloc o).cell? ⟨0, 12, none⟩ = some (.int .i64 4) := fun o => by rw [World.cell?_alloc_lt _ _ _ hT.lt]; exact hT 12 (by decide)
  unfold ins
  obtain ⟨tf, htf⟩ : ∃ t, (f == 1) = t := ⟨_, rfl⟩
  have HE : Hid (decide (f = 1) = tf) := (by rw [← htf]; simp [BEq.beq] : decide (f = 1) = tf)
  cases u <;> cases v <;> cases tf
  all_goals
    go_enter Tryd.func43, Tryd.ntmps43
    go_wp2_with (first | (go_at_call 42; refine (within_any _ _ _ _).mono ?_; rintro e w' ⟨rfl, rfl⟩))
  all_goals
    go_ret
    have e1 := HE.out
    simp only [decide_eq_true_eq, decide_eq_false_iff_not] at e1
    exact ⟨by simp [reckB, e1], by go_grown⟩
set_option maxHeartbeats 1000000 in
theorem reck_13 (f : Int) (u v : Bool) (a b c n : Int) (w : World) (hT : Tab w) :
    Calls Tryd.prog 43 #[ins f u v a b 13 c n] w fun e w' => e = .returned (.bool (reckB f u v a b 13 c)) ∧ Below w.heap.size w w' := by
  have hk : ∀ o, (w.alloc o).cell? ⟨0, 13, none⟩ = some (.int .i64 4) := fun o => by rw [World.cell?_alloc_lt _ _ _ hT.lt]; exact hT 13 (by decide)
  unfold ins
  obtain ⟨tf, htf⟩ : ∃ t, (f == 1) = t := ⟨_, rfl⟩
  have HE : Hid (decide (f = 1) = tf) := (by rw [← htf]; simp [BEq.beq] : decide (f = 1) = tf)
  cases u <;> cases v <;> cases tf
  all_goals
    go_enter Tryd.func43, Tryd.ntmps43
    go_wp2_with (first | (go_at_call 42; refine (within_any _ _ _ _).mono ?_; rintro e w' ⟨rfl, rfl⟩))
  all_goals
    go_ret
    have e1 := HE.out
    simp only [decide_eq_true_eq, decide_eq_false_iff_not] at e1
    exact ⟨by simp [reckB, e1], by go_grown⟩
set_option maxHeartbeats 1000000 in
theorem reck_14 (f : Int) (u v : Bool) (a b c n : Int) (w : World) (hT : Tab w) :
    Calls Tryd.prog 43 #[ins f u v a b 14 c n] w fun e w' => e = .returned (.bool (reckB f u v a b 14 c)) ∧ Below w.heap.size w w' := by
  have hk : ∀ o, (w.alloc o).cell? ⟨0, 14, none⟩ = some (.int .i64 4) := fun o => by rw [World.cell?_alloc_lt _ _ _ hT.lt]; exact hT 14 (by decide)
  unfold ins
  obtain ⟨tf, htf⟩ : ∃ t, (f == 1) = t := ⟨_, rfl⟩
  have HE : Hid (decide (f = 1) = tf) := (by rw [← htf]; simp [BEq.beq] : decide (f = 1) = tf)
  cases u <;> cases v <;> cases tf
  all_goals
    go_enter Tryd.func43, Tryd.ntmps43
    go_wp2_with (first | (go_at_call 42; refine (within_any _ _ _ _).mono ?_; rintro e w' ⟨rfl, rfl⟩))
  all_goals
    go_ret
    have e1 := HE.out
    simp only [decide_eq_true_eq, decide_eq_false_iff_not] at e1
    exact ⟨by simp [reckB, e1], by go_grown⟩
set_option maxHeartbeats 1000000 in
theorem reck_15 (f : Int) (u v : Bool) (a b c n : Int) (w : World) (hT : Tab w) :
    Calls Tryd.prog 43 #[ins f u v a b 15 c n] w fun e w' => e = .returned (.bool (reckB f u v a b 15 c)) ∧ Below w.heap.size w w' := by
  have hk : ∀ o, (w.alloc o).cell? ⟨0, 15, none⟩ = some (.int .i64 0) := fun o => by rw [World.cell?_alloc_lt _ _ _ hT.lt]; exact hT 15 (by decide)
  unfold ins
  obtain ⟨tf, htf⟩ : ∃ t, (f == 1) = t := ⟨_, rfl⟩
  obtain ⟨tb, htb⟩ : ∃ t, (b == 0) = t := ⟨_, rfl⟩
  obtain ⟨tx, htx⟩ : ∃ t, (a == 0) = t := ⟨_, rfl⟩
  have HE : Hid (decide (f = 1) = tf ∧ decide (b = 0) = tb ∧ decide (a = 0) = tx) := ⟨by rw [← htf]; simp [BEq.beq], by rw [← htb]; simp [BEq.beq], by rw [← htx]; simp [BEq.beq]⟩
  have hnb : (b != 0) = !tb := by rw [← htb]; rfl
  cases u <;> cases v <;> cases tf <;> cases tb <;> cases tx
  all_goals
    go_enter Tryd.func43, Tryd.ntmps43
    go_wp2_with (first | (go_at_call 42; refine (within_any _ _ _ _).mono ?_; rintro e w' ⟨rfl, rfl⟩))
  all_goals
    go_ret
    obtain ⟨e1, e2, e3⟩ := HE.out
    simp only [decide_eq_true_eq, decide_eq_false_iff_not] at e1 e2 e3
    exact ⟨by simp [reckB, e1, e2, e3], by go_grown⟩
end Go.Proofs.YtnghhkageiceaaaDoor
