/- MOV. -/
import Derived.Test.YtnghhkageiceaaaDoorCpuA
import Derived.Handy
import Derived.WalkSpells
import Derived.Lib.Hide
namespace Go.Proofs.YtnghhkageiceaaaDoor
open Go Go.RowKit Go.Lib
set_option linter.unusedVariables false
set_option linter.unusedSimpArgs false
set_option maxHeartbeats 1000000 in
theorem reck_0 (f : Int) (u v : Bool) (a b c n : Int) (w : World) (hT : Tab w) :
    Calls Tryd.prog 43 #[ins f u v a b 0 c n] w fun e w' => e = .returned (.bool (reckB f u v a b 0 c)) ∧ Below w.heap.size w w' := by
  have hk : ∀ o, (w.alloc o).cell? ⟨0, 0, none⟩ = some (.int .i64 3) := fun o => by rw [World.cell?_alloc_lt _ _ _ hT.lt]; exact hT 0 (by decide)
  unfold ins
  obtain ⟨tf, htf⟩ : ∃ t, (f == 1) = t := ⟨_, rfl⟩
  obtain ⟨tb, htb⟩ : ∃ t, (b == 0) = t := ⟨_, rfl⟩
  obtain ⟨tx, htx⟩ : ∃ t, (c == 0) = t := ⟨_, rfl⟩
  have HE : Hid (decide (f = 1) = tf ∧ decide (b = 0) = tb ∧ decide (c = 0) = tx) := ⟨by rw [← htf]; simp [BEq.beq], by rw [← htb]; simp [BEq.beq], by rw [← htx]; simp [BEq.beq]⟩
  have hnb : (b != 0) = !tb := by rw [← htb]; rfl
  cases u <;> cases v <;> cases tf <;> cases tb <;> cases tx
  all_goals
    go_enter Tryd.func43, Tryd.ntmps43
    go_wp2_with (first | (go_at_call 42; refine (within_any _ _ _ _).mono ?_; rintro e w' ⟨rfl, rfl⟩))
  all_goals
    go_ret
    obtain ⟨e1, e2, e3⟩ := HE.out
    simp only [decide_eq_true_eq, decide_eq_false_iff_not] at e1 e2 e3
    exact ⟨by simp [reckB, e1, e2, e3], by go_grown⟩
end Go.Proofs.YtnghhkageiceaaaDoor
