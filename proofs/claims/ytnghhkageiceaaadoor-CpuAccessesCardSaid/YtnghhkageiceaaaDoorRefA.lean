/- The document's: what an instruction may be. -/
import Derived.Test.YtnghhkageiceaaaDoorCpuG
namespace Go.Proofs.YtnghhkageiceaaaDoor
open Go Go.RowKit Go.Lib Go.Proofs.YtnghhkageiceaaaDoor.Pl
set_option linter.unusedVariables false
set_option linter.unusedSimpArgs false
set_option maxHeartbeats 1000000 in
theorem may_lo (f : Int) (hf : f = 0 ∨ f = 1) (u v : Bool) (a b op c n : Int) (ho : op < 0) (w : World) :
    Calls Tryd.prog 40 #[ins f u v a b op c n] w fun e w' => e = .returned (.bool (reckB f u v a b op c)) ∧ Below w.heap.size w w' := by
  have H : Hid (reckB f u v a b op c = false) := by unfold Hid reckB; rw [if_pos (by omega)]
  unfold ins
  skip
  all_goals
    go_enter Tryd.func40, Tryd.ntmps40
    go_wp2_with fail
    go_ret
    exact ⟨by rw [H.out]; rfl, (Below.refl _ _).alloc (Nat.le_refl _) _⟩
set_option maxHeartbeats 1000000 in
theorem may_hi (f : Int) (hf : f = 0 ∨ f = 1) (u v : Bool) (a b op c n : Int) (ho : 15 < op) (w : World) :
    Calls Tryd.prog 40 #[ins f u v a b op c n] w fun e w' => e = .returned (.bool (reckB f u v a b op c)) ∧ Below w.heap.size w w' := by
  have H : Hid (reckB f u v a b op c = false) := by unfold Hid reckB; rw [if_pos (by omega)]
  have h2 : ¬ op < 0 := by omega
  unfold ins
  skip
  all_goals
    go_enter Tryd.func40, Tryd.ntmps40
    go_wp2_with fail
    go_ret
    exact ⟨by rw [H.out]; rfl, (Below.refl _ _).alloc (Nat.le_refl _) _⟩
set_option maxHeartbeats 1000000 in
theorem may_mid (f : Int) (hf : f = 0 ∨ f = 1) (u v : Bool) (a b op c n : Int) (ho : 11 < op) (ho2 : op < 15) (w : World) :
    Calls Tryd.prog 40 #[ins f u v a b op c n] w fun e w' => e = .returned (.bool (reckB f u v a b op c)) ∧ Below w.heap.size w w' := by
  have H : Hid (reckB f u v a b op c = false) := by unfold Hid reckB; rw [if_pos (by omega)]
  have h2 : ¬ op < 0 := by omega
  have h3 : ¬ 15 < op := by omega
  unfold ins
  skip
  all_goals
    go_enter Tryd.func40, Tryd.ntmps40
    go_wp2_with fail
    go_ret
    exact ⟨by rw [H.out]; rfl, (Below.refl _ _).alloc (Nat.le_refl _) _⟩
set_option maxHeartbeats 1000000 in
theorem may_15 (f : Int) (hf : f = 0 ∨ f = 1) (u v : Bool) (a b c n : Int) (w : World) :
    Calls Tryd.prog 40 #[ins f u v a b 15 c n] w fun e w' => e = .returned (.bool (reckB f u v a b 15 c)) ∧ Below w.heap.size w w' := by
  obtain ⟨ta, hta⟩ : ∃ t, (a == 0) = t := ⟨_, rfl⟩
  obtain ⟨tb, htb⟩ : ∃ t, (b == 0) = t := ⟨_, rfl⟩
  have HE : Hid (decide (a = 0) = ta ∧ decide (b = 0) = tb) := ⟨by rw [← hta, beq_dec], by rw [← htb, beq_dec]⟩
  unfold ins
  rcases hf with rfl | rfl <;> cases u <;> cases v <;> cases ta <;> cases tb
  all_goals
    go_enter Tryd.func40, Tryd.ntmps40
    go_wp2_with fail
    go_ret
    obtain ⟨e1, e2⟩ := HE.out
    exact ⟨by unfold reckB; simp only [e1, e2]; simp, (Below.refl _ _).alloc (Nat.le_refl _) _⟩
set_option maxHeartbeats 1000000 in
theorem may_0 (f : Int) (hf : f = 0 ∨ f = 1) (u v : Bool) (a b c n : Int) (w : World) :
    Calls Tryd.prog 40 #[ins f u v a b 0 c n] w fun e w' => e = .returned (.bool (reckB f u v a b 0 c)) ∧ Below w.heap.size w w' := by
  obtain ⟨tc, htc⟩ : ∃ t, (c == 0) = t := ⟨_, rfl⟩
  obtain ⟨tb, htb⟩ : ∃ t, (b == 0) = t := ⟨_, rfl⟩
  have HE : Hid (decide (c = 0) = tc ∧ decide (b = 0) = tb) := ⟨by rw [← htc, beq_dec], by rw [← htb, beq_dec]⟩
  unfold ins
  rcases hf with rfl | rfl <;> cases u <;> cases v <;> cases tc <;> cases tb
  all_goals
    go_enter Tryd.func40, Tryd.ntmps40
    go_wp2_with fail
    go_ret
    obtain ⟨e1, e2⟩ := HE.out
    exact ⟨by unfold reckB; simp only [e1, e2]; simp, (Below.refl _ _).alloc (Nat.le_refl _) _⟩
set_option maxHeartbeats 1000000 in
theorem may_some (f : Int) (hf : f = 0 ∨ f = 1) (u v : Bool) (a b op c n : Int) (h1 : 1 ≤ op) (h2 : op ≤ 11) (h8 : (op == 8) = false) (h9 : (op == 9) = false) (h10 : (op == 10) = false) (w : World) :
    Calls Tryd.prog 40 #[ins f u v a b op c n] w fun e w' => e = .returned (.bool (reckB f u v a b op c)) ∧ Below w.heap.size w w' := by
  have H8 : Hid (¬ (8 ≤ op ∧ op ≤ 10)) := by
    unfold Hid; simp at h8 h9 h10; omega
  unfold ins
  rcases hf with rfl | rfl <;> cases u <;> cases v
  all_goals
    go_enter Tryd.func40, Tryd.ntmps40
    go_wp2_with fail
    go_ret
    have := H8.out
    exact ⟨by unfold reckB; rw [if_neg (by omega), if_neg (by omega), if_neg (by omega)]; simp [this], (Below.refl _ _).alloc (Nat.le_refl _) _⟩
set_option maxHeartbeats 1000000 in
theorem may_8 (f : Int) (hf : f = 0 ∨ f = 1) (u v : Bool) (a b c n : Int) (w : World) :
    Calls Tryd.prog 40 #[ins f u v a b 8 c n] w fun e w' => e = .returned (.bool (reckB f u v a b 8 c)) ∧ Below w.heap.size w w' := by
  unfold ins
  rcases hf with rfl | rfl <;> cases u <;> cases v
  all_goals
    go_enter Tryd.func40, Tryd.ntmps40
    go_wp2_with fail
    go_ret
    exact ⟨rfl, (Below.refl _ _).alloc (Nat.le_refl _) _⟩
set_option maxHeartbeats 1000000 in
theorem may_9 (f : Int) (hf : f = 0 ∨ f = 1) (u v : Bool) (a b c n : Int) (w : World) :
    Calls Tryd.prog 40 #[ins f u v a b 9 c n] w fun e w' => e = .returned (.bool (reckB f u v a b 9 c)) ∧ Below w.heap.size w w' := by
  unfold ins
  rcases hf with rfl | rfl <;> cases u <;> cases v
  all_goals
    go_enter Tryd.func40, Tryd.ntmps40
    go_wp2_with fail
    go_ret
    exact ⟨rfl, (Below.refl _ _).alloc (Nat.le_refl _) _⟩
set_option maxHeartbeats 1000000 in
theorem may_10 (f : Int) (hf : f = 0 ∨ f = 1) (u v : Bool) (a b c n : Int) (w : World) :
    Calls Tryd.prog 40 #[ins f u v a b 10 c n] w fun e w' => e = .returned (.bool (reckB f u v a b 10 c)) ∧ Below w.heap.size w w' := by
  unfold ins
  rcases hf with rfl | rfl <;> cases u <;> cases v
  all_goals
    go_enter Tryd.func40, Tryd.ntmps40
    go_wp2_with fail
    go_ret
    exact ⟨rfl, (Below.refl _ _).alloc (Nat.le_refl _) _⟩
theorem may_any (f : Int) (hf : f = 0 ∨ f = 1) (u v : Bool) (a b op c n : Int) (w : World) :
    Calls Tryd.prog 40 #[ins f u v a b op c n] w fun e w' => e = .returned (.bool (reckB f u v a b op c)) ∧ Below w.heap.size w w' := by
  by_cases h : op < 0
  · exact may_lo f hf u v a b op c n h w
  by_cases h15 : 15 < op
  · exact may_hi f hf u v a b op c n h15 w
  by_cases e15 : op = 15
  · subst e15; exact may_15 f hf u v a b c n w
  by_cases h11 : 11 < op
  · exact may_mid f hf u v a b op c n h11 (by omega) w
  by_cases e0 : op = 0
  · subst e0; exact may_0 f hf u v a b c n w
  by_cases e8 : op = 8
  · subst e8; exact may_8 f hf u v a b c n w
  by_cases e9 : op = 9
  · subst e9; exact may_9 f hf u v a b c n w
  by_cases e10 : op = 10
  · subst e10; exact may_10 f hf u v a b c n w
  exact may_some f hf u v a b op c n (by omega) (by omega) (by simpa using e8) (by simpa using e9) (by simpa using e10) w
end Go.Proofs.YtnghhkageiceaaaDoor
