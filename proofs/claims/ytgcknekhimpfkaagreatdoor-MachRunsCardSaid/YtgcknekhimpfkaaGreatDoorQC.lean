/- What an instruction may be: within, reckoning. -/
import Derived.Test.YtgcknekhimpfkaaGreatDoorProg
import Derived.WalkKit
import Derived.ProofKit
import Derived.OwnWalk
import Derived.Below
import Derived.WalkSpells
import Derived.Lib.Hide
import Derived.Handy
namespace Go.Proofs.YtgcknekhimpfkaaGreatDoor
open Go Go.RowKit Go.Lib
open Go.World renaming cell?_alloc_lt → wA
set_option maxHeartbeats 1000000
set_option linter.unusedVariables false
set_option linter.unusedSimpArgs false
theorem within_any (n lo hi : Int) (w : World) : Calls Tryz.prog 71 #[.int .i64 n, .int .i64 lo, .int .i64 hi] w fun e w' => e = .returned (.bool (decide (lo ≤ n) && decide (n ≤ hi))) ∧ w = w' := by
 by_cases h : lo ≤ n
 ·go_enter Tryz.func71, Tryz.ntmps71
  go_wp2_with fail
  go_ret
  exact ⟨by simp [h], rfl⟩
 ·go_enter Tryz.func71, Tryz.ntmps71
  go_wp2_with fail
  go_ret
  exact ⟨by simp; omega, rfl⟩
/-- The table of what the operations take, as it lies. -/
def tk : List Int := [3, 2, 2, 2, 2, 2, 2, 2, 3, 3, 3, 2, 4, 4, 4, 0]
def Tab (w : World) : Prop := ∀ k, k < 16 → w.cell? ⟨0, k, none⟩ = some (.int .i64 (tk.getD k 0))
theorem Tab.lt {w : World} (h : Tab w) : 0 < w.heap.size := World.block_lt_of_cell? w ⟨0, 0, none⟩ (h 0 (by decide))
theorem Tab.below {w w' : World} {B : Nat} (h : Tab w) (b : Below B w w') (hB : 0 < B) : Tab w' := fun k hk => by
 rw [World.cell?_of_block (b.block 0 hB)]; exact h k hk
theorem tabHid {w : World} (hT : Tab w) : Hid (∀ W, Below w.heap.size w W → Tab W) := hid fun W hB => hT.below hB hT.lt
/-- An instruction's value. -/
def ins (f : Int) (u v : Bool) (a b op c n : Int) : Value := .agg #[.int .i64 f, .bool u, .bool v, .int .i64 a, .int .i64 b, .int .i64 op, .int .i64 c, .int .i64 n]
def reckB (f : Int) (u v : Bool) (a b op c : Int) : Bool :=
 if op < 0 ∨ 11 < op ∧ op ≠ 15 then false
 else if op = 15 then decide (f = 1) && !u && !v && decide (a = 0) && decide (b = 0)
 else if op = 0 then decide (b = 0) && (if f = 1 then !u || !v else (!v && !u) || (u && decide (c = 0)))
 else (!u || decide (8 ≤ op ∧ op ≤ 10)) && (!v || decide (f = 1))
theorem reck_1 (f : Int) (u v : Bool) (a b c n : Int) (w : World) (hT : Tab w) :
 Calls Tryz.prog 72 #[ins f u v a b 1 c n] w fun e w' => e = .returned (.bool (reckB f u v a b 1 c)) ∧ Below w.heap.size w w' := by
 have hk : ∀ o, (w.alloc o).cell? ⟨0, 1, none⟩ = some (.int .i64 2) := fun o => by rw [wA _ _ _ hT.lt]; exact hT 1 (by decide)
 unfold ins
 obtain ⟨tf, htf⟩ : ∃ t, (f == 1) = t := ⟨_, rfl⟩
 have HE : Hid (decide (f = 1) = tf) := (by rw [← htf]; simp [BEq.beq] : decide (f = 1) = tf)
 cases u <;> cases v <;> cases tf
 all_goals
  go_enter Tryz.func72, Tryz.ntmps72
  go_wp2_with (first | (go_at_call 71; refine (within_any _ _ _ _).mono ?_; rintro e w' ⟨rfl, rfl⟩))
 all_goals
  go_ret
  have e1 := HE.out
  simp only [decide_eq_true_eq, decide_eq_false_iff_not] at e1
  exact ⟨by simp [reckB, e1], by go_grown⟩
theorem reck_2 (f : Int) (u v : Bool) (a b c n : Int) (w : World) (hT : Tab w) :
 Calls Tryz.prog 72 #[ins f u v a b 2 c n] w fun e w' => e = .returned (.bool (reckB f u v a b 2 c)) ∧ Below w.heap.size w w' := by
 have hk : ∀ o, (w.alloc o).cell? ⟨0, 2, none⟩ = some (.int .i64 2) := fun o => by rw [wA _ _ _ hT.lt]; exact hT 2 (by decide)
 unfold ins
 obtain ⟨tf, htf⟩ : ∃ t, (f == 1) = t := ⟨_, rfl⟩
 have HE : Hid (decide (f = 1) = tf) := (by rw [← htf]; simp [BEq.beq] : decide (f = 1) = tf)
 cases u <;> cases v <;> cases tf
 all_goals
  go_enter Tryz.func72, Tryz.ntmps72
  go_wp2_with (first | (go_at_call 71; refine (within_any _ _ _ _).mono ?_; rintro e w' ⟨rfl, rfl⟩))
 all_goals
  go_ret
  have e1 := HE.out
  simp only [decide_eq_true_eq, decide_eq_false_iff_not] at e1
  exact ⟨by simp [reckB, e1], by go_grown⟩
theorem reck_3 (f : Int) (u v : Bool) (a b c n : Int) (w : World) (hT : Tab w) :
 Calls Tryz.prog 72 #[ins f u v a b 3 c n] w fun e w' => e = .returned (.bool (reckB f u v a b 3 c)) ∧ Below w.heap.size w w' := by
 have hk : ∀ o, (w.alloc o).cell? ⟨0, 3, none⟩ = some (.int .i64 2) := fun o => by rw [wA _ _ _ hT.lt]; exact hT 3 (by decide)
 unfold ins
 obtain ⟨tf, htf⟩ : ∃ t, (f == 1) = t := ⟨_, rfl⟩
 have HE : Hid (decide (f = 1) = tf) := (by rw [← htf]; simp [BEq.beq] : decide (f = 1) = tf)
 cases u <;> cases v <;> cases tf
 all_goals
  go_enter Tryz.func72, Tryz.ntmps72
  go_wp2_with (first | (go_at_call 71; refine (within_any _ _ _ _).mono ?_; rintro e w' ⟨rfl, rfl⟩))
 all_goals
  go_ret
  have e1 := HE.out
  simp only [decide_eq_true_eq, decide_eq_false_iff_not] at e1
  exact ⟨by simp [reckB, e1], by go_grown⟩
theorem reck_4 (f : Int) (u v : Bool) (a b c n : Int) (w : World) (hT : Tab w) :
 Calls Tryz.prog 72 #[ins f u v a b 4 c n] w fun e w' => e = .returned (.bool (reckB f u v a b 4 c)) ∧ Below w.heap.size w w' := by
 have hk : ∀ o, (w.alloc o).cell? ⟨0, 4, none⟩ = some (.int .i64 2) := fun o => by rw [wA _ _ _ hT.lt]; exact hT 4 (by decide)
 unfold ins
 obtain ⟨tf, htf⟩ : ∃ t, (f == 1) = t := ⟨_, rfl⟩
 have HE : Hid (decide (f = 1) = tf) := (by rw [← htf]; simp [BEq.beq] : decide (f = 1) = tf)
 cases u <;> cases v <;> cases tf
 all_goals
  go_enter Tryz.func72, Tryz.ntmps72
  go_wp2_with (first | (go_at_call 71; refine (within_any _ _ _ _).mono ?_; rintro e w' ⟨rfl, rfl⟩))
 all_goals
  go_ret
  have e1 := HE.out
  simp only [decide_eq_true_eq, decide_eq_false_iff_not] at e1
  exact ⟨by simp [reckB, e1], by go_grown⟩
theorem reck_5 (f : Int) (u v : Bool) (a b c n : Int) (w : World) (hT : Tab w) :
 Calls Tryz.prog 72 #[ins f u v a b 5 c n] w fun e w' => e = .returned (.bool (reckB f u v a b 5 c)) ∧ Below w.heap.size w w' := by
 have hk : ∀ o, (w.alloc o).cell? ⟨0, 5, none⟩ = some (.int .i64 2) := fun o => by rw [wA _ _ _ hT.lt]; exact hT 5 (by decide)
 unfold ins
 obtain ⟨tf, htf⟩ : ∃ t, (f == 1) = t := ⟨_, rfl⟩
 have HE : Hid (decide (f = 1) = tf) := (by rw [← htf]; simp [BEq.beq] : decide (f = 1) = tf)
 cases u <;> cases v <;> cases tf
 all_goals
  go_enter Tryz.func72, Tryz.ntmps72
  go_wp2_with (first | (go_at_call 71; refine (within_any _ _ _ _).mono ?_; rintro e w' ⟨rfl, rfl⟩))
 all_goals
  go_ret
  have e1 := HE.out
  simp only [decide_eq_true_eq, decide_eq_false_iff_not] at e1
  exact ⟨by simp [reckB, e1], by go_grown⟩
theorem reck_6 (f : Int) (u v : Bool) (a b c n : Int) (w : World) (hT : Tab w) :
 Calls Tryz.prog 72 #[ins f u v a b 6 c n] w fun e w' => e = .returned (.bool (reckB f u v a b 6 c)) ∧ Below w.heap.size w w' := by
 have hk : ∀ o, (w.alloc o).cell? ⟨0, 6, none⟩ = some (.int .i64 2) := fun o => by rw [wA _ _ _ hT.lt]; exact hT 6 (by decide)
 unfold ins
 obtain ⟨tf, htf⟩ : ∃ t, (f == 1) = t := ⟨_, rfl⟩
 have HE : Hid (decide (f = 1) = tf) := (by rw [← htf]; simp [BEq.beq] : decide (f = 1) = tf)
 cases u <;> cases v <;> cases tf
 all_goals
  go_enter Tryz.func72, Tryz.ntmps72
  go_wp2_with (first | (go_at_call 71; refine (within_any _ _ _ _).mono ?_; rintro e w' ⟨rfl, rfl⟩))
 all_goals
  go_ret
  have e1 := HE.out
  simp only [decide_eq_true_eq, decide_eq_false_iff_not] at e1
  exact ⟨by simp [reckB, e1], by go_grown⟩
theorem reck_7 (f : Int) (u v : Bool) (a b c n : Int) (w : World) (hT : Tab w) :
 Calls Tryz.prog 72 #[ins f u v a b 7 c n] w fun e w' => e = .returned (.bool (reckB f u v a b 7 c)) ∧ Below w.heap.size w w' := by
 have hk : ∀ o, (w.alloc o).cell? ⟨0, 7, none⟩ = some (.int .i64 2) := fun o => by rw [wA _ _ _ hT.lt]; exact hT 7 (by decide)
 unfold ins
 obtain ⟨tf, htf⟩ : ∃ t, (f == 1) = t := ⟨_, rfl⟩
 have HE : Hid (decide (f = 1) = tf) := (by rw [← htf]; simp [BEq.beq] : decide (f = 1) = tf)
 cases u <;> cases v <;> cases tf
 all_goals
  go_enter Tryz.func72, Tryz.ntmps72
  go_wp2_with (first | (go_at_call 71; refine (within_any _ _ _ _).mono ?_; rintro e w' ⟨rfl, rfl⟩))
 all_goals
  go_ret
  have e1 := HE.out
  simp only [decide_eq_true_eq, decide_eq_false_iff_not] at e1
  exact ⟨by simp [reckB, e1], by go_grown⟩
theorem reck_0 (f : Int) (u v : Bool) (a b c n : Int) (w : World) (hT : Tab w) :
 Calls Tryz.prog 72 #[ins f u v a b 0 c n] w fun e w' => e = .returned (.bool (reckB f u v a b 0 c)) ∧ Below w.heap.size w w' := by
 have hk : ∀ o, (w.alloc o).cell? ⟨0, 0, none⟩ = some (.int .i64 3) := fun o => by rw [wA _ _ _ hT.lt]; exact hT 0 (by decide)
 unfold ins
 obtain ⟨tf, htf⟩ : ∃ t, (f == 1) = t := ⟨_, rfl⟩
 obtain ⟨tb, htb⟩ : ∃ t, (b == 0) = t := ⟨_, rfl⟩
 obtain ⟨tx, htx⟩ : ∃ t, (c == 0) = t := ⟨_, rfl⟩
 have HE : Hid (decide (f = 1) = tf ∧ decide (b = 0) = tb ∧ decide (c = 0) = tx) := ⟨by rw [← htf]; simp [BEq.beq], by rw [← htb]; simp [BEq.beq], by rw [← htx]; simp [BEq.beq]⟩
 have hnb : (b != 0) = !tb := by rw [← htb]; rfl
 cases u <;> cases v <;> cases tf <;> cases tb <;> cases tx
 all_goals
  go_enter Tryz.func72, Tryz.ntmps72
  go_wp2_with (first | (go_at_call 71; refine (within_any _ _ _ _).mono ?_; rintro e w' ⟨rfl, rfl⟩))
 all_goals
  go_ret
  obtain ⟨e1, e2, e3⟩ := HE.out
  simp only [decide_eq_true_eq, decide_eq_false_iff_not] at e1 e2 e3
  exact ⟨by simp [reckB, e1, e2, e3], by go_grown⟩
theorem reck_11 (f : Int) (u v : Bool) (a b c n : Int) (w : World) (hT : Tab w) :
 Calls Tryz.prog 72 #[ins f u v a b 11 c n] w fun e w' => e = .returned (.bool (reckB f u v a b 11 c)) ∧ Below w.heap.size w w' := by
 have hk : ∀ o, (w.alloc o).cell? ⟨0, 11, none⟩ = some (.int .i64 2) := fun o => by rw [wA _ _ _ hT.lt]; exact hT 11 (by decide)
 unfold ins
 obtain ⟨tf, htf⟩ : ∃ t, (f == 1) = t := ⟨_, rfl⟩
 have HE : Hid (decide (f = 1) = tf) := (by rw [← htf]; simp [BEq.beq] : decide (f = 1) = tf)
 cases u <;> cases v <;> cases tf
 all_goals
  go_enter Tryz.func72, Tryz.ntmps72
  go_wp2_with (first | (go_at_call 71; refine (within_any _ _ _ _).mono ?_; rintro e w' ⟨rfl, rfl⟩))
 all_goals
  go_ret
  have e1 := HE.out
  simp only [decide_eq_true_eq, decide_eq_false_iff_not] at e1
  exact ⟨by simp [reckB, e1], by go_grown⟩
theorem reck_12 (f : Int) (u v : Bool) (a b c n : Int) (w : World) (hT : Tab w) :
 Calls Tryz.prog 72 #[ins f u v a b 12 c n] w fun e w' => e = .returned (.bool (reckB f u v a b 12 c)) ∧ Below w.heap.size w w' := by
 have hk : ∀ o, (w.alloc o).cell? ⟨0, 12, none⟩ = some (.int .i64 4) := fun o => by rw [wA _ _ _ hT.lt]; exact hT 12 (by decide)
 unfold ins
 obtain ⟨tf, htf⟩ : ∃ t, (f == 1) = t := ⟨_, rfl⟩
 have HE : Hid (decide (f = 1) = tf) := (by rw [← htf]; simp [BEq.beq] : decide (f = 1) = tf)
 cases u <;> cases v <;> cases tf
 all_goals
  go_enter Tryz.func72, Tryz.ntmps72
  go_wp2_with (first | (go_at_call 71; refine (within_any _ _ _ _).mono ?_; rintro e w' ⟨rfl, rfl⟩))
 all_goals
  go_ret
  have e1 := HE.out
  simp only [decide_eq_true_eq, decide_eq_false_iff_not] at e1
  exact ⟨by simp [reckB, e1], by go_grown⟩
theorem reck_13 (f : Int) (u v : Bool) (a b c n : Int) (w : World) (hT : Tab w) :
 Calls Tryz.prog 72 #[ins f u v a b 13 c n] w fun e w' => e = .returned (.bool (reckB f u v a b 13 c)) ∧ Below w.heap.size w w' := by
 have hk : ∀ o, (w.alloc o).cell? ⟨0, 13, none⟩ = some (.int .i64 4) := fun o => by rw [wA _ _ _ hT.lt]; exact hT 13 (by decide)
 unfold ins
 obtain ⟨tf, htf⟩ : ∃ t, (f == 1) = t := ⟨_, rfl⟩
 have HE : Hid (decide (f = 1) = tf) := (by rw [← htf]; simp [BEq.beq] : decide (f = 1) = tf)
 cases u <;> cases v <;> cases tf
 all_goals
  go_enter Tryz.func72, Tryz.ntmps72
  go_wp2_with (first | (go_at_call 71; refine (within_any _ _ _ _).mono ?_; rintro e w' ⟨rfl, rfl⟩))
 all_goals
  go_ret
  have e1 := HE.out
  simp only [decide_eq_true_eq, decide_eq_false_iff_not] at e1
  exact ⟨by simp [reckB, e1], by go_grown⟩
theorem reck_14 (f : Int) (u v : Bool) (a b c n : Int) (w : World) (hT : Tab w) :
 Calls Tryz.prog 72 #[ins f u v a b 14 c n] w fun e w' => e = .returned (.bool (reckB f u v a b 14 c)) ∧ Below w.heap.size w w' := by
 have hk : ∀ o, (w.alloc o).cell? ⟨0, 14, none⟩ = some (.int .i64 4) := fun o => by rw [wA _ _ _ hT.lt]; exact hT 14 (by decide)
 unfold ins
 obtain ⟨tf, htf⟩ : ∃ t, (f == 1) = t := ⟨_, rfl⟩
 have HE : Hid (decide (f = 1) = tf) := (by rw [← htf]; simp [BEq.beq] : decide (f = 1) = tf)
 cases u <;> cases v <;> cases tf
 all_goals
  go_enter Tryz.func72, Tryz.ntmps72
  go_wp2_with (first | (go_at_call 71; refine (within_any _ _ _ _).mono ?_; rintro e w' ⟨rfl, rfl⟩))
 all_goals
  go_ret
  have e1 := HE.out
  simp only [decide_eq_true_eq, decide_eq_false_iff_not] at e1
  exact ⟨by simp [reckB, e1], by go_grown⟩
theorem reck_15 (f : Int) (u v : Bool) (a b c n : Int) (w : World) (hT : Tab w) :
 Calls Tryz.prog 72 #[ins f u v a b 15 c n] w fun e w' => e = .returned (.bool (reckB f u v a b 15 c)) ∧ Below w.heap.size w w' := by
 have hk : ∀ o, (w.alloc o).cell? ⟨0, 15, none⟩ = some (.int .i64 0) := fun o => by rw [wA _ _ _ hT.lt]; exact hT 15 (by decide)
 unfold ins
 obtain ⟨tf, htf⟩ : ∃ t, (f == 1) = t := ⟨_, rfl⟩
 obtain ⟨tb, htb⟩ : ∃ t, (b == 0) = t := ⟨_, rfl⟩
 obtain ⟨tx, htx⟩ : ∃ t, (a == 0) = t := ⟨_, rfl⟩
 have HE : Hid (decide (f = 1) = tf ∧ decide (b = 0) = tb ∧ decide (a = 0) = tx) := ⟨by rw [← htf]; simp [BEq.beq], by rw [← htb]; simp [BEq.beq], by rw [← htx]; simp [BEq.beq]⟩
 have hnb : (b != 0) = !tb := by rw [← htb]; rfl
 cases u <;> cases v <;> cases tf <;> cases tb <;> cases tx
 all_goals
  go_enter Tryz.func72, Tryz.ntmps72
  go_wp2_with (first | (go_at_call 71; refine (within_any _ _ _ _).mono ?_; rintro e w' ⟨rfl, rfl⟩))
 all_goals
  go_ret
  obtain ⟨e1, e2, e3⟩ := HE.out
  simp only [decide_eq_true_eq, decide_eq_false_iff_not] at e1 e2 e3
  exact ⟨by simp [reckB, e1, e2, e3], by go_grown⟩
theorem bits31 : bits .and .i64 3 1 = 1 := by kernel_rfl
theorem reck_8 (f : Int) (u v : Bool) (a b c n : Int) (w : World) (hT : Tab w) :
 Calls Tryz.prog 72 #[ins f u v a b 8 c n] w fun e w' => e = .returned (.bool (reckB f u v a b 8 c)) ∧ Below w.heap.size w w' := by
 have hk : ∀ o, (w.alloc o).cell? ⟨0, 8, none⟩ = some (.int .i64 3) := fun o => by rw [wA _ _ _ hT.lt]; exact hT 8 (by decide)
 have hbt := bits31
 unfold ins
 obtain ⟨tf, htf⟩ : ∃ t, (f == 1) = t := ⟨_, rfl⟩
 have HE : Hid (decide (f = 1) = tf) := (by rw [← htf]; simp [BEq.beq] : decide (f = 1) = tf)
 cases u <;> cases v <;> cases tf
 all_goals
  go_enter Tryz.func72, Tryz.ntmps72
  go_wp2_with (first | (go_at_call 71; refine (within_any _ _ _ _).mono ?_; rintro e w' ⟨rfl, rfl⟩))
 all_goals
  go_ret
  have e1 := HE.out
  simp only [decide_eq_true_eq, decide_eq_false_iff_not] at e1
  exact ⟨by simp [reckB, e1], by go_grown⟩
theorem reck_9 (f : Int) (u v : Bool) (a b c n : Int) (w : World) (hT : Tab w) :
 Calls Tryz.prog 72 #[ins f u v a b 9 c n] w fun e w' => e = .returned (.bool (reckB f u v a b 9 c)) ∧ Below w.heap.size w w' := by
 have hk : ∀ o, (w.alloc o).cell? ⟨0, 9, none⟩ = some (.int .i64 3) := fun o => by rw [wA _ _ _ hT.lt]; exact hT 9 (by decide)
 have hbt := bits31
 unfold ins
 obtain ⟨tf, htf⟩ : ∃ t, (f == 1) = t := ⟨_, rfl⟩
 have HE : Hid (decide (f = 1) = tf) := (by rw [← htf]; simp [BEq.beq] : decide (f = 1) = tf)
 cases u <;> cases v <;> cases tf
 all_goals
  go_enter Tryz.func72, Tryz.ntmps72
  go_wp2_with (first | (go_at_call 71; refine (within_any _ _ _ _).mono ?_; rintro e w' ⟨rfl, rfl⟩))
 all_goals
  go_ret
  have e1 := HE.out
  simp only [decide_eq_true_eq, decide_eq_false_iff_not] at e1
  exact ⟨by simp [reckB, e1], by go_grown⟩
theorem reck_10 (f : Int) (u v : Bool) (a b c n : Int) (w : World) (hT : Tab w) :
 Calls Tryz.prog 72 #[ins f u v a b 10 c n] w fun e w' => e = .returned (.bool (reckB f u v a b 10 c)) ∧ Below w.heap.size w w' := by
 have hk : ∀ o, (w.alloc o).cell? ⟨0, 10, none⟩ = some (.int .i64 3) := fun o => by rw [wA _ _ _ hT.lt]; exact hT 10 (by decide)
 have hbt := bits31
 unfold ins
 obtain ⟨tf, htf⟩ : ∃ t, (f == 1) = t := ⟨_, rfl⟩
 have HE : Hid (decide (f = 1) = tf) := (by rw [← htf]; simp [BEq.beq] : decide (f = 1) = tf)
 cases u <;> cases v <;> cases tf
 all_goals
  go_enter Tryz.func72, Tryz.ntmps72
  go_wp2_with (first | (go_at_call 71; refine (within_any _ _ _ _).mono ?_; rintro e w' ⟨rfl, rfl⟩))
 all_goals
  go_ret
  have e1 := HE.out
  simp only [decide_eq_true_eq, decide_eq_false_iff_not] at e1
  exact ⟨by simp [reckB, e1], by go_grown⟩
theorem reck_out (f : Int) (u v : Bool) (a b op c n : Int) (h : op < 0 ∨ 15 < op) (w : World) :
 Calls Tryz.prog 72 #[ins f u v a b op c n] w fun e w' => e = .returned (.bool (reckB f u v a b op c)) ∧ Below w.heap.size w w' := by
 have hw : (decide (0 ≤ op) && decide (op ≤ 15)) = false := by simp; omega
 have hr : reckB f u v a b op c = false := by unfold reckB; rw [if_pos (by omega)]
 have HR := hid hr
 clear hr
 unfold ins
 go_enter Tryz.func72, Tryz.ntmps72
 go_wp2_with (first | (go_at_call 71; refine (within_any _ _ _ _).mono ?_; rintro e w' ⟨rfl, rfl⟩))
 go_ret
 exact ⟨by rw [HR.out]; rfl, by go_grown⟩
theorem reck_any (f : Int) (u v : Bool) (a b op c n : Int) (w : World) (hT : Tab w) :
 Calls Tryz.prog 72 #[ins f u v a b op c n] w fun e w' => e = .returned (.bool (reckB f u v a b op c)) ∧ Below w.heap.size w w' := by
 have h : (op < 0 ∨ 15 < op) ∨ op = 0 ∨ op = 1 ∨ op = 2 ∨ op = 3 ∨ op = 4 ∨ op = 5 ∨ op = 6 ∨ op = 7 ∨ op = 8 ∨ op = 9 ∨ op = 10 ∨ op = 11 ∨ op = 12 ∨ op = 13 ∨ op = 14 ∨ op = 15 := by omega
 rcases h with h | rfl | rfl | rfl | rfl | rfl | rfl | rfl | rfl | rfl | rfl | rfl | rfl | rfl | rfl | rfl | rfl
 ·exact reck_out f u v a b op c n h w
 ·exact reck_0 f u v a b c n w hT
 ·exact reck_1 f u v a b c n w hT
 ·exact reck_2 f u v a b c n w hT
 ·exact reck_3 f u v a b c n w hT
 ·exact reck_4 f u v a b c n w hT
 ·exact reck_5 f u v a b c n w hT
 ·exact reck_6 f u v a b c n w hT
 ·exact reck_7 f u v a b c n w hT
 ·exact reck_8 f u v a b c n w hT
 ·exact reck_9 f u v a b c n w hT
 ·exact reck_10 f u v a b c n w hT
 ·exact reck_11 f u v a b c n w hT
 ·exact reck_12 f u v a b c n w hT
 ·exact reck_13 f u v a b c n w hT
 ·exact reck_14 f u v a b c n w hT
 ·exact reck_15 f u v a b c n w hT
def reg (a : Int) : Bool := decide (0 ≤ a) && decide (a ≤ 15)
def rightB (f : Int) (u v : Bool) (a b op c n : Int) : Bool :=
 if !(reg a && reg b && reg c) then false
 else if f = 0 then decide (n = 0) && reckB f u v a b op c
 else if f = 1 then decide (c = 0) && (decide (0 ≤ n) && decide (n ≤ 65535)) && reckB f u v a b op c
 else if f = 2 then decide (c = 0) && decide (op = 0) && (decide (-524288 ≤ n) && decide (n ≤ 524287))
 else if f = 3 then decide (b = 0) && decide (op = 0) && (if u then decide (c = 0) && (decide (-8388608 ≤ n) && decide (n ≤ 8388607)) else decide (n = 0))
 else false
theorem beq_dec (x y : Int) : (x == y) = decide (x = y) := by by_cases h : x = y <;> simp [h]
theorem bne_dec (x y : Int) : (x != y) = !decide (x = y) := by rw [bne, beq_dec]
theorem right_no_a (f : Int) (u v : Bool) (a b op c n : Int) (hta : (decide (0 ≤ a) && decide (a ≤ 15)) = false)  (w : World) (hT : Tab w) :
 Calls Tryz.prog 53 #[ins f u v a b op c n] w fun e w' => e = .returned (.bool (rightB f u v a b op c n)) ∧ Below w.heap.size w w' := by
 have HT : Hid (Tab (w.alloc (.cells #[.int .i64 f, .bool u, .bool v, .int .i64 a, .int .i64 b, .int .i64 op, .int .i64 c, .int .i64 n] 92 (0, 0)))) := hT.below ((Below.refl w.heap.size w).alloc (Nat.le_refl _) _) hT.lt
 unfold ins
 all_goals
  go_enter Tryz.func53, Tryz.ntmps53
  go_wp2_with (first | (go_at_call 71; refine (within_any _ _ _ _).mono ?_; rintro e w' ⟨rfl, rfl⟩) | (go_at_call 72; go_must (refine (reck_any _ _ _ _ _ _ _ _ _ HT.out).mono ?_); rintro e w1 ⟨rfl, hb1⟩))
 all_goals
  go_ret
  exact ⟨by unfold rightB reg; simp [hta], by go_grown⟩
theorem right_no_b (f : Int) (u v : Bool) (a b op c n : Int) (hta : (decide (0 ≤ a) && decide (a ≤ 15)) = true) (htb : (decide (0 ≤ b) && decide (b ≤ 15)) = false)  (w : World) (hT : Tab w) :
 Calls Tryz.prog 53 #[ins f u v a b op c n] w fun e w' => e = .returned (.bool (rightB f u v a b op c n)) ∧ Below w.heap.size w w' := by
 have HT : Hid (Tab (w.alloc (.cells #[.int .i64 f, .bool u, .bool v, .int .i64 a, .int .i64 b, .int .i64 op, .int .i64 c, .int .i64 n] 92 (0, 0)))) := hT.below ((Below.refl w.heap.size w).alloc (Nat.le_refl _) _) hT.lt
 unfold ins
 all_goals
  go_enter Tryz.func53, Tryz.ntmps53
  go_wp2_with (first | (go_at_call 71; refine (within_any _ _ _ _).mono ?_; rintro e w' ⟨rfl, rfl⟩) | (go_at_call 72; go_must (refine (reck_any _ _ _ _ _ _ _ _ _ HT.out).mono ?_); rintro e w1 ⟨rfl, hb1⟩))
 all_goals
  go_ret
  exact ⟨by unfold rightB reg; simp [hta, htb], by go_grown⟩
theorem right_no_c (f : Int) (u v : Bool) (a b op c n : Int) (hta : (decide (0 ≤ a) && decide (a ≤ 15)) = true) (htb : (decide (0 ≤ b) && decide (b ≤ 15)) = true) (htc : (decide (0 ≤ c) && decide (c ≤ 15)) = false)  (w : World) (hT : Tab w) :
 Calls Tryz.prog 53 #[ins f u v a b op c n] w fun e w' => e = .returned (.bool (rightB f u v a b op c n)) ∧ Below w.heap.size w w' := by
 have HT : Hid (Tab (w.alloc (.cells #[.int .i64 f, .bool u, .bool v, .int .i64 a, .int .i64 b, .int .i64 op, .int .i64 c, .int .i64 n] 92 (0, 0)))) := hT.below ((Below.refl w.heap.size w).alloc (Nat.le_refl _) _) hT.lt
 unfold ins
 all_goals
  go_enter Tryz.func53, Tryz.ntmps53
  go_wp2_with (first | (go_at_call 71; refine (within_any _ _ _ _).mono ?_; rintro e w' ⟨rfl, rfl⟩) | (go_at_call 72; go_must (refine (reck_any _ _ _ _ _ _ _ _ _ HT.out).mono ?_); rintro e w1 ⟨rfl, hb1⟩))
 all_goals
  go_ret
  exact ⟨by unfold rightB reg; simp [hta, htb, htc], by go_grown⟩
theorem right_0 (u v : Bool) (a b op c n : Int) (hta : (decide (0 ≤ a) && decide (a ≤ 15)) = true) (htb : (decide (0 ≤ b) && decide (b ≤ 15)) = true) (htc : (decide (0 ≤ c) && decide (c ≤ 15)) = true)  (w : World) (hT : Tab w) :
 Calls Tryz.prog 53 #[ins 0 u v a b op c n] w fun e w' => e = .returned (.bool (rightB 0 u v a b op c n)) ∧ Below w.heap.size w w' := by
 have HT : Hid (Tab (w.alloc (.cells #[.int .i64 0, .bool u, .bool v, .int .i64 a, .int .i64 b, .int .i64 op, .int .i64 c, .int .i64 n] 92 (0, 0)))) := hT.below ((Below.refl w.heap.size w).alloc (Nat.le_refl _) _) hT.lt
 obtain ⟨tn, htn⟩ : ∃ t, (n == 0) = t := ⟨_, rfl⟩
 have HE : Hid (decide (n = 0) = tn) := (by rw [← htn, beq_dec] : decide (n = 0) = tn)
 unfold ins
 cases tn
 all_goals
  go_enter Tryz.func53, Tryz.ntmps53
  go_wp2_with (first | (go_at_call 71; refine (within_any _ _ _ _).mono ?_; rintro e w' ⟨rfl, rfl⟩) | (go_at_call 72; go_must (refine (reck_any _ _ _ _ _ _ _ _ _ HT.out).mono ?_); rintro e w1 ⟨rfl, hb1⟩))
 all_goals
  go_ret
  have e1 := HE.out
  simp only [decide_eq_true_eq, decide_eq_false_iff_not] at e1
  exact ⟨by unfold rightB; simp [(show reg a = true from hta), (show reg b = true from htb), (show reg c = true from htc), e1], by first | exact Below.trans ((Below.refl _ _).alloc (Nat.le_refl _) _) (hb1.mono (by simp)) | go_grown⟩
theorem right_1 (u v : Bool) (a b op c n : Int) (hta : (decide (0 ≤ a) && decide (a ≤ 15)) = true) (htb : (decide (0 ≤ b) && decide (b ≤ 15)) = true) (htc : (decide (0 ≤ c) && decide (c ≤ 15)) = true)  (w : World) (hT : Tab w) :
 Calls Tryz.prog 53 #[ins 1 u v a b op c n] w fun e w' => e = .returned (.bool (rightB 1 u v a b op c n)) ∧ Below w.heap.size w w' := by
 have HT : Hid (Tab (w.alloc (.cells #[.int .i64 1, .bool u, .bool v, .int .i64 a, .int .i64 b, .int .i64 op, .int .i64 c, .int .i64 n] 92 (0, 0)))) := hT.below ((Below.refl w.heap.size w).alloc (Nat.le_refl _) _) hT.lt
 obtain ⟨tz, htz⟩ : ∃ t, (c == 0) = t := ⟨_, rfl⟩
 obtain ⟨tw, htw⟩ : ∃ t, (decide (0 ≤ n) && decide (n ≤ 65535)) = t := ⟨_, rfl⟩
 have HE : Hid (decide (c = 0) = tz ∧ (decide (0 ≤ n) && decide (n ≤ 65535)) = tw) := ⟨by rw [← htz, beq_dec], htw⟩
 unfold ins
 cases tz <;> cases tw
 all_goals
  go_enter Tryz.func53, Tryz.ntmps53
  go_wp2_with (first | (go_at_call 71; refine (within_any _ _ _ _).mono ?_; rintro e w' ⟨rfl, rfl⟩) | (go_at_call 72; go_must (refine (reck_any _ _ _ _ _ _ _ _ _ HT.out).mono ?_); rintro e w1 ⟨rfl, hb1⟩))
 all_goals
  go_ret
  obtain ⟨e1, e2⟩ := HE.out
  exact ⟨by unfold rightB; simp only [(show reg a = true from hta), (show reg b = true from htb), (show reg c = true from htc), e1, e2]; simp, by first | exact Below.trans ((Below.refl _ _).alloc (Nat.le_refl _) _) (hb1.mono (by simp)) | go_grown⟩
theorem right_2 (u v : Bool) (a b op c n : Int) (hta : (decide (0 ≤ a) && decide (a ≤ 15)) = true) (htb : (decide (0 ≤ b) && decide (b ≤ 15)) = true) (htc : (decide (0 ≤ c) && decide (c ≤ 15)) = true)  (w : World) (hT : Tab w) :
 Calls Tryz.prog 53 #[ins 2 u v a b op c n] w fun e w' => e = .returned (.bool (rightB 2 u v a b op c n)) ∧ Below w.heap.size w w' := by
 have HT : Hid (Tab (w.alloc (.cells #[.int .i64 2, .bool u, .bool v, .int .i64 a, .int .i64 b, .int .i64 op, .int .i64 c, .int .i64 n] 92 (0, 0)))) := hT.below ((Below.refl w.heap.size w).alloc (Nat.le_refl _) _) hT.lt
 obtain ⟨tz, htz⟩ : ∃ t, (c == 0) = t := ⟨_, rfl⟩
 obtain ⟨to, hto⟩ : ∃ t, (op == 0) = t := ⟨_, rfl⟩
 obtain ⟨tw, htw⟩ : ∃ t, (decide (-524288 ≤ n) && decide (n ≤ 524287)) = t := ⟨_, rfl⟩
 have HE : Hid (decide (c = 0) = tz ∧ decide (op = 0) = to ∧ (decide (-524288 ≤ n) && decide (n ≤ 524287)) = tw) := ⟨by rw [← htz, beq_dec], by rw [← hto, beq_dec], htw⟩
 unfold ins
 cases tz <;> cases to <;> cases tw
 all_goals
  go_enter Tryz.func53, Tryz.ntmps53
  go_wp2_with (first | (go_at_call 71; refine (within_any _ _ _ _).mono ?_; rintro e w' ⟨rfl, rfl⟩) | (go_at_call 72; go_must (refine (reck_any _ _ _ _ _ _ _ _ _ HT.out).mono ?_); rintro e w1 ⟨rfl, hb1⟩))
 all_goals
  go_ret
  obtain ⟨e1, e2, e3⟩ := HE.out
  exact ⟨by unfold rightB; simp only [(show reg a = true from hta), (show reg b = true from htb), (show reg c = true from htc), e1, e2, e3]; simp, by go_grown⟩
theorem right_3u (v : Bool) (a b op c n : Int) (hta : (decide (0 ≤ a) && decide (a ≤ 15)) = true) (htb : (decide (0 ≤ b) && decide (b ≤ 15)) = true) (htc : (decide (0 ≤ c) && decide (c ≤ 15)) = true)  (w : World) (hT : Tab w) :
 Calls Tryz.prog 53 #[ins 3 true v a b op c n] w fun e w' => e = .returned (.bool (rightB 3 true v a b op c n)) ∧ Below w.heap.size w w' := by
 have HT : Hid (Tab (w.alloc (.cells #[.int .i64 3, .bool true, .bool v, .int .i64 a, .int .i64 b, .int .i64 op, .int .i64 c, .int .i64 n] 92 (0, 0)))) := hT.below ((Below.refl w.heap.size w).alloc (Nat.le_refl _) _) hT.lt
 obtain ⟨tz, htz⟩ : ∃ t, (c == 0) = t := ⟨_, rfl⟩
 obtain ⟨to, hto⟩ : ∃ t, (op != 0) = t := ⟨_, rfl⟩
 obtain ⟨tq, htq⟩ : ∃ t, (b != 0) = t := ⟨_, rfl⟩
 obtain ⟨tw, htw⟩ : ∃ t, (decide (-8388608 ≤ n) && decide (n ≤ 8388607)) = t := ⟨_, rfl⟩
 have HE : Hid (decide (c = 0) = tz ∧ (!decide (op = 0)) = to ∧ (!decide (b = 0)) = tq ∧ (decide (-8388608 ≤ n) && decide (n ≤ 8388607)) = tw) := ⟨by rw [← htz, beq_dec], by rw [← hto, bne_dec], by rw [← htq, bne_dec], htw⟩
 unfold ins
 cases tz <;> cases to <;> cases tq <;> cases tw
 all_goals
  go_enter Tryz.func53, Tryz.ntmps53
  go_wp2_with (first | (go_at_call 71; refine (within_any _ _ _ _).mono ?_; rintro e w' ⟨rfl, rfl⟩) | (go_at_call 72; go_must (refine (reck_any _ _ _ _ _ _ _ _ _ HT.out).mono ?_); rintro e w1 ⟨rfl, hb1⟩))
 all_goals
  go_ret
  obtain ⟨e1, e2, e3, e4⟩ := HE.out
  simp only [Bool.not_eq_false', Bool.not_eq_true'] at e2 e3
  exact ⟨by unfold rightB; simp only [(show reg a = true from hta), (show reg b = true from htb), (show reg c = true from htc), e1, e2, e3, e4]; simp, by go_grown⟩
theorem right_3n (v : Bool) (a b op c n : Int) (hta : (decide (0 ≤ a) && decide (a ≤ 15)) = true) (htb : (decide (0 ≤ b) && decide (b ≤ 15)) = true) (htc : (decide (0 ≤ c) && decide (c ≤ 15)) = true)  (w : World) (hT : Tab w) :
 Calls Tryz.prog 53 #[ins 3 false v a b op c n] w fun e w' => e = .returned (.bool (rightB 3 false v a b op c n)) ∧ Below w.heap.size w w' := by
 have HT : Hid (Tab (w.alloc (.cells #[.int .i64 3, .bool false, .bool v, .int .i64 a, .int .i64 b, .int .i64 op, .int .i64 c, .int .i64 n] 92 (0, 0)))) := hT.below ((Below.refl w.heap.size w).alloc (Nat.le_refl _) _) hT.lt
 obtain ⟨tz, htz⟩ : ∃ t, (n == 0) = t := ⟨_, rfl⟩
 obtain ⟨to, hto⟩ : ∃ t, (op != 0) = t := ⟨_, rfl⟩
 obtain ⟨tq, htq⟩ : ∃ t, (b != 0) = t := ⟨_, rfl⟩
 have HE : Hid (decide (n = 0) = tz ∧ (!decide (op = 0)) = to ∧ (!decide (b = 0)) = tq) := ⟨by rw [← htz, beq_dec], by rw [← hto, bne_dec], by rw [← htq, bne_dec]⟩
 unfold ins
 cases tz <;> cases to <;> cases tq
 all_goals
  go_enter Tryz.func53, Tryz.ntmps53
  go_wp2_with (first | (go_at_call 71; refine (within_any _ _ _ _).mono ?_; rintro e w' ⟨rfl, rfl⟩) | (go_at_call 72; go_must (refine (reck_any _ _ _ _ _ _ _ _ _ HT.out).mono ?_); rintro e w1 ⟨rfl, hb1⟩))
 all_goals
  go_ret
  obtain ⟨e1, e2, e3⟩ := HE.out
  simp only [Bool.not_eq_false', Bool.not_eq_true'] at e2 e3
  exact ⟨by unfold rightB; simp only [(show reg a = true from hta), (show reg b = true from htb), (show reg c = true from htc), e1, e2, e3]; simp, by go_grown⟩
theorem right_else (f : Int) (u v : Bool) (a b op c n : Int) (hta : (decide (0 ≤ a) && decide (a ≤ 15)) = true) (htb : (decide (0 ≤ b) && decide (b ≤ 15)) = true) (htc : (decide (0 ≤ c) && decide (c ≤ 15)) = true) (hf0 : (f == 0) = false) (hf1 : (f == 1) = false) (hf2 : (f == 2) = false) (hf3 : (f == 3) = false)  (w : World) (hT : Tab w) :
 Calls Tryz.prog 53 #[ins f u v a b op c n] w fun e w' => e = .returned (.bool (rightB f u v a b op c n)) ∧ Below w.heap.size w w' := by
 have HT : Hid (Tab (w.alloc (.cells #[.int .i64 f, .bool u, .bool v, .int .i64 a, .int .i64 b, .int .i64 op, .int .i64 c, .int .i64 n] 92 (0, 0)))) := hT.below ((Below.refl w.heap.size w).alloc (Nat.le_refl _) _) hT.lt
 have HE : Hid (¬ f = 0 ∧ ¬ f = 1 ∧ ¬ f = 2 ∧ ¬ f = 3) := ⟨by simpa using hf0, by simpa using hf1, by simpa using hf2, by simpa using hf3⟩
 unfold ins
 all_goals
  go_enter Tryz.func53, Tryz.ntmps53
  go_wp2_with (first | (go_at_call 71; refine (within_any _ _ _ _).mono ?_; rintro e w' ⟨rfl, rfl⟩) | (go_at_call 72; go_must (refine (reck_any _ _ _ _ _ _ _ _ _ HT.out).mono ?_); rintro e w1 ⟨rfl, hb1⟩))
 all_goals
  go_ret
  obtain ⟨e1, e2, e3, e4⟩ := HE.out
  exact ⟨by unfold rightB; simp [(show reg a = true from hta), (show reg b = true from htb), (show reg c = true from htc), e1, e2, e3, e4], by go_grown⟩
theorem right_any (f : Int) (u v : Bool) (a b op c n : Int) (w : World) (hT : Tab w) :
 Calls Tryz.prog 53 #[ins f u v a b op c n] w fun e w' => e = .returned (.bool (rightB f u v a b op c n)) ∧ Below w.heap.size w w' := by
 cases hta : (decide (0 ≤ a) && decide (a ≤ 15))
 ·exact right_no_a f u v a b op c n hta w hT
 cases htb : (decide (0 ≤ b) && decide (b ≤ 15))
 ·exact right_no_b f u v a b op c n hta htb w hT
 cases htc : (decide (0 ≤ c) && decide (c ≤ 15))
 ·exact right_no_c f u v a b op c n hta htb htc w hT
 by_cases h0 : f = 0
 ·subst h0; exact right_0 u v a b op c n hta htb htc w hT
 by_cases h1 : f = 1
 ·subst h1; exact right_1 u v a b op c n hta htb htc w hT
 by_cases h2 : f = 2
 ·subst h2; exact right_2 u v a b op c n hta htb htc w hT
 by_cases h3 : f = 3
 ·subst h3
  cases u
  ·exact right_3n v a b op c n hta htb htc w hT
  ·exact right_3u v a b op c n hta htb htc w hT
 ·exact right_else f u v a b op c n hta htb htc (by simpa using h0) (by simpa using h1) (by simpa using h2) (by simpa using h3) w hT
open Go.RowKit
/-- The flags of a processor, among its cells. -/
def FlagsAre (cs : Array Value) (n z c v : Bool) : Prop := cs[17]? = some (.bool n) ∧ cs[18]? = some (.bool z) ∧ cs[19]? = some (.bool c) ∧ cs[20]? = some (.bool v)
def condB (n z c v : Bool) (k : Int) : Bool := if k % 8 = 0 then n else if k % 8 = 1 then z else if k % 8 = 2 then c else if k % 8 = 3 then v else if k % 8 = 4 then c || z else if k % 8 = 5 then n != v else if k % 8 = 6 then (n != v) || z else true
def holdsV (n z c v : Bool) (k : Int) : Bool := if k < 0 ∨ 15 < k then false else (condB n z c v k == decide (k < 8))
theorem holds_no (cs : Array Value) (n z c v : Bool) (hf : FlagsAre cs n z c v) (k : Int) (hk : k < 0 ∨ 15 < k) (w : World) :
 Calls Tryz.prog 56 #[.agg cs, .int .i64 k] w fun e w' => e = .returned (.bool (holdsV n z c v k)) ∧ Below w.heap.size w w' := by
 obtain ⟨f17, f18, f19, f20⟩ := hf
 have H : Hid (holdsV n z c v k = false) := by unfold Hid holdsV; rw [if_pos hk]
 have hw : (decide (0 ≤ k) && decide (k ≤ 15)) = false := by simp; omega
 go_enter Tryz.func56, Tryz.ntmps56
 go_wp2_with (go_at_call 71; refine (within_any _ _ _ _).mono ?_; rintro e w' ⟨rfl, rfl⟩)
 go_ret
 exact ⟨by rw [H.out]; rfl, by go_grown⟩
theorem and7 (k : Int) (h0 : 0 ≤ k) (h1 : k ≤ 15) : bits .and .i64 k 7 = k % 8 := by
 obtain ⟨m, rfl⟩ := Int.eq_ofNat_of_zero_le h0
 have : m < 16 := by omega
 have key : ∀ m : Fin 16, bits .and .i64 ((m.val : Nat) : Int) 7 = ((m.val : Nat) : Int) % 8 := by decide +kernel
 exact key ⟨m, this⟩
theorem holds_0 (cs : Array Value) (n z c v : Bool) (hf : FlagsAre cs n z c v) (k : Int) (h0 : 0 ≤ k) (h1 : k ≤ 15) (hm : Hid (k % 8 = 0)) (w : World) :
 Calls Tryz.prog 56 #[.agg cs, .int .i64 k] w fun e w' => e = .returned (.bool (holdsV n z c v k)) ∧ Below w.heap.size w w' := by
 obtain ⟨f17, f18, f19, f20⟩ := hf
 have hw : (decide (0 ≤ k) && decide (k ≤ 15)) = true := by simp; omega
 have ha := and7 k h0 h1
 rw [hm.out] at ha
 have H : holdsV n z c v k = (condB n z c v k == decide (k < 8)) := by unfold holdsV; rw [if_neg (by omega)]
 have HH := hid H; clear H
 (
  go_enter Tryz.func56, Tryz.ntmps56
  go_wp2_with (go_at_call 71; refine (within_any _ _ _ _).mono ?_; rintro e w' ⟨rfl, rfl⟩)
  go_ret
  refine ⟨by rw [HH.out]; unfold condB; rw [hm.out]; simp, by go_grown⟩)
theorem holds_1 (cs : Array Value) (n z c v : Bool) (hf : FlagsAre cs n z c v) (k : Int) (h0 : 0 ≤ k) (h1 : k ≤ 15) (hm : Hid (k % 8 = 1)) (w : World) :
 Calls Tryz.prog 56 #[.agg cs, .int .i64 k] w fun e w' => e = .returned (.bool (holdsV n z c v k)) ∧ Below w.heap.size w w' := by
 obtain ⟨f17, f18, f19, f20⟩ := hf
 have hw : (decide (0 ≤ k) && decide (k ≤ 15)) = true := by simp; omega
 have ha := and7 k h0 h1
 rw [hm.out] at ha
 have H : holdsV n z c v k = (condB n z c v k == decide (k < 8)) := by unfold holdsV; rw [if_neg (by omega)]
 have HH := hid H; clear H
 (
  go_enter Tryz.func56, Tryz.ntmps56
  go_wp2_with (go_at_call 71; refine (within_any _ _ _ _).mono ?_; rintro e w' ⟨rfl, rfl⟩)
  go_ret
  refine ⟨by rw [HH.out]; unfold condB; rw [hm.out]; simp, by go_grown⟩)
theorem holds_2 (cs : Array Value) (n z c v : Bool) (hf : FlagsAre cs n z c v) (k : Int) (h0 : 0 ≤ k) (h1 : k ≤ 15) (hm : Hid (k % 8 = 2)) (w : World) :
 Calls Tryz.prog 56 #[.agg cs, .int .i64 k] w fun e w' => e = .returned (.bool (holdsV n z c v k)) ∧ Below w.heap.size w w' := by
 obtain ⟨f17, f18, f19, f20⟩ := hf
 have hw : (decide (0 ≤ k) && decide (k ≤ 15)) = true := by simp; omega
 have ha := and7 k h0 h1
 rw [hm.out] at ha
 have H : holdsV n z c v k = (condB n z c v k == decide (k < 8)) := by unfold holdsV; rw [if_neg (by omega)]
 have HH := hid H; clear H
 (
  go_enter Tryz.func56, Tryz.ntmps56
  go_wp2_with (go_at_call 71; refine (within_any _ _ _ _).mono ?_; rintro e w' ⟨rfl, rfl⟩)
  go_ret
  refine ⟨by rw [HH.out]; unfold condB; rw [hm.out]; simp, by go_grown⟩)
theorem holds_3 (cs : Array Value) (n z c v : Bool) (hf : FlagsAre cs n z c v) (k : Int) (h0 : 0 ≤ k) (h1 : k ≤ 15) (hm : Hid (k % 8 = 3)) (w : World) :
 Calls Tryz.prog 56 #[.agg cs, .int .i64 k] w fun e w' => e = .returned (.bool (holdsV n z c v k)) ∧ Below w.heap.size w w' := by
 obtain ⟨f17, f18, f19, f20⟩ := hf
 have hw : (decide (0 ≤ k) && decide (k ≤ 15)) = true := by simp; omega
 have ha := and7 k h0 h1
 rw [hm.out] at ha
 have H : holdsV n z c v k = (condB n z c v k == decide (k < 8)) := by unfold holdsV; rw [if_neg (by omega)]
 have HH := hid H; clear H
 (
  go_enter Tryz.func56, Tryz.ntmps56
  go_wp2_with (go_at_call 71; refine (within_any _ _ _ _).mono ?_; rintro e w' ⟨rfl, rfl⟩)
  go_ret
  refine ⟨by rw [HH.out]; unfold condB; rw [hm.out]; simp, by go_grown⟩)
theorem holds_4 (cs : Array Value) (n z c v : Bool) (hf : FlagsAre cs n z c v) (k : Int) (h0 : 0 ≤ k) (h1 : k ≤ 15) (hm : Hid (k % 8 = 4)) (w : World) :
 Calls Tryz.prog 56 #[.agg cs, .int .i64 k] w fun e w' => e = .returned (.bool (holdsV n z c v k)) ∧ Below w.heap.size w w' := by
 obtain ⟨f17, f18, f19, f20⟩ := hf
 have hw : (decide (0 ≤ k) && decide (k ≤ 15)) = true := by simp; omega
 have ha := and7 k h0 h1
 rw [hm.out] at ha
 have H : holdsV n z c v k = (condB n z c v k == decide (k < 8)) := by unfold holdsV; rw [if_neg (by omega)]
 have HH := hid H; clear H
 cases c <;> cases z <;> (
  go_enter Tryz.func56, Tryz.ntmps56
  go_wp2_with (go_at_call 71; refine (within_any _ _ _ _).mono ?_; rintro e w' ⟨rfl, rfl⟩)
  go_ret
  refine ⟨by rw [HH.out]; unfold condB; rw [hm.out]; simp, by go_grown⟩)
theorem holds_5 (cs : Array Value) (n z c v : Bool) (hf : FlagsAre cs n z c v) (k : Int) (h0 : 0 ≤ k) (h1 : k ≤ 15) (hm : Hid (k % 8 = 5)) (w : World) :
 Calls Tryz.prog 56 #[.agg cs, .int .i64 k] w fun e w' => e = .returned (.bool (holdsV n z c v k)) ∧ Below w.heap.size w w' := by
 obtain ⟨f17, f18, f19, f20⟩ := hf
 have hw : (decide (0 ≤ k) && decide (k ≤ 15)) = true := by simp; omega
 have ha := and7 k h0 h1
 rw [hm.out] at ha
 have H : holdsV n z c v k = (condB n z c v k == decide (k < 8)) := by unfold holdsV; rw [if_neg (by omega)]
 have HH := hid H; clear H
 (
  go_enter Tryz.func56, Tryz.ntmps56
  go_wp2_with (go_at_call 71; refine (within_any _ _ _ _).mono ?_; rintro e w' ⟨rfl, rfl⟩)
  go_ret
  refine ⟨by rw [HH.out]; unfold condB; rw [hm.out]; cases n <;> cases v <;> simp, by go_grown⟩)
theorem holds_6 (cs : Array Value) (n z c v : Bool) (hf : FlagsAre cs n z c v) (k : Int) (h0 : 0 ≤ k) (h1 : k ≤ 15) (hm : Hid (k % 8 = 6)) (w : World) :
 Calls Tryz.prog 56 #[.agg cs, .int .i64 k] w fun e w' => e = .returned (.bool (holdsV n z c v k)) ∧ Below w.heap.size w w' := by
 obtain ⟨f17, f18, f19, f20⟩ := hf
 have hw : (decide (0 ≤ k) && decide (k ≤ 15)) = true := by simp; omega
 have ha := and7 k h0 h1
 rw [hm.out] at ha
 have H : holdsV n z c v k = (condB n z c v k == decide (k < 8)) := by unfold holdsV; rw [if_neg (by omega)]
 have HH := hid H; clear H
 cases n <;> cases v <;> cases z <;> (
  go_enter Tryz.func56, Tryz.ntmps56
  go_wp2_with (go_at_call 71; refine (within_any _ _ _ _).mono ?_; rintro e w' ⟨rfl, rfl⟩)
  go_ret
  refine ⟨by rw [HH.out]; unfold condB; rw [hm.out]; simp, by go_grown⟩)
theorem holds_7 (cs : Array Value) (n z c v : Bool) (hf : FlagsAre cs n z c v) (k : Int) (h0 : 0 ≤ k) (h1 : k ≤ 15) (hm : Hid (k % 8 = 7)) (w : World) :
 Calls Tryz.prog 56 #[.agg cs, .int .i64 k] w fun e w' => e = .returned (.bool (holdsV n z c v k)) ∧ Below w.heap.size w w' := by
 obtain ⟨f17, f18, f19, f20⟩ := hf
 have hw : (decide (0 ≤ k) && decide (k ≤ 15)) = true := by simp; omega
 have ha := and7 k h0 h1
 rw [hm.out] at ha
 have H : holdsV n z c v k = (condB n z c v k == decide (k < 8)) := by unfold holdsV; rw [if_neg (by omega)]
 have HH := hid H; clear H
 (
  go_enter Tryz.func56, Tryz.ntmps56
  go_wp2_with (go_at_call 71; refine (within_any _ _ _ _).mono ?_; rintro e w' ⟨rfl, rfl⟩)
  go_ret
  refine ⟨by rw [HH.out]; unfold condB; rw [hm.out]; simp, by go_grown⟩)
theorem holds_any (cs : Array Value) (n z c v : Bool) (hf : FlagsAre cs n z c v) (k : Int) (w : World) :
 Calls Tryz.prog 56 #[.agg cs, .int .i64 k] w fun e w' => e = .returned (.bool (holdsV n z c v k)) ∧ Below w.heap.size w w' := by
 by_cases hk : k < 0 ∨ 15 < k
 ·exact holds_no cs n z c v hf k hk w
 ·have hm : k % 8 = 0 ∨ k % 8 = 1 ∨ k % 8 = 2 ∨ k % 8 = 3 ∨ k % 8 = 4 ∨ k % 8 = 5 ∨ k % 8 = 6 ∨ k % 8 = 7 := by omega
  rcases hm with hm | hm | hm | hm | hm | hm | hm | hm
  ·exact holds_0 cs n z c v hf k (by omega) (by omega) hm w
  ·exact holds_1 cs n z c v hf k (by omega) (by omega) hm w
  ·exact holds_2 cs n z c v hf k (by omega) (by omega) hm w
  ·exact holds_3 cs n z c v hf k (by omega) (by omega) hm w
  ·exact holds_4 cs n z c v hf k (by omega) (by omega) hm w
  ·exact holds_5 cs n z c v hf k (by omega) (by omega) hm w
  ·exact holds_6 cs n z c v hf k (by omega) (by omega) hm w
  ·exact holds_7 cs n z c v hf k (by omega) (by omega) hm w
end Go.Proofs.YtgcknekhimpfkaaGreatDoor
