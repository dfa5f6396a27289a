/- What an instruction may be: right. -/
import Derived.Test.YtnghhkageiceaaaDoorCpuE
namespace Go.Proofs.YtnghhkageiceaaaDoor
open Go Go.RowKit Go.Lib
set_option linter.unusedVariables false
set_option linter.unusedSimpArgs false
def reg (a : Int) : Bool := decide (0 ≤ a) && decide (a ≤ 15)
def rightB (f : Int) (u v : Bool) (a b op c n : Int) : Bool :=
  if !(reg a && reg b && reg c) then false
  else if f = 0 then decide (n = 0) && reckB f u v a b op c
  else if f = 1 then decide (c = 0) && (decide (0 ≤ n) && decide (n ≤ 65535)) && reckB f u v a b op c
  else if f = 2 then decide (c = 0) && decide (op = 0) && (decide (-524288 ≤ n) && decide (n ≤ 524287))
  else if f = 3 then decide (b = 0) && decide (op = 0) && (if u then decide (c = 0) && (decide (-8388608 ≤ n) && decide (n ≤ 8388607)) else decide (n = 0))
  else false
theorem beq_dec (x y : Int) : (x == y) = decide (x = y) := by by_cases h : x = y <;> simp [h]
theorem bne_dec (x y : Int) : (x != y) = !decide (x = y) := by rw [bne, beq_dec]
set_option maxHeartbeats 1000000 in
theorem right_no_a (f : Int) (u v : Bool) (a b op c n : Int) (hta : (decide (0 ≤ a) && decide (a ≤ 15)) = false)  (w : World) (hT : Tab w) :
    Calls Tryd.prog 27 #[ins f u v a b op c n] w fun e w' => e = .returned (.bool (rightB f u v a b op c n)) ∧ Below w.heap.size w w' := by
  have HT : Hid (Tab (w.alloc (.cells #[.int .i64 f, .bool u, .bool v, .int .i64 a, .int .i64 b, .int .i64 op, .int .i64 c, .int .i64 n] 33 (0, 0)))) := hT.below ((Below.refl w.heap.size w).alloc (Nat.le_refl _) _) hT.lt
  unfold ins
  all_goals
    go_enter Tryd.func27, Tryd.ntmps27
    go_wp2_with (first | (go_at_call 42; refine (within_any _ _ _ _).mono ?_; rintro e w' ⟨rfl, rfl⟩) | (go_at_call 43; go_must (refine (reck_any _ _ _ _ _ _ _ _ _ HT.out).mono ?_); rintro e w1 ⟨rfl, hb1⟩))
  all_goals
    go_ret
    exact ⟨by unfold rightB reg; simp [hta], by go_grown⟩
set_option maxHeartbeats 1000000 in
theorem right_no_b (f : Int) (u v : Bool) (a b op c n : Int) (hta : (decide (0 ≤ a) && decide (a ≤ 15)) = true) (htb : (decide (0 ≤ b) && decide (b ≤ 15)) = false)  (w : World) (hT : Tab w) :
    Calls Tryd.prog 27 #[ins f u v a b op c n] w fun e w' => e = .returned (.bool (rightB f u v a b op c n)) ∧ Below w.heap.size w w' := by
  have HT : Hid (Tab (w.alloc (.cells #[.int .i64 f, .bool u, .bool v, .int .i64 a, .int .i64 b, .int .i64 op, .int .i64 c, .int .i64 n] 33 (0, 0)))) := hT.below ((Below.refl w.heap.size w).alloc (Nat.le_refl _) _) hT.lt
  unfold ins
  all_goals
    go_enter Tryd.func27, Tryd.ntmps27
    go_wp2_with (first | (go_at_call 42; refine (within_any _ _ _ _).mono ?_; rintro e w' ⟨rfl, rfl⟩) | (go_at_call 43; go_must (refine (reck_any _ _ _ _ _ _ _ _ _ HT.out).mono ?_); rintro e w1 ⟨rfl, hb1⟩))
  all_goals
    go_ret
    exact ⟨by unfold rightB reg; simp [hta, htb], by go_grown⟩
set_option maxHeartbeats 1000000 in
theorem right_no_c (f : Int) (u v : Bool) (a b op c n : Int) (hta : (decide (0 ≤ a) && decide (a ≤ 15)) = true) (htb : (decide (0 ≤ b) && decide (b ≤ 15)) = true) (htc : (decide (0 ≤ c) && decide (c ≤ 15)) = false)  (w : World) (hT : Tab w) :
    Calls Tryd.prog 27 #[ins f u v a b op c n] w fun e w' => e = .returned (.bool (rightB f u v a b op c n)) ∧ Below w.heap.size w w' := by
  have HT : Hid (Tab (w.alloc (.cells #[.int .i64 f, .bool u, .bool v, .int .i64 a, .int .i64 b, .int .i64 op, .int .i64 c, .int .i64 n] 33 (0, 0)))) := hT.below ((Below.refl w.heap.size w).alloc (Nat.le_refl _) _) hT.lt
  unfold ins
  all_goals
    go_enter Tryd.func27, Tryd.ntmps27
    go_wp2_with (first | (go_at_call 42; refine (within_any _ _ _ _).mono ?_; rintro e w' ⟨rfl, rfl⟩) | (go_at_call 43; go_must (refine (reck_any _ _ _ _ _ _ _ _ _ HT.out).mono ?_); rintro e w1 ⟨rfl, hb1⟩))
  all_goals
    go_ret
    exact ⟨by unfold rightB reg; simp [hta, htb, htc], by go_grown⟩
set_option maxHeartbeats 1000000 in
theorem right_0 (u v : Bool) (a b op c n : Int) (hta : (decide (0 ≤ a) && decide (a ≤ 15)) = true) (htb : (decide (0 ≤ b) && decide (b ≤ 15)) = true) (htc : (decide (0 ≤ c) && decide (c ≤ 15)) = true)  (w : World) (hT : Tab w) :
    Calls Tryd.prog 27 #[ins 0 u v a b op c n] w fun e w' => e = .returned (.bool (rightB 0 u v a b op c n)) ∧ Below w.heap.size w w' := by
  have HT : Hid (Tab (w.alloc (.cells #[.int .i64 0, .bool u, .bool v, .int .i64 a, .int .i64 b, .int .i64 op, .int .i64 c, .int .i64 n] 33 (0, 0)))) := hT.below ((Below.refl w.heap.size w).alloc (Nat.le_refl _) _) hT.lt
  obtain ⟨tn, htn⟩ : ∃ t, (n == 0) = t := ⟨_, rfl⟩
  have HE : Hid (decide (n = 0) = tn) := (by rw [← htn, beq_dec] : decide (n = 0) = tn)
  unfold ins
  cases tn
  all_goals
    go_enter Tryd.func27, Tryd.ntmps27
    go_wp2_with (first | (go_at_call 42; refine (within_any _ _ _ _).mono ?_; rintro e w' ⟨rfl, rfl⟩) | (go_at_call 43; go_must (refine (reck_any _ _ _ _ _ _ _ _ _ HT.out).mono ?_); rintro e w1 ⟨rfl, hb1⟩))
  all_goals
    go_ret
    have e1 := HE.out
    simp only [decide_eq_true_eq, decide_eq_false_iff_not] at e1
    exact ⟨by unfold rightB; simp [(show reg a = true from hta), (show reg b = true from htb), (show reg c = true from htc), e1], by first | exact Below.trans ((Below.refl _ _).alloc (Nat.le_refl _) _) (hb1.mono (by simp)) | go_grown⟩
set_option maxHeartbeats 1000000 in
theorem right_1 (u v : Bool) (a b op c n : Int) (hta : (decide (0 ≤ a) && decide (a ≤ 15)) = true) (htb : (decide (0 ≤ b) && decide (b ≤ 15)) = true) (htc : (decide (0 ≤ c) && decide (c ≤ 15)) = true)  (w : World) (hT : Tab w) :
    Calls Tryd.prog 27 #[ins 1 u v a b op c n] w fun e w' => e = .returned (.bool (rightB 1 u v a b op c n)) ∧ Below w.heap.size w w' := by
  have HT : Hid (Tab (w.alloc (.cells #[.int .i64 1, .bool u, .bool v, .int .i64 a, .int .i64 b, .int .i64 op, .int .i64 c, .int .i64 n] 33 (0, 0)))) := hT.below ((Below.refl w.heap.size w).alloc (Nat.le_refl _) _) hT.lt
  obtain ⟨tz, htz⟩ : ∃ t, (c == 0) = t := ⟨_, rfl⟩
  obtain ⟨tw, htw⟩ : ∃ t, (decide (0 ≤ n) && decide (n ≤ 65535)) = t := ⟨_, rfl⟩
  have HE : Hid (decide (c = 0) = tz ∧ (decide (0 ≤ n) && decide (n ≤ 65535)) = tw) := ⟨by rw [← htz, beq_dec], htw⟩
  unfold ins
  cases tz <;> cases tw
  all_goals
    go_enter Tryd.func27, Tryd.ntmps27
    go_wp2_with (first | (go_at_call 42; refine (within_any _ _ _ _).mono ?_; rintro e w' ⟨rfl, rfl⟩) | (go_at_call 43; go_must (refine (reck_any _ _ _ _ _ _ _ _ _ HT.out).mono ?_); rintro e w1 ⟨rfl, hb1⟩))
  all_goals
    go_ret
    obtain ⟨e1, e2⟩ := HE.out
    exact ⟨by unfold rightB; simp only [(show reg a = true from hta), (show reg b = true from htb), (show reg c = true from htc), e1, e2]; simp, by first | exact Below.trans ((Below.refl _ _).alloc (Nat.le_refl _) _) (hb1.mono (by simp)) | go_grown⟩
set_option maxHeartbeats 1000000 in
theorem right_2 (u v : Bool) (a b op c n : Int) (hta : (decide (0 ≤ a) && decide (a ≤ 15)) = true) (htb : (decide (0 ≤ b) && decide (b ≤ 15)) = true) (htc : (decide (0 ≤ c) && decide (c ≤ 15)) = true)  (w : World) (hT : Tab w) :
    Calls Tryd.prog 27 #[ins 2 u v a b op c n] w fun e w' => e = .returned (.bool (rightB 2 u v a b op c n)) ∧ Below w.heap.size w w' := by
  have HT : Hid (Tab (w.alloc (.cells #[.int .i64 2, .bool u, .bool v, .int .i64 a, .int .i64 b, .int .i64 op, .int .i64 c, .int .i64 n] 33 (0, 0)))) := hT.below ((Below.refl w.heap.size w).alloc (Nat.le_refl _) _) hT.lt
  obtain ⟨tz, htz⟩ : ∃ t, (c == 0) = t := ⟨_, rfl⟩
  obtain ⟨to, hto⟩ : ∃ t, (op == 0) = t := ⟨_, rfl⟩
  obtain ⟨tw, htw⟩ : ∃ t, (decide (-524288 ≤ n) && decide (n ≤ 524287)) = t := ⟨_, rfl⟩
  have HE : Hid (decide (c = 0) = tz ∧ decide (op = 0) = to ∧ (decide (-524288 ≤ n) && decide (n ≤ 524287)) = tw) := ⟨by rw [← htz, beq_dec], by rw [← hto, beq_dec], htw⟩
  unfold ins
  cases tz <;> cases to <;> cases tw
  all_goals
    go_enter Tryd.func27, Tryd.ntmps27
    go_wp2_with (first | (go_at_call 42; refine (within_any _ _ _ _).mono ?_; rintro e w' ⟨rfl, rfl⟩) | (go_at_call 43; go_must (refine (reck_any _ _ _ _ _ _ _ _ _ HT.out).mono ?_); rintro e w1 ⟨rfl, hb1⟩))
  all_goals
    go_ret
    obtain ⟨e1, e2, e3⟩ := HE.out
    exact ⟨by unfold rightB; simp only [(show reg a = true from hta), (show reg b = true from htb), (show reg c = true from htc), e1, e2, e3]; simp, by go_grown⟩
set_option maxHeartbeats 1000000 in
theorem right_3u (v : Bool) (a b op c n : Int) (hta : (decide (0 ≤ a) && decide (a ≤ 15)) = true) (htb : (decide (0 ≤ b) && decide (b ≤ 15)) = true) (htc : (decide (0 ≤ c) && decide (c ≤ 15)) = true)  (w : World) (hT : Tab w) :
    Calls Tryd.prog 27 #[ins 3 true v a b op c n] w fun e w' => e = .returned (.bool (rightB 3 true v a b op c n)) ∧ Below w.heap.size w w' := by
  have HT : Hid (Tab (w.alloc (.cells #[.int .i64 3, .bool true, .bool v, .int .i64 a, .int .i64 b, .int .i64 op, .int .i64 c, .int .i64 n] 33 (0, 0)))) := hT.below ((Below.refl w.heap.size w).alloc (Nat.le_refl _) _) hT.lt
  obtain ⟨tz, htz⟩ : ∃ t, (c == 0) = t := ⟨_, rfl⟩
  obtain ⟨to, hto⟩ : ∃ t, (op != 0) = t := ⟨_, rfl⟩
  obtain ⟨tq, htq⟩ : ∃ t, (b != 0) = t := ⟨_, rfl⟩
  obtain ⟨tw, htw⟩ : ∃ t, (decide (-8388608 ≤ n) && decide (n ≤ 8388607)) = t := ⟨_, rfl⟩
  have HE : Hid (decide (c = 0) = tz ∧ (!decide (op = 0)) = to ∧ (!decide (b = 0)) = tq ∧ (decide (-8388608 ≤ n) && decide (n ≤ 8388607)) = tw) := ⟨by rw [← htz, beq_dec], by rw [← hto, bne_dec], by rw [← htq, bne_dec], htw⟩
  unfold ins
  cases tz <;> cases to <;> cases tq <;> cases tw
  all_goals
    go_enter Tryd.func27, Tryd.ntmps27
    go_wp2_with (first | (go_at_call 42; refine (within_any _ _ _ _).mono ?_; rintro e w' ⟨rfl, rfl⟩) | (go_at_call 43; go_must (refine (reck_any _ _ _ _ _ _ _ _ _ HT.out).mono ?_); rintro e w1 ⟨rfl, hb1⟩))
  all_goals
    go_ret
    obtain ⟨e1, e2, e3, e4⟩ := HE.out
    simp only [Bool.not_eq_false', Bool.not_eq_true'] at e2 e3
    exact ⟨by unfold rightB; simp only [(show reg a = true from hta), (show reg b = true from htb), (show reg c = true from htc), e1, e2, e3, e4]; simp, by go_grown⟩
set_option maxHeartbeats 1000000 in
theorem right_3n (v : Bool) (a b op c n : Int) (hta : (decide (0 ≤ a) && decide (a ≤ 15)) = true) (htb : (decide (0 ≤ b) && decide (b ≤ 15)) = true) (htc : (decide (0 ≤ c) && decide (c ≤ 15)) = true)  (w : World) (hT : Tab w) :
    Calls Tryd.prog 27 #[ins 3 false v a b op c n] w fun e w' => e = .returned (.bool (rightB 3 false v a b op c n)) ∧ Below w.heap.size w w' := by
  have HT : Hid (Tab (w.alloc (.cells #[.int .i64 3, .bool false, .bool v, .int .i64 a, .int .i64 b, .int .i64 op, .int .i64 c, .int .i64 n] 33 (0, 0)))) := hT.below ((Below.refl w.heap.size w).alloc (Nat.le_refl _) _) hT.lt
  obtain ⟨tz, htz⟩ : ∃ t, (n == 0) = t := ⟨_, rfl⟩
  obtain ⟨to, hto⟩ : ∃ t, (op != 0) = t := ⟨_, rfl⟩
  obtain ⟨tq, htq⟩ : ∃ t, (b != 0) = t := ⟨_, rfl⟩
  have HE : Hid (decide (n = 0) = tz ∧ (!decide (op = 0)) = to ∧ (!decide (b = 0)) = tq) := ⟨by rw [← htz, beq_dec], by rw [← hto, bne_dec], by rw [← htq, bne_dec]⟩
  unfold ins
  cases tz <;> cases to <;> cases tq
  all_goals
    go_enter Tryd.func27, Tryd.ntmps27
    go_wp2_with (first | (go_at_call 42; refine (within_any _ _ _ _).mono ?_; rintro e w' ⟨rfl, rfl⟩) | (go_at_call 43; go_must (refine (reck_any _ _ _ _ _ _ _ _ _ HT.out).mono ?_); rintro e w1 ⟨rfl, hb1⟩))
  all_goals
    go_ret
    obtain ⟨e1, e2, e3⟩ := HE.out
    simp only [Bool.not_eq_false', Bool.not_eq_true'] at e2 e3
    exact ⟨by unfold rightB; simp only [(show reg a = true from hta), (show reg b = true from htb), (show reg c = true from htc), e1, e2, e3]; simp, by go_grown⟩
set_option maxHeartbeats 1000000 in
theorem right_else (f : Int) (u v : Bool) (a b op c n : Int) (hta : (decide (0 ≤ a) && decide (a ≤ 15)) = true) (htb : (decide (0 ≤ b) && decide (b ≤ 15)) = true) (htc : (decide (0 ≤ c) && decide (c ≤ 15)) = true) (hf0 : (f == 0) = false) (hf1 : (f == 1) = false) (hf2 : (f == 2) = false) (hf3 : (f == 3) = false)  (w : World) (hT : Tab w) :
    Calls Tryd.prog 27 #[ins f u v a b op c n] w fun e w' => e = .returned (.bool (rightB f u v a b op c n)) ∧ Below w.heap.size w w' := by
  have HT : Hid (Tab (w.alloc (.cells #[.int .i64 f, .bool u, .bool v, .int .i64 a, .int .i64 b, .int .i64 op, .int .i64 c, .int .i64 n] 33 (0, 0)))) := hT.below ((Below.refl w.heap.size w).alloc (Nat.le_refl _) _) hT.lt
  have HE : Hid (¬ f = 0 ∧ ¬ f = 1 ∧ ¬ f = 2 ∧ ¬ f = 3) := ⟨by simpa using hf0, by simpa using hf1, by simpa using hf2, by simpa using hf3⟩
  unfold ins
  all_goals
    go_enter Tryd.func27, Tryd.ntmps27
    go_wp2_with (first | (go_at_call 42; refine (within_any _ _ _ _).mono ?_; rintro e w' ⟨rfl, rfl⟩) | (go_at_call 43; go_must (refine (reck_any _ _ _ _ _ _ _ _ _ HT.out).mono ?_); rintro e w1 ⟨rfl, hb1⟩))
  all_goals
    go_ret
    obtain ⟨e1, e2, e3, e4⟩ := HE.out
    exact ⟨by unfold rightB; simp [(show reg a = true from hta), (show reg b = true from htb), (show reg c = true from htc), e1, e2, e3, e4], by go_grown⟩
theorem right_any (f : Int) (u v : Bool) (a b op c n : Int) (w : World) (hT : Tab w) :
    Calls Tryd.prog 27 #[ins f u v a b op c n] w fun e w' => e = .returned (.bool (rightB f u v a b op c n)) ∧ Below w.heap.size w w' := by
  cases hta : (decide (0 ≤ a) && decide (a ≤ 15))
  · exact right_no_a f u v a b op c n hta w hT
  cases htb : (decide (0 ≤ b) && decide (b ≤ 15))
  · exact right_no_b f u v a b op c n hta htb w hT
  cases htc : (decide (0 ≤ c) && decide (c ≤ 15))
  · exact right_no_c f u v a b op c n hta htb htc w hT
  by_cases h0 : f = 0
  · subst h0; exact right_0 u v a b op c n hta htb htc w hT
  by_cases h1 : f = 1
  · subst h1; exact right_1 u v a b op c n hta htb htc w hT
  by_cases h2 : f = 2
  · subst h2; exact right_2 u v a b op c n hta htb htc w hT
  by_cases h3 : f = 3
  · subst h3
    cases u
    · exact right_3n v a b op c n hta htb htc w hT
    · exact right_3u v a b op c n hta htb htc w hT
  · exact right_else f u v a b op c n hta htb htc (by simpa using h0) (by simpa using h1) (by simpa using h2) (by simpa using h3) w hT
end Go.Proofs.YtnghhkageiceaaaDoor
