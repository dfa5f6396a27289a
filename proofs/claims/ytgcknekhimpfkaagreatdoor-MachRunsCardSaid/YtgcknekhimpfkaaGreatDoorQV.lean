/- The document's: what an instruction may be. -/
import Derived.Test.YtgcknekhimpfkaaGreatDoorQI
import Derived.Deep.DeepCutAuto
import Derived.Deep.CutRange
namespace Go.Proofs.YtgcknekhimpfkaaGreatDoor
open Go Go.RowKit Go.Lib Go.Proofs.YtgcknekhimpfkaaGreatDoor.Pl
set_option maxHeartbeats 2000000
set_option linter.unusedVariables false
set_option linter.unusedSimpArgs false
theorem may_lo (f : Int) (hf : f = 0 ∨ f = 1) (u v : Bool) (a b op c n : Int) (ho : op < 0) (w : World) :
 Calls Tryz.prog 99 #[ins f u v a b op c n] w fun e w' => e = .returned (.bool (reckB f u v a b op c)) ∧ Below w.heap.size w w' := by
 have H : Hid (reckB f u v a b op c = false) := by unfold Hid reckB; rw [if_pos (by omega)]
 unfold ins
 skip
 all_goals
  go_enter Tryz.func99, Tryz.ntmps99
  go_wp2_with fail
  go_ret
  exact ⟨by rw [H.out]; rfl, (Below.refl _ _).alloc (Nat.le_refl _) _⟩
theorem may_hi (f : Int) (hf : f = 0 ∨ f = 1) (u v : Bool) (a b op c n : Int) (ho : 15 < op) (w : World) :
 Calls Tryz.prog 99 #[ins f u v a b op c n] w fun e w' => e = .returned (.bool (reckB f u v a b op c)) ∧ Below w.heap.size w w' := by
 have H : Hid (reckB f u v a b op c = false) := by unfold Hid reckB; rw [if_pos (by omega)]
 have h2 : ¬ op < 0 := by omega
 unfold ins
 skip
 all_goals
  go_enter Tryz.func99, Tryz.ntmps99
  go_wp2_with fail
  go_ret
  exact ⟨by rw [H.out]; rfl, (Below.refl _ _).alloc (Nat.le_refl _) _⟩
theorem may_mid (f : Int) (hf : f = 0 ∨ f = 1) (u v : Bool) (a b op c n : Int) (ho : 11 < op) (ho2 : op < 15) (w : World) :
 Calls Tryz.prog 99 #[ins f u v a b op c n] w fun e w' => e = .returned (.bool (reckB f u v a b op c)) ∧ Below w.heap.size w w' := by
 have H : Hid (reckB f u v a b op c = false) := by unfold Hid reckB; rw [if_pos (by omega)]
 have h2 : ¬ op < 0 := by omega
 have h3 : ¬ 15 < op := by omega
 unfold ins
 skip
 all_goals
  go_enter Tryz.func99, Tryz.ntmps99
  go_wp2_with fail
  go_ret
  exact ⟨by rw [H.out]; rfl, (Below.refl _ _).alloc (Nat.le_refl _) _⟩
theorem may_15 (f : Int) (hf : f = 0 ∨ f = 1) (u v : Bool) (a b c n : Int) (w : World) :
 Calls Tryz.prog 99 #[ins f u v a b 15 c n] w fun e w' => e = .returned (.bool (reckB f u v a b 15 c)) ∧ Below w.heap.size w w' := by
 obtain ⟨ta, hta⟩ : ∃ t, (a == 0) = t := ⟨_, rfl⟩
 obtain ⟨tb, htb⟩ : ∃ t, (b == 0) = t := ⟨_, rfl⟩
 have HE : Hid (decide (a = 0) = ta ∧ decide (b = 0) = tb) := ⟨by rw [← hta, beq_dec], by rw [← htb, beq_dec]⟩
 unfold ins
 rcases hf with rfl | rfl <;> cases u <;> cases v <;> cases ta <;> cases tb
 all_goals
  go_enter Tryz.func99, Tryz.ntmps99
  go_wp2_with fail
  go_ret
  obtain ⟨e1, e2⟩ := HE.out
  exact ⟨by unfold reckB; simp only [e1, e2]; simp, (Below.refl _ _).alloc (Nat.le_refl _) _⟩
theorem may_0 (f : Int) (hf : f = 0 ∨ f = 1) (u v : Bool) (a b c n : Int) (w : World) :
 Calls Tryz.prog 99 #[ins f u v a b 0 c n] w fun e w' => e = .returned (.bool (reckB f u v a b 0 c)) ∧ Below w.heap.size w w' := by
 obtain ⟨tc, htc⟩ : ∃ t, (c == 0) = t := ⟨_, rfl⟩
 obtain ⟨tb, htb⟩ : ∃ t, (b == 0) = t := ⟨_, rfl⟩
 have HE : Hid (decide (c = 0) = tc ∧ decide (b = 0) = tb) := ⟨by rw [← htc, beq_dec], by rw [← htb, beq_dec]⟩
 unfold ins
 rcases hf with rfl | rfl <;> cases u <;> cases v <;> cases tc <;> cases tb
 all_goals
  go_enter Tryz.func99, Tryz.ntmps99
  go_wp2_with fail
  go_ret
  obtain ⟨e1, e2⟩ := HE.out
  exact ⟨by unfold reckB; simp only [e1, e2]; simp, (Below.refl _ _).alloc (Nat.le_refl _) _⟩
theorem may_some (f : Int) (hf : f = 0 ∨ f = 1) (u v : Bool) (a b op c n : Int) (h1 : 1 ≤ op) (h2 : op ≤ 11) (h8 : (op == 8) = false) (h9 : (op == 9) = false) (h10 : (op == 10) = false) (w : World) :
 Calls Tryz.prog 99 #[ins f u v a b op c n] w fun e w' => e = .returned (.bool (reckB f u v a b op c)) ∧ Below w.heap.size w w' := by
 have H8 : Hid (¬ (8 ≤ op ∧ op ≤ 10)) := by
  unfold Hid; simp at h8 h9 h10; omega
 unfold ins
 rcases hf with rfl | rfl <;> cases u <;> cases v
 all_goals
  go_enter Tryz.func99, Tryz.ntmps99
  go_wp2_with fail
  go_ret
  have := H8.out
  exact ⟨by unfold reckB; rw [if_neg (by omega), if_neg (by omega), if_neg (by omega)]; simp [this], (Below.refl _ _).alloc (Nat.le_refl _) _⟩
theorem may_8 (f : Int) (hf : f = 0 ∨ f = 1) (u v : Bool) (a b c n : Int) (w : World) :
 Calls Tryz.prog 99 #[ins f u v a b 8 c n] w fun e w' => e = .returned (.bool (reckB f u v a b 8 c)) ∧ Below w.heap.size w w' := by
 unfold ins
 rcases hf with rfl | rfl <;> cases u <;> cases v
 all_goals
  go_enter Tryz.func99, Tryz.ntmps99
  go_wp2_with fail
  go_ret
  exact ⟨rfl, (Below.refl _ _).alloc (Nat.le_refl _) _⟩
theorem may_9 (f : Int) (hf : f = 0 ∨ f = 1) (u v : Bool) (a b c n : Int) (w : World) :
 Calls Tryz.prog 99 #[ins f u v a b 9 c n] w fun e w' => e = .returned (.bool (reckB f u v a b 9 c)) ∧ Below w.heap.size w w' := by
 unfold ins
 rcases hf with rfl | rfl <;> cases u <;> cases v
 all_goals
  go_enter Tryz.func99, Tryz.ntmps99
  go_wp2_with fail
  go_ret
  exact ⟨rfl, (Below.refl _ _).alloc (Nat.le_refl _) _⟩
theorem may_10 (f : Int) (hf : f = 0 ∨ f = 1) (u v : Bool) (a b c n : Int) (w : World) :
 Calls Tryz.prog 99 #[ins f u v a b 10 c n] w fun e w' => e = .returned (.bool (reckB f u v a b 10 c)) ∧ Below w.heap.size w w' := by
 unfold ins
 rcases hf with rfl | rfl <;> cases u <;> cases v
 all_goals
  go_enter Tryz.func99, Tryz.ntmps99
  go_wp2_with fail
  go_ret
  exact ⟨rfl, (Below.refl _ _).alloc (Nat.le_refl _) _⟩
theorem may_any (f : Int) (hf : f = 0 ∨ f = 1) (u v : Bool) (a b op c n : Int) (w : World) :
 Calls Tryz.prog 99 #[ins f u v a b op c n] w fun e w' => e = .returned (.bool (reckB f u v a b op c)) ∧ Below w.heap.size w w' := by
 by_cases h : op < 0
 ·exact may_lo f hf u v a b op c n h w
 by_cases h15 : 15 < op
 ·exact may_hi f hf u v a b op c n h15 w
 by_cases e15 : op = 15
 ·subst e15; exact may_15 f hf u v a b c n w
 by_cases h11 : 11 < op
 ·exact may_mid f hf u v a b op c n h11 (by omega) w
 by_cases e0 : op = 0
 ·subst e0; exact may_0 f hf u v a b c n w
 by_cases e8 : op = 8
 ·subst e8; exact may_8 f hf u v a b c n w
 by_cases e9 : op = 9
 ·subst e9; exact may_9 f hf u v a b c n w
 by_cases e10 : op = 10
 ·subst e10; exact may_10 f hf u v a b c n w
 exact may_some f hf u v a b op c n (by omega) (by omega) (by simpa using e8) (by simpa using e9) (by simpa using e10) w
theorem rightB_0 (u v : Bool) (a b op c n : Int) : rightB 0 u v a b op c n = ((reg a && reg b && reg c) && (decide (n = 0) && reckB 0 u v a b op c)) := by
 unfold rightB; cases (reg a && reg b && reg c) <;> simp
theorem rightB_1 (u v : Bool) (a b op c n : Int) : rightB 1 u v a b op c n = ((reg a && reg b && reg c) && (decide (c = 0) && (decide (0 ≤ n) && decide (n ≤ 65535)) && reckB 1 u v a b op c)) := by
 unfold rightB; cases (reg a && reg b && reg c) <;> simp
theorem rightB_2 (u v : Bool) (a b op c n : Int) : rightB 2 u v a b op c n = ((reg a && reg b && reg c) && (decide (c = 0) && decide (op = 0) && (decide (-524288 ≤ n) && decide (n ≤ 524287)))) := by
 unfold rightB; cases (reg a && reg b && reg c) <;> simp
theorem rightB_3u (v : Bool) (a b op c n : Int) : rightB 3 true v a b op c n = ((reg a && reg b && reg c) && (decide (b = 0) && decide (op = 0) && (decide (c = 0) && (decide (-8388608 ≤ n) && decide (n ≤ 8388607))))) := by
 unfold rightB; cases (reg a && reg b && reg c) <;> simp
theorem rightB_3n (v : Bool) (a b op c n : Int) : rightB 3 false v a b op c n = ((reg a && reg b && reg c) && (decide (b = 0) && decide (op = 0) && decide (n = 0))) := by
 unfold rightB; cases (reg a && reg b && reg c) <;> simp
theorem bel1' {w w1 : World} {o : Obj} (h : Below (w.alloc o).heap.size (w.alloc o) w1) : Below w.heap.size w w1 :=
 Below.trans ((Below.refl _ _).alloc (Nat.le_refl _) _) (h.mono (by simp))
/-- Which of the three registers is none. -/
theorem regs_cases (a b c : Int) : (a < 0 ∨ 0 ≤ a ∧ 16 ≤ a ∨ 0 ≤ a ∧ a < 16 ∧ b < 0 ∨ 0 ≤ a ∧ a < 16 ∧ 0 ≤ b ∧ 16 ≤ b ∨ 0 ≤ a ∧ a < 16 ∧ 0 ≤ b ∧ b < 16 ∧ c < 0 ∨ 0 ≤ a ∧ a < 16 ∧ 0 ≤ b ∧ b < 16 ∧ 0 ≤ c ∧ 16 ≤ c) ∧ (reg a && reg b && reg c) = false ∨ (0 ≤ a ∧ a < 16 ∧ 0 ≤ b ∧ b < 16 ∧ 0 ≤ c ∧ c < 16) ∧ (reg a && reg b && reg c) = true := by
 by_cases h : 0 ≤ a ∧ a < 16 ∧ 0 ≤ b ∧ b < 16 ∧ 0 ≤ c ∧ c < 16
 ·exact .inr ⟨h, by unfold reg; simp; omega⟩
 ·exact .inl ⟨by omega, by unfold reg; simp; omega⟩
set_option maxRecDepth 100000 in
theorem rright_0 (u : Bool) (v : Bool) (a b op c n : Int) (w : World) :
 Calls Tryz.prog 86 #[ins 0 u v a b op c n] w fun e w' => e = .returned (.bool (rightB 0 u v a b op c n)) ∧ Below w.heap.size w w' := by
 obtain ⟨R, hR⟩ : ∃ t, (reg a && reg b && reg c) = t := ⟨_, rfl⟩
 have HR := hid hR
 have HRC := hid (regs_cases a b c)
 have hv := rightB_0 u v a b op c n
 rw [hR] at hv
 obtain ⟨tn, htn⟩ : ∃ t, (n == 0) = t := ⟨_, rfl⟩
 rw [show decide (n = 0) = tn from by rw [← htn, beq_dec]] at hv
 obtain ⟨K, hK⟩ : ∃ t, reckB 0 u v a b op c = t := ⟨_, rfl⟩
 rw [hK] at hv
 have HV := hid hv
 clear hv hR
 unfold ins
 go_enter Tryz.func86, Tryz.ntmps86
 go_upto_region 1 with fail
 go_cut [3] from 6 to 33 (fun s3 wx => s3 = .bool R ∧ w.alloc (.cells #[.int .i64 0, .bool u, .bool v, .int .i64 a, .int .i64 b, .int .i64 op, .int .i64 c, .int .i64 n] 92) = wx)
 case first =>
  rcases HRC.out with ⟨h | ⟨h, h'⟩ | ⟨h, h', h2⟩ | ⟨h, h', h2, h3⟩ | ⟨h, h', h2, h3, h4⟩ | ⟨h, h', h2, h3, h4, h5⟩, e⟩ | ⟨⟨h, h', h2, h3, h4, h5⟩, e⟩
  all_goals
   have E := hid (e.symm.trans HR.out)
   clear e
   go_wp2_with fail
   go_meet
   exact ⟨by rw [← E.out] <;> simp <;> omega, rfl⟩
 case rest =>
  obtain ⟨rfl, rfl⟩ := hcut
  clear HRC HR
  cases R <;> cases tn <;> cases K
  all_goals
   go_wp2_with (go_at_call 99; go_must (refine (may_any _ (by omega) _ _ _ _ _ _ _ _).mono ?_); rintro e w1 ⟨rfl, hb1⟩; have hi := fun j => hb1.cell (p := ⟨w.heap.size, j, none⟩) (by simp))
   go_ret
   exact ⟨by rw [HV.out]; simp, by first | exact bel1' hb1 | exact (Below.refl _ _).alloc (Nat.le_refl _) _⟩
set_option maxRecDepth 100000 in
theorem rright_1 (u : Bool) (v : Bool) (a b op c n : Int) (w : World) :
 Calls Tryz.prog 86 #[ins 1 u v a b op c n] w fun e w' => e = .returned (.bool (rightB 1 u v a b op c n)) ∧ Below w.heap.size w w' := by
 obtain ⟨R, hR⟩ : ∃ t, (reg a && reg b && reg c) = t := ⟨_, rfl⟩
 have HR := hid hR
 have HRC := hid (regs_cases a b c)
 have hv := rightB_1 u v a b op c n
 rw [hR] at hv
 obtain ⟨tc, htc⟩ : ∃ t, (c == 0) = t := ⟨_, rfl⟩
 rw [show decide (c = 0) = tc from by rw [← htc, beq_dec]] at hv
 obtain ⟨K, hK⟩ : ∃ t, reckB 1 u v a b op c = t := ⟨_, rfl⟩
 rw [hK] at hv
 have HV := hid hv
 clear hv hR
 unfold ins
 go_enter Tryz.func86, Tryz.ntmps86
 go_upto_region 1 with fail
 go_cut [3] from 6 to 33 (fun s3 wx => s3 = .bool R ∧ w.alloc (.cells #[.int .i64 1, .bool u, .bool v, .int .i64 a, .int .i64 b, .int .i64 op, .int .i64 c, .int .i64 n] 92) = wx)
 case first =>
  rcases HRC.out with ⟨h | ⟨h, h'⟩ | ⟨h, h', h2⟩ | ⟨h, h', h2, h3⟩ | ⟨h, h', h2, h3, h4⟩ | ⟨h, h', h2, h3, h4, h5⟩, e⟩ | ⟨⟨h, h', h2, h3, h4, h5⟩, e⟩
  all_goals
   have E := hid (e.symm.trans HR.out)
   clear e
   go_wp2_with fail
   go_meet
   exact ⟨by rw [← E.out] <;> simp <;> omega, rfl⟩
 case rest =>
  obtain ⟨rfl, rfl⟩ := hcut
  clear HRC HR
  have hrg : n < 0 ∨ 0 ≤ n ∧ 65535 < n ∨ 0 ≤ n ∧ n ≤ 65535 := by omega
  cases R <;> cases tc <;> cases K <;> rcases hrg with h | ⟨h, h'⟩ | ⟨h, h'⟩
  all_goals
   go_wp2_with (go_at_call 99; go_must (refine (may_any _ (by omega) _ _ _ _ _ _ _ _).mono ?_); rintro e w1 ⟨rfl, hb1⟩; have hi := fun j => hb1.cell (p := ⟨w.heap.size, j, none⟩) (by simp))
   go_ret
   refine ⟨?_, by first | exact bel1' hb1 | exact (Below.refl _ _).alloc (Nat.le_refl _) _⟩
   rw [HV.out]
   simp
   try (first | omega | (rw [Bool.eq_iff_iff]; simp; omega))
set_option maxRecDepth 100000 in
theorem rright_2 (u : Bool) (v : Bool) (a b op c n : Int) (w : World) :
 Calls Tryz.prog 86 #[ins 2 u v a b op c n] w fun e w' => e = .returned (.bool (rightB 2 u v a b op c n)) ∧ Below w.heap.size w w' := by
 obtain ⟨R, hR⟩ : ∃ t, (reg a && reg b && reg c) = t := ⟨_, rfl⟩
 have HR := hid hR
 have HRC := hid (regs_cases a b c)
 have hv := rightB_2 u v a b op c n
 rw [hR] at hv
 obtain ⟨tc, htc⟩ : ∃ t, (c == 0) = t := ⟨_, rfl⟩
 rw [show decide (c = 0) = tc from by rw [← htc, beq_dec]] at hv
 obtain ⟨top, htop⟩ : ∃ t, (op == 0) = t := ⟨_, rfl⟩
 rw [show decide (op = 0) = top from by rw [← htop, beq_dec]] at hv
 have HV := hid hv
 clear hv hR
 unfold ins
 go_enter Tryz.func86, Tryz.ntmps86
 go_upto_region 1 with fail
 go_cut [3] from 6 to 33 (fun s3 wx => s3 = .bool R ∧ w.alloc (.cells #[.int .i64 2, .bool u, .bool v, .int .i64 a, .int .i64 b, .int .i64 op, .int .i64 c, .int .i64 n] 92) = wx)
 case first =>
  rcases HRC.out with ⟨h | ⟨h, h'⟩ | ⟨h, h', h2⟩ | ⟨h, h', h2, h3⟩ | ⟨h, h', h2, h3, h4⟩ | ⟨h, h', h2, h3, h4, h5⟩, e⟩ | ⟨⟨h, h', h2, h3, h4, h5⟩, e⟩
  all_goals
   have E := hid (e.symm.trans HR.out)
   clear e
   go_wp2_with fail
   go_meet
   exact ⟨by rw [← E.out] <;> simp <;> omega, rfl⟩
 case rest =>
  obtain ⟨rfl, rfl⟩ := hcut
  clear HRC HR
  have hrg : n < -524288 ∨ -524288 ≤ n ∧ 524287 < n ∨ -524288 ≤ n ∧ n ≤ 524287 := by omega
  cases R <;> cases tc <;> cases top <;> rcases hrg with h | ⟨h, h'⟩ | ⟨h, h'⟩
  all_goals
   go_wp2_with fail
   go_ret
   refine ⟨?_, by first | exact bel1' hb1 | exact (Below.refl _ _).alloc (Nat.le_refl _) _⟩
   rw [HV.out]
   simp
   try (first | omega | (rw [Bool.eq_iff_iff]; simp; omega))
set_option maxRecDepth 100000 in
theorem rright_3u (v : Bool) (a b op c n : Int) (w : World) :
 Calls Tryz.prog 86 #[ins 3 true v a b op c n] w fun e w' => e = .returned (.bool (rightB 3 true v a b op c n)) ∧ Below w.heap.size w w' := by
 obtain ⟨R, hR⟩ : ∃ t, (reg a && reg b && reg c) = t := ⟨_, rfl⟩
 have HR := hid hR
 have HRC := hid (regs_cases a b c)
 have hv := rightB_3u v a b op c n
 rw [hR] at hv
 obtain ⟨tb, htb⟩ : ∃ t, (b == 0) = t := ⟨_, rfl⟩
 rw [show decide (b = 0) = tb from by rw [← htb, beq_dec]] at hv
 obtain ⟨top, htop⟩ : ∃ t, (op == 0) = t := ⟨_, rfl⟩
 rw [show decide (op = 0) = top from by rw [← htop, beq_dec]] at hv
 obtain ⟨tc, htc⟩ : ∃ t, (c == 0) = t := ⟨_, rfl⟩
 rw [show decide (c = 0) = tc from by rw [← htc, beq_dec]] at hv
 have HV := hid hv
 clear hv hR
 unfold ins
 go_enter Tryz.func86, Tryz.ntmps86
 go_upto_region 1 with fail
 go_cut [3] from 6 to 33 (fun s3 wx => s3 = .bool R ∧ w.alloc (.cells #[.int .i64 3, .bool true, .bool v, .int .i64 a, .int .i64 b, .int .i64 op, .int .i64 c, .int .i64 n] 92) = wx)
 case first =>
  rcases HRC.out with ⟨h | ⟨h, h'⟩ | ⟨h, h', h2⟩ | ⟨h, h', h2, h3⟩ | ⟨h, h', h2, h3, h4⟩ | ⟨h, h', h2, h3, h4, h5⟩, e⟩ | ⟨⟨h, h', h2, h3, h4, h5⟩, e⟩
  all_goals
   have E := hid (e.symm.trans HR.out)
   clear e
   go_wp2_with fail
   go_meet
   exact ⟨by rw [← E.out] <;> simp <;> omega, rfl⟩
 case rest =>
  obtain ⟨rfl, rfl⟩ := hcut
  clear HRC HR
  have hrg : n < -8388608 ∨ -8388608 ≤ n ∧ 8388607 < n ∨ -8388608 ≤ n ∧ n ≤ 8388607 := by omega
  cases R <;> cases tb <;> cases top <;> cases tc <;> rcases hrg with h | ⟨h, h'⟩ | ⟨h, h'⟩
  all_goals
   go_wp2_with fail
   go_ret
   refine ⟨?_, by first | exact bel1' hb1 | exact (Below.refl _ _).alloc (Nat.le_refl _) _⟩
   rw [HV.out]
   simp
   try (first | omega | (rw [Bool.eq_iff_iff]; simp; omega))
set_option maxRecDepth 100000 in
theorem rright_3n (v : Bool) (a b op c n : Int) (w : World) :
 Calls Tryz.prog 86 #[ins 3 false v a b op c n] w fun e w' => e = .returned (.bool (rightB 3 false v a b op c n)) ∧ Below w.heap.size w w' := by
 obtain ⟨R, hR⟩ : ∃ t, (reg a && reg b && reg c) = t := ⟨_, rfl⟩
 have HR := hid hR
 have HRC := hid (regs_cases a b c)
 have hv := rightB_3n v a b op c n
 rw [hR] at hv
 obtain ⟨tb, htb⟩ : ∃ t, (b == 0) = t := ⟨_, rfl⟩
 rw [show decide (b = 0) = tb from by rw [← htb, beq_dec]] at hv
 obtain ⟨top, htop⟩ : ∃ t, (op == 0) = t := ⟨_, rfl⟩
 rw [show decide (op = 0) = top from by rw [← htop, beq_dec]] at hv
 obtain ⟨tn, htn⟩ : ∃ t, (n == 0) = t := ⟨_, rfl⟩
 rw [show decide (n = 0) = tn from by rw [← htn, beq_dec]] at hv
 have HV := hid hv
 clear hv hR
 unfold ins
 go_enter Tryz.func86, Tryz.ntmps86
 go_upto_region 1 with fail
 go_cut [3] from 6 to 33 (fun s3 wx => s3 = .bool R ∧ w.alloc (.cells #[.int .i64 3, .bool false, .bool v, .int .i64 a, .int .i64 b, .int .i64 op, .int .i64 c, .int .i64 n] 92) = wx)
 case first =>
  rcases HRC.out with ⟨h | ⟨h, h'⟩ | ⟨h, h', h2⟩ | ⟨h, h', h2, h3⟩ | ⟨h, h', h2, h3, h4⟩ | ⟨h, h', h2, h3, h4, h5⟩, e⟩ | ⟨⟨h, h', h2, h3, h4, h5⟩, e⟩
  all_goals
   have E := hid (e.symm.trans HR.out)
   clear e
   go_wp2_with fail
   go_meet
   exact ⟨by rw [← E.out] <;> simp <;> omega, rfl⟩
 case rest =>
  obtain ⟨rfl, rfl⟩ := hcut
  clear HRC HR
  cases R <;> cases tb <;> cases top <;> cases tn
  all_goals
   go_wp2_with fail
   go_ret
   exact ⟨by rw [HV.out]; simp, by first | exact bel1' hb1 | exact (Below.refl _ _).alloc (Nat.le_refl _) _⟩
set_option maxRecDepth 100000 in
theorem rright_else (f : Int) (u v : Bool) (a b op c n : Int) (hf0 : (f == 0) = false) (hf1 : (f == 1) = false) (hf2 : (f == 2) = false) (hf3 : (f == 3) = false) (w : World) :
 Calls Tryz.prog 86 #[ins f u v a b op c n] w fun e w' => e = .returned (.bool (rightB f u v a b op c n)) ∧ Below w.heap.size w w' := by
 obtain ⟨R, hR⟩ : ∃ t, (reg a && reg b && reg c) = t := ⟨_, rfl⟩
 have HR := hid hR
 have HRC := hid (regs_cases a b c)
 have HV : Hid (rightB f u v a b op c n = false) := by
  unfold Hid rightB
  simp at hf0 hf1 hf2 hf3
  simp [hf0, hf1, hf2, hf3]
 clear hR
 unfold ins
 go_enter Tryz.func86, Tryz.ntmps86
 go_upto_region 1 with fail
 go_cut [3] from 6 to 33 (fun s3 wx => s3 = .bool R ∧ w.alloc (.cells #[.int .i64 f, .bool u, .bool v, .int .i64 a, .int .i64 b, .int .i64 op, .int .i64 c, .int .i64 n] 92) = wx)
 case first =>
  rcases HRC.out with ⟨h | ⟨h, h'⟩ | ⟨h, h', h2⟩ | ⟨h, h', h2, h3⟩ | ⟨h, h', h2, h3, h4⟩ | ⟨h, h', h2, h3, h4, h5⟩, e⟩ | ⟨⟨h, h', h2, h3, h4, h5⟩, e⟩
  all_goals
   have E := hid (e.symm.trans HR.out)
   clear e
   go_wp2_with fail
   go_meet
   exact ⟨by rw [← E.out] <;> simp <;> omega, rfl⟩
 case rest =>
  obtain ⟨rfl, rfl⟩ := hcut
  go_wp2_with fail
  go_ret
  exact ⟨by rw [HV.out]; rfl, (Below.refl _ _).alloc (Nat.le_refl _) _⟩
theorem rright_any (f : Int) (u v : Bool) (a b op c n : Int) (w : World) :
 Calls Tryz.prog 86 #[ins f u v a b op c n] w fun e w' => e = .returned (.bool (rightB f u v a b op c n)) ∧ Below w.heap.size w w' := by
 by_cases h0 : f = 0
 ·subst h0; exact rright_0 u v a b op c n w
 by_cases h1 : f = 1
 ·subst h1; exact rright_1 u v a b op c n w
 by_cases h2 : f = 2
 ·subst h2; exact rright_2 u v a b op c n w
 by_cases h3 : f = 3
 ·subst h3
  cases u
  ·exact rright_3n v a b op c n w
  ·exact rright_3u v a b op c n w
 ·exact rright_else f u v a b op c n (by simpa using h0) (by simpa using h1) (by simpa using h2) (by simpa using h3) w
end Go.Proofs.YtgcknekhimpfkaaGreatDoor
