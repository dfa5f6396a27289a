/- The document's: the fields of a word. -/
import Derived.Test.YtnghhkageiceaaaDoorRefB
import Derived.Test.YtnghhkageiceaaaDoorCpuI
namespace Go.Proofs.YtnghhkageiceaaaDoor
open Go Go.RowKit Go.Lib Go.Proofs.YtnghhkageiceaaaDoor.Pl
set_option linter.unusedVariables false
set_option linter.unusedSimpArgs false
theorem ret_int' {k : IntKind} {a b : Int} (h : a = b) : Ending.returned (.int k a) = Ending.returned (.int k b) := by rw [h]
theorem rbit_any (b : Bool) (w : World) : Calls Tryd.prog 41 #[.bool b] w fun e w' => e = .returned (.int .u32 (cr b)) ∧ w' = w := by
  cases b <;> (go_enter Tryd.func41, Tryd.ntmps41; go_wp2_with fail; go_ret; exact ⟨rfl, rfl⟩)
theorem field_nat (x : Int) (f m : Nat) (h0 : 0 ≤ x) (h1 : x < 4294967296) (hf : f ≤ 31) (hm : m ≤ 24) (w : World) :
    Calls Tryd.prog 23 #[.int .u32 x, .int .i64 f, .int .i64 m] w fun e w' => e = .returned (.int .i64 (x / 2 ^ f % 2 ^ m)) ∧ ∃ n, w' = w.drewN n := by
  have hp : (2 : Int) ^ m % 4294967296 = 2 ^ m ∧ 1 ≤ (2 : Int) ^ m ∧ (2 : Int) ^ m ≤ 16777216 := by
    have h1 : (1 : Int) ≤ 2 ^ m := Int.pow_pos (by decide)
    have h2 : (2 : Int) ^ m ≤ 2 ^ 24 := by exact_mod_cast Nat.pow_le_pow_right (n := 2) (by decide) hm
    omega
  obtain ⟨p0, p1, p2⟩ := hp
  have hd : 0 ≤ x / 2 ^ f ∧ x / 2 ^ f ≤ x := ⟨Int.ediv_nonneg h0 (Int.le_of_lt (Int.pow_pos (by decide))), Int.ediv_le_self _ h0⟩
  have ha := and_low (x / 2 ^ f) m (by omega)
  rw [show x / 2 ^ f % 4294967296 = x / 2 ^ f from by omega] at ha
  have hb : 0 ≤ x / 2 ^ f % 2 ^ m ∧ x / 2 ^ f % 2 ^ m < 16777216 := ⟨Int.emod_nonneg _ (by omega), Int.lt_of_lt_of_le (Int.emod_lt_of_pos _ (by omega)) p2⟩
  obtain ⟨hb0, hb1⟩ := hb
  obtain ⟨hd0, hd1⟩ := hd
  go_enter Tryd.func23, Tryd.ntmps23
  go_wp2_with fail
  go_big_quiet (fail)
  go_wp2_with fail
  go_ret
  exact ⟨rfl, nq, rfl⟩
theorem field_any (x f m : Int) (h0 : 0 ≤ x) (h1 : x < 4294967296) (hf : 0 ≤ f) (hf' : f ≤ 31) (hm : 0 ≤ m) (hm' : m ≤ 24) (w : World) :
    Calls Tryd.prog 23 #[.int .u32 x, .int .i64 f, .int .i64 m] w fun e w' => e = .returned (.int .i64 (x / 2 ^ f.toNat % 2 ^ m.toNat)) ∧ ∃ n, w' = w.drewN n := by
  obtain ⟨f, rfl⟩ := Int.eq_ofNat_of_zero_le hf
  obtain ⟨m, rfl⟩ := Int.eq_ofNat_of_zero_le hm
  exact field_nat x f m h0 h1 (by omega) (by omega) w
theorem rsext_20 (x : Int) (h0 : 0 ≤ x) (w : World) : Calls Tryd.prog 24 #[.int .i64 (x % 1048576), .int .i64 20] w fun e w' => e = .returned (.int .i64 (sextV x 20)) ∧ w' = w := by
  have hb : 0 ≤ x % 1048576 ∧ x % 1048576 < 1048576 := by omega
  by_cases h : x % 1048576 < 524288
  · have H : Hid (sextV x 20 = x % 1048576) := by unfold Hid sextV; rw [if_neg (by show ¬ (524288 ≤ x % 1048576); omega)]; rfl
    generalize x % 1048576 = y at *
    go_enter Tryd.func24, Tryd.ntmps24
    go_wp2_with fail
    go_ret
    exact ⟨by rw [H.out]; rfl, rfl⟩
  · have H : Hid (sextV x 20 = x % 1048576 - 1048576) := by unfold Hid sextV; rw [if_pos (by show 524288 ≤ x % 1048576; omega)]; rfl
    have h2 : 524288 ≤ x % 1048576 := by omega
    generalize x % 1048576 = y at *
    go_enter Tryd.func24, Tryd.ntmps24
    go_wp2_with fail
    go_ret
    exact ⟨by rw [H.out]; rfl, rfl⟩
theorem rsext_24 (x : Int) (h0 : 0 ≤ x) (w : World) : Calls Tryd.prog 24 #[.int .i64 (x % 16777216), .int .i64 24] w fun e w' => e = .returned (.int .i64 (sextV x 24)) ∧ w' = w := by
  have hb : 0 ≤ x % 16777216 ∧ x % 16777216 < 16777216 := by omega
  by_cases h : x % 16777216 < 8388608
  · have H : Hid (sextV x 24 = x % 16777216) := by unfold Hid sextV; rw [if_neg (by show ¬ (8388608 ≤ x % 16777216); omega)]; rfl
    generalize x % 16777216 = y at *
    go_enter Tryd.func24, Tryd.ntmps24
    go_wp2_with fail
    go_ret
    exact ⟨by rw [H.out]; rfl, rfl⟩
  · have H : Hid (sextV x 24 = x % 16777216 - 16777216) := by unfold Hid sextV; rw [if_pos (by show 8388608 ≤ x % 16777216; omega)]; rfl
    have h2 : 8388608 ≤ x % 16777216 := by omega
    generalize x % 16777216 = y at *
    go_enter Tryd.func24, Tryd.ntmps24
    go_wp2_with fail
    go_ret
    exact ⟨by rw [H.out]; rfl, rfl⟩
theorem or_3 (F : Int) (u v : Bool) (a : Int) (hF : F = 0 ∨ F = 1073741824 ∨ F = 2147483648 ∨ F = 3221225472) (ha : 0 ≤ a ∧ a ≤ 15) :
    bits .or .u32 (bits .or .u32 (bits .or .u32 F (cr u * 536870912 % 4294967296)) (cr v * 268435456 % 4294967296)) (a % 4294967296 * 16777216 % 4294967296) = F + cr u * 536870912 + cr v * 268435456 + a * 16777216 := by
  have hu := cr_bd u
  have hv := cr_bd v
  rw [show cr u * 536870912 % 4294967296 = cr u * 536870912 from by omega, show cr v * 268435456 % 4294967296 = cr v * 268435456 from by omega, show a % 4294967296 * 16777216 % 4294967296 = a * 16777216 from by omega]
  generalize cr u = U at *
  generalize cr v = V at *
  rw [or_low F (U * 536870912) 30 (by omega) (by omega) (by simp; omega) (by omega) (by omega) (by simp; omega),
    or_low _ (V * 268435456) 29 (by omega) (by omega) (by simp; omega) (by omega) (by omega) (by simp; omega),
    or_low _ (a * 16777216) 28 (by omega) (by omega) (by simp; omega) (by omega) (by omega) (by simp; omega)]
theorem laid_or0 (u v : Bool) (a b op c n : Int) (h : rightB 0 u v a b op c n = true) :
    bits .or .u32 (bits .or .u32 (bits .or .u32 (bits .or .u32 (bits .or .u32 (bits .or .u32 (bits .or .u32 0 (cr u * 536870912 % 4294967296)) (cr v * 268435456 % 4294967296)) (a % 4294967296 * 16777216 % 4294967296)) (b % 4294967296 * 1048576 % 4294967296)) (op % 4294967296 * 65536 % 4294967296)) (n % 4294967296)) (c % 4294967296) = encW 0 u v a b op c n := by
  obtain ⟨ha, hb, hc, ho, hf⟩ := right_inv h
  have hu := cr_bd u
  have hv := cr_bd v
  have hn : 0 ≤ n ∧ n ≤ 65535 ∧ (n = 0 ∨ c = 0) := by omega
  rw [or_3 _ u v a (by omega) ha, show b % 4294967296 * 1048576 % 4294967296 = b * 1048576 from by omega, show op % 4294967296 * 65536 % 4294967296 = op * 65536 from by omega, show n % 4294967296 = n from by omega, show c % 4294967296 = c from by omega]
  obtain ⟨U, hU⟩ : ∃ U, cr u = U := ⟨_, rfl⟩
  obtain ⟨V, hV⟩ : ∃ V, cr v = V := ⟨_, rfl⟩
  rw [hU] at hu ⊢
  rw [hV] at hv ⊢
  rw [or_low _ (b * 1048576) 24 (by omega) (by omega) (by simp; omega) (by omega) (by omega) (by simp; omega),
    or_low _ (op * 65536) 20 (by omega) (by omega) (by simp; omega) (by omega) (by omega) (by simp; omega),
    or_low _ n 16 (by omega) (by omega) (by simp; omega) (by omega) (by omega) (by simp; omega)]
  unfold encW encN
  rw [hU, hV]
  rcases hn.2.2 with rfl | rfl
  · rw [or_low _ c 16 (by omega) (by omega) (by simp; omega) (by omega) (by omega) (by simp; omega)]
    simp <;> omega
  · rw [or_low _ 0 0 (by omega) (by omega) (by simp) (by omega) (by omega) (by simp)]
    simp <;> omega
theorem laid_or1 (u v : Bool) (a b op c n : Int) (h : rightB 1 u v a b op c n = true) :
    bits .or .u32 (bits .or .u32 (bits .or .u32 (bits .or .u32 (bits .or .u32 (bits .or .u32 (bits .or .u32 1073741824 (cr u * 536870912 % 4294967296)) (cr v * 268435456 % 4294967296)) (a % 4294967296 * 16777216 % 4294967296)) (b % 4294967296 * 1048576 % 4294967296)) (op % 4294967296 * 65536 % 4294967296)) (n % 4294967296)) (c % 4294967296) = encW 1 u v a b op c n := by
  obtain ⟨ha, hb, hc, ho, hf⟩ := right_inv h
  have hu := cr_bd u
  have hv := cr_bd v
  have hn : 0 ≤ n ∧ n ≤ 65535 ∧ (n = 0 ∨ c = 0) := by omega
  rw [or_3 _ u v a (by omega) ha, show b % 4294967296 * 1048576 % 4294967296 = b * 1048576 from by omega, show op % 4294967296 * 65536 % 4294967296 = op * 65536 from by omega, show n % 4294967296 = n from by omega, show c % 4294967296 = c from by omega]
  obtain ⟨U, hU⟩ : ∃ U, cr u = U := ⟨_, rfl⟩
  obtain ⟨V, hV⟩ : ∃ V, cr v = V := ⟨_, rfl⟩
  rw [hU] at hu ⊢
  rw [hV] at hv ⊢
  rw [or_low _ (b * 1048576) 24 (by omega) (by omega) (by simp; omega) (by omega) (by omega) (by simp; omega),
    or_low _ (op * 65536) 20 (by omega) (by omega) (by simp; omega) (by omega) (by omega) (by simp; omega),
    or_low _ n 16 (by omega) (by omega) (by simp; omega) (by omega) (by omega) (by simp; omega)]
  unfold encW encN
  rw [hU, hV]
  rcases hn.2.2 with rfl | rfl
  · rw [or_low _ c 16 (by omega) (by omega) (by simp; omega) (by omega) (by omega) (by simp; omega)]
    simp <;> omega
  · rw [or_low _ 0 0 (by omega) (by omega) (by simp) (by omega) (by omega) (by simp)]
    simp <;> omega
theorem laid_or2 (u v : Bool) (a b op c n : Int) (h : rightB 2 u v a b op c n = true) :
    bits .or .u32 (bits .or .u32 (bits .or .u32 (bits .or .u32 (bits .or .u32 2147483648 (cr u * 536870912 % 4294967296)) (cr v * 268435456 % 4294967296)) (a % 4294967296 * 16777216 % 4294967296)) (b % 4294967296 * 1048576 % 4294967296)) (bits .and .u32 (n % 4294967296) 1048575) = encW 2 u v a b op c n := by
  obtain ⟨ha, hb, hc, ho, hf⟩ := right_inv h
  have hu := cr_bd u
  have hv := cr_bd v
  have hn : c = 0 ∧ op = 0 := by omega
  obtain ⟨rfl, rfl⟩ := hn
  rw [or_3 _ u v a (by omega) ha, show b % 4294967296 * 1048576 % 4294967296 = b * 1048576 from by omega, show bits .and .u32 (n % 4294967296) 1048575 = n % 1048576 from and_low n 20 (by omega)]
  rw [or_low _ (b * 1048576) 24 (by omega) (by omega) (by simp; omega) (by omega) (by omega) (by simp; omega),
    or_low _ (n % 1048576) 20 (by omega) (by omega) (by simp; omega) (by omega) (by omega) (by simp; omega)]
  unfold encW encN
  simp
theorem laid_or3 (u v : Bool) (a b op c n : Int) (h : rightB 3 u v a b op c n = true) :
    bits .or .u32 (bits .or .u32 (bits .or .u32 (bits .or .u32 (bits .or .u32 3221225472 (cr u * 536870912 % 4294967296)) (cr v * 268435456 % 4294967296)) (a % 4294967296 * 16777216 % 4294967296)) (bits .and .u32 (n % 4294967296) 16777215)) (c % 4294967296) = encW 3 u v a b op c n := by
  obtain ⟨ha, hb, hc, ho, hf⟩ := right_inv h
  have hu := cr_bd u
  have hv := cr_bd v
  rcases hf with ⟨h, _⟩ | ⟨h, _⟩ | ⟨h, _⟩ | ⟨_, h1, h2, h3⟩
  · omega
  · omega
  · omega
  subst h1 h2
  rw [or_3 _ u v a (by omega) ha, show bits .and .u32 (n % 4294967296) 16777215 = n % 16777216 from and_low n 24 (by omega), show c % 4294967296 = c from by omega]
  unfold encW encN
  rcases h3 with ⟨_, rfl, _⟩ | ⟨_, rfl⟩
  · rw [or_low _ (n % 16777216) 24 (by omega) (by omega) (by simp; omega) (by omega) (by omega) (by simp; omega), or_low _ 0 0 (by omega) (by omega) (by simp) (by omega) (by omega) (by simp)]
    simp
  · rw [show (0 : Int) % 16777216 = 0 from rfl, or_low _ 0 0 (by omega) (by omega) (by simp) (by omega) (by omega) (by simp), or_low _ c 24 (by omega) (by omega) (by simp; omega) (by omega) (by omega) (by simp; omega)]
    simp
set_option maxHeartbeats 1000000 in
theorem laid_0 (u v : Bool) (a b op c n : Int) (hr : rightB 0 u v a b op c n = true) (w : World) :
    Calls Tryd.prog 26 #[ins 0 u v a b op c n] w fun e w' => e = .returned (.int .u32 (encW 0 u v a b op c n)) ∧ Below w.heap.size w w' := by
  have HE := Lib.hid (laid_or0 u v a b op c n hr)
  unfold ins
  go_enter Tryd.func26, Tryd.ntmps26
  go_wp2_with fail
  go_big_quiet ((go_at_call 41; exact Calls.quiet_of_same (rbit_any _ _)))
  go_wp2_with fail
  go_ret
  exact ⟨ret_int' HE.out, belN ((Below.refl _ _).alloc (Nat.le_refl _) _) _⟩
set_option maxHeartbeats 1000000 in
theorem laid_1 (u v : Bool) (a b op c n : Int) (hr : rightB 1 u v a b op c n = true) (w : World) :
    Calls Tryd.prog 26 #[ins 1 u v a b op c n] w fun e w' => e = .returned (.int .u32 (encW 1 u v a b op c n)) ∧ Below w.heap.size w w' := by
  have HE := Lib.hid (laid_or1 u v a b op c n hr)
  unfold ins
  go_enter Tryd.func26, Tryd.ntmps26
  go_wp2_with fail
  go_big_quiet ((go_at_call 41; exact Calls.quiet_of_same (rbit_any _ _)))
  go_wp2_with fail
  go_ret
  exact ⟨ret_int' HE.out, belN ((Below.refl _ _).alloc (Nat.le_refl _) _) _⟩
set_option maxHeartbeats 1000000 in
theorem laid_2 (u v : Bool) (a b op c n : Int) (hr : rightB 2 u v a b op c n = true) (w : World) :
    Calls Tryd.prog 26 #[ins 2 u v a b op c n] w fun e w' => e = .returned (.int .u32 (encW 2 u v a b op c n)) ∧ Below w.heap.size w w' := by
  have HE := Lib.hid (laid_or2 u v a b op c n hr)
  unfold ins
  go_enter Tryd.func26, Tryd.ntmps26
  go_wp2_with fail
  go_big_quiet ((go_at_call 41; exact Calls.quiet_of_same (rbit_any _ _)))
  go_wp2_with fail
  go_ret
  exact ⟨ret_int' HE.out, belN ((Below.refl _ _).alloc (Nat.le_refl _) _) _⟩
set_option maxHeartbeats 1000000 in
theorem laid_3 (u v : Bool) (a b op c n : Int) (hr : rightB 3 u v a b op c n = true) (w : World) :
    Calls Tryd.prog 26 #[ins 3 u v a b op c n] w fun e w' => e = .returned (.int .u32 (encW 3 u v a b op c n)) ∧ Below w.heap.size w w' := by
  have HE := Lib.hid (laid_or3 u v a b op c n hr)
  unfold ins
  go_enter Tryd.func26, Tryd.ntmps26
  go_wp2_with fail
  go_big_quiet ((go_at_call 41; exact Calls.quiet_of_same (rbit_any _ _)))
  go_wp2_with fail
  go_ret
  exact ⟨ret_int' HE.out, belN ((Below.refl _ _).alloc (Nat.le_refl _) _) _⟩
theorem rlaid_any {f : Int} {u v : Bool} {a b op c n : Int} (hr : rightB f u v a b op c n = true) (w : World) :
    Calls Tryd.prog 26 #[ins f u v a b op c n] w fun e w' => e = .returned (.int .u32 (encW f u v a b op c n)) ∧ Below w.heap.size w w' := by
  obtain ⟨_, _, _, _, hf⟩ := right_inv hr
  rcases hf with ⟨rfl, _⟩ | ⟨rfl, _⟩ | ⟨rfl, _⟩ | ⟨rfl, _⟩
  · exact laid_0 u v a b op c n hr w
  · exact laid_1 u v a b op c n hr w
  · exact laid_2 u v a b op c n hr w
  · exact laid_3 u v a b op c n hr w
end Go.Proofs.YtnghhkageiceaaaDoor
