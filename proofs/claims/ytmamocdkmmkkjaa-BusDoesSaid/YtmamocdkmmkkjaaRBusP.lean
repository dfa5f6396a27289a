/- Bytes of words: plain facts. -/
import Derived.Test.YtmamocdkmmkkjaaQB
namespace Go.Proofs.Ytmamocdkmmkkjaa
open Go Go.RowKit Go.Lib Go.Proofs.Ytmamocdkmmkkjaa.Pl
set_option linter.unusedVariables false
set_option linter.unusedSimpArgs false
theorem nat_andmask (W s : Nat) (hW : W < 2 ^ 32) (hs : s ≤ 24) : W &&& (2 ^ (s + 8) * (2 ^ (24 - s) - 1) + (2 ^ s - 1)) = 2 ^ (s + 8) * (W / 2 ^ (s + 8)) + W % 2 ^ s := by
  have hp : 2 ^ s ≤ 2 ^ (s + 8) := Nat.pow_le_pow_right (by decide) (by omega)
  have h1 : 2 ^ s - 1 < 2 ^ (s + 8) := by have := Nat.two_pow_pos s; omega
  have h2 : W % 2 ^ s < 2 ^ (s + 8) := Nat.lt_of_lt_of_le (Nat.mod_lt _ (Nat.two_pow_pos s)) hp
  apply Nat.eq_of_testBit_eq
  intro j
  rw [Nat.testBit_and, Nat.testBit_two_pow_mul_add _ h1, Nat.testBit_two_pow_mul_add _ h2]
  by_cases hj : j < s + 8
  · rw [if_pos hj, if_pos hj, Nat.testBit_two_pow_sub_one, Nat.testBit_mod_two_pow, Bool.and_comm]
  · rw [if_neg hj, if_neg hj, Nat.testBit_two_pow_sub_one, Nat.testBit_div_two_pow, show j - (s + 8) + (s + 8) = j from by omega]
    by_cases h3 : j - (s + 8) < 24 - s
    · rw [decide_eq_true h3, Bool.and_true]
    · rw [decide_eq_false h3, Bool.and_false, Nat.testBit_lt_two_pow (Nat.lt_of_lt_of_le hW (Nat.pow_le_pow_right (by decide) (by omega)))]
theorem nat_laybyte (W s c : Nat) (hW : W < 2 ^ 32) (hs : s ≤ 24) (hc : c < 2 ^ 8) : (W &&& (2 ^ (s + 8) * (2 ^ (24 - s) - 1) + (2 ^ s - 1))) ||| c * 2 ^ s = 2 ^ (s + 8) * (W / 2 ^ (s + 8)) + (2 ^ s * c + W % 2 ^ s) := by
  have hp : 2 ^ (s + 8) = 2 ^ s * 2 ^ 8 := Nat.pow_add _ _ _
  have hl := Nat.mod_lt W (Nat.two_pow_pos s)
  have h2 : W % 2 ^ s < 2 ^ (s + 8) := by rw [hp]; omega
  have h3 : 2 ^ s * c + W % 2 ^ s < 2 ^ (s + 8) := by
    rw [hp]
    have : 2 ^ s * (c + 1) ≤ 2 ^ s * 2 ^ 8 := Nat.mul_le_mul_left _ hc
    rw [Nat.mul_add] at this
    omega
  rw [nat_andmask W s hW hs]
  apply Nat.eq_of_testBit_eq
  intro j
  rw [Nat.testBit_or, Nat.testBit_two_pow_mul_add _ h2, Nat.testBit_two_pow_mul_add _ h3, Nat.mul_comm c, Nat.testBit_two_pow_mul]
  by_cases hj : j < s + 8
  · rw [if_pos hj, if_pos hj, Nat.testBit_two_pow_mul_add _ hl, Nat.testBit_mod_two_pow]
    by_cases h4 : j < s
    · rw [if_pos h4, decide_eq_true h4, decide_eq_false (by omega : ¬ s ≤ j)]; simp
    · rw [if_neg h4, decide_eq_false h4, decide_eq_true (by omega : s ≤ j)]; simp
  · rw [if_neg hj, if_neg hj]
    have h5 : c.testBit (j - s) = false := Nat.testBit_lt_two_pow (Nat.lt_of_lt_of_le hc (Nat.pow_le_pow_right (by decide) (by omega)))
    rw [h5]; simp
theorem lay_0 (W c : Int) (h0 : 0 ≤ W) (h1 : W < 4294967296) (c0 : 0 ≤ c) (c1 : c ≤ 255) : bits .or .u32 (bits .and .u32 W 4294967040) c = W - W / 1 % 256 * 1 + c * 1 := by
  obtain ⟨W, rfl⟩ := Int.eq_ofNat_of_zero_le h0
  obtain ⟨c, rfl⟩ := Int.eq_ofNat_of_zero_le c0
  have key : (W &&& 4294967040) ||| c = 256 * (W / 256) + (1 * c + W % 1) := by
    have := nat_laybyte W 0 c (by omega) (by omega) (by omega)
    rw [Nat.pow_zero, Nat.mul_one] at this; exact this
  have hm2 : W &&& 4294967040 = 256 * (W / 256) + W % 1 := nat_andmask W 0 (by omega) (by omega)
  have ea : bits .and .u32 (W : Int) 4294967040 = ((W &&& 4294967040 : Nat) : Int) := u32_and_nat W 4294967040 (by omega) (by omega)
  have eb : bits .or .u32 ((W &&& 4294967040 : Nat) : Int) (c : Int) = (((W &&& 4294967040) ||| c : Nat) : Int) := u32_or_nat _ _ (by omega) (by omega)
  rw [ea, eb, key]
  omega
theorem lay_8 (W c : Int) (h0 : 0 ≤ W) (h1 : W < 4294967296) (c0 : 0 ≤ c) (c1 : c ≤ 255) : bits .or .u32 (bits .and .u32 W 4294902015) (c * 256) = W - W / 256 % 256 * 256 + c * 256 := by
  obtain ⟨W, rfl⟩ := Int.eq_ofNat_of_zero_le h0
  obtain ⟨c, rfl⟩ := Int.eq_ofNat_of_zero_le c0
  have key : (W &&& 4294902015) ||| c * 256 = 65536 * (W / 65536) + (256 * c + W % 256) := by
    have := nat_laybyte W 8 c (by omega) (by omega) (by omega)
    exact this
  have hm2 : W &&& 4294902015 = 65536 * (W / 65536) + W % 256 := nat_andmask W 8 (by omega) (by omega)
  have ea : bits .and .u32 (W : Int) 4294902015 = ((W &&& 4294902015 : Nat) : Int) := u32_and_nat W 4294902015 (by omega) (by omega)
  have eb : bits .or .u32 ((W &&& 4294902015 : Nat) : Int) ((c * 256 : Nat) : Int) = (((W &&& 4294902015) ||| c * 256 : Nat) : Int) := u32_or_nat _ _ (by omega) (by omega)
  rw [ea, show (c : Int) * 256 = ((c * 256 : Nat) : Int) from by omega, eb, key]
  omega
theorem lay_16 (W c : Int) (h0 : 0 ≤ W) (h1 : W < 4294967296) (c0 : 0 ≤ c) (c1 : c ≤ 255) : bits .or .u32 (bits .and .u32 W 4278255615) (c * 65536) = W - W / 65536 % 256 * 65536 + c * 65536 := by
  obtain ⟨W, rfl⟩ := Int.eq_ofNat_of_zero_le h0
  obtain ⟨c, rfl⟩ := Int.eq_ofNat_of_zero_le c0
  have key : (W &&& 4278255615) ||| c * 65536 = 16777216 * (W / 16777216) + (65536 * c + W % 65536) := by
    have := nat_laybyte W 16 c (by omega) (by omega) (by omega)
    exact this
  have hm2 : W &&& 4278255615 = 16777216 * (W / 16777216) + W % 65536 := nat_andmask W 16 (by omega) (by omega)
  have ea : bits .and .u32 (W : Int) 4278255615 = ((W &&& 4278255615 : Nat) : Int) := u32_and_nat W 4278255615 (by omega) (by omega)
  have eb : bits .or .u32 ((W &&& 4278255615 : Nat) : Int) ((c * 65536 : Nat) : Int) = (((W &&& 4278255615) ||| c * 65536 : Nat) : Int) := u32_or_nat _ _ (by omega) (by omega)
  rw [ea, show (c : Int) * 65536 = ((c * 65536 : Nat) : Int) from by omega, eb, key]
  omega
theorem lay_24 (W c : Int) (h0 : 0 ≤ W) (h1 : W < 4294967296) (c0 : 0 ≤ c) (c1 : c ≤ 255) : bits .or .u32 (bits .and .u32 W 16777215) (c * 16777216) = W - W / 16777216 % 256 * 16777216 + c * 16777216 := by
  obtain ⟨W, rfl⟩ := Int.eq_ofNat_of_zero_le h0
  obtain ⟨c, rfl⟩ := Int.eq_ofNat_of_zero_le c0
  have key : (W &&& 16777215) ||| c * 16777216 = 4294967296 * (W / 4294967296) + (16777216 * c + W % 16777216) := by
    have := nat_laybyte W 24 c (by omega) (by omega) (by omega)
    exact this
  have hm2 : W &&& 16777215 = 4294967296 * (W / 4294967296) + W % 16777216 := nat_andmask W 24 (by omega) (by omega)
  have ea : bits .and .u32 (W : Int) 16777215 = ((W &&& 16777215 : Nat) : Int) := u32_and_nat W 16777215 (by omega) (by omega)
  have eb : bits .or .u32 ((W &&& 16777215 : Nat) : Int) ((c * 16777216 : Nat) : Int) = (((W &&& 16777215) ||| c * 16777216 : Nat) : Int) := u32_or_nat _ _ (by omega) (by omega)
  rw [ea, show (c : Int) * 16777216 = ((c * 16777216 : Nat) : Int) from by omega, eb, key]
  omega
/-- A word's bytes. -/
theorem getV_byte (M : Nat → Int) (h : ∀ i, 0 ≤ M i ∧ M i ≤ 255) (p : Nat) : 0 ≤ getV M p ∧ getV M p < 4294967296 ∧ getV M p % 256 = M p ∧ getV M p / 256 % 256 = M (p + 1) ∧ getV M p / 65536 % 256 = M (p + 2) ∧ getV M p / 16777216 % 256 = M (p + 3) := by
  unfold getV
  have h0 := h p
  have h1 := h (p + 1)
  have h2 := h (p + 2)
  have h3 := h (p + 3)
  omega
theorem setB_word (M : Nat → Int) (h : ∀ i, 0 ≤ M i ∧ M i ≤ 255) (q j : Nat) (hj : j < 4) (c : Int) (i : Nat) : getV (setB M (4 * q + j) c) (4 * i) = if i = q then getV M (4 * q) - M (4 * q + j) * 256 ^ j + c * 256 ^ j else getV M (4 * i) := by
  have hh : j = 0 ∨ j = 1 ∨ j = 2 ∨ j = 3 := by omega
  unfold getV setB
  by_cases hi : i = q
  · subst hi
    rw [if_pos rfl]
    rcases hh with rfl | rfl | rfl | rfl
    · rw [show 4 * i + 0 = 4 * i from rfl, if_pos rfl, if_neg (by omega), if_neg (by omega), if_neg (by omega)]; omega
    · rw [if_neg (by omega), if_pos rfl, if_neg (by omega), if_neg (by omega)]; omega
    · rw [if_neg (by omega), if_neg (by omega), if_pos rfl, if_neg (by omega)]; omega
    · rw [if_neg (by omega), if_neg (by omega), if_neg (by omega), if_pos rfl]; omega
  · rw [if_neg hi, if_neg (by omega), if_neg (by omega), if_neg (by omega), if_neg (by omega)]
end Go.Proofs.Ytmamocdkmmkkjaa
