/- Plain facts for the law that turns words back. No program in sight. -/
import Derived.Test.YtefaennifhmadaaPlainB
import Derived.Test.YtefaennifhmadaaPlainC
namespace Go.Proofs.Ytefaennifhmadaa.Pl
open Go Go.RowKit

theorem back_mul (a b : Int) (h : 0 ≤ a * b ∧ a * b ≤ 18446744065119617025) : mulH a b true * 4294967296 + mulL a b true = a * b := by
  rw [← mulL_u, ← mulH_u a b h]; omega
theorem getV_laid (L : Nat → Int) (x : Int) (hx : 0 ≤ x) (hx' : x < 4294967296) : getV (laid4 L 0 x) 0 = x := by
  unfold getV laid4
  rw [if_pos (by omega), if_pos (by omega), if_pos (by omega), if_pos (by omega)]
  show x % 256 + x / 256 % 256 * 256 + x / 65536 % 256 * 65536 + x / 16777216 % 256 * 16777216 = x
  omega
theorem hexd_dig (d : Int) (h0 : 0 ≤ d) (h1 : d < 16) : isDig (UInt8.ofNat (hexd d).toNat) = true ∧ digV (UInt8.ofNat (hexd d).toNat) = d := by
  have h8 : d = 0 ∨ d = 1 ∨ d = 2 ∨ d = 3 ∨ d = 4 ∨ d = 5 ∨ d = 6 ∨ d = 7 ∨ d = 8 ∨ d = 9 ∨ d = 10 ∨ d = 11 ∨ d = 12 ∨ d = 13 ∨ d = 14 ∨ d = 15 := by omega
  rcases h8 with rfl | rfl | rfl | rfl | rfl | rfl | rfl | rfl | rfl | rfl | rfl | rfl | rfl | rfl | rfl | rfl <;> decide
theorem hexS_list (x : Int) : (hexS x).data.toList = [UInt8.ofNat (hexd (nib x 0)).toNat, UInt8.ofNat (hexd (nib x 1)).toNat, UInt8.ofNat (hexd (nib x 2)).toNat, UInt8.ofNat (hexd (nib x 3)).toNat, UInt8.ofNat (hexd (nib x 4)).toNat, UInt8.ofNat (hexd (nib x 5)).toNat, UInt8.ofNat (hexd (nib x 6)).toNat, UInt8.ofNat (hexd (nib x 7)).toNat] := rfl
theorem hexS_back (x : Int) (hx : 0 ≤ x) (hx' : x < 4294967296) : unV (hexS x) = x ∧ unE (hexS x) = 0 := by
  have d := fun k => hexd_dig (nib x k) (nib_bd x k).1 (nib_bd x k).2
  have hsz : (hexS x).size = 8 := by unfold hexS; rw [strOfNums_size]; rfl
  have hall : (hexS x).data.toList.all isDig = true := by
    rw [hexS_list]; simp [(d _).1]
  have h := un_good (s := hexS x) (by omega) (by omega) hall
  refine ⟨?_, h.2⟩
  rw [h.1, hexS_list]
  simp only [valL, List.foldl_cons, List.foldl_nil, (d _).2]
  show (((((((((0 : Int) * 16 + x / 268435456 % 16) * 16 + x / 16777216 % 16) * 16 + x / 1048576 % 16) * 16 + x / 65536 % 16) * 16 + x / 4096 % 16) * 16 + x / 256 % 16) * 16 + x / 16 % 16) * 16 + x % 16) % 4294967296 = x
  omega
theorem turned_back (a m : Int) (ha : 0 ≤ a) (ha' : a < 4294967296) (hm : 0 ≤ m) (hm' : m < 32) : rorV (rorV a (m % 32).toNat) ((32 - m) % 32).toNat = a := by
  by_cases h : m = 0
  · subst h; show rorV (rorV a 0) 0 = a; rw [rorV_zero, rorV_zero]
  · rw [show (m % 32).toNat = m.toNat from by omega, show ((32 - m) % 32).toNat = 32 - m.toNat from by omega, rorV_add a _ _ (by omega) ha ha', show m.toNat + (32 - m.toNat) = 32 from by omega, rorV_all a ha ha']
theorem turned_back' (a m : Int) (ha : 0 ≤ a) (ha' : a < 4294967296) (hm : 0 ≤ m) (hm' : m < 32) : rorV (rorV a m.toNat) ((32 - m) % 32).toNat = a := by
  have := turned_back a m ha ha' hm hm'
  rwa [show m % 32 = m from by omega] at this
theorem laid_bd (x : Int) (j : Nat) : 0 ≤ laid4 (fun _ => 0) 0 x j ∧ laid4 (fun _ => 0) 0 x j ≤ 255 := by
  unfold laid4; split
  · exact wbyte_bd _ _
  · exact ⟨Int.le_refl 0, show (0 : Int) ≤ 255 by omega⟩
theorem get_laid (x : Int) (hx : 0 ≤ x) (hx' : x < 4294967296) : getR 4 (laid4 (fun _ => 0) 0 x) 0 = x := by
  unfold getR; rw [if_pos (by decide)]; exact getV_laid _ x hx hx'
theorem divOk_inv {b : Int} (h : divOk b = true) : 0 < sg b := by
  unfold divOk at h; simp at h; omega
theorem back_div (a b : Int) (ha : 0 ≤ a) (ha' : a < 4294967296) (hb : 0 ≤ b) (hb' : b < 4294967296) (h : divOk b = true) :
    (divQ a b * b % 4294967296 + divR a b) % 4294967296 = a ∧ 0 ≤ divR a b ∧ divR a b < b := by
  have h0 := divOk_inv h
  have hs : sg b = b := by
    unfold sg at h0 ⊢
    by_cases g : b < 2147483648
    · rw [if_pos g]
    · rw [if_neg g] at h0; omega
  have h2 := Int.mul_ediv_add_emod (sg a) b
  rw [hs] at h0
  have h3 := Int.emod_nonneg (sg a) (by omega : b ≠ 0)
  have h4 := Int.emod_lt_of_pos (sg a) h0
  unfold divQ divR
  rw [hs, if_neg (by omega), if_neg (by omega)]
  refine ⟨?_, h3, h4⟩
  have e1 : (sg a / b % 4294967296 * b) % 4294967296 = (sg a / b * b) % 4294967296 := by rw [Int.mul_emod, Int.emod_emod_of_dvd _ (Int.dvd_refl _), ← Int.mul_emod]
  rw [e1]
  rw [Int.mul_comm] at h2
  have hsa : sg a % 4294967296 = a := by unfold sg; split <;> omega
  omega
theorem divQ_bd (a b : Int) : 0 ≤ divQ a b ∧ divQ a b < 4294967296 := by unfold divQ; split <;> omega
end Go.Proofs.Ytefaennifhmadaa.Pl
