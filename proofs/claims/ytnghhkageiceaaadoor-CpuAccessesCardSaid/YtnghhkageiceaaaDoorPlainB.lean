/- Plain facts on words of 32 bits, moved and turned: shifts, rotation, numbers of so many bits. No program in sight. -/
import Derived.Test.YtnghhkageiceaaaDoorPlain
namespace Go.Proofs.YtnghhkageiceaaaDoor.Pl
open Go Go.RowKit

def lslV (a : Int) (m : Nat) : Int := a * 2 ^ m % 4294967296
def asrV (a : Int) (m : Nat) : Int := sg a / 2 ^ m % 4294967296
def rorV (a : Int) (m : Nat) : Int := a / 2 ^ m + a % 2 ^ m * 2 ^ (32 - m)
def sextV (a : Int) (k : Nat) : Int := if 2 ^ k / 2 ≤ a % 2 ^ k then a % 2 ^ k - 2 ^ k else a % 2 ^ k

theorem p2 (m : Nat) : (0 : Int) < 2 ^ m := Int.pow_pos (by decide)
theorem p2s (m : Nat) : (2 : Int) ^ (m + 1) = 2 ^ m * 2 := Int.pow_succ 2 m
theorem p2add (m n : Nat) : (2 : Int) ^ (m + n) = 2 ^ m * 2 ^ n := Int.pow_add 2 m n
theorem p2_32 (m : Nat) (h : m ≤ 32) : (2 : Int) ^ m * 2 ^ (32 - m) = 4294967296 := by
  rw [← p2add, show m + (32 - m) = 32 from by omega]; decide

theorem lslV_zero (a : Int) (h : 0 ≤ a) (h' : a < 4294967296) : lslV a 0 = a := by unfold lslV; simp; omega
theorem lslV_bd (a : Int) (m : Nat) : 0 ≤ lslV a m ∧ lslV a m < 4294967296 := by unfold lslV; omega
theorem lslV_succ (a : Int) (m : Nat) : lslV a m * 2 % 4294967296 = lslV a (m + 1) := by
  unfold lslV; rw [p2s, ← Int.mul_assoc]; omega

theorem asrV_bd (a : Int) (m : Nat) : 0 ≤ asrV a m ∧ asrV a m < 4294967296 := by unfold asrV; omega
theorem asrV_zero (a : Int) (h : 0 ≤ a) (h' : a < 4294967296) : asrV a 0 = a := by
  unfold asrV sg; simp; split <;> omega
theorem sdiv_bd (a : Int) (m : Nat) (h : 0 ≤ a) (h' : a < 4294967296) : -2147483648 ≤ sg a / 2 ^ m ∧ sg a / 2 ^ m ≤ 2147483647 := by
  have hb := sg_bd a h h'
  have hp := p2 m
  constructor
  · apply Int.le_ediv_of_mul_le hp
    have h1 : (-2147483648 : Int) * 2 ^ m ≤ -2147483648 * 1 := Int.mul_le_mul_of_nonpos_left (by omega) (by omega)
    omega
  · rcases Int.le_total 0 (sg a) with h2 | h2
    · have := Int.ediv_le_self (2 ^ m) h2; omega
    · have := Int.ediv_nonpos_of_nonpos_of_neg h2 hp; omega
theorem asrV_succ (a : Int) (m : Nat) (h : 0 ≤ a) (h' : a < 4294967296) : asrV a m / 2 + asrV a m / 2147483648 * 2147483648 = asrV a (m + 1) := by
  have hb := sdiv_bd a m h h'
  unfold asrV
  rw [p2s, ← Int.ediv_ediv_of_nonneg (Int.le_of_lt (p2 m))]
  generalize sg a / 2 ^ m = x at *
  omega

theorem rorV_zero (a : Int) : rorV a 0 = a := by unfold rorV; simp [Int.emod_one]
theorem mod_succ (a P : Int) (hP : 0 < P) (ha : 0 ≤ a) : a % (P * 2) = a % P + P * (a / P % 2) := by
  obtain ⟨a, rfl⟩ := Int.eq_ofNat_of_zero_le ha
  obtain ⟨P, rfl⟩ := Int.eq_ofNat_of_zero_le (Int.le_of_lt hP)
  have := Nat.mod_mul (x := a) (a := P) (b := 2)
  exact_mod_cast this
theorem rorV_bd (a : Int) (m : Nat) (hm : m ≤ 32) (h : 0 ≤ a) (h' : a < 4294967296) : 0 ≤ rorV a m ∧ rorV a m < 4294967296 := by
  have hp := p2 m
  have hq := p2 (32 - m)
  have e := p2_32 m hm
  unfold rorV
  generalize (2 : Int) ^ m = P at *
  generalize (2 : Int) ^ (32 - m) = R at *
  have h1 : a / P < R := Int.ediv_lt_of_lt_mul hp (by rw [Int.mul_comm, e]; exact h')
  have h2 := Int.ediv_nonneg h (Int.le_of_lt hp)
  have h3 := Int.emod_nonneg a (by omega : P ≠ 0)
  have h4 := Int.emod_lt_of_pos a hp
  have h5 : a % P * R ≤ (P - 1) * R := Int.mul_le_mul_of_nonneg_right (by omega) (by omega)
  have h6 : 0 ≤ a % P * R := Int.mul_nonneg h3 (Int.le_of_lt hq)
  rw [Int.sub_mul, e] at h5
  omega
theorem rorV_succ (a : Int) (m : Nat) (hm : m < 32) (h : 0 ≤ a) : rorV a m / 2 + rorV a m % 2 * 2147483648 = rorV a (m + 1) := by
  have hp := p2 m
  have e1 : (2 : Int) ^ (32 - m) = 2 ^ (32 - (m + 1)) * 2 := by rw [← p2s, show 32 - (m + 1) + 1 = 32 - m from by omega]
  have e2 : (2 : Int) ^ m * 2 ^ (32 - (m + 1)) = 2147483648 := by rw [← p2add, show m + (32 - (m + 1)) = 31 from by omega]; decide
  unfold rorV
  rw [p2s, e1, ← Int.ediv_ediv_of_nonneg (Int.le_of_lt hp), mod_succ a _ hp h]
  generalize (2 : Int) ^ (32 - (m + 1)) = R at *
  generalize (2 : Int) ^ m = P at *
  rw [Int.add_mul, show P * (a / P % 2) * R = P * R * (a / P % 2) from by rw [Int.mul_assoc, Int.mul_comm (a / P % 2) R, Int.mul_assoc], e2, ← Int.mul_assoc]
  generalize a % P * R = t at *
  generalize a / P = u at *
  omega
/-- Turned by all 32 places it is as it was. -/
theorem rorV_all (a : Int) (h : 0 ≤ a) (h' : a < 4294967296) : rorV a 32 = a := by
  unfold rorV
  rw [show (2 : Int) ^ 32 = 4294967296 from by decide]
  simp; omega
theorem rorV_add (a : Int) (m k : Nat) (hm : m + k ≤ 32) (h : 0 ≤ a) (h' : a < 4294967296) : rorV (rorV a m) k = rorV a (m + k) := by
  induction k with
  | zero => rw [rorV_zero]; rfl
  | succ k ih =>
    rw [← rorV_succ _ _ (by omega) (rorV_bd a m (by omega) h h').1, ih (by omega), rorV_succ _ _ (by omega) h]; rfl
theorem mul_mod_right (a P R : Int) (h : 0 ≤ a) (hP : 0 ≤ P) (hR : 0 ≤ R) : a * R % (P * R) = a % P * R := by
  obtain ⟨a, rfl⟩ := Int.eq_ofNat_of_zero_le h
  obtain ⟨P, rfl⟩ := Int.eq_ofNat_of_zero_le hP
  obtain ⟨R, rfl⟩ := Int.eq_ofNat_of_zero_le hR
  have := Nat.mul_mod_mul_right R a P
  exact_mod_cast this
/-- The program's rotation: two shifts, joined. -/
theorem ror_join (a : Int) (m : Nat) (hm : m ≤ 32) (h : 0 ≤ a) (h' : a < 4294967296) :
    bits .or .u32 (a * 2 ^ (32 - m) % 4294967296) (a / 2 ^ m) = rorV a m := by
  have hb := rorV_bd a m hm h h'
  have hp := p2 m
  have hq := p2 (32 - m)
  have e := p2_32 m hm
  have e3 : a * 2 ^ (32 - m) % 4294967296 = a % 2 ^ m * 2 ^ (32 - m) := by
    rw [← e, mul_mod_right a _ _ h (Int.le_of_lt hp) (Int.le_of_lt hq)]
  have h1 : a / 2 ^ m < 2 ^ (32 - m) := Int.ediv_lt_of_lt_mul hp (by rw [Int.mul_comm, e]; exact h')
  have h2 := Int.ediv_nonneg h (Int.le_of_lt hp)
  have h3 := Int.emod_nonneg a (by omega : (2 : Int) ^ m ≠ 0)
  have h6 : 0 ≤ a % 2 ^ m * 2 ^ (32 - m) := Int.mul_nonneg h3 (Int.le_of_lt hq)
  rw [e3]
  unfold rorV at hb ⊢
  rw [u32_or _ _ h6 (by omega) h2 (by omega)]
  have hx : a % 2 ^ m * 2 ^ (32 - m) % 2 ^ (32 - m) = 0 := Int.mul_emod_left _ _
  obtain ⟨x, hxe⟩ := Int.eq_ofNat_of_zero_le h6
  obtain ⟨y, hye⟩ := Int.eq_ofNat_of_zero_le h2
  rw [hxe] at hx ⊢
  rw [hye] at h1 ⊢
  simp only [Int.toNat_natCast]
  have hx' : x % 2 ^ (32 - m) = 0 := by exact_mod_cast hx
  have hy' : y < 2 ^ (32 - m) := by exact_mod_cast h1
  rw [nat_join (32 - m) x y hx' hy']
  omega

/-- The place by which bits.RotateLeft32 turns. -/
theorem turn_at (m : Int) (_h : 0 ≤ m) (_h' : m < 32) : bits .and .u64 (IntKind.u64.wrap (-m)) 31 = (32 - m) % 32 := by
  rw [wrap_u64, u64_and _ _ (by omega) (by omega) (by omega) (by omega)]
  have : (31 : Int).toNat = 31 := rfl
  rw [this, nat_mask5]
  omega

theorem sext_go (a : Int) (k : Nat) (h1 : 1 ≤ k) (h2 : k ≤ 32) (h : 0 ≤ a) :
    wrap64 (wrap32 (a * 2 ^ (32 - k) % 4294967296) / 2 ^ (32 - k)) = sextV a k := by
  have hp := p2 k
  have hq := p2 (32 - k)
  have e := p2_32 k h2
  have e3 : a * 2 ^ (32 - k) % 4294967296 = a % 2 ^ k * 2 ^ (32 - k) := by rw [← e, mul_mod_right a _ _ h (Int.le_of_lt hp) (Int.le_of_lt hq)]
  have e4 : (2 : Int) ^ k = 2 ^ (k - 1) * 2 := by rw [← p2s, show k - 1 + 1 = k from by omega]
  have e5 : (2 : Int) ^ k / 2 = 2 ^ (k - 1) := by rw [e4]; omega
  have e6 : (2 : Int) ^ (k - 1) * 2 ^ (32 - k) = 2147483648 := by rw [← p2add, show k - 1 + (32 - k) = 31 from by omega]; decide
  have h3 := Int.emod_nonneg a (by omega : (2 : Int) ^ k ≠ 0)
  have h4 := Int.emod_lt_of_pos a hp
  have h7 : 2 ^ k ≤ (4294967296 : Int) := by
    have : (2 : Int) ^ k * 1 ≤ 2 ^ k * 2 ^ (32 - k) := Int.mul_le_mul_of_nonneg_left (by omega) (by omega)
    omega
  unfold sextV
  rw [e3, e5]
  generalize a % 2 ^ k = x at *
  generalize (2 : Int) ^ (32 - k) = R at *
  by_cases g : 2 ^ (k - 1) ≤ x
  · rw [if_pos g]
    have h5 : 2 ^ (k - 1) * R ≤ x * R := Int.mul_le_mul_of_nonneg_right g (Int.le_of_lt hq)
    have h6 : x * R ≤ (2 ^ k - 1) * R := Int.mul_le_mul_of_nonneg_right (by omega) (Int.le_of_lt hq)
    rw [Int.sub_mul, e] at h6
    have e8 : wrap32 (x * R) = (x - 2 ^ k) * R := by rw [Int.sub_mul, e]; unfold wrap32; omega
    rw [e8, Int.mul_ediv_cancel _ (by omega)]
    unfold wrap64; omega
  · rw [if_neg g]
    have h5 : x * R ≤ (2 ^ (k - 1) - 1) * R := Int.mul_le_mul_of_nonneg_right (by omega) (Int.le_of_lt hq)
    have h6 : 0 ≤ x * R := Int.mul_nonneg h3 (Int.le_of_lt hq)
    rw [Int.sub_mul, e6] at h5
    have e8 : wrap32 (x * R) = x * R := by unfold wrap32; omega
    rw [e8, Int.mul_ediv_cancel _ (by omega)]
    unfold wrap64; omega
theorem p2_bd (k : Nat) (h : k ≤ 32) : (0 : Int) < 2 ^ k ∧ (2 : Int) ^ k ≤ 4294967296 := by
  have e := p2_32 k h
  have hq := p2 (32 - k)
  have : (2 : Int) ^ k * 1 ≤ 2 ^ k * 2 ^ (32 - k) := Int.mul_le_mul_of_nonneg_left (by omega) (Int.le_of_lt (p2 k))
  exact ⟨p2 k, by omega⟩
def sextA (a n : Int) : Int := if n < 1 ∨ 32 < n then 0 else sextV a n.toNat
end Go.Proofs.YtnghhkageiceaaaDoor.Pl
