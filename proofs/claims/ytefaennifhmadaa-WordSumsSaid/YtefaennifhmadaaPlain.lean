/- Plain facts on words of 32 bits: sums, differences, overflow, as the carries and signs tell. No program in sight. -/
import Derived.WalkKit
namespace Go.Proofs.Ytefaennifhmadaa.Pl
open Go Go.RowKit

/-- 1 or 0. -/
def cr (c : Bool) : Int := if c then 1 else 0
/-- A word with its sign. -/
def sg (a : Int) : Int := if a < 2147483648 then a else a - 4294967296
def out32 (s : Int) : Bool := decide (s < -2147483648 ∨ 2147483647 < s)
def addS (a b : Int) (c : Bool) : Int := (a + b + cr c) % 4294967296
def addC (a b : Int) (c : Bool) : Bool := decide (4294967296 ≤ a + b + cr c)
def addV (a b : Int) (c : Bool) : Bool := out32 (sg a + sg b + cr c)
def subS (a b : Int) (c : Bool) : Int := (a - b - cr c) % 4294967296
def subC (a b : Int) (c : Bool) : Bool := decide (a - b - cr c < 0)
def subV (a b : Int) (c : Bool) : Bool := out32 (sg a - sg b - cr c)

theorem cr_bd (c : Bool) : 0 ≤ cr c ∧ cr c ≤ 1 := by cases c <;> simp [cr]
theorem sg_bd (a : Int) (h0 : 0 ≤ a) (h1 : a < 4294967296) : -2147483648 ≤ sg a ∧ sg a ≤ 2147483647 := by
  unfold sg; split <;> omega

theorem tb31 (n : Nat) (h : n < 4294967296) : n.testBit 31 = decide (2147483648 ≤ (n : Int)) := by
  rw [Nat.testBit_eq_decide_div_mod_eq, Bool.eq_iff_iff]
  simp only [decide_eq_true_eq]
  omega

theorem top_nat (n : Nat) (h : n < 4294967296) : ((n / 2147483648 : Nat) : Int) = if n.testBit 31 then 1 else 0 := by
  rw [tb31 n h]
  by_cases g : 2147483648 ≤ (n : Int)
  · rw [decide_eq_true g]; simp only [if_true]; omega
  · rw [decide_eq_false g]; simp only [Bool.false_eq_true, if_false]; omega

theorem and_lt (a b : Nat) (h : b < 4294967296) : a &&& b < 4294967296 := Nat.and_lt_two_pow (n := 32) _ h
theorem or_lt (a b : Nat) (ha : a < 4294967296) (h : b < 4294967296) : a ||| b < 4294967296 := Nat.or_lt_two_pow (n := 32) ha h
theorem xor_lt (a b : Nat) (ha : a < 4294967296) (h : b < 4294967296) : a ^^^ b < 4294967296 := Nat.xor_lt_two_pow (n := 32) ha h

theorem b01 (x : Bool) : ((if x = true then (1 : Int) else 0) == 1) = x := by cases x <;> rfl

theorem core_add (a b s k : Int) (ha : 0 ≤ a) (ha' : a < 4294967296) (hb : 0 ≤ b) (hb' : b < 4294967296) (hk : 0 ≤ k) (hk' : k ≤ 1) (hs : s = (a + b + k) % 4294967296) :
    ((decide (2147483648 ≤ a) ^^ decide (2147483648 ≤ s)) && (decide (2147483648 ≤ b) ^^ decide (2147483648 ≤ s))) = out32 (sg a + sg b + k) := by
  unfold out32 sg
  by_cases g1 : a < 2147483648 <;> by_cases g2 : b < 2147483648 <;> by_cases g3 : s < 2147483648 <;>
    simp only [g1, g2, g3, if_true, if_false, show (2147483648 ≤ a) ↔ ¬ a < 2147483648 from by omega, show (2147483648 ≤ b) ↔ ¬ b < 2147483648 from by omega, show (2147483648 ≤ s) ↔ ¬ s < 2147483648 from by omega] <;>
    simp <;> omega

/-- The overflow of a sum, as the program tells it. -/
theorem over_add (a b : Int) (c : Bool) (ha : 0 ≤ a) (ha' : a < 4294967296) (hb : 0 ≤ b) (hb' : b < 4294967296) :
    (bits .and .u32 (bits .xor .u32 a (addS a b c)) (bits .xor .u32 b (addS a b c)) / 2147483648 == 1) = addV a b c := by
  have hs : 0 ≤ addS a b c ∧ addS a b c < 4294967296 := by unfold addS; omega
  have hc := cr_bd c
  unfold addV
  rw [← core_add a b (addS a b c) (cr c) ha ha' hb hb' hc.1 hc.2 rfl]
  rw [u32_xor _ _ ha ha' hs.1 hs.2, u32_xor _ _ hb hb' hs.1 hs.2]
  generalize addS a b c = s at *
  obtain ⟨s, rfl⟩ := Int.eq_ofNat_of_zero_le hs.1
  obtain ⟨a, rfl⟩ := Int.eq_ofNat_of_zero_le ha
  obtain ⟨b, rfl⟩ := Int.eq_ofNat_of_zero_le hb
  simp only [Int.toNat_natCast]
  have h1 := xor_lt a s (by omega) (by omega)
  have h2 := xor_lt b s (by omega) (by omega)
  rw [u32_and_nat _ _ h1 h2]
  have h3 := and_lt (a ^^^ s) (b ^^^ s) h2
  have e : (((a ^^^ s) &&& (b ^^^ s) : Nat) : Int) / 2147483648 = ((((a ^^^ s) &&& (b ^^^ s)) / 2147483648 : Nat) : Int) := by simp
  rw [e, top_nat _ h3, Nat.testBit_and, Nat.testBit_xor, Nat.testBit_xor, tb31 a (by omega), tb31 b (by omega), tb31 s (by omega)]
  exact b01 _

theorem core_sub (a b s k : Int) (ha : 0 ≤ a) (ha' : a < 4294967296) (hb : 0 ≤ b) (hb' : b < 4294967296) (hk : 0 ≤ k) (hk' : k ≤ 1) (hs : s = (a - b - k) % 4294967296) :
    ((decide (2147483648 ≤ a) ^^ decide (2147483648 ≤ b)) && (decide (2147483648 ≤ a) ^^ decide (2147483648 ≤ s))) = out32 (sg a - sg b - k) := by
  unfold out32 sg
  by_cases g1 : a < 2147483648 <;> by_cases g2 : b < 2147483648 <;> by_cases g3 : s < 2147483648 <;>
    simp only [g1, g2, g3, if_true, if_false, show (2147483648 ≤ a) ↔ ¬ a < 2147483648 from by omega, show (2147483648 ≤ b) ↔ ¬ b < 2147483648 from by omega, show (2147483648 ≤ s) ↔ ¬ s < 2147483648 from by omega] <;>
    simp <;> omega

theorem core_borrow (a b s k : Int) (ha : 0 ≤ a) (ha' : a < 4294967296) (hb : 0 ≤ b) (hb' : b < 4294967296) (hk : 0 ≤ k) (hk' : k ≤ 1) (hs : s = (a - b - k) % 4294967296) :
    (((true ^^ decide (2147483648 ≤ a)) && decide (2147483648 ≤ b)) || ((true ^^ (decide (2147483648 ≤ a) ^^ decide (2147483648 ≤ b))) && decide (2147483648 ≤ s))) = decide (a - b - k < 0) := by
  by_cases g1 : a < 2147483648 <;> by_cases g2 : b < 2147483648 <;> by_cases g3 : s < 2147483648 <;>
    simp only [g1, g2, g3, show (2147483648 ≤ a) ↔ ¬ a < 2147483648 from by omega, show (2147483648 ≤ b) ↔ ¬ b < 2147483648 from by omega, show (2147483648 ≤ s) ↔ ¬ s < 2147483648 from by omega] <;>
    simp <;> omega

/-- The overflow of a difference, as the program tells it. -/
theorem over_sub (a b : Int) (c : Bool) (ha : 0 ≤ a) (ha' : a < 4294967296) (hb : 0 ≤ b) (hb' : b < 4294967296) :
    (bits .and .u32 (bits .xor .u32 a b) (bits .xor .u32 a (subS a b c)) / 2147483648 == 1) = subV a b c := by
  have hs : 0 ≤ subS a b c ∧ subS a b c < 4294967296 := by unfold subS; omega
  have hc := cr_bd c
  unfold subV
  rw [← core_sub a b (subS a b c) (cr c) ha ha' hb hb' hc.1 hc.2 rfl]
  rw [u32_xor _ _ ha ha' hs.1 hs.2, u32_xor _ _ ha ha' hb hb']
  generalize subS a b c = s at *
  obtain ⟨s, rfl⟩ := Int.eq_ofNat_of_zero_le hs.1
  obtain ⟨a, rfl⟩ := Int.eq_ofNat_of_zero_le ha
  obtain ⟨b, rfl⟩ := Int.eq_ofNat_of_zero_le hb
  simp only [Int.toNat_natCast]
  have h1 := xor_lt a s (by omega) (by omega)
  have h2 := xor_lt a b (by omega) (by omega)
  rw [u32_and_nat _ _ h2 h1]
  have h3 := and_lt (a ^^^ b) (a ^^^ s) h1
  have e : (((a ^^^ b) &&& (a ^^^ s) : Nat) : Int) / 2147483648 = ((((a ^^^ b) &&& (a ^^^ s)) / 2147483648 : Nat) : Int) := by simp
  rw [e, top_nat _ h3, Nat.testBit_and, Nat.testBit_xor, Nat.testBit_xor, tb31 a (by omega), tb31 b (by omega), tb31 s (by omega)]
  exact b01 _

theorem max_u32 : IntKind.u32.max = 4294967295 := by decide
/-- The borrow, as math/bits tells it. -/
theorem borrow (a b k : Int) (ha : 0 ≤ a) (ha' : a < 4294967296) (hb : 0 ≤ b) (hb' : b < 4294967296) (hk : 0 ≤ k) (hk' : k ≤ 1) :
    bits .or .u32 (bits .and .u32 (bits .xor .u32 IntKind.u32.max a) b) (bits .and .u32 (bits .xor .u32 IntKind.u32.max (bits .xor .u32 a b)) ((a - b - k) % 4294967296)) / 2147483648
      = cr (decide (a - b - k < 0)) := by
  rw [max_u32, ← core_borrow a b _ k ha ha' hb hb' hk hk' rfl]
  have hs : 0 ≤ (a - b - k) % 4294967296 ∧ (a - b - k) % 4294967296 < 4294967296 := by omega
  generalize (a - b - k) % 4294967296 = s at *
  obtain ⟨s, rfl⟩ := Int.eq_ofNat_of_zero_le hs.1
  obtain ⟨a, rfl⟩ := Int.eq_ofNat_of_zero_le ha
  obtain ⟨b, rfl⟩ := Int.eq_ofNat_of_zero_le hb
  have hm : (4294967295 : Int) = ((4294967295 : Nat) : Int) := rfl
  rw [hm]
  have h1 := xor_lt a b (by omega) (by omega)
  have h2 := xor_lt 4294967295 a (by omega) (by omega)
  have h3 := xor_lt 4294967295 (a ^^^ b) (by omega) h1
  rw [u32_xor_nat a b (by omega) (by omega), u32_xor_nat _ _ (by omega) h1, u32_xor_nat _ _ (by omega) (by omega : a < 4294967296), u32_and_nat _ _ h2 (by omega), u32_and_nat _ _ h3 (by omega)]
  have h4 := and_lt (4294967295 ^^^ a) b (by omega)
  have h5 := and_lt (4294967295 ^^^ (a ^^^ b)) s (by omega)
  rw [u32_or_nat _ _ h4 h5]
  have h6 := or_lt _ _ h4 h5
  have e : ((((4294967295 ^^^ a) &&& b) ||| ((4294967295 ^^^ (a ^^^ b)) &&& s) : Nat) : Int) / 2147483648 = (((((4294967295 ^^^ a) &&& b) ||| ((4294967295 ^^^ (a ^^^ b)) &&& s)) / 2147483648 : Nat) : Int) := by simp
  have ht : (4294967295 : Nat).testBit 31 = true := by decide +kernel
  rw [e, top_nat _ h6, Nat.testBit_or, Nat.testBit_and, Nat.testBit_and, Nat.testBit_xor, Nat.testBit_xor, Nat.testBit_xor, ht, tb31 a (by omega), tb31 b (by omega), tb31 s (by omega)]
  rfl

theorem carry_add (a b : Int) (c : Bool) (ha : 0 ≤ a) (ha' : a < 4294967296) (hb : 0 ≤ b) (hb' : b < 4294967296) : ((a + b + cr c) / 4294967296 == 1) = addC a b c := by
  have hc := cr_bd c
  unfold addC
  rw [Bool.eq_iff_iff, beq_iff_eq, decide_eq_true_eq]
  omega
theorem cr_one (x : Bool) : (cr x == 1) = x := by cases x <;> rfl
theorem addS_bd (a b : Int) (c : Bool) : 0 ≤ addS a b c ∧ addS a b c < 4294967296 := by unfold addS; omega
theorem subS_bd (a b : Int) (c : Bool) : 0 ≤ subS a b c ∧ subS a b c < 4294967296 := by unfold subS; omega
/-- What was added is taken off again, with the same carry. -/
theorem back (a b : Int) (c : Bool) (ha : 0 ≤ a) (ha' : a < 4294967296) (hb : 0 ≤ b) (hb' : b < 4294967296) : subS (addS a b c) b c = a ∧ subC (addS a b c) b c = addC a b c := by
  have hc := cr_bd c
  unfold subS subC addS addC
  refine ⟨by omega, ?_⟩
  rw [Bool.eq_iff_iff, decide_eq_true_eq, decide_eq_true_eq]
  omega
end Go.Proofs.Ytefaennifhmadaa.Pl
