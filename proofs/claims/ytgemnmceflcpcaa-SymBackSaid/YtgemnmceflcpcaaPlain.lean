/- Plain facts on words of 32 bits: sums, differences, overflow, as the carries and signs tell. No program in sight. -/
import Derived.WalkKit
namespace Go.Proofs.Ytgemnmceflcpcaa.Pl
open Go Go.RowKit

/-- 1 or 0. -/
def cr (c : Bool) : Int := if c then 1 else 0
/-- A word with its sign. -/
def sg (a : Int) : Int := if a < 2147483648 then a else a - 4294967296
def out32 (s : Int) : Bool := decide (s < -2147483648 ∨ 2147483647 < s)
def addS (a b : Int) (c : Bool) : Int := (a + b + cr c) % 4294967296
def addC (a b : Int) (c : Bool) : Bool := decide (4294967296 ≤ a + b + cr c)
def addV (a b : Int) (c : Bool) : Bool := out32 (sg a + sg b + cr c)
def subS (a b : Int) (c : Bool) : Int := (a - b - cr c) % 4294967296
def subC (a b : Int) (c : Bool) : Bool := decide (a - b - cr c < 0)
def subV (a b : Int) (c : Bool) : Bool := out32 (sg a - sg b - cr c)

theorem cr_bd (c : Bool) : 0 ≤ cr c ∧ cr c ≤ 1 := by cases c <;> simp [cr]
theorem sg_bd (a : Int) (h0 : 0 ≤ a) (h1 : a < 4294967296) : -2147483648 ≤ sg a ∧ sg a ≤ 2147483647 := by
  unfold sg; split <;> omega

theorem tb31 (n : Nat) (h : n < 4294967296) : n.testBit 31 = decide (2147483648 ≤ (n : Int)) := by
  rw [Nat.testBit_eq_decide_div_mod_eq, Bool.eq_iff_iff]
  simp only [decide_eq_true_eq]
  omega

theorem top_nat (n : Nat) (h : n < 4294967296) : ((n / 2147483648 : Nat) : Int) = if n.testBit 31 then 1 else 0 := by
  rw [tb31 n h]
  by_cases g : 2147483648 ≤ (n : Int)
  · rw [decide_eq_true g]; simp only [if_true]; omega
  · rw [decide_eq_false g]; simp only [Bool.false_eq_true, if_false]; omega

theorem and_lt (a b : Nat) (h : b < 4294967296) : a &&& b < 4294967296 := Nat.and_lt_two_pow (n := 32) _ h
theorem or_lt (a b : Nat) (ha : a < 4294967296) (h : b < 4294967296) : a ||| b < 4294967296 := Nat.or_lt_two_pow (n := 32) ha h
theorem xor_lt (a b : Nat) (ha : a < 4294967296) (h : b < 4294967296) : a ^^^ b < 4294967296 := Nat.xor_lt_two_pow (n := 32) ha h

theorem b01 (x : Bool) : ((if x = true then (1 : Int) else 0) == 1) = x := by cases x <;> rfl

theorem core_add (a b s k : Int) (ha : 0 ≤ a) (ha' : a < 4294967296) (hb : 0 ≤ b) (hb' : b < 4294967296) (hk : 0 ≤ k) (hk' : k ≤ 1) (hs : s = (a + b + k) % 4294967296) :
    ((decide (2147483648 ≤ a) ^^ decide (2147483648 ≤ s)) && (decide (2147483648 ≤ b) ^^ decide (2147483648 ≤ s))) = out32 (sg a + sg b + k) := by
  unfold out32 sg
  by_cases g1 : a < 2147483648 <;> by_cases g2 : b < 2147483648 <;> by_cases g3 : s < 2147483648 <;>
    simp only [g1, g2, g3, if_true, if_false, show (2147483648 ≤ a) ↔ ¬ a < 2147483648 from by omega, show (2147483648 ≤ b) ↔ ¬ b < 2147483648 from by omega, show (2147483648 ≤ s) ↔ ¬ s < 2147483648 from by omega] <;>
    simp <;> omega

/-- The overflow of a sum, as the program tells it. -/
theorem over_add (a b : Int) (c : Bool) (ha : 0 ≤ a) (ha' : a < 4294967296) (hb : 0 ≤ b) (hb' : b < 4294967296) :
    (bits .and .u32 (bits .xor .u32 a (addS a b c)) (bits .xor .u32 b (addS a b c)) / 2147483648 == 1) = addV a b c := by
  have hs : 0 ≤ addS a b c ∧ addS a b c < 4294967296 := by unfold addS; omega
  have hc := cr_bd c
  unfold addV
  rw [← core_add a b (addS a b c) (cr c) ha ha' hb hb' hc.1 hc.2 rfl]
  rw [u32_xor _ _ ha ha' hs.1 hs.2, u32_xor _ _ hb hb' hs.1 hs.2]
  generalize addS a b c = s at *
  obtain ⟨s, rfl⟩ := Int.eq_ofNat_of_zero_le hs.1
  obtain ⟨a, rfl⟩ := Int.eq_ofNat_of_zero_le ha
  obtain ⟨b, rfl⟩ := Int.eq_ofNat_of_zero_le hb
  simp only [Int.toNat_natCast]
  have h1 := xor_lt a s (by omega) (by omega)
  have h2 := xor_lt b s (by omega) (by omega)
  rw [u32_and_nat _ _ h1 h2]
  have h3 := and_lt (a ^^^ s) (b ^^^ s) h2
  have e : (((a ^^^ s) &&& (b ^^^ s) : Nat) : Int) / 2147483648 = ((((a ^^^ s) &&& (b ^^^ s)) / 2147483648 : Nat) : Int) := by simp
  rw [e, top_nat _ h3, Nat.testBit_and, Nat.testBit_xor, Nat.testBit_xor, tb31 a (by omega), tb31 b (by omega), tb31 s (by omega)]
  exact b01 _

theorem core_sub (a b s k : Int) (ha : 0 ≤ a) (ha' : a < 4294967296) (hb : 0 ≤ b) (hb' : b < 4294967296) (hk : 0 ≤ k) (hk' : k ≤ 1) (hs : s = (a - b - k) % 4294967296) :
    ((decide (2147483648 ≤ a) ^^ decide (2147483648 ≤ b)) && (decide (2147483648 ≤ a) ^^ decide (2147483648 ≤ s))) = out32 (sg a - sg b - k) := by
  unfold out32 sg
  by_cases g1 : a < 2147483648 <;> by_cases g2 : b < 2147483648 <;> by_cases g3 : s < 2147483648 <;>
    simp only [g1, g2, g3, if_true, if_false, show (2147483648 ≤ a) ↔ ¬ a < 2147483648 from by omega, show (2147483648 ≤ b) ↔ ¬ b < 2147483648 from by omega, show (2147483648 ≤ s) ↔ ¬ s < 2147483648 from by omega] <;>
    simp <;> omega

theorem core_borrow (a b s k : Int) (ha : 0 ≤ a) (ha' : a < 4294967296) (hb : 0 ≤ b) (hb' : b < 4294967296) (hk : 0 ≤ k) (hk' : k ≤ 1) (hs : s = (a - b - k) % 4294967296) :
    (((true ^^ decide (2147483648 ≤ a)) && decide (2147483648 ≤ b)) || ((true ^^ (decide (2147483648 ≤ a) ^^ decide (2147483648 ≤ b))) && decide (2147483648 ≤ s))) = decide (a - b - k < 0) := by
  by_cases g1 : a < 2147483648 <;> by_cases g2 : b < 2147483648 <;> by_cases g3 : s < 2147483648 <;>
    simp only [g1, g2, g3, show (2147483648 ≤ a) ↔ ¬ a < 2147483648 from by omega, show (2147483648 ≤ b) ↔ ¬ b < 2147483648 from by omega, show (2147483648 ≤ s) ↔ ¬ s < 2147483648 from by omega] <;>
    simp <;> omega

/-- The overflow of a difference, as the program tells it. -/
theorem over_sub (a b : Int) (c : Bool) (ha : 0 ≤ a) (ha' : a < 4294967296) (hb : 0 ≤ b) (hb' : b < 4294967296) :
    (bits .and .u32 (bits .xor .u32 a b) (bits .xor .u32 a (subS a b c)) / 2147483648 == 1) = subV a b c := by
  have hs : 0 ≤ subS a b c ∧ subS a b c < 4294967296 := by unfold subS; omega
  have hc := cr_bd c
  unfold subV
  rw [← core_sub a b (subS a b c) (cr c) ha ha' hb hb' hc.1 hc.2 rfl]
  rw [u32_xor _ _ ha ha' hs.1 hs.2, u32_xor _ _ ha ha' hb hb']
  generalize subS a b c = s at *
  obtain ⟨s, rfl⟩ := Int.eq_ofNat_of_zero_le hs.1
  obtain ⟨a, rfl⟩ := Int.eq_ofNat_of_zero_le ha
  obtain ⟨b, rfl⟩ := Int.eq_ofNat_of_zero_le hb
  simp only [Int.toNat_natCast]
  have h1 := xor_lt a s (by omega) (by omega)
  have h2 := xor_lt a b (by omega) (by omega)
  rw [u32_and_nat _ _ h2 h1]
  have h3 := and_lt (a ^^^ b) (a ^^^ s) h1
  have e : (((a ^^^ b) &&& (a ^^^ s) : Nat) : Int) / 2147483648 = ((((a ^^^ b) &&& (a ^^^ s)) / 2147483648 : Nat) : Int) := by simp
  rw [e, top_nat _ h3, Nat.testBit_and, Nat.testBit_xor, Nat.testBit_xor, tb31 a (by omega), tb31 b (by omega), tb31 s (by omega)]
  exact b01 _

theorem max_u32 : IntKind.u32.max = 4294967295 := by decide
/-- The borrow, as math/bits tells it. -/
theorem borrow (a b k : Int) (ha : 0 ≤ a) (ha' : a < 4294967296) (hb : 0 ≤ b) (hb' : b < 4294967296) (hk : 0 ≤ k) (hk' : k ≤ 1) :
    bits .or .u32 (bits .and .u32 (bits .xor .u32 IntKind.u32.max a) b) (bits .and .u32 (bits .xor .u32 IntKind.u32.max (bits .xor .u32 a b)) ((a - b - k) % 4294967296)) / 2147483648
      = cr (decide (a - b - k < 0)) := by
  rw [max_u32, ← core_borrow a b _ k ha ha' hb hb' hk hk' rfl]
  have hs : 0 ≤ (a - b - k) % 4294967296 ∧ (a - b - k) % 4294967296 < 4294967296 := by omega
  generalize (a - b - k) % 4294967296 = s at *
  obtain ⟨s, rfl⟩ := Int.eq_ofNat_of_zero_le hs.1
  obtain ⟨a, rfl⟩ := Int.eq_ofNat_of_zero_le ha
  obtain ⟨b, rfl⟩ := Int.eq_ofNat_of_zero_le hb
  have hm : (4294967295 : Int) = ((4294967295 : Nat) : Int) := rfl
  rw [hm]
  have h1 := xor_lt a b (by omega) (by omega)
  have h2 := xor_lt 4294967295 a (by omega) (by omega)
  have h3 := xor_lt 4294967295 (a ^^^ b) (by omega) h1
  rw [u32_xor_nat a b (by omega) (by omega), u32_xor_nat _ _ (by omega) h1, u32_xor_nat _ _ (by omega) (by omega : a < 4294967296), u32_and_nat _ _ h2 (by omega), u32_and_nat _ _ h3 (by omega)]
  have h4 := and_lt (4294967295 ^^^ a) b (by omega)
  have h5 := and_lt (4294967295 ^^^ (a ^^^ b)) s (by omega)
  rw [u32_or_nat _ _ h4 h5]
  have h6 := or_lt _ _ h4 h5
  have e : ((((4294967295 ^^^ a) &&& b) ||| ((4294967295 ^^^ (a ^^^ b)) &&& s) : Nat) : Int) / 2147483648 = (((((4294967295 ^^^ a) &&& b) ||| ((4294967295 ^^^ (a ^^^ b)) &&& s)) / 2147483648 : Nat) : Int) := by simp
  have ht : (4294967295 : Nat).testBit 31 = true := by decide +kernel
  rw [e, top_nat _ h6, Nat.testBit_or, Nat.testBit_and, Nat.testBit_and, Nat.testBit_xor, Nat.testBit_xor, Nat.testBit_xor, ht, tb31 a (by omega), tb31 b (by omega), tb31 s (by omega)]
  rfl

theorem carry_add (a b : Int) (c : Bool) (ha : 0 ≤ a) (ha' : a < 4294967296) (hb : 0 ≤ b) (hb' : b < 4294967296) : ((a + b + cr c) / 4294967296 == 1) = addC a b c := by
  have hc := cr_bd c
  unfold addC
  rw [Bool.eq_iff_iff, beq_iff_eq, decide_eq_true_eq]
  omega
theorem cr_one (x : Bool) : (cr x == 1) = x := by cases x <;> rfl
theorem addS_bd (a b : Int) (c : Bool) : 0 ≤ addS a b c ∧ addS a b c < 4294967296 := by unfold addS; omega
theorem subS_bd (a b : Int) (c : Bool) : 0 ≤ subS a b c ∧ subS a b c < 4294967296 := by unfold subS; omega
/-- What was added is taken off again, with the same carry. -/
theorem back (a b : Int) (c : Bool) (ha : 0 ≤ a) (ha' : a < 4294967296) (hb : 0 ≤ b) (hb' : b < 4294967296) : subS (addS a b c) b c = a ∧ subC (addS a b c) b c = addC a b c := by
  have hc := cr_bd c
  unfold subS subC addS addC
  refine ⟨by omega, ?_⟩
  rw [Bool.eq_iff_iff, decide_eq_true_eq, decide_eq_true_eq]
  omega

/-! Products and quotients. -/
def mulP (a b : Int) (u : Bool) : Int := if u then a * b else sg a * sg b
def mulL (a b : Int) (u : Bool) : Int := mulP a b u % 4294967296
def mulH (a b : Int) (u : Bool) : Int := mulP a b u / 4294967296 % 4294967296
theorem wrap32_bd (a : Int) : -2147483648 ≤ wrap32 a ∧ wrap32 a ≤ 2147483647 := by unfold wrap32; omega
theorem wrap32_sg (a : Int) (ha : 0 ≤ a) (ha' : a < 4294967296) : wrap32 a = sg a := by unfold wrap32 sg; split <;> omega
theorem mul_bd (x y : Int) (hx : -2147483648 ≤ x ∧ x ≤ 2147483647) (hy : -2147483648 ≤ y ∧ y ≤ 2147483647) : -4611686018427387904 ≤ x * y ∧ x * y ≤ 4611686018427387904 := by
  have hn : x.natAbs * y.natAbs ≤ 2147483648 * 2147483648 := Nat.mul_le_mul (by omega) (by omega)
  rw [← Int.natAbs_mul] at hn
  omega
theorem sprod_bound (a b : Int) : -4611686018427387904 ≤ wrap32 a * wrap32 b ∧ wrap32 a * wrap32 b ≤ 4611686018427387904 := mul_bd _ _ (wrap32_bd a) (wrap32_bd b)
theorem wrap_u64 (n : Int) : IntKind.u64.wrap n = n % 18446744073709551616 := by simp [IntKind.wrap, IntKind.bits, IntKind.signed]
theorem mulL_u (a b : Int) : a * b % 4294967296 = mulL a b true := by unfold mulL mulP; rw [if_pos rfl]
theorem mulH_u (a b : Int) (h : 0 ≤ a * b ∧ a * b ≤ 18446744065119617025) : a * b / 4294967296 = mulH a b true := by unfold mulH mulP; rw [if_pos rfl]; omega
theorem mulL_s (a b x y : Int) (hx : x = sg a) (hy : y = sg b) : IntKind.u64.wrap (x * y) % 4294967296 = mulL a b false := by
  subst hx hy; rw [wrap_u64]; unfold mulL mulP; rw [if_neg (by decide)]; omega
theorem mulH_s (a b x y : Int) (hx : x = sg a) (hy : y = sg b) : IntKind.u64.wrap (x * y) / 4294967296 % 4294967296 = mulH a b false := by
  subst hx hy; rw [wrap_u64]; unfold mulH mulP; rw [if_neg (by decide)]; omega
theorem mulL_t (a b : Int) : (IntKind.u64.wrap (sg a * sg b)).tmod 4294967296 % 4294967296 = mulL a b false := by
  rw [wrap_u64, Int.tmod_eq_emod_of_nonneg (by omega)]; unfold mulL mulP; rw [if_neg (by decide)]; omega
theorem tup2 {k l : IntKind} {a b c d : Int} (h : a = c) (g : b = d) : Ending.returned (.tuple #[.int k a, .int l b]) = Ending.returned (.tuple #[.int k c, .int l d]) := by rw [h, g]
theorem tup3 {k l : IntKind} {a b c d : Int} {x y : Bool} (h : a = c) (g : b = d) (e : x = y) : Ending.returned (.tuple #[.int k a, .int l b, .bool x]) = Ending.returned (.tuple #[.int k c, .int l d, .bool y]) := by rw [h, g, e]
theorem one1 {k : IntKind} {a c : Int} (h : a = c) : Ending.returned (.int k a) = Ending.returned (.int k c) := by rw [h]
theorem mulL_bd (a b : Int) (u : Bool) : 0 ≤ mulL a b u ∧ mulL a b u < 4294967296 := by unfold mulL; omega
theorem mulH_bd (a b : Int) (u : Bool) : 0 ≤ mulH a b u ∧ mulH a b u < 4294967296 := by unfold mulH; omega
/-- The quotient, downwards, and the rest: as words. -/
def divQ (a b : Int) : Int := if sg b ≤ 0 then 0 else sg a / sg b % 4294967296
def divR (a b : Int) : Int := if sg b ≤ 0 then 0 else sg a % sg b
def divOk (b : Int) : Bool := !decide (sg b ≤ 0)
/-- Go's own quotient, put down where the rest is negative. -/
theorem tdiv_down (x y : Int) (hy : 0 < y) : (x.tmod y < 0 → x.tdiv y - 1 = x / y ∧ x.tmod y + y = x % y) ∧ (0 ≤ x.tmod y → x.tdiv y = x / y ∧ x.tmod y = x % y) := by
  have h1 := Int.mul_tdiv_add_tmod x y   -- y * q + r = x
  have h2 := Int.mul_ediv_add_emod x y
  have h3 := Int.emod_nonneg x (by omega : y ≠ 0)
  have h4 := Int.emod_lt_of_pos x hy
  have h5 := Int.tmod_lt_of_pos x hy
  have h6 : -y < x.tmod y := by
    have := Int.tmod_lt_of_pos (-x) hy
    rw [Int.neg_tmod] at this; omega
  have key : ∀ q r : Int, y * q + r = x → 0 ≤ r → r < y → q = x / y ∧ r = x % y := by
    intro q r h hr hr'
    have e1 : x / y = q := by rw [← h, Int.add_comm, Int.add_mul_ediv_left _ _ (by omega), Int.ediv_eq_zero_of_lt hr hr']; omega
    exact ⟨e1.symm, by rw [e1] at h2; omega⟩
  refine ⟨fun hn => ?_, fun hp => key _ _ h1 hp h5⟩
  exact key _ _ (by rw [Int.mul_sub]; omega) (by omega) (by omega)
theorem divQ_neg (a b x y : Int) (hx : x = sg a) (hy : y = sg b) (h : 0 < y) (hr : x.tmod y < 0) : wrap32 (wrap32 (x.tdiv y) - 1) % 4294967296 = divQ a b := by
  have := ((tdiv_down x y h).1 hr).1
  subst hx hy
  unfold divQ; rw [if_neg (by omega), ← this]; unfold wrap32; omega
theorem divR_neg (a b x y : Int) (hx : x = sg a) (hy : y = sg b) (h : 0 < y) (h' : y ≤ 2147483647) (hr : x.tmod y < 0) : wrap32 (x.tmod y + y) % 4294967296 = divR a b := by
  have := ((tdiv_down x y h).1 hr).2
  have h3 := Int.emod_nonneg x (by omega : y ≠ 0)
  have h4 := Int.emod_lt_of_pos x h
  subst hx hy
  unfold divR; rw [if_neg (by omega), this]; unfold wrap32; omega
theorem divQ_pos (a b x y : Int) (hx : x = sg a) (hy : y = sg b) (h : 0 < y) (hr : 0 ≤ x.tmod y) : wrap32 (x.tdiv y) % 4294967296 = divQ a b := by
  have := ((tdiv_down x y h).2 hr).1
  subst hx hy
  unfold divQ; rw [if_neg (by omega), ← this]; unfold wrap32; omega
theorem divR_pos (a b x y : Int) (hx : x = sg a) (hy : y = sg b) (h : 0 < y) (h' : y ≤ 2147483647) (hr : 0 ≤ x.tmod y) : x.tmod y % 4294967296 = divR a b := by
  have := ((tdiv_down x y h).2 hr).2
  have h3 := Int.emod_nonneg x (by omega : y ≠ 0)
  have h4 := Int.emod_lt_of_pos x h
  subst hx hy
  unfold divR; rw [if_neg (by omega), this]; omega
theorem divOk_yes (b y : Int) (hy : y = sg b) (h : 0 < y) : true = divOk b := by
  subst hy; unfold divOk; rw [decide_eq_false (by omega)]; rfl
/-- The document's test: does the quotient times the divisor pass the number? -/
theorem over_q (x y : Int) : x < x.tdiv y * y ↔ x.tmod y < 0 := by
  have h1 := Int.mul_tdiv_add_tmod x y
  rw [Int.mul_comm] at h1; omega
theorem tdiv_bd (x y : Int) (hx : -2147483648 ≤ x ∧ x ≤ 2147483647) (h : 0 < y) : -2147483648 ≤ x.tdiv y ∧ x.tdiv y ≤ 2147483647 := by
  have h1 : (x.tdiv y).natAbs ≤ x.natAbs := by rw [Int.natAbs_tdiv]; exact Nat.div_le_self _ _
  rcases Int.le_total 0 x with h2 | h2
  · have := Int.tdiv_nonneg h2 (Int.le_of_lt h); omega
  · have h3 : 0 ≤ (-x).tdiv y := Int.tdiv_nonneg (by omega) (Int.le_of_lt h)
    rw [Int.neg_tdiv] at h3; omega
theorem tdivmul_bd (x y : Int) (hx : -2147483648 ≤ x ∧ x ≤ 2147483647) (h : 0 < y) (h' : y ≤ 2147483647) : -4294967296 ≤ x.tdiv y * y ∧ x.tdiv y * y ≤ 4294967296 := by
  have h1 := Int.mul_tdiv_add_tmod x y
  have h5 := Int.tmod_lt_of_pos x h
  have h6 : -y < x.tmod y := by
    have := Int.tmod_lt_of_pos (-x) h
    rw [Int.neg_tmod] at this; omega
  rw [Int.mul_comm] at h1; omega
theorem tdivmul_near (x y : Int) (h : 0 < y) : x - y ≤ x.tdiv y * y ∧ x.tdiv y * y ≤ x + y ∧ (x.tdiv y - 1) * y = x.tdiv y * y - y := by
  have h1 := Int.mul_tdiv_add_tmod x y
  have h5 := Int.tmod_lt_of_pos x h
  have h6 : -y < x.tmod y := by
    have := Int.tmod_lt_of_pos (-x) h
    rw [Int.neg_tmod] at this; omega
  rw [Int.mul_comm] at h1
  refine ⟨by omega, by omega, by rw [Int.sub_mul]; omega⟩
theorem rdivQ_neg (a b : Int) (h : 0 < sg b) (hr : sg a < (sg a).tdiv (sg b) * sg b) : (IntKind.u64.wrap ((sg a).tdiv (sg b) - 1)).tmod 4294967296 % 4294967296 = divQ a b := by
  rw [← divQ_neg a b _ _ rfl rfl h ((over_q _ _).1 hr), wrap_u64, Int.tmod_eq_emod_of_nonneg (by omega)]; unfold wrap32; omega
theorem rdivQ_pos (a b : Int) (h : 0 < sg b) (hr : (sg a).tdiv (sg b) * sg b ≤ sg a) : (IntKind.u64.wrap ((sg a).tdiv (sg b))).tmod 4294967296 % 4294967296 = divQ a b := by
  have hq : ¬ (sg a).tmod (sg b) < 0 := fun h => by have := (over_q (sg a) (sg b)).2 h; omega
  rw [← divQ_pos a b _ _ rfl rfl h (by omega), wrap_u64, Int.tmod_eq_emod_of_nonneg (by omega)]; unfold wrap32; omega
theorem rdivR_neg (a b : Int) (h : 0 < sg b) (hr : sg a < (sg a).tdiv (sg b) * sg b) : sg a - ((sg a).tdiv (sg b) * sg b - sg b) = divR a b := by
  have h1 := Int.mul_tdiv_add_tmod (sg a) (sg b)
  have := ((tdiv_down (sg a) (sg b) h).1 ((over_q _ _).1 hr)).2
  rw [Int.mul_comm] at h1
  unfold divR; rw [if_neg (by omega), ← this]; omega
theorem rdivR_pos (a b : Int) (h : 0 < sg b) (hr : (sg a).tdiv (sg b) * sg b ≤ sg a) : sg a - (sg a).tdiv (sg b) * sg b = divR a b := by
  have h1 := Int.mul_tdiv_add_tmod (sg a) (sg b)
  have hq : ¬ (sg a).tmod (sg b) < 0 := fun h => by have := (over_q (sg a) (sg b)).2 h; omega
  have := ((tdiv_down (sg a) (sg b) h).2 (by omega)).2
  rw [Int.mul_comm] at h1
  unfold divR; rw [if_neg (by omega), ← this]; omega
end Go.Proofs.Ytgemnmceflcpcaa.Pl
