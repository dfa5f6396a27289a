/- Plain facts on words of 32 bits: sums, differences, overflow, as the carries and signs tell. No program in sight. -/
import Derived.WalkKit
import Derived.ProofKit
import Derived.OpenShut
import Derived.Laws.CopyOwn
import Derived.Test.YtgemnmceflcpcaaSyV
import Derived.Laws.BytesArg
namespace Go.Proofs.Ytgemnmceflcpcaa.Pl
open Go Go.RowKit

/-- 1 or 0. -/
def cr (c : Bool) : Int := if c then 1 else 0
/-- A word with its sign. -/
def sg (a : Int) : Int := if a < 2147483648 then a else a - 4294967296
def out32 (s : Int) : Bool := decide (s < -2147483648 ∨ 2147483647 < s)
def addS (a b : Int) (c : Bool) : Int := (a + b + cr c) % 4294967296
def addC (a b : Int) (c : Bool) : Bool := decide (4294967296 ≤ a + b + cr c)
def addV (a b : Int) (c : Bool) : Bool := out32 (sg a + sg b + cr c)
def subS (a b : Int) (c : Bool) : Int := (a - b - cr c) % 4294967296
def subC (a b : Int) (c : Bool) : Bool := decide (a - b - cr c < 0)
def subV (a b : Int) (c : Bool) : Bool := out32 (sg a - sg b - cr c)

theorem cr_bd (c : Bool) : 0 ≤ cr c ∧ cr c ≤ 1 := by cases c <;> simp [cr]
theorem sg_bd (a : Int) (h0 : 0 ≤ a) (h1 : a < 4294967296) : -2147483648 ≤ sg a ∧ sg a ≤ 2147483647 := by
  unfold sg; split <;> omega

theorem tb31 (n : Nat) (h : n < 4294967296) : n.testBit 31 = decide (2147483648 ≤ (n : Int)) := by
  rw [Nat.testBit_eq_decide_div_mod_eq, Bool.eq_iff_iff]
  simp only [decide_eq_true_eq]
  omega

theorem top_nat (n : Nat) (h : n < 4294967296) : ((n / 2147483648 : Nat) : Int) = if n.testBit 31 then 1 else 0 := by
  rw [tb31 n h]
  by_cases g : 2147483648 ≤ (n : Int)
  · rw [decide_eq_true g]; simp only [if_true]; omega
  · rw [decide_eq_false g]; simp only [Bool.false_eq_true, if_false]; omega

theorem and_lt (a b : Nat) (h : b < 4294967296) : a &&& b < 4294967296 := Nat.and_lt_two_pow (n := 32) _ h
theorem or_lt (a b : Nat) (ha : a < 4294967296) (h : b < 4294967296) : a ||| b < 4294967296 := Nat.or_lt_two_pow (n := 32) ha h
theorem xor_lt (a b : Nat) (ha : a < 4294967296) (h : b < 4294967296) : a ^^^ b < 4294967296 := Nat.xor_lt_two_pow (n := 32) ha h

theorem b01 (x : Bool) : ((if x = true then (1 : Int) else 0) == 1) = x := by cases x <;> rfl

theorem core_add (a b s k : Int) (ha : 0 ≤ a) (ha' : a < 4294967296) (hb : 0 ≤ b) (hb' : b < 4294967296) (hk : 0 ≤ k) (hk' : k ≤ 1) (hs : s = (a + b + k) % 4294967296) :
    ((decide (2147483648 ≤ a) ^^ decide (2147483648 ≤ s)) && (decide (2147483648 ≤ b) ^^ decide (2147483648 ≤ s))) = out32 (sg a + sg b + k) := by
  unfold out32 sg
  by_cases g1 : a < 2147483648 <;> by_cases g2 : b < 2147483648 <;> by_cases g3 : s < 2147483648 <;>
    simp only [g1, g2, g3, if_true, if_false, show (2147483648 ≤ a) ↔ ¬ a < 2147483648 from by omega, show (2147483648 ≤ b) ↔ ¬ b < 2147483648 from by omega, show (2147483648 ≤ s) ↔ ¬ s < 2147483648 from by omega] <;>
    simp <;> omega

/-- The overflow of a sum, as the program tells it. -/
theorem over_add (a b : Int) (c : Bool) (ha : 0 ≤ a) (ha' : a < 4294967296) (hb : 0 ≤ b) (hb' : b < 4294967296) :
    (bits .and .u32 (bits .xor .u32 a (addS a b c)) (bits .xor .u32 b (addS a b c)) / 2147483648 == 1) = addV a b c := by
  have hs : 0 ≤ addS a b c ∧ addS a b c < 4294967296 := by unfold addS; omega
  have hc := cr_bd c
  unfold addV
  rw [← core_add a b (addS a b c) (cr c) ha ha' hb hb' hc.1 hc.2 rfl]
  rw [u32_xor _ _ ha ha' hs.1 hs.2, u32_xor _ _ hb hb' hs.1 hs.2]
  generalize addS a b c = s at *
  obtain ⟨s, rfl⟩ := Int.eq_ofNat_of_zero_le hs.1
  obtain ⟨a, rfl⟩ := Int.eq_ofNat_of_zero_le ha
  obtain ⟨b, rfl⟩ := Int.eq_ofNat_of_zero_le hb
  simp only [Int.toNat_natCast]
  have h1 := xor_lt a s (by omega) (by omega)
  have h2 := xor_lt b s (by omega) (by omega)
  rw [u32_and_nat _ _ h1 h2]
  have h3 := and_lt (a ^^^ s) (b ^^^ s) h2
  have e : (((a ^^^ s) &&& (b ^^^ s) : Nat) : Int) / 2147483648 = ((((a ^^^ s) &&& (b ^^^ s)) / 2147483648 : Nat) : Int) := by simp
  rw [e, top_nat _ h3, Nat.testBit_and, Nat.testBit_xor, Nat.testBit_xor, tb31 a (by omega), tb31 b (by omega), tb31 s (by omega)]
  exact b01 _

theorem core_sub (a b s k : Int) (ha : 0 ≤ a) (ha' : a < 4294967296) (hb : 0 ≤ b) (hb' : b < 4294967296) (hk : 0 ≤ k) (hk' : k ≤ 1) (hs : s = (a - b - k) % 4294967296) :
    ((decide (2147483648 ≤ a) ^^ decide (2147483648 ≤ b)) && (decide (2147483648 ≤ a) ^^ decide (2147483648 ≤ s))) = out32 (sg a - sg b - k) := by
  unfold out32 sg
  by_cases g1 : a < 2147483648 <;> by_cases g2 : b < 2147483648 <;> by_cases g3 : s < 2147483648 <;>
    simp only [g1, g2, g3, if_true, if_false, show (2147483648 ≤ a) ↔ ¬ a < 2147483648 from by omega, show (2147483648 ≤ b) ↔ ¬ b < 2147483648 from by omega, show (2147483648 ≤ s) ↔ ¬ s < 2147483648 from by omega] <;>
    simp <;> omega

theorem core_borrow (a b s k : Int) (ha : 0 ≤ a) (ha' : a < 4294967296) (hb : 0 ≤ b) (hb' : b < 4294967296) (hk : 0 ≤ k) (hk' : k ≤ 1) (hs : s = (a - b - k) % 4294967296) :
    (((true ^^ decide (2147483648 ≤ a)) && decide (2147483648 ≤ b)) || ((true ^^ (decide (2147483648 ≤ a) ^^ decide (2147483648 ≤ b))) && decide (2147483648 ≤ s))) = decide (a - b - k < 0) := by
  by_cases g1 : a < 2147483648 <;> by_cases g2 : b < 2147483648 <;> by_cases g3 : s < 2147483648 <;>
    simp only [g1, g2, g3, show (2147483648 ≤ a) ↔ ¬ a < 2147483648 from by omega, show (2147483648 ≤ b) ↔ ¬ b < 2147483648 from by omega, show (2147483648 ≤ s) ↔ ¬ s < 2147483648 from by omega] <;>
    simp <;> omega

/-- The overflow of a difference, as the program tells it. -/
theorem over_sub (a b : Int) (c : Bool) (ha : 0 ≤ a) (ha' : a < 4294967296) (hb : 0 ≤ b) (hb' : b < 4294967296) :
    (bits .and .u32 (bits .xor .u32 a b) (bits .xor .u32 a (subS a b c)) / 2147483648 == 1) = subV a b c := by
  have hs : 0 ≤ subS a b c ∧ subS a b c < 4294967296 := by unfold subS; omega
  have hc := cr_bd c
  unfold subV
  rw [← core_sub a b (subS a b c) (cr c) ha ha' hb hb' hc.1 hc.2 rfl]
  rw [u32_xor _ _ ha ha' hs.1 hs.2, u32_xor _ _ ha ha' hb hb']
  generalize subS a b c = s at *
  obtain ⟨s, rfl⟩ := Int.eq_ofNat_of_zero_le hs.1
  obtain ⟨a, rfl⟩ := Int.eq_ofNat_of_zero_le ha
  obtain ⟨b, rfl⟩ := Int.eq_ofNat_of_zero_le hb
  simp only [Int.toNat_natCast]
  have h1 := xor_lt a s (by omega) (by omega)
  have h2 := xor_lt a b (by omega) (by omega)
  rw [u32_and_nat _ _ h2 h1]
  have h3 := and_lt (a ^^^ b) (a ^^^ s) h1
  have e : (((a ^^^ b) &&& (a ^^^ s) : Nat) : Int) / 2147483648 = ((((a ^^^ b) &&& (a ^^^ s)) / 2147483648 : Nat) : Int) := by simp
  rw [e, top_nat _ h3, Nat.testBit_and, Nat.testBit_xor, Nat.testBit_xor, tb31 a (by omega), tb31 b (by omega), tb31 s (by omega)]
  exact b01 _

theorem max_u32 : IntKind.u32.max = 4294967295 := by decide
/-- The borrow, as math/bits tells it. -/
theorem borrow (a b k : Int) (ha : 0 ≤ a) (ha' : a < 4294967296) (hb : 0 ≤ b) (hb' : b < 4294967296) (hk : 0 ≤ k) (hk' : k ≤ 1) :
    bits .or .u32 (bits .and .u32 (bits .xor .u32 IntKind.u32.max a) b) (bits .and .u32 (bits .xor .u32 IntKind.u32.max (bits .xor .u32 a b)) ((a - b - k) % 4294967296)) / 2147483648
      = cr (decide (a - b - k < 0)) := by
  rw [max_u32, ← core_borrow a b _ k ha ha' hb hb' hk hk' rfl]
  have hs : 0 ≤ (a - b - k) % 4294967296 ∧ (a - b - k) % 4294967296 < 4294967296 := by omega
  generalize (a - b - k) % 4294967296 = s at *
  obtain ⟨s, rfl⟩ := Int.eq_ofNat_of_zero_le hs.1
  obtain ⟨a, rfl⟩ := Int.eq_ofNat_of_zero_le ha
  obtain ⟨b, rfl⟩ := Int.eq_ofNat_of_zero_le hb
  have hm : (4294967295 : Int) = ((4294967295 : Nat) : Int) := rfl
  rw [hm]
  have h1 := xor_lt a b (by omega) (by omega)
  have h2 := xor_lt 4294967295 a (by omega) (by omega)
  have h3 := xor_lt 4294967295 (a ^^^ b) (by omega) h1
  rw [u32_xor_nat a b (by omega) (by omega), u32_xor_nat _ _ (by omega) h1, u32_xor_nat _ _ (by omega) (by omega : a < 4294967296), u32_and_nat _ _ h2 (by omega), u32_and_nat _ _ h3 (by omega)]
  have h4 := and_lt (4294967295 ^^^ a) b (by omega)
  have h5 := and_lt (4294967295 ^^^ (a ^^^ b)) s (by omega)
  rw [u32_or_nat _ _ h4 h5]
  have h6 := or_lt _ _ h4 h5
  have e : ((((4294967295 ^^^ a) &&& b) ||| ((4294967295 ^^^ (a ^^^ b)) &&& s) : Nat) : Int) / 2147483648 = (((((4294967295 ^^^ a) &&& b) ||| ((4294967295 ^^^ (a ^^^ b)) &&& s)) / 2147483648 : Nat) : Int) := by simp
  have ht : (4294967295 : Nat).testBit 31 = true := by decide +kernel
  rw [e, top_nat _ h6, Nat.testBit_or, Nat.testBit_and, Nat.testBit_and, Nat.testBit_xor, Nat.testBit_xor, Nat.testBit_xor, ht, tb31 a (by omega), tb31 b (by omega), tb31 s (by omega)]
  rfl

theorem carry_add (a b : Int) (c : Bool) (ha : 0 ≤ a) (ha' : a < 4294967296) (hb : 0 ≤ b) (hb' : b < 4294967296) : ((a + b + cr c) / 4294967296 == 1) = addC a b c := by
  have hc := cr_bd c
  unfold addC
  rw [Bool.eq_iff_iff, beq_iff_eq, decide_eq_true_eq]
  omega
theorem cr_one (x : Bool) : (cr x == 1) = x := by cases x <;> rfl
theorem addS_bd (a b : Int) (c : Bool) : 0 ≤ addS a b c ∧ addS a b c < 4294967296 := by unfold addS; omega
theorem subS_bd (a b : Int) (c : Bool) : 0 ≤ subS a b c ∧ subS a b c < 4294967296 := by unfold subS; omega
/-- What was added is taken off again, with the same carry. -/
theorem back (a b : Int) (c : Bool) (ha : 0 ≤ a) (ha' : a < 4294967296) (hb : 0 ≤ b) (hb' : b < 4294967296) : subS (addS a b c) b c = a ∧ subC (addS a b c) b c = addC a b c := by
  have hc := cr_bd c
  unfold subS subC addS addC
  refine ⟨by omega, ?_⟩
  rw [Bool.eq_iff_iff, decide_eq_true_eq, decide_eq_true_eq]
  omega

/-! Products and quotients. -/
def mulP (a b : Int) (u : Bool) : Int := if u then a * b else sg a * sg b
def mulL (a b : Int) (u : Bool) : Int := mulP a b u % 4294967296
def mulH (a b : Int) (u : Bool) : Int := mulP a b u / 4294967296 % 4294967296
theorem wrap32_bd (a : Int) : -2147483648 ≤ wrap32 a ∧ wrap32 a ≤ 2147483647 := by unfold wrap32; omega
theorem wrap32_sg (a : Int) (ha : 0 ≤ a) (ha' : a < 4294967296) : wrap32 a = sg a := by unfold wrap32 sg; split <;> omega
theorem mul_bd (x y : Int) (hx : -2147483648 ≤ x ∧ x ≤ 2147483647) (hy : -2147483648 ≤ y ∧ y ≤ 2147483647) : -4611686018427387904 ≤ x * y ∧ x * y ≤ 4611686018427387904 := by
  have hn : x.natAbs * y.natAbs ≤ 2147483648 * 2147483648 := Nat.mul_le_mul (by omega) (by omega)
  rw [← Int.natAbs_mul] at hn
  omega
theorem sprod_bound (a b : Int) : -4611686018427387904 ≤ wrap32 a * wrap32 b ∧ wrap32 a * wrap32 b ≤ 4611686018427387904 := mul_bd _ _ (wrap32_bd a) (wrap32_bd b)
theorem wrap_u64 (n : Int) : IntKind.u64.wrap n = n % 18446744073709551616 := by simp [IntKind.wrap, IntKind.bits, IntKind.signed]
theorem mulL_u (a b : Int) : a * b % 4294967296 = mulL a b true := by unfold mulL mulP; rw [if_pos rfl]
theorem mulH_u (a b : Int) (h : 0 ≤ a * b ∧ a * b ≤ 18446744065119617025) : a * b / 4294967296 = mulH a b true := by unfold mulH mulP; rw [if_pos rfl]; omega
theorem mulL_s (a b x y : Int) (hx : x = sg a) (hy : y = sg b) : IntKind.u64.wrap (x * y) % 4294967296 = mulL a b false := by
  subst hx hy; rw [wrap_u64]; unfold mulL mulP; rw [if_neg (by decide)]; omega
theorem mulH_s (a b x y : Int) (hx : x = sg a) (hy : y = sg b) : IntKind.u64.wrap (x * y) / 4294967296 % 4294967296 = mulH a b false := by
  subst hx hy; rw [wrap_u64]; unfold mulH mulP; rw [if_neg (by decide)]; omega
theorem mulL_t (a b : Int) : (IntKind.u64.wrap (sg a * sg b)).tmod 4294967296 % 4294967296 = mulL a b false := by
  rw [wrap_u64, Int.tmod_eq_emod_of_nonneg (by omega)]; unfold mulL mulP; rw [if_neg (by decide)]; omega
theorem tup2 {k l : IntKind} {a b c d : Int} (h : a = c) (g : b = d) : Ending.returned (.tuple #[.int k a, .int l b]) = Ending.returned (.tuple #[.int k c, .int l d]) := by rw [h, g]
theorem tup3 {k l : IntKind} {a b c d : Int} {x y : Bool} (h : a = c) (g : b = d) (e : x = y) : Ending.returned (.tuple #[.int k a, .int l b, .bool x]) = Ending.returned (.tuple #[.int k c, .int l d, .bool y]) := by rw [h, g, e]
theorem one1 {k : IntKind} {a c : Int} (h : a = c) : Ending.returned (.int k a) = Ending.returned (.int k c) := by rw [h]
theorem mulL_bd (a b : Int) (u : Bool) : 0 ≤ mulL a b u ∧ mulL a b u < 4294967296 := by unfold mulL; omega
theorem mulH_bd (a b : Int) (u : Bool) : 0 ≤ mulH a b u ∧ mulH a b u < 4294967296 := by unfold mulH; omega
/-- The quotient, downwards, and the rest: as words. -/
def divQ (a b : Int) : Int := if sg b ≤ 0 then 0 else sg a / sg b % 4294967296
def divR (a b : Int) : Int := if sg b ≤ 0 then 0 else sg a % sg b
def divOk (b : Int) : Bool := !decide (sg b ≤ 0)
/-- Go's own quotient, put down where the rest is negative. -/
theorem tdiv_down (x y : Int) (hy : 0 < y) : (x.tmod y < 0 → x.tdiv y - 1 = x / y ∧ x.tmod y + y = x % y) ∧ (0 ≤ x.tmod y → x.tdiv y = x / y ∧ x.tmod y = x % y) := by
  have h1 := Int.mul_tdiv_add_tmod x y   -- y * q + r = x
  have h2 := Int.mul_ediv_add_emod x y
  have h3 := Int.emod_nonneg x (by omega : y ≠ 0)
  have h4 := Int.emod_lt_of_pos x hy
  have h5 := Int.tmod_lt_of_pos x hy
  have h6 : -y < x.tmod y := by
    have := Int.tmod_lt_of_pos (-x) hy
    rw [Int.neg_tmod] at this; omega
  have key : ∀ q r : Int, y * q + r = x → 0 ≤ r → r < y → q = x / y ∧ r = x % y := by
    intro q r h hr hr'
    have e1 : x / y = q := by rw [← h, Int.add_comm, Int.add_mul_ediv_left _ _ (by omega), Int.ediv_eq_zero_of_lt hr hr']; omega
    exact ⟨e1.symm, by rw [e1] at h2; omega⟩
  refine ⟨fun hn => ?_, fun hp => key _ _ h1 hp h5⟩
  exact key _ _ (by rw [Int.mul_sub]; omega) (by omega) (by omega)
theorem divQ_neg (a b x y : Int) (hx : x = sg a) (hy : y = sg b) (h : 0 < y) (hr : x.tmod y < 0) : wrap32 (wrap32 (x.tdiv y) - 1) % 4294967296 = divQ a b := by
  have := ((tdiv_down x y h).1 hr).1
  subst hx hy
  unfold divQ; rw [if_neg (by omega), ← this]; unfold wrap32; omega
theorem divR_neg (a b x y : Int) (hx : x = sg a) (hy : y = sg b) (h : 0 < y) (h' : y ≤ 2147483647) (hr : x.tmod y < 0) : wrap32 (x.tmod y + y) % 4294967296 = divR a b := by
  have := ((tdiv_down x y h).1 hr).2
  have h3 := Int.emod_nonneg x (by omega : y ≠ 0)
  have h4 := Int.emod_lt_of_pos x h
  subst hx hy
  unfold divR; rw [if_neg (by omega), this]; unfold wrap32; omega
theorem divQ_pos (a b x y : Int) (hx : x = sg a) (hy : y = sg b) (h : 0 < y) (hr : 0 ≤ x.tmod y) : wrap32 (x.tdiv y) % 4294967296 = divQ a b := by
  have := ((tdiv_down x y h).2 hr).1
  subst hx hy
  unfold divQ; rw [if_neg (by omega), ← this]; unfold wrap32; omega
theorem divR_pos (a b x y : Int) (hx : x = sg a) (hy : y = sg b) (h : 0 < y) (h' : y ≤ 2147483647) (hr : 0 ≤ x.tmod y) : x.tmod y % 4294967296 = divR a b := by
  have := ((tdiv_down x y h).2 hr).2
  have h3 := Int.emod_nonneg x (by omega : y ≠ 0)
  have h4 := Int.emod_lt_of_pos x h
  subst hx hy
  unfold divR; rw [if_neg (by omega), this]; omega
theorem divOk_yes (b y : Int) (hy : y = sg b) (h : 0 < y) : true = divOk b := by
  subst hy; unfold divOk; rw [decide_eq_false (by omega)]; rfl
/-- The document's test: does the quotient times the divisor pass the number? -/
theorem over_q (x y : Int) : x < x.tdiv y * y ↔ x.tmod y < 0 := by
  have h1 := Int.mul_tdiv_add_tmod x y
  rw [Int.mul_comm] at h1; omega
theorem tdiv_bd (x y : Int) (hx : -2147483648 ≤ x ∧ x ≤ 2147483647) (h : 0 < y) : -2147483648 ≤ x.tdiv y ∧ x.tdiv y ≤ 2147483647 := by
  have h1 : (x.tdiv y).natAbs ≤ x.natAbs := by rw [Int.natAbs_tdiv]; exact Nat.div_le_self _ _
  rcases Int.le_total 0 x with h2 | h2
  · have := Int.tdiv_nonneg h2 (Int.le_of_lt h); omega
  · have h3 : 0 ≤ (-x).tdiv y := Int.tdiv_nonneg (by omega) (Int.le_of_lt h)
    rw [Int.neg_tdiv] at h3; omega
theorem tdivmul_bd (x y : Int) (hx : -2147483648 ≤ x ∧ x ≤ 2147483647) (h : 0 < y) (h' : y ≤ 2147483647) : -4294967296 ≤ x.tdiv y * y ∧ x.tdiv y * y ≤ 4294967296 := by
  have h1 := Int.mul_tdiv_add_tmod x y
  have h5 := Int.tmod_lt_of_pos x h
  have h6 : -y < x.tmod y := by
    have := Int.tmod_lt_of_pos (-x) h
    rw [Int.neg_tmod] at this; omega
  rw [Int.mul_comm] at h1; omega
theorem tdivmul_near (x y : Int) (h : 0 < y) : x - y ≤ x.tdiv y * y ∧ x.tdiv y * y ≤ x + y ∧ (x.tdiv y - 1) * y = x.tdiv y * y - y := by
  have h1 := Int.mul_tdiv_add_tmod x y
  have h5 := Int.tmod_lt_of_pos x h
  have h6 : -y < x.tmod y := by
    have := Int.tmod_lt_of_pos (-x) h
    rw [Int.neg_tmod] at this; omega
  rw [Int.mul_comm] at h1
  refine ⟨by omega, by omega, by rw [Int.sub_mul]; omega⟩
theorem rdivQ_neg (a b : Int) (h : 0 < sg b) (hr : sg a < (sg a).tdiv (sg b) * sg b) : (IntKind.u64.wrap ((sg a).tdiv (sg b) - 1)).tmod 4294967296 % 4294967296 = divQ a b := by
  rw [← divQ_neg a b _ _ rfl rfl h ((over_q _ _).1 hr), wrap_u64, Int.tmod_eq_emod_of_nonneg (by omega)]; unfold wrap32; omega
theorem rdivQ_pos (a b : Int) (h : 0 < sg b) (hr : (sg a).tdiv (sg b) * sg b ≤ sg a) : (IntKind.u64.wrap ((sg a).tdiv (sg b))).tmod 4294967296 % 4294967296 = divQ a b := by
  have hq : ¬ (sg a).tmod (sg b) < 0 := fun h => by have := (over_q (sg a) (sg b)).2 h; omega
  rw [← divQ_pos a b _ _ rfl rfl h (by omega), wrap_u64, Int.tmod_eq_emod_of_nonneg (by omega)]; unfold wrap32; omega
theorem rdivR_neg (a b : Int) (h : 0 < sg b) (hr : sg a < (sg a).tdiv (sg b) * sg b) : sg a - ((sg a).tdiv (sg b) * sg b - sg b) = divR a b := by
  have h1 := Int.mul_tdiv_add_tmod (sg a) (sg b)
  have := ((tdiv_down (sg a) (sg b) h).1 ((over_q _ _).1 hr)).2
  rw [Int.mul_comm] at h1
  unfold divR; rw [if_neg (by omega), ← this]; omega
theorem rdivR_pos (a b : Int) (h : 0 < sg b) (hr : (sg a).tdiv (sg b) * sg b ≤ sg a) : sg a - (sg a).tdiv (sg b) * sg b = divR a b := by
  have h1 := Int.mul_tdiv_add_tmod (sg a) (sg b)
  have hq : ¬ (sg a).tmod (sg b) < 0 := fun h => by have := (over_q (sg a) (sg b)).2 h; omega
  have := ((tdiv_down (sg a) (sg b) h).2 (by omega)).2
  rw [Int.mul_comm] at h1
  unfold divR; rw [if_neg (by omega), ← this]; omega
end Go.Proofs.Ytgemnmceflcpcaa.Pl
namespace Go.Proofs.Ytgemnmceflcpcaa.Pl
open Go Go.RowKit

/-- A slice of integers that reads as f, index by index. -/
def RdI (k : IntKind) (w : World) (A : Option Addr) (n : Nat) (f : Nat → Int) : Prop :=
  0 < n → ∃ b off, A = some ⟨b, off, none⟩ ∧ b < w.heap.size ∧ ∀ i, i < n → w.cell? ⟨b, off + i, none⟩ = some (.int k (f i))

theorem RdI.below {k : IntKind} {w w' : World} {A : Option Addr} {n : Nat} {f : Nat → Int} (h : RdI k w A n f) (hb : Below w.heap.size w w') : RdI k w' A n f := fun hn => by
  obtain ⟨b, off, hA, hlt, hc⟩ := h hn
  exact ⟨b, off, hA, Nat.lt_of_lt_of_le hlt hb.size, fun i hi => (hb.cell (p := ⟨b, off + i, none⟩) hlt).trans (hc i hi)⟩
theorem cell_lt {w : World} {p : Addr} {v : Value} (h : w.cell? p = some v) : p.block < w.heap.size := by
  rcases Nat.lt_or_ge p.block w.heap.size with g | g
  · exact g
  · exfalso
    unfold World.cell? at h
    rw [Array.getElem?_eq_none g] at h
    simp at h
theorem RdI.of_row {k : IntKind} {w : World} {A : Option Addr} {n cap : Nat} {zs : List Int}
    (h : (A = none ∧ n = 0 ∧ cap = 0 ∧ zs = []) ∨ ∃ x, A = some x ∧ n ≤ cap ∧ cap ≤ maxLen ∧ zs.length = cap ∧ (∀ i, i < zs.length → w.cell? (x.add i) = some (.int k (zs.getD i 0))) ∧ ∀ n ∈ zs, (Lit.int k n).wf = true) :
    RdI k w A n (fun i => zs.getD i 0) ∧ n ≤ 9223372036854775807 ∧ ((Lit.int k 0).wf = true → ∀ i, (Lit.int k (zs.getD i 0)).wf = true) := by
  rcases h with ⟨rfl, rfl, rfl, rfl⟩ | ⟨x, rfl, hl, hm, hz, hc, hw⟩
  · exact ⟨fun h => absurd h (by omega), by omega, fun h i => by simpa using h⟩
  · refine ⟨fun hn => ?_, by unfold maxLen at hm; omega, fun h0 i => ?_⟩
    · obtain ⟨b, off, spot⟩ := x
      have h0 := hc 0 (by omega)
      have hs : spot = none := by simpa [Addr.add] using World.cell?_spot h0
      subst hs
      have hlt := cell_lt h0
      refine ⟨b, off, rfl, by simpa [Addr.add] using hlt, fun i hi => ?_⟩
      have := hc i (by omega)
      by_cases hi0 : i = 0
      · subst hi0; simpa [Addr.add] using this
      · simpa [Addr.add, hi0] using this
    · rcases Nat.lt_or_ge i zs.length with g | g
      · rw [List.getD_eq_getElem?_getD, List.getElem?_eq_getElem g]; exact hw _ (List.getElem_mem g)
      · rw [List.getD_eq_getElem?_getD, List.getElem?_eq_none g]; exact h0

def sumK (f : Nat → Int) : Nat → Int
  | 0 => 2166136261
  | k + 1 => bits .xor .u32 (sumK f k) (f k) * 16777619 % 4294967296
theorem sumK_bd (f : Nat → Int) (k : Nat) : 0 ≤ sumK f k ∧ sumK f k < 4294967296 := by
  cases k with
  | zero => unfold sumK; omega
  | succ k => unfold sumK; omega
theorem xor_bd (x y : Int) (hx : 0 ≤ x) (hx' : x < 4294967296) (hy : 0 ≤ y) (hy' : y < 4294967296) : 0 ≤ bits .xor .u32 x y ∧ bits .xor .u32 x y < 4294967296 := by
  rw [u32_xor _ _ hx hx' hy hy']
  have := xor_lt x.toNat y.toNat (by omega) (by omega)
  omega
theorem xor_low (x y : Int) (hx : 0 ≤ x) (hx' : x < 4294967296) (hy : 0 ≤ y) (hy' : y ≤ 255) : x / 256 * 256 + bits .xor .u64 (x % 256) y = bits .xor .u32 x y := by
  rw [u32_xor _ _ hx hx' hy (by omega), u64_xor _ _ (by omega) (by omega) hy (by omega)]
  obtain ⟨x, rfl⟩ := Int.eq_ofNat_of_zero_le hx
  obtain ⟨y, rfl⟩ := Int.eq_ofNat_of_zero_le hy
  have e : ((x : Int) % 256).toNat = x % 256 := by omega
  rw [e]
  simp only [Int.toNat_natCast]
  have h1 : (x ^^^ y) / 2 ^ 8 = x / 2 ^ 8 ^^^ y / 2 ^ 8 := Nat.xor_div_two_pow
  have h2 : (x ^^^ y) % 2 ^ 8 = x % 2 ^ 8 ^^^ y % 2 ^ 8 := Nat.xor_mod_two_pow
  have h3 : y / 2 ^ 8 = 0 := by omega
  have h4 : y % 2 ^ 8 = y := by omega
  rw [h3, Nat.xor_zero] at h1
  rw [h4] at h2
  have h5 : (2 : Nat) ^ 8 = 256 := rfl
  rw [h5] at h1 h2
  rw [← h2]
  omega

theorem or_join (x y : Int) (i : Nat) (hx : 0 ≤ x) (hx' : x < 4294967296) (hxi : x < 2 ^ i) (hy : 0 ≤ y) (hy' : y < 4294967296) (hyi : y % 2 ^ i = 0) : bits .or .u32 x y = x + y := by
  rw [u32_or _ _ hx hx' hy hy']
  obtain ⟨x, rfl⟩ := Int.eq_ofNat_of_zero_le hx
  obtain ⟨y, rfl⟩ := Int.eq_ofNat_of_zero_le hy
  simp only [Int.toNat_natCast]
  have h1 : y % 2 ^ i = 0 := by exact_mod_cast hyi
  have h2 : x < 2 ^ i := by exact_mod_cast hxi
  rw [Nat.or_comm, nat_join i y x h1 h2]
  omega
theorem whole4 (x0 x1 x2 x3 : Int) (h0 : 0 ≤ x0 ∧ x0 ≤ 255) (h1 : 0 ≤ x1 ∧ x1 ≤ 255) (h2 : 0 ≤ x2 ∧ x2 ≤ 255) (h3 : 0 ≤ x3 ∧ x3 ≤ 255) :
    bits .or .u32 (bits .or .u32 (bits .or .u32 (bits .or .u32 0 x0) (x1 * 256)) (x2 * 65536)) (x3 * 16777216) = x0 + x1 * 256 + x2 * 65536 + x3 * 16777216 := by
  rw [or_join 0 x0 0 (by omega) (by omega) (by simp) (by omega) (by omega) (by simp), or_join (0 + x0) (x1 * 256) 8 (by omega) (by omega) (by simp; omega) (by omega) (by omega) (by simp),
    or_join (0 + x0 + x1 * 256) (x2 * 65536) 16 (by omega) (by omega) (by simp; omega) (by omega) (by omega) (by simp),
    or_join (0 + x0 + x1 * 256 + x2 * 65536) (x3 * 16777216) 24 (by omega) (by omega) (by simp; omega) (by omega) (by omega) (by simp)]
  omega
/-- The word at a place of bytes. -/
def getV (f : Nat → Int) (k : Nat) : Int := f k + f (k + 1) * 256 + f (k + 2) * 65536 + f (k + 3) * 16777216
def getOk (n : Nat) (i : Int) : Bool := decide (0 ≤ i) && decide (i + 4 ≤ n)
def getR (n : Nat) (f : Nat → Int) (i : Int) : Int := if getOk n i then getV f i.toNat else 0
theorem getOk_yes {n : Nat} {i : Int} (h : 0 ≤ i) (h' : i + 4 ≤ n) : getOk n i = true := by unfold getOk; simp [h, h']
theorem getOk_no {n : Nat} {i : Int} (h : i < 0 ∨ (n : Int) < i + 4) : getOk n i = false := by
  unfold getOk
  rcases h with h | h
  · rw [decide_eq_false (by omega)]; rfl
  · rw [decide_eq_false (p := i + 4 ≤ n) (by omega), Bool.and_false]
theorem getV_bd (f : Nat → Int) (k : Nat) (hf : ∀ i, 0 ≤ f i ∧ f i ≤ 255) : 0 ≤ getV f k ∧ getV f k < 4294967296 := by
  have h0 := hf k; have h1 := hf (k + 1); have h2 := hf (k + 2); have h3 := hf (k + 3)
  unfold getV; omega

/-! A block of the call's own that reads as L, index by index. -/
def OwnI (k : IntKind) (w : World) (g N : Nat) (t : TypeId) (L : Nat → Int) : Prop :=
  ∃ cs : Array Value, w.heap[g]? = some (.cells cs t (0, 0)) ∧ cs.size = N ∧ ∀ i, i < N → cs[i]? = some (.int k (L i))
theorem OwnI.lt {k : IntKind} {w : World} {g N : Nat} {t : TypeId} {L : Nat → Int} (h : OwnI k w g N t L) : g < w.heap.size := by
  obtain ⟨cs, h1, _⟩ := h
  rcases Nat.lt_or_ge g w.heap.size with hl | hl
  · exact hl
  · rw [Array.getElem?_eq_none hl] at h1; cases h1
theorem OwnI.cell {k : IntKind} {w : World} {g N : Nat} {t : TypeId} {L : Nat → Int} (h : OwnI k w g N t L) {i : Nat} (hi : i < N) : w.cell? ⟨g, i, none⟩ = some (.int k (L i)) := by
  obtain ⟨cs, h1, _, h3⟩ := h
  rw [cell_of_row w g i cs t (0, 0) h1]; exact h3 i hi
theorem OwnI.frozen {k : IntKind} {w : World} {g N : Nat} {t : TypeId} {L : Nat → Int} (h : OwnI k w g N t L) (i : Nat) : w.frozen? ⟨g, i, none⟩ = false := by
  obtain ⟨cs, h1, _, _⟩ := h
  exact frozen_of_row w g i cs t h1
theorem OwnI.rd {k : IntKind} {w : World} {g N : Nat} {t : TypeId} {L : Nat → Int} (h : OwnI k w g N t L) {n : Nat} (hn : n ≤ N) : RdI k w (some ⟨g, 0, none⟩) n L :=
  fun _ => ⟨g, 0, rfl, h.lt, fun i hi => by rw [Nat.zero_add]; exact h.cell (by omega)⟩
theorem OwnI.below {k : IntKind} {w w' : World} {B g N : Nat} {t : TypeId} {L : Nat → Int} (h : OwnI k w g N t L) (hb : Below B w w') (hg : g < B) : OwnI k w' g N t L := by
  obtain ⟨cs, h1, h2, h3⟩ := h
  exact ⟨cs, by rw [hb.block g hg]; exact h1, h2, h3⟩
theorem OwnI.set {k : IntKind} {w : World} {g N : Nat} {t : TypeId} {L : Nat → Int} (h : OwnI k w g N t L) (j : Nat) (x : Int) :
    OwnI k (w.setCell ⟨g, j, none⟩ (.int k x)) g N t (fun i => if i = j then x else L i) := by
  obtain ⟨cs, h1, h2, h3⟩ := h
  refine ⟨cs.setIfInBounds j (.int k x), ?_, by simpa using h2, fun i hi => ?_⟩
  · simp [World.setCell, Array.getElem?_modify, h1]
  · by_cases hij : i = j
    · subst hij; rw [Array.getElem?_setIfInBounds_self_of_lt (by omega)]; simp
    · rw [Array.getElem?_setIfInBounds_ne (fun e => hij e.symm), h3 i hi]; simp [hij]
theorem OwnI.congr {k : IntKind} {w : World} {g N : Nat} {t : TypeId} {L L' : Nat → Int} (h : OwnI k w g N t L) (hl : ∀ i, i < N → L i = L' i) : OwnI k w g N t L' := by
  obtain ⟨cs, h1, h2, h3⟩ := h
  exact ⟨cs, h1, h2, fun i hi => by rw [h3 i hi, hl i hi]⟩
/-- A word's byte. -/
def wbyte (x : Int) : Nat → Int
  | 0 => x % 256
  | 1 => x / 256 % 256
  | 2 => x / 65536 % 256
  | _ => x / 16777216 % 256
theorem wbyte_bd (x : Int) (j : Nat) : 0 ≤ wbyte x j ∧ wbyte x j ≤ 255 := by unfold wbyte; split <;> omega
/-- Four bytes are laid. -/
def put4 (w : World) (g i : Nat) (x : Int) : World :=
  (((w.setCell ⟨g, i, none⟩ (.int .u8 (x % 256))).setCell ⟨g, i + 1, none⟩ (.int .u8 (x / 256 % 256))).setCell ⟨g, i + 2, none⟩ (.int .u8 (x / 65536 % 256))).setCell ⟨g, i + 3, none⟩ (.int .u8 (x / 16777216))
def laid4 (L : Nat → Int) (i : Nat) (x : Int) (j : Nat) : Int := if i ≤ j ∧ j < i + 4 then wbyte x (j - i) else L j
theorem put4_own {w : World} {g N : Nat} {t : TypeId} {L : Nat → Int} (h : OwnI .u8 w g N t L) (i : Nat) (x : Int) (hx : 0 ≤ x) (hx' : x < 4294967296) : OwnI .u8 (put4 w g i x) g N t (laid4 L i x) := by
  refine ((((h.set i (x % 256)).set (i + 1) (x / 256 % 256)).set (i + 2) (x / 65536 % 256)).set (i + 3) (x / 16777216)).congr fun j _ => ?_
  unfold laid4
  by_cases h0 : j = i
  · subst h0; rw [if_neg (by omega), if_neg (by omega), if_neg (by omega), if_pos rfl, if_pos (by omega), Nat.sub_self]; rfl
  · by_cases h1 : j = i + 1
    · subst h1; rw [if_neg (by omega), if_neg (by omega), if_pos rfl, if_pos (by omega), show i + 1 - i = 1 from by omega]; rfl
    · by_cases h2 : j = i + 2
      · subst h2; rw [if_neg (by omega), if_pos rfl, if_pos (by omega), show i + 2 - i = 2 from by omega]; rfl
      · by_cases h3 : j = i + 3
        · subst h3; rw [if_pos rfl, if_pos (by omega), show i + 3 - i = 3 from by omega]; unfold wbyte; simp; omega
        · rw [if_neg h3, if_neg h2, if_neg h1, if_neg h0, if_neg (by omega)]
theorem put4_below {w : World} {B g : Nat} (hB : B ≤ g) (i : Nat) (x : Int) : Below B w (put4 w g i x) :=
  ((((Below.refl B w).setCell (p := ⟨g, i, none⟩) hB _).setCell (p := ⟨g, i + 1, none⟩) hB _).setCell (p := ⟨g, i + 2, none⟩) hB _).setCell (p := ⟨g, i + 3, none⟩) hB _
theorem put4_size (w : World) (g i : Nat) (x : Int) : (put4 w g i x).heap.size = w.heap.size := by simp [put4, World.setCell]

theorem made_u8 (N i : Nat) (hi : i < N) : (madeCells (Value.int .u8 0).cells (N * 1))[i]? = some (.int .u8 0) := by
  have h1 : i < (madeCells (Value.int .u8 0).cells (N * 1)).size := by rw [size_madeCells]; omega
  rw [Array.getElem?_eq_getElem h1]
  simp [madeCells, Value.cells, Nat.mod_one]
theorem made_own {w : World} {base g N : Nat} {e : TypeId} {xs : List Value} (h : w.ownsRow base e 1 (.slice (some ⟨g, 0, none⟩) N N) N xs) : w.heap[g]? = some (.cells xs.toArray e (0, 0)) := by
  obtain ⟨hl, hh⟩ := h
  rcases hh with ⟨h1, _⟩ | ⟨g', cap, cur, h1, _, h2, _, _, h5, h6⟩
  · cases h1
  · injection h1 with h1 h7 h8
    injection h1 with h1
    injection h1 with h1
    subst h1 h8
    rw [h2]
    have : cur.toList = xs := by
      rw [← h6, List.take_of_length_le]
      simp; omega
    rw [← this]
/-- Bytes, and as many noughts behind them. -/
def padded (f : Nat → Int) (n : Nat) (i : Nat) : Int := if i < n then f i else 0
theorem splice_padded {w : World} {g n m : Nat} {t : TypeId} {cur : List Value} {f : Nat → Int} (h : w.heap[g]? = some (.cells (splice cur 0 ((List.range n).map fun i => Value.int .u8 (f i))).toArray t (0, 0)))
    (hl : cur.length = n + m) (hz : ∀ i, i < n + m → cur[i]? = some (.int .u8 0)) : OwnI .u8 w g (n + m) t (padded f n) := by
  refine ⟨_, h, ?_, fun i hi => ?_⟩
  · rw [List.size_toArray, length_splice _ _ _ (by simp; omega)]; exact hl
  · rw [List.getElem?_toArray]
    unfold splice padded
    simp only [List.take_zero, List.nil_append, List.length_map, List.length_range, Nat.zero_add]
    by_cases hin : i < n
    · rw [if_pos hin, List.getElem?_append_left (by simpa using hin)]
      simp [hin]
    · rw [if_neg hin, List.getElem?_append_right (by simp; omega)]
      simp only [List.length_map, List.length_range, List.getElem?_drop]
      rw [show n + (i - n) = i from by omega]
      exact hz i hi

/-! Digits. -/
def isDig (c : UInt8) : Bool := decide (48 ≤ (c.toNat : Int) ∧ (c.toNat : Int) ≤ 57) || decide (65 ≤ (c.toNat : Int) ∧ (c.toNat : Int) ≤ 70)
def digV (c : UInt8) : Int := if (c.toNat : Int) ≤ 57 then (c.toNat : Int) - 48 else (c.toNat : Int) - 55
def valL (l : List UInt8) : Int := l.foldl (fun v c => v * 16 + digV c) 0
def goodS (s : ByteArray) : Bool := decide (1 ≤ s.size) && decide (s.size ≤ 8) && s.data.toList.all isDig
def unV (s : ByteArray) : Int := if goodS s then valL s.data.toList else 0
def unE (s : ByteArray) : Int := if goodS s then 0 else 10
theorem take_snoc (s : ByteArray) (k : Nat) (h : k < s.size) : s.data.toList.take (k + 1) = s.data.toList.take k ++ [s[k]] := by
  rw [List.take_succ_eq_append_getElem (by simpa using h)]; rfl
theorem valL_snoc (l : List UInt8) (c : UInt8) : valL (l ++ [c]) = valL l * 16 + digV c := by simp [valL, List.foldl_append]
theorem digV_bd {c : UInt8} (h : isDig c = true) : 0 ≤ digV c ∧ digV c ≤ 15 := by
  unfold isDig at h; unfold digV
  simp only [Bool.or_eq_true, decide_eq_true_eq] at h
  split <;> omega
theorem foldl_bd : ∀ (l : List UInt8) (v : Int), 0 ≤ v → l.all isDig = true → 0 ≤ l.foldl (fun v c => v * 16 + digV c) v ∧ l.foldl (fun v c => v * 16 + digV c) v < (v + 1) * 16 ^ l.length
  | [], v, h, _ => by simp; omega
  | c :: l, v, h, ha => by
    simp only [List.all_cons, Bool.and_eq_true] at ha
    have hd := digV_bd ha.1
    have ih := foldl_bd l (v * 16 + digV c) (by omega) ha.2
    rw [List.foldl_cons, List.length_cons, Int.pow_succ]
    refine ⟨ih.1, Int.lt_of_lt_of_le ih.2 ?_⟩
    have hp : (0 : Int) ≤ 16 ^ l.length := Int.le_of_lt (Int.pow_pos (by decide))
    have : (v * 16 + digV c + 1) * 16 ^ l.length ≤ ((v + 1) * 16) * 16 ^ l.length := Int.mul_le_mul_of_nonneg_right (by omega) hp
    rw [Int.mul_assoc, Int.mul_comm 16 (16 ^ l.length)] at this
    exact this
theorem valL_bd {l : List UInt8} (ha : l.all isDig = true) (hl : l.length ≤ 8) : 0 ≤ valL l ∧ valL l < 4294967296 := by
  have h := foldl_bd l 0 (by omega) ha
  refine ⟨h.1, Int.lt_of_lt_of_le h.2 ?_⟩
  rw [Int.zero_add, Int.one_mul]
  have h8 : l.length = 0 ∨ l.length = 1 ∨ l.length = 2 ∨ l.length = 3 ∨ l.length = 4 ∨ l.length = 5 ∨ l.length = 6 ∨ l.length = 7 ∨ l.length = 8 := by omega
  rcases h8 with e | e | e | e | e | e | e | e | e <;> rw [e] <;> decide
theorem un_step (v d : Int) (hd : 0 ≤ d) (hd' : d ≤ 15) : bits .or .u32 (v % 4294967296 * 16 % 4294967296) d = (v * 16 + d) % 4294967296 := by
  have h := or_join d (v % 4294967296 * 16 % 4294967296) 4 hd (by omega) (by simp; omega) (by omega) (by omega) (by simp)
  rw [u32_or _ _ (by omega) (by omega) hd (by omega), Nat.or_comm, ← u32_or _ _ hd (by omega) (by omega) (by omega), h]
  omega
theorem bad_at {s : ByteArray} {k : Nat} (hk : k < s.size) (h : isDig s[k] = false) : goodS s = false := by
  unfold goodS
  have : s.data.toList.all isDig = false := by
    rw [List.all_eq_false]
    exact ⟨s[k], by have := List.getElem_mem (l := s.data.toList) (n := k) (by simpa using hk); exact this, by simp [h]⟩
  rw [this, Bool.and_false]
theorem notDig {c : UInt8} (h1 : ¬ (48 ≤ (c.toNat : Int) ∧ (c.toNat : Int) ≤ 57)) (h2 : ¬ (65 ≤ (c.toNat : Int) ∧ (c.toNat : Int) ≤ 70)) : isDig c = false := by
  unfold isDig; rw [decide_eq_false h1, decide_eq_false h2]; rfl
theorem un_bad {s : ByteArray} (h : goodS s = false) : unV s = 0 ∧ unE s = 10 := by unfold unV unE; rw [h]; exact ⟨rfl, rfl⟩
theorem bad_len {s : ByteArray} (h : s.size = 0 ∨ 8 < s.size) : goodS s = false := by
  unfold goodS
  rcases h with h | h
  · rw [decide_eq_false (by omega : ¬ 1 ≤ s.size)]; rfl
  · rw [decide_eq_false (by omega : ¬ s.size ≤ 8), Bool.and_false]; rfl
theorem un_good {s : ByteArray} (h1 : 1 ≤ s.size) (h2 : s.size ≤ 8) (ha : s.data.toList.all isDig = true) : unV s = valL s.data.toList % 4294967296 ∧ unE s = 0 := by
  have hg : goodS s = true := by unfold goodS; rw [decide_eq_true h1, decide_eq_true h2, ha]; rfl
  have hb := valL_bd ha (by simpa using h2)
  unfold unV unE; rw [hg]
  refine ⟨?_, rfl⟩
  rw [if_pos rfl]; omega
theorem take_all {s : ByteArray} {k : Nat} (hk : s.size ≤ k) : s.data.toList.take k = s.data.toList := List.take_of_length_le (by simpa using hk)
theorem dig_yes {c : UInt8} (h : (48 ≤ (c.toNat : Int) ∧ (c.toNat : Int) ≤ 57) ∨ (65 ≤ (c.toNat : Int) ∧ (c.toNat : Int) ≤ 70)) : isDig c = true := by
  unfold isDig
  rcases h with h | h
  · rw [decide_eq_true h]; rfl
  · rw [decide_eq_true h, Bool.or_true]
theorem all_snoc {s : ByteArray} {k : Nat} (h : k < s.size) (ha : (s.data.toList.take k).all isDig = true) (hd : isDig s[k] = true) : (s.data.toList.take (k + 1)).all isDig = true := by
  rw [take_snoc s k h, List.all_append, ha]; simp [hd]
theorem val_snoc (s : ByteArray) (k : Nat) (h : k < s.size) : valL (s.data.toList.take (k + 1)) = valL (s.data.toList.take k) * 16 + digV s[k] := by rw [take_snoc s k h, valL_snoc]
theorem toList_nil {s : ByteArray} : s.toList = [] ↔ s.size = 0 := by
  rw [ByteArray.toList_eq]
  constructor
  · intro h; have := congrArg List.length h; simpa using this
  · intro h; exact List.eq_nil_of_length_eq_zero (by simpa using h)

/-! The eight digits. -/
def nib (x : Int) : Nat → Int
  | 0 => x / 268435456 % 16
  | 1 => x / 16777216 % 16
  | 2 => x / 1048576 % 16
  | 3 => x / 65536 % 16
  | 4 => x / 4096 % 16
  | 5 => x / 256 % 16
  | 6 => x / 16 % 16
  | _ => x % 16
def hexd (d : Int) : Int := if d < 10 then 48 + d else 55 + d
theorem nib_bd (x : Int) (k : Nat) : 0 ≤ nib x k ∧ nib x k < 16 := by unfold nib; split <;> omega
theorem OwnI.new (w : World) (k : IntKind) (cs : Array Value) (t : TypeId) (L : Nat → Int) (h : ∀ i, i < cs.size → cs[i]? = some (.int k (L i))) : OwnI k (w.alloc (.cells cs t)) w.heap.size cs.size t L :=
  ⟨cs, heap_alloc_new w _, rfl, h⟩
theorem and15 (x : Int) (h : 0 ≤ x) (h' : x < 4294967296) : bits .and .u32 x 15 = x % 16 := by
  rw [u32_and _ _ h h' (by omega) (by omega)]
  have : (15 : Int).toNat = 15 := rfl
  rw [this, nat_mask4]; omega
theorem shr_nib (x : Int) (hx : 0 ≤ x) (hx' : x < 4294967296) (k : Nat) (hk : k < 8) : bits .and .u32 (x / 2 ^ (28 - 4 * (k : Int)).toNat) 15 = nib x k := by
  have h8 : k = 0 ∨ k = 1 ∨ k = 2 ∨ k = 3 ∨ k = 4 ∨ k = 5 ∨ k = 6 ∨ k = 7 := by omega
  rcases h8 with rfl | rfl | rfl | rfl | rfl | rfl | rfl | rfl
  · have : (2 : Int) ^ (28 - 4 * ((0 : Nat) : Int)).toNat = 268435456 := by decide
    rw [this, and15 _ (by omega) (by omega)]; rfl
  · have : (2 : Int) ^ (28 - 4 * ((1 : Nat) : Int)).toNat = 16777216 := by decide
    rw [this, and15 _ (by omega) (by omega)]; rfl
  · have : (2 : Int) ^ (28 - 4 * ((2 : Nat) : Int)).toNat = 1048576 := by decide
    rw [this, and15 _ (by omega) (by omega)]; rfl
  · have : (2 : Int) ^ (28 - 4 * ((3 : Nat) : Int)).toNat = 65536 := by decide
    rw [this, and15 _ (by omega) (by omega)]; rfl
  · have : (2 : Int) ^ (28 - 4 * ((4 : Nat) : Int)).toNat = 4096 := by decide
    rw [this, and15 _ (by omega) (by omega)]; rfl
  · have : (2 : Int) ^ (28 - 4 * ((5 : Nat) : Int)).toNat = 256 := by decide
    rw [this, and15 _ (by omega) (by omega)]; rfl
  · have : (2 : Int) ^ (28 - 4 * ((6 : Nat) : Int)).toNat = 16 := by decide
    rw [this, and15 _ (by omega) (by omega)]; rfl
  · have : (2 : Int) ^ (28 - 4 * ((7 : Nat) : Int)).toNat = 1 := by decide
    rw [this, and15 _ (by omega) (by omega), Int.ediv_one]; rfl
def hexN (x : Int) (k : Nat) : List Int := (List.range k).map fun i => hexd (nib x i)
def hexS (x : Int) : ByteArray := strOfNums (hexN x 8)
theorem shr_nib' (x : Int) (hx : 0 ≤ x) (hx' : x < 4294967296) (k : Nat) (hk : k < 8) : bits .and .u32 (x / 2 ^ (28 - 4 * k)) 15 = nib x k := by
  rw [← shr_nib x hx hx' k hk, show (28 - 4 * (k : Int)).toNat = 28 - 4 * k from by omega]
theorem dig_get (d : Int) (h0 : 0 ≤ d) (h1 : d < 16) (h : d.toNat < (⟨#[48, 49, 50, 51, 52, 53, 54, 55, 56, 57, 65, 66, 67, 68, 69, 70]⟩ : ByteArray).size) :
    (((⟨#[48, 49, 50, 51, 52, 53, 54, 55, 56, 57, 65, 66, 67, 68, 69, 70]⟩ : ByteArray)[d.toNat]'h).toNat : Int) = hexd d := by
  have h8 : d = 0 ∨ d = 1 ∨ d = 2 ∨ d = 3 ∨ d = 4 ∨ d = 5 ∨ d = 6 ∨ d = 7 ∨ d = 8 ∨ d = 9 ∨ d = 10 ∨ d = 11 ∨ d = 12 ∨ d = 13 ∨ d = 14 ∨ d = 15 := by omega
  rcases h8 with rfl | rfl | rfl | rfl | rfl | rfl | rfl | rfl | rfl | rfl | rfl | rfl | rfl | rfl | rfl | rfl <;> rfl
theorem hexN_get (x : Int) (k i : Nat) (hi : i < k) : (hexN x k).getD i 0 = hexd (nib x i) := by
  unfold hexN; simp [hi]
theorem nib_pow (x : Int) (k : Nat) (h : k < 8) : x / 16 ^ k % 16 = nib x (7 - k) := by
  have h8 : k = 0 ∨ k = 1 ∨ k = 2 ∨ k = 3 ∨ k = 4 ∨ k = 5 ∨ k = 6 ∨ k = 7 := by omega
  rcases h8 with rfl | rfl | rfl | rfl | rfl | rfl | rfl | rfl
  · show x / 1 % 16 = _; rw [Int.ediv_one]; rfl
  all_goals rfl
theorem div_16 (x : Int) (k : Nat) : x / 16 ^ k / 16 = x / 16 ^ (k + 1) := by
  rw [Int.ediv_ediv_of_nonneg (Int.le_of_lt (Int.pow_pos (by decide))), Int.pow_succ]
def hexT (x : Int) (k : Nat) : ByteArray := strOfNums ((List.range k).map fun i => hexd (nib x (8 - k + i)))
theorem hexT_all (x : Int) : hexT x 8 = hexS x := by
  unfold hexT hexS hexN
  simp
theorem hexT_size (x : Int) (k : Nat) : (hexT x k).size = k := by unfold hexT; rw [strOfNums_size]; simp
theorem dig_cut (d : Nat) (h : d < 16) : (⟨#[48, 49, 50, 51, 52, 53, 54, 55, 56, 57, 65, 66, 67, 68, 69, 70]⟩ : ByteArray).extract d (d + 1) = strOfNums [hexd d] := by
  have key : ∀ d : Fin 16, (⟨#[48, 49, 50, 51, 52, 53, 54, 55, 56, 57, 65, 66, 67, 68, 69, 70]⟩ : ByteArray).extract d.val (d.val + 1) = strOfNums [hexd d.val] := by decide +kernel
  exact key ⟨d, h⟩
theorem hexT_succ (x : Int) (k : Nat) (h : k < 8) : strOfNums [hexd (nib x (7 - k))] ++ hexT x k = hexT x (k + 1) := by
  refine WideShapes.bytes_inj ?_
  unfold hexT
  rw [List.range_succ_eq_map]
  simp only [ByteArray.data_append, Array.toList_append, strOfNums_data, List.map_cons, List.map_nil, List.map_map, List.singleton_append]
  rw [show 8 - (k + 1) + 0 = 7 - k from by omega]
  congr 1
  refine List.map_congr_left fun i hi => ?_
  simp only [Function.comp]
  rw [show 8 - (k + 1) + (i + 1) = 8 - k + i from by omega]
end Go.Proofs.Ytgemnmceflcpcaa.Pl
namespace Go.Proofs.Ytgemnmceflcpcaa
open Go Go.RowKit Go.Lib Go.Proofs.Ytgemnmceflcpcaa.Sy Pl
set_option linter.unusedVariables false
set_option linter.unusedSimpArgs false
attribute [local go_sem ↓] exec_load_const exec_store_const exec_load_var exec_store_var exec_load_proc exec_store_proc exec_load_sym exec_store_sym
/-- Each is a byte. -/
def Oct (l : List Int) : Prop := ∀ b ∈ l, 0 ≤ b ∧ b ≤ 255
theorem Oct.app {a b : List Int} (h : Oct a) (k : Oct b) : Oct (a ++ b) := fun x hx => by
  rcases List.mem_append.1 hx with h1 | h1
  · exact h x h1
  · exact k x h1
theorem oct_str (s : ByteArray) : Oct (strI s) := fun x hx => by
  unfold strI at hx
  obtain ⟨b, _, rfl⟩ := List.mem_map.1 hx
  have := b.toNat_lt; omega
theorem oct_grps : ∀ (n : Nat), Oct (grps n) := fun n => by
  induction n using Nat.strongRecOn with
  | ind n ih =>
    by_cases h : n < 128
    · rw [grps_lt h]; intro x hx; rw [List.mem_singleton.1 hx]; omega
    · rw [grps_ge h]; intro x hx
      rcases List.mem_cons.1 hx with h1 | h1
      · rw [h1]; omega
      · exact ih (n / 128) (by omega) x h1
theorem oct_txt (s : ByteArray) : Oct (txt s) := (oct_grps _).app (oct_str s)
theorem oct_one {n : Int} (h : 0 ≤ n ∧ n ≤ 255) : Oct [n] := fun x hx => by rw [List.mem_singleton.1 hx]; exact h
theorem oct_wrd (n : Int) : Oct (wrdB n) := fun x hx => by
  unfold wrdB at hx
  simp only [List.mem_cons, List.not_mem_nil, or_false] at hx
  rcases hx with rfl | rfl | rfl | rfl <;> omega
theorem oct_flat {α : Type} {f : α → List Int} {l : List α} (h : ∀ x ∈ l, Oct (f x)) : Oct (l.flatMap f) := fun x hx => by
  obtain ⟨y, hy, hz⟩ := List.mem_flatMap.1 hx
  exact h y hy x hz
theorem oct_sym {s : Sm} (h : smOk s) : Oct (symB s) := by
  obtain ⟨_, k1, k2, k3, _, _, kc, kv, kp⟩ := id h
  unfold symB cstsB varsB prsB
  refine ((((((((?_ : Oct [67, 82, 83, 49]).app (oct_txt _)).app (oct_grps _)).app (oct_flat fun c hc => ?_)).app (oct_grps _)).app (oct_flat fun c hc => ?_)).app (oct_grps _)).app (oct_flat fun c hc => ?_))
  · intro x hx; simp only [List.mem_cons, List.not_mem_nil, or_false] at hx; omega
  · unfold cstB
    refine ((oct_txt _).app (oct_one ?_)).app ?_
    · have := (cst_fit (kc c hc)).1; omega
    · split
      · exact oct_txt _
      · exact oct_wrd _
  · unfold varB
    refine (((oct_grps _).app (oct_str _)).app (oct_one ?_)).app (oct_grps _)
    have := (kv c hc).1; unfold plainF at this; omega
  · unfold prB
    refine (((oct_txt _).app (oct_grps _)).app (oct_flat fun q hq => ?_)).app (oct_one ?_)
    · unfold parB howI
      have h1 := ((kp c hc).1 q hq).1
      unfold plainF at h1
      intro x hx; simp only [List.mem_cons, List.not_mem_nil, or_false] at hx
      rcases hx with rfl | rfl
      · omega
      · split <;> split <;> omega
    · have := (kp c hc).2.2; unfold plainF at this; omega
section
variable {w : World}
theorem RowsAt.slice {fv : Value} {sz : Nat} {rows : List (List Value)} (h : RowsAt w fv sz rows) : ∃ A cap, fv = .slice A rows.length cap := by
  obtain ⟨A, cap, h, _⟩ := h; exact ⟨A, cap, h⟩
theorem bytes_form {v : Value} {l : List Int} (h : BytesAt w v l) : ∃ A cap, v = .slice A l.length cap ∧ l.length ≤ cap ∧ cap ≤ maxLen ∧ RdI .u8 w A l.length (fun i => l.getD i 0) := by
  obtain ⟨A, cap, rfl, h1, h2, h3⟩ := list_of h (List.length_map _)
  refine ⟨A, cap, rfl, h1, h2, fun hn => ?_⟩
  rcases h3 with hz | ⟨b, off, rfl, hb, hr⟩
  · omega
  · refine ⟨b, off, rfl, hb, fun i hi => ?_⟩
    have := hr i [encB l[i]] (by rw [List.getElem?_map, List.getElem?_eq_getElem hi]; rfl) 0 (encB l[i]) rfl
    rw [show off + i * 1 + 0 = off + i from by omega] at this
    rw [this]; simp [encB, List.getD, List.getElem?_eq_getElem hi]
theorem conv_at {A : Option Addr} {n cap : Nat} {l : List Int} (h : BytesAt w (.slice A n cap) l) : (convert 30 9 (.slice A n cap)).run Try.prog w = .ok (.string (strOfNums l)) w := by
  obtain ⟨A', cap', e, _, _, hr⟩ := bytes_form h
  cases e
  by_cases h0 : 0 < l.length
  · obtain ⟨b, off, rfl, _, hc⟩ := hr h0
    exact run_convert_bytes_arg (P := Try.prog) w 30 5 Try.underlying30 Try.underlying5 b off l.length _ l rfl hc 9 Try.underlying9
  · obtain rfl : l = [] := List.length_eq_zero_iff.1 (by omega)
    rw [run_convert_bytes_string w 30 9 5 _ _ _ Try.underlying30 Try.underlying5 Try.underlying9]
    cases A <;> simp [Conv.bytesToString, loadCells]
    all_goals rfl
theorem strI_of {l : List Int} (h : Oct l) : strI (strOfNums l) = l := by
  unfold strI strOfNums
  simp only [List.toList_toArray, List.map_map]
  conv => rhs; rw [← List.map_id l]
  refine List.map_congr_left fun x hx => ?_
  have := h x hx
  simp only [Function.comp, id]
  rw [UInt8.toNat_ofNat_of_lt' (by have : UInt8.size = 256 := rfl; omega)]
  omega
theorem size_of {l : List Int} : (strOfNums l).size = l.length := by
  unfold strOfNums; rw [ByteArray.size]; simp
/-- The sum over bytes. -/
def sumL (l : List Int) : Int := sumK (fun i => l.getD i 0) l.length
theorem oct_getD {l : List Int} (h : Oct l) (i : Nat) : 0 ≤ l.getD i 0 ∧ l.getD i 0 ≤ 255 := by
  by_cases hi : i < l.length
  · have := h l[i] (List.getElem_mem hi); simp [List.getD, List.getElem?_eq_getElem hi]; exact this
  · simp [List.getD, List.getElem?_eq_none (by omega : l.length ≤ i)]
theorem sum_fn (A : Option Addr) (n c : Nat) (f : Nat → Int) (hn : n ≤ 9223372036854775807) (hf : ∀ i, 0 ≤ f i ∧ f i ≤ 255) (hr : RdI .u8 w A n f) :
    Calls Try.prog 40 #[.slice A n c] w fun e w' => e = .returned (.int .u32 (sumK f n)) ∧ w = w' := by
  have HR := Lib.hid hr; clear hr
  have HF := Lib.hid hf; clear hf
  go_enter Try.func40, Try.ntmps40
  go_wp2_with fail
  go_loop [3, 8] (fun x i => ∃ k : Nat, k ≤ n ∧ i = .int .i64 k ∧ x = .int .u32 (sumK f k)) (fun _ i => n - (intOf i).toNat)
  case atStart => exact ⟨0, Nat.zero_le _, rfl, rfl⟩
  case round =>
    obtain ⟨k, hk, rfl, rfl⟩ := hrel
    by_cases hlt : k < n
    · obtain ⟨b, off, rfl, _, hc⟩ := HR.out (by omega)
      have hcell := hc k hlt
      clear hc
      have hb := HF.out k
      have hs := sumK_bd f k
      have hx := xor_bd _ _ hs.1 hs.2 hb.1 (by omega : f k < 4294967296)
      go_wp2_with fail
      go_round
      case rel => exact ⟨k + 1, by omega, by go_num, rfl⟩
      case measure => simp [intOf]; omega
    · obtain rfl : k = n := by omega
      go_wp2_with fail
      go_ret
      exact ⟨rfl, rfl⟩
theorem rsum_fn (A : Option Addr) (n c : Nat) (f : Nat → Int) (hn : n ≤ 9223372036854775807) (hf : ∀ i, 0 ≤ f i ∧ f i ≤ 255) (hr : RdI .u8 w A n f) :
    Calls Try.prog 41 #[.slice A n c] w fun e w' => e = .returned (.int .u32 (sumK f n)) ∧ w = w' := by
  have HR := Lib.hid hr; clear hr
  have HF := Lib.hid hf; clear hf
  go_enter Try.func41, Try.ntmps41
  go_wp2_with fail
  go_loop [3, 4] (fun x i => ∃ k : Nat, k ≤ n ∧ i = .int .i64 k ∧ x = .int .u64 (sumK f k)) (fun _ i => n - (intOf i).toNat)
  case atStart => exact ⟨0, Nat.zero_le _, rfl, rfl⟩
  case round =>
    obtain ⟨k, hk, rfl, rfl⟩ := hrel
    have hs := sumK_bd f k
    by_cases hlt : k < n
    · obtain ⟨b, off, rfl, _, hc⟩ := HR.out (by omega)
      have hcell := hc k hlt
      clear hc
      have hb := HF.out k
      have hx := xor_bd _ _ hs.1 hs.2 hb.1 (by omega : f k < 4294967296)
      have HS : Hid (sumK f (k + 1) = (sumK f k / 256 * 256 + bits .xor .u64 (sumK f k % 256) (f k)) * 16777619 % 4294967296) := by
        unfold Hid; rw [xor_low _ _ hs.1 hs.2 hb.1 hb.2]; rfl
      have hx2 : 0 ≤ sumK f k / 256 * 256 + bits .xor .u64 (sumK f k % 256) (f k) ∧ sumK f k / 256 * 256 + bits .xor .u64 (sumK f k % 256) (f k) < 4294967296 := by
        rw [xor_low _ _ hs.1 hs.2 hb.1 hb.2]; exact hx
      go_wp2_with fail
      go_round
      case rel => exact ⟨k + 1, by omega, by go_num, by rw [HS.out]⟩
      case measure => simp [intOf]; omega
    · obtain rfl : k = n := by omega
      go_wp2_with fail
      go_ret
      exact ⟨rfl, rfl⟩
theorem sum_any {v : Value} {l : List Int} (h : BytesAt w v l) (ho : Oct l) : Calls Try.prog 40 #[v] w fun e w' => e = .returned (.int .u32 (sumL l)) ∧ w = w' := by
  obtain ⟨A, cap, rfl, h1, h2, hr⟩ := bytes_form h
  unfold maxLen at h2
  exact sum_fn A _ cap _ (by omega) (oct_getD ho) hr
theorem rsum_any {v : Value} {l : List Int} (h : BytesAt w v l) (ho : Oct l) : Calls Try.prog 41 #[v] w fun e w' => e = .returned (.int .u32 (sumL l)) ∧ w = w' := by
  obtain ⟨A, cap, rfl, h1, h2, hr⟩ := bytes_form h
  unfold maxLen at h2
  exact rsum_fn A _ cap _ (by omega) (oct_getD ho) hr
/-- What Key answers. -/
def keyV (q : Bool) (s : Sm) : Value := .tuple #[.int .u32 (if q then sumL (symB s) else 0), .int .i64 (if q then 0 else 130)]
set_option maxHeartbeats 4000000 in
theorem key_any (s : Sm) {cv vv pv : Value} (hS : SmAt w s cv vv pv) {q : Bool} (hc : IsB q (smOk s)) :
    Calls Try.prog 13 #[.agg (scells s cv vv pv)] w fun e w' => e = .returned (keyV q s) ∧ Below w.heap.size w w' := by
  have c1 := hS.c.1.one
  have c2 := hS.v.1.one
  have c3 : pv.oneCell' = true := by obtain ⟨pvs, _, h, _⟩ := hS.p; exact h.one
  have HB0 := Lib.hid ((Below.refl w.heap.size w).alloc (Nat.le_refl _) (.cells (scells s cv vv pv) 26))
  have hl0 := load_blk Try.underlying26 rfl sz_sym (Blk.new w (scells s cv vv pv) 26) rfl
  cases q with
  | false =>
    have H1 := Lib.hid (encode_no (w := w.alloc (.cells (scells s cv vv pv) 26)) s (hS.below HB0.out) (fun h => by cases hc.yes h))
    clear hS hc
    go_enter Try.func13, Try.ntmps13
    go_wp2_with (go_at_call 11; refine H1.out.mono ?_; rintro e w1 ⟨v1, rfl, _, hb1⟩; have HB1 := Lib.hid (HB0.out.trans (hb1.mono HB0.out.size)); clear hb1)
    go_ret2
    exact ⟨rfl, HB1.out⟩
  | true =>
    have hok := hc.iff.1 rfl
    have H1 := Lib.hid (encode_yes (w := w.alloc (.cells (scells s cv vv pv) 26)) s (hS.below HB0.out) hok)
    have HO := Lib.hid (oct_sym hok)
    clear hS hc hok
    go_enter Try.func13, Try.ntmps13
    go_wp2_with (first
      | (go_at_call 40; refine (sum_any HV1.out HO.out).mono ?_; rintro e w2 ⟨rfl, rfl⟩)
      | (go_at_call 11; refine H1.out.mono ?_; rintro e w1 ⟨v1, rfl, ho1, hb1⟩; have HB1 := Lib.hid (HB0.out.trans (hb1.mono HB0.out.size)); have HV1 := Lib.hid (own_bytes ho1); clear hb1 ho1))
    go_ret2
    exact ⟨rfl, HB1.out⟩
def symA : Sm := ⟨⟨#[65]⟩, [], [], []⟩
theorem symA_ok : smOk symA := by
  refine ⟨⟨by decide, by decide, fun i hi => ?_⟩, by decide, by decide, by decide, (fun n h => by cases h), List.nodup_nil, (fun c h => by cases h), (fun c h => by cases h), (fun c h => by cases h)⟩
  have hi : i < 1 := hi
  obtain rfl : i = 0 := by omega
  exact .inl (.inr (by decide))
theorem symA_at : SmAt w symA (.slice none 0 0) (.slice none 0 0) (.slice none 0 0) :=
  ⟨by decide, ⟨RowsAt.nil_ _ _, (fun c h => by cases h)⟩, ⟨RowsAt.nil_ _ _, (fun c h => by cases h)⟩, [], rfl, RowsAt.nil_ _ _, (fun k p pv h => by cases h)⟩
theorem symA_b : symB symA = [67, 82, 83, 49, 1, 65, 0, 0, 0] := by
  unfold symB txt cstsB varsB prsB symA
  simp only [List.length_nil, List.flatMap_nil, List.append_nil]
  rw [grps_lt (by decide), grps_lt (by decide)]
  rfl
set_option maxHeartbeats 4000000 in
theorem shown_any : Calls Try.prog 8 #[] w fun e w' => e = .returned (.bool true) ∧ Below w.heap.size w w' := by
  have H1 : Hid (Calls Try.prog 11 #[.agg #[.string ⟨#[65]⟩, .slice none 0 0, .slice none 0 0, .slice none 0 0]] w (fun e w' => ∃ A cap, e = .returned (.tuple #[.slice A 9 cap, .int .i64 0]) ∧ BytesAt w' (.slice A 9 cap) [67, 82, 83, 49, 1, 65, 0, 0, 0] ∧ Below w.heap.size w w')) := Lib.hid ((encode_yes (w := w) symA symA_at symA_ok).mono (fun e w' ⟨v1, he, ho, hb⟩ => by
    have hf := own_bytes ho
    rw [if_pos rfl, symA_b] at hf
    obtain ⟨A, cap, rfl, _⟩ := bytes_form hf
    exact ⟨A, cap, he, hf, hb⟩))
  go_enter Try.func8, Try.ntmps8
  go_wp2_with (go_at_call 11; refine H1.out.mono ?_; rintro e w1 ⟨A, cap, rfl, hf1, hb1⟩; have HB1 := Lib.hid hb1; have hcv := conv_at hf1; clear hb1 hf1)
  go_ret
  exact ⟨ret_bool (by rw [ByteArray.toList_eq]; rfl), HB1.out⟩
end
end Go.Proofs.Ytgemnmceflcpcaa
