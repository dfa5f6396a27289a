/- Plain facts on words of 32 bits: sums, differences, overflow, as the carries and signs tell. No program in sight. -/
import Derived.WalkKit
import Derived.ProofKit
import Derived.OpenShut
import Derived.Laws.CopyOwn
import Derived.Deep.MidRow
import Derived.Deep.Draws
import Derived.WalkSmall
import Derived.Handy
import Derived.Deep.RegionHeld3
namespace Go.Proofs.YtgcknekhimpfkaaGreatDoor.Pl
open Go Go.RowKit
/-- 1 or 0. -/
def cr (c : Bool) : Int := if c then 1 else 0
/-- A word with its sign. -/
def sg (a : Int) : Int := if a < 2147483648 then a else a - 4294967296
def out32 (s : Int) : Bool := decide (s < -2147483648 ∨ 2147483647 < s)
def addS (a b : Int) (c : Bool) : Int := (a + b + cr c) % 4294967296
def addC (a b : Int) (c : Bool) : Bool := decide (4294967296 ≤ a + b + cr c)
def addV (a b : Int) (c : Bool) : Bool := out32 (sg a + sg b + cr c)
def subS (a b : Int) (c : Bool) : Int := (a - b - cr c) % 4294967296
def subC (a b : Int) (c : Bool) : Bool := decide (a - b - cr c < 0)
def subV (a b : Int) (c : Bool) : Bool := out32 (sg a - sg b - cr c)
theorem cr_bd (c : Bool) : 0 ≤ cr c ∧ cr c ≤ 1 := by cases c <;> simp [cr]
theorem sg_bd (a : Int) (h0 : 0 ≤ a) (h1 : a < 4294967296) : -2147483648 ≤ sg a ∧ sg a ≤ 2147483647 := by
 unfold sg; split <;> omega
theorem tb31 (n : Nat) (h : n < 4294967296) : n.testBit 31 = decide (2147483648 ≤ (n : Int)) := by
 rw [Nat.testBit_eq_decide_div_mod_eq, Bool.eq_iff_iff]
 simp only [decide_eq_true_eq]
 omega
theorem top_nat (n : Nat) (h : n < 4294967296) : ((n / 2147483648 : Nat) : Int) = if n.testBit 31 then 1 else 0 := by
 rw [tb31 n h]
 by_cases g : 2147483648 ≤ (n : Int)
 ·rw [decide_eq_true g]; simp only [if_true]; omega
 ·rw [decide_eq_false g]; simp only [Bool.false_eq_true, if_false]; omega
theorem and_lt (a b : Nat) (h : b < 4294967296) : a &&& b < 4294967296 := Nat.and_lt_two_pow (n := 32) _ h
theorem or_lt (a b : Nat) (ha : a < 4294967296) (h : b < 4294967296) : a ||| b < 4294967296 := Nat.or_lt_two_pow (n := 32) ha h
theorem xor_lt (a b : Nat) (ha : a < 4294967296) (h : b < 4294967296) : a ^^^ b < 4294967296 := Nat.xor_lt_two_pow (n := 32) ha h
theorem b01 (x : Bool) : ((if x = true then (1 : Int) else 0) == 1) = x := by cases x <;> rfl
theorem core_add (a b s k : Int) (ha : 0 ≤ a) (ha' : a < 4294967296) (hb : 0 ≤ b) (hb' : b < 4294967296) (hk : 0 ≤ k) (hk' : k ≤ 1) (hs : s = (a + b + k) % 4294967296) :
 ((decide (2147483648 ≤ a) ^^ decide (2147483648 ≤ s)) && (decide (2147483648 ≤ b) ^^ decide (2147483648 ≤ s))) = out32 (sg a + sg b + k) := by
 unfold out32 sg
 by_cases g1 : a < 2147483648 <;> by_cases g2 : b < 2147483648 <;> by_cases g3 : s < 2147483648 <;>
  simp only [g1, g2, g3, if_true, if_false, show (2147483648 ≤ a) ↔ ¬ a < 2147483648 from by omega, show (2147483648 ≤ b) ↔ ¬ b < 2147483648 from by omega, show (2147483648 ≤ s) ↔ ¬ s < 2147483648 from by omega] <;>
  simp <;> omega
/-- The overflow of a sum, as the program tells it. -/
theorem over_add (a b : Int) (c : Bool) (ha : 0 ≤ a) (ha' : a < 4294967296) (hb : 0 ≤ b) (hb' : b < 4294967296) :
 (bits .and .u32 (bits .xor .u32 a (addS a b c)) (bits .xor .u32 b (addS a b c)) / 2147483648 == 1) = addV a b c := by
 have hs : 0 ≤ addS a b c ∧ addS a b c < 4294967296 := by unfold addS; omega
 have hc := cr_bd c
 unfold addV
 rw [← core_add a b (addS a b c) (cr c) ha ha' hb hb' hc.1 hc.2 rfl]
 rw [u32_xor _ _ ha ha' hs.1 hs.2, u32_xor _ _ hb hb' hs.1 hs.2]
 generalize addS a b c = s at *
 obtain ⟨s, rfl⟩ := Int.eq_ofNat_of_zero_le hs.1
 obtain ⟨a, rfl⟩ := Int.eq_ofNat_of_zero_le ha
 obtain ⟨b, rfl⟩ := Int.eq_ofNat_of_zero_le hb
 simp only [Int.toNat_natCast]
 have h1 := xor_lt a s (by omega) (by omega)
 have h2 := xor_lt b s (by omega) (by omega)
 rw [u32_and_nat _ _ h1 h2]
 have h3 := and_lt (a ^^^ s) (b ^^^ s) h2
 have e : (((a ^^^ s) &&& (b ^^^ s) : Nat) : Int) / 2147483648 = ((((a ^^^ s) &&& (b ^^^ s)) / 2147483648 : Nat) : Int) := by simp
 rw [e, top_nat _ h3, Nat.testBit_and, Nat.testBit_xor, Nat.testBit_xor, tb31 a (by omega), tb31 b (by omega), tb31 s (by omega)]
 exact b01 _
theorem core_sub (a b s k : Int) (ha : 0 ≤ a) (ha' : a < 4294967296) (hb : 0 ≤ b) (hb' : b < 4294967296) (hk : 0 ≤ k) (hk' : k ≤ 1) (hs : s = (a - b - k) % 4294967296) :
 ((decide (2147483648 ≤ a) ^^ decide (2147483648 ≤ b)) && (decide (2147483648 ≤ a) ^^ decide (2147483648 ≤ s))) = out32 (sg a - sg b - k) := by
 unfold out32 sg
 by_cases g1 : a < 2147483648 <;> by_cases g2 : b < 2147483648 <;> by_cases g3 : s < 2147483648 <;>
  simp only [g1, g2, g3, if_true, if_false, show (2147483648 ≤ a) ↔ ¬ a < 2147483648 from by omega, show (2147483648 ≤ b) ↔ ¬ b < 2147483648 from by omega, show (2147483648 ≤ s) ↔ ¬ s < 2147483648 from by omega] <;>
  simp <;> omega
theorem core_borrow (a b s k : Int) (ha : 0 ≤ a) (ha' : a < 4294967296) (hb : 0 ≤ b) (hb' : b < 4294967296) (hk : 0 ≤ k) (hk' : k ≤ 1) (hs : s = (a - b - k) % 4294967296) :
 (((true ^^ decide (2147483648 ≤ a)) && decide (2147483648 ≤ b)) || ((true ^^ (decide (2147483648 ≤ a) ^^ decide (2147483648 ≤ b))) && decide (2147483648 ≤ s))) = decide (a - b - k < 0) := by
 by_cases g1 : a < 2147483648 <;> by_cases g2 : b < 2147483648 <;> by_cases g3 : s < 2147483648 <;>
  simp only [g1, g2, g3, show (2147483648 ≤ a) ↔ ¬ a < 2147483648 from by omega, show (2147483648 ≤ b) ↔ ¬ b < 2147483648 from by omega, show (2147483648 ≤ s) ↔ ¬ s < 2147483648 from by omega] <;>
  simp <;> omega
/-- The overflow of a difference, as the program tells it. -/
theorem over_sub (a b : Int) (c : Bool) (ha : 0 ≤ a) (ha' : a < 4294967296) (hb : 0 ≤ b) (hb' : b < 4294967296) :
 (bits .and .u32 (bits .xor .u32 a b) (bits .xor .u32 a (subS a b c)) / 2147483648 == 1) = subV a b c := by
 have hs : 0 ≤ subS a b c ∧ subS a b c < 4294967296 := by unfold subS; omega
 have hc := cr_bd c
 unfold subV
 rw [← core_sub a b (subS a b c) (cr c) ha ha' hb hb' hc.1 hc.2 rfl]
 rw [u32_xor _ _ ha ha' hs.1 hs.2, u32_xor _ _ ha ha' hb hb']
 generalize subS a b c = s at *
 obtain ⟨s, rfl⟩ := Int.eq_ofNat_of_zero_le hs.1
 obtain ⟨a, rfl⟩ := Int.eq_ofNat_of_zero_le ha
 obtain ⟨b, rfl⟩ := Int.eq_ofNat_of_zero_le hb
 simp only [Int.toNat_natCast]
 have h1 := xor_lt a s (by omega) (by omega)
 have h2 := xor_lt a b (by omega) (by omega)
 rw [u32_and_nat _ _ h2 h1]
 have h3 := and_lt (a ^^^ b) (a ^^^ s) h1
 have e : (((a ^^^ b) &&& (a ^^^ s) : Nat) : Int) / 2147483648 = ((((a ^^^ b) &&& (a ^^^ s)) / 2147483648 : Nat) : Int) := by simp
 rw [e, top_nat _ h3, Nat.testBit_and, Nat.testBit_xor, Nat.testBit_xor, tb31 a (by omega), tb31 b (by omega), tb31 s (by omega)]
 exact b01 _
theorem max_u32 : IntKind.u32.max = 4294967295 := by decide
/-- The borrow, as math/bits tells it. -/
theorem borrow (a b k : Int) (ha : 0 ≤ a) (ha' : a < 4294967296) (hb : 0 ≤ b) (hb' : b < 4294967296) (hk : 0 ≤ k) (hk' : k ≤ 1) :
 bits .or .u32 (bits .and .u32 (bits .xor .u32 IntKind.u32.max a) b) (bits .and .u32 (bits .xor .u32 IntKind.u32.max (bits .xor .u32 a b)) ((a - b - k) % 4294967296)) / 2147483648
  = cr (decide (a - b - k < 0)) := by
 rw [max_u32, ← core_borrow a b _ k ha ha' hb hb' hk hk' rfl]
 have hs : 0 ≤ (a - b - k) % 4294967296 ∧ (a - b - k) % 4294967296 < 4294967296 := by omega
 generalize (a - b - k) % 4294967296 = s at *
 obtain ⟨s, rfl⟩ := Int.eq_ofNat_of_zero_le hs.1
 obtain ⟨a, rfl⟩ := Int.eq_ofNat_of_zero_le ha
 obtain ⟨b, rfl⟩ := Int.eq_ofNat_of_zero_le hb
 have hm : (4294967295 : Int) = ((4294967295 : Nat) : Int) := rfl
 rw [hm]
 have h1 := xor_lt a b (by omega) (by omega)
 have h2 := xor_lt 4294967295 a (by omega) (by omega)
 have h3 := xor_lt 4294967295 (a ^^^ b) (by omega) h1
 rw [u32_xor_nat a b (by omega) (by omega), u32_xor_nat _ _ (by omega) h1, u32_xor_nat _ _ (by omega) (by omega : a < 4294967296), u32_and_nat _ _ h2 (by omega), u32_and_nat _ _ h3 (by omega)]
 have h4 := and_lt (4294967295 ^^^ a) b (by omega)
 have h5 := and_lt (4294967295 ^^^ (a ^^^ b)) s (by omega)
 rw [u32_or_nat _ _ h4 h5]
 have h6 := or_lt _ _ h4 h5
 have e : ((((4294967295 ^^^ a) &&& b) ||| ((4294967295 ^^^ (a ^^^ b)) &&& s) : Nat) : Int) / 2147483648 = (((((4294967295 ^^^ a) &&& b) ||| ((4294967295 ^^^ (a ^^^ b)) &&& s)) / 2147483648 : Nat) : Int) := by simp
 have ht : (4294967295 : Nat).testBit 31 = true := by decide +kernel
 rw [e, top_nat _ h6, Nat.testBit_or, Nat.testBit_and, Nat.testBit_and, Nat.testBit_xor, Nat.testBit_xor, Nat.testBit_xor, ht, tb31 a (by omega), tb31 b (by omega), tb31 s (by omega)]
 rfl
theorem carry_add (a b : Int) (c : Bool) (ha : 0 ≤ a) (ha' : a < 4294967296) (hb : 0 ≤ b) (hb' : b < 4294967296) : ((a + b + cr c) / 4294967296 == 1) = addC a b c := by
 have hc := cr_bd c
 unfold addC
 rw [Bool.eq_iff_iff, beq_iff_eq, decide_eq_true_eq]
 omega
theorem cr_one (x : Bool) : (cr x == 1) = x := by cases x <;> rfl
/-! Products and quotients. -/
def mulP (a b : Int) (u : Bool) : Int := if u then a * b else sg a * sg b
def mulL (a b : Int) (u : Bool) : Int := mulP a b u % 4294967296
def mulH (a b : Int) (u : Bool) : Int := mulP a b u / 4294967296 % 4294967296
theorem wrap32_bd (a : Int) : -2147483648 ≤ wrap32 a ∧ wrap32 a ≤ 2147483647 := by unfold wrap32; omega
theorem wrap32_sg (a : Int) (ha : 0 ≤ a) (ha' : a < 4294967296) : wrap32 a = sg a := by unfold wrap32 sg; split <;> omega
theorem mul_bd (x y : Int) (hx : -2147483648 ≤ x ∧ x ≤ 2147483647) (hy : -2147483648 ≤ y ∧ y ≤ 2147483647) : -4611686018427387904 ≤ x * y ∧ x * y ≤ 4611686018427387904 := by
 have hn : x.natAbs * y.natAbs ≤ 2147483648 * 2147483648 := Nat.mul_le_mul (by omega) (by omega)
 rw [← Int.natAbs_mul] at hn
 omega
theorem sprod_bound (a b : Int) : -4611686018427387904 ≤ wrap32 a * wrap32 b ∧ wrap32 a * wrap32 b ≤ 4611686018427387904 := mul_bd _ _ (wrap32_bd a) (wrap32_bd b)
theorem wrap_u64 (n : Int) : IntKind.u64.wrap n = n % 18446744073709551616 := by simp [IntKind.wrap, IntKind.bits, IntKind.signed]
theorem mulL_u (a b : Int) : a * b % 4294967296 = mulL a b true := by unfold mulL mulP; rw [if_pos rfl]
theorem mulH_u (a b : Int) (h : 0 ≤ a * b ∧ a * b ≤ 18446744065119617025) : a * b / 4294967296 = mulH a b true := by unfold mulH mulP; rw [if_pos rfl]; omega
theorem mulL_s (a b x y : Int) (hx : x = sg a) (hy : y = sg b) : IntKind.u64.wrap (x * y) % 4294967296 = mulL a b false := by
 subst hx hy; rw [wrap_u64]; unfold mulL mulP; rw [if_neg (by decide)]; omega
theorem mulH_s (a b x y : Int) (hx : x = sg a) (hy : y = sg b) : IntKind.u64.wrap (x * y) / 4294967296 % 4294967296 = mulH a b false := by
 subst hx hy; rw [wrap_u64]; unfold mulH mulP; rw [if_neg (by decide)]; omega
theorem tup2 {k l : IntKind} {a b c d : Int} (h : a = c) (g : b = d) : Ending.returned (.tuple #[.int k a, .int l b]) = Ending.returned (.tuple #[.int k c, .int l d]) := by rw [h, g]
theorem tup3 {k l : IntKind} {a b c d : Int} {x y : Bool} (h : a = c) (g : b = d) (e : x = y) : Ending.returned (.tuple #[.int k a, .int l b, .bool x]) = Ending.returned (.tuple #[.int k c, .int l d, .bool y]) := by rw [h, g, e]
theorem one1 {k : IntKind} {a c : Int} (h : a = c) : Ending.returned (.int k a) = Ending.returned (.int k c) := by rw [h]
theorem mulL_bd (a b : Int) (u : Bool) : 0 ≤ mulL a b u ∧ mulL a b u < 4294967296 := by unfold mulL; omega
theorem mulH_bd (a b : Int) (u : Bool) : 0 ≤ mulH a b u ∧ mulH a b u < 4294967296 := by unfold mulH; omega
/-- The quotient, downwards, and the rest: as words. -/
def divQ (a b : Int) : Int := if sg b ≤ 0 then 0 else sg a / sg b % 4294967296
def divR (a b : Int) : Int := if sg b ≤ 0 then 0 else sg a % sg b
def divOk (b : Int) : Bool := !decide (sg b ≤ 0)
/-- Go's own quotient, put down where the rest is negative. -/
theorem tdiv_down (x y : Int) (hy : 0 < y) : (x.tmod y < 0 → x.tdiv y - 1 = x / y ∧ x.tmod y + y = x % y) ∧ (0 ≤ x.tmod y → x.tdiv y = x / y ∧ x.tmod y = x % y) := by
 have h1 := Int.mul_tdiv_add_tmod x y   -- y * q + r = x
 have h2 := Int.mul_ediv_add_emod x y
 have h3 := Int.emod_nonneg x (by omega : y ≠ 0)
 have h4 := Int.emod_lt_of_pos x hy
 have h5 := Int.tmod_lt_of_pos x hy
 have h6 : -y < x.tmod y := by
  have := Int.tmod_lt_of_pos (-x) hy
  rw [Int.neg_tmod] at this; omega
 have key : ∀ q r : Int, y * q + r = x → 0 ≤ r → r < y → q = x / y ∧ r = x % y := by
  intro q r h hr hr'
  have e1 : x / y = q := by rw [← h, Int.add_comm, Int.add_mul_ediv_left _ _ (by omega), Int.ediv_eq_zero_of_lt hr hr']; omega
  exact ⟨e1.symm, by rw [e1] at h2; omega⟩
 refine ⟨fun hn => ?_, fun hp => key _ _ h1 hp h5⟩
 exact key _ _ (by rw [Int.mul_sub]; omega) (by omega) (by omega)
theorem divQ_neg (a b x y : Int) (hx : x = sg a) (hy : y = sg b) (h : 0 < y) (hr : x.tmod y < 0) : wrap32 (wrap32 (x.tdiv y) - 1) % 4294967296 = divQ a b := by
 have := ((tdiv_down x y h).1 hr).1
 subst hx hy
 unfold divQ; rw [if_neg (by omega), ← this]; unfold wrap32; omega
theorem divR_neg (a b x y : Int) (hx : x = sg a) (hy : y = sg b) (h : 0 < y) (h' : y ≤ 2147483647) (hr : x.tmod y < 0) : wrap32 (x.tmod y + y) % 4294967296 = divR a b := by
 have := ((tdiv_down x y h).1 hr).2
 have h3 := Int.emod_nonneg x (by omega : y ≠ 0)
 have h4 := Int.emod_lt_of_pos x h
 subst hx hy
 unfold divR; rw [if_neg (by omega), this]; unfold wrap32; omega
theorem divQ_pos (a b x y : Int) (hx : x = sg a) (hy : y = sg b) (h : 0 < y) (hr : 0 ≤ x.tmod y) : wrap32 (x.tdiv y) % 4294967296 = divQ a b := by
 have := ((tdiv_down x y h).2 hr).1
 subst hx hy
 unfold divQ; rw [if_neg (by omega), ← this]; unfold wrap32; omega
theorem divR_pos (a b x y : Int) (hx : x = sg a) (hy : y = sg b) (h : 0 < y) (h' : y ≤ 2147483647) (hr : 0 ≤ x.tmod y) : x.tmod y % 4294967296 = divR a b := by
 have := ((tdiv_down x y h).2 hr).2
 have h3 := Int.emod_nonneg x (by omega : y ≠ 0)
 have h4 := Int.emod_lt_of_pos x h
 subst hx hy
 unfold divR; rw [if_neg (by omega), this]; omega
theorem divOk_yes (b y : Int) (hy : y = sg b) (h : 0 < y) : true = divOk b := by
 subst hy; unfold divOk; rw [decide_eq_false (by omega)]; rfl
theorem tdiv_bd (x y : Int) (hx : -2147483648 ≤ x ∧ x ≤ 2147483647) (h : 0 < y) : -2147483648 ≤ x.tdiv y ∧ x.tdiv y ≤ 2147483647 := by
 have h1 : (x.tdiv y).natAbs ≤ x.natAbs := by rw [Int.natAbs_tdiv]; exact Nat.div_le_self _ _
 rcases Int.le_total 0 x with h2 | h2
 ·have := Int.tdiv_nonneg h2 (Int.le_of_lt h); omega
 ·have h3 : 0 ≤ (-x).tdiv y := Int.tdiv_nonneg (by omega) (Int.le_of_lt h)
  rw [Int.neg_tdiv] at h3; omega
end Go.Proofs.YtgcknekhimpfkaaGreatDoor.Pl
namespace Go.Proofs.YtgcknekhimpfkaaGreatDoor.Pl
open Go Go.RowKit
/-- A slice of integers that reads as f, index by index. -/
def RdI (k : IntKind) (w : World) (A : Option Addr) (n : Nat) (f : Nat → Int) : Prop :=
 0 < n → ∃ b off, A = some ⟨b, off, none⟩ ∧ b < w.heap.size ∧ ∀ i, i < n → w.cell? ⟨b, off + i, none⟩ = some (.int k (f i))
theorem RdI.below {k : IntKind} {w w' : World} {A : Option Addr} {n : Nat} {f : Nat → Int} (h : RdI k w A n f) (hb : Below w.heap.size w w') : RdI k w' A n f := fun hn => by
 obtain ⟨b, off, hA, hlt, hc⟩ := h hn
 exact ⟨b, off, hA, Nat.lt_of_lt_of_le hlt hb.size, fun i hi => (hb.cell (p := ⟨b, off + i, none⟩) hlt).trans (hc i hi)⟩
theorem or_join (x y : Int) (i : Nat) (hx : 0 ≤ x) (hx' : x < 4294967296) (hxi : x < 2 ^ i) (hy : 0 ≤ y) (hy' : y < 4294967296) (hyi : y % 2 ^ i = 0) : bits .or .u32 x y = x + y := by
 rw [u32_or _ _ hx hx' hy hy']
 obtain ⟨x, rfl⟩ := Int.eq_ofNat_of_zero_le hx
 obtain ⟨y, rfl⟩ := Int.eq_ofNat_of_zero_le hy
 simp only [Int.toNat_natCast]
 have h1 : y % 2 ^ i = 0 := by exact_mod_cast hyi
 have h2 : x < 2 ^ i := by exact_mod_cast hxi
 rw [Nat.or_comm, nat_join i y x h1 h2]
 omega
theorem whole4 (x0 x1 x2 x3 : Int) (h0 : 0 ≤ x0 ∧ x0 ≤ 255) (h1 : 0 ≤ x1 ∧ x1 ≤ 255) (h2 : 0 ≤ x2 ∧ x2 ≤ 255) (h3 : 0 ≤ x3 ∧ x3 ≤ 255) :
 bits .or .u32 (bits .or .u32 (bits .or .u32 (bits .or .u32 0 x0) (x1 * 256)) (x2 * 65536)) (x3 * 16777216) = x0 + x1 * 256 + x2 * 65536 + x3 * 16777216 := by
 rw [or_join 0 x0 0 (by omega) (by omega) (by simp) (by omega) (by omega) (by simp), or_join (0 + x0) (x1 * 256) 8 (by omega) (by omega) (by simp; omega) (by omega) (by omega) (by simp),
  or_join (0 + x0 + x1 * 256) (x2 * 65536) 16 (by omega) (by omega) (by simp; omega) (by omega) (by omega) (by simp),
  or_join (0 + x0 + x1 * 256 + x2 * 65536) (x3 * 16777216) 24 (by omega) (by omega) (by simp; omega) (by omega) (by omega) (by simp)]
 omega
/-- The word at a place of bytes. -/
def getV (f : Nat → Int) (k : Nat) : Int := f k + f (k + 1) * 256 + f (k + 2) * 65536 + f (k + 3) * 16777216
def getOk (n : Nat) (i : Int) : Bool := decide (0 ≤ i) && decide (i + 4 ≤ n)
def getR (n : Nat) (f : Nat → Int) (i : Int) : Int := if getOk n i then getV f i.toNat else 0
theorem getOk_yes {n : Nat} {i : Int} (h : 0 ≤ i) (h' : i + 4 ≤ n) : getOk n i = true := by unfold getOk; simp [h, h']
theorem getOk_no {n : Nat} {i : Int} (h : i < 0 ∨ (n : Int) < i + 4) : getOk n i = false := by
 unfold getOk
 rcases h with h | h
 ·rw [decide_eq_false (by omega)]; rfl
 ·rw [decide_eq_false (p := i + 4 ≤ n) (by omega), Bool.and_false]
theorem getV_bd (f : Nat → Int) (k : Nat) (hf : ∀ i, 0 ≤ f i ∧ f i ≤ 255) : 0 ≤ getV f k ∧ getV f k < 4294967296 := by
 have h0 := hf k; have h1 := hf (k + 1); have h2 := hf (k + 2); have h3 := hf (k + 3)
 unfold getV; omega
/-! A block of the call's own that reads as L, index by index. -/
def OwnI (k : IntKind) (w : World) (g N : Nat) (t : TypeId) (L : Nat → Int) : Prop :=
 ∃ cs : Array Value, w.heap[g]? = some (.cells cs t (0, 0)) ∧ cs.size = N ∧ ∀ i, i < N → cs[i]? = some (.int k (L i))
theorem OwnI.lt {k : IntKind} {w : World} {g N : Nat} {t : TypeId} {L : Nat → Int} (h : OwnI k w g N t L) : g < w.heap.size := by
 obtain ⟨cs, h1, _⟩ := h
 rcases Nat.lt_or_ge g w.heap.size with hl | hl
 ·exact hl
 ·rw [Array.getElem?_eq_none hl] at h1; cases h1
theorem OwnI.cell {k : IntKind} {w : World} {g N : Nat} {t : TypeId} {L : Nat → Int} (h : OwnI k w g N t L) {i : Nat} (hi : i < N) : w.cell? ⟨g, i, none⟩ = some (.int k (L i)) := by
 obtain ⟨cs, h1, _, h3⟩ := h
 rw [cell_of_row w g i cs t (0, 0) h1]; exact h3 i hi
theorem OwnI.frozen {k : IntKind} {w : World} {g N : Nat} {t : TypeId} {L : Nat → Int} (h : OwnI k w g N t L) (i : Nat) : w.frozen? ⟨g, i, none⟩ = false := by
 obtain ⟨cs, h1, _, _⟩ := h
 exact frozen_of_row w g i cs t h1
theorem OwnI.rd {k : IntKind} {w : World} {g N : Nat} {t : TypeId} {L : Nat → Int} (h : OwnI k w g N t L) {n : Nat} (hn : n ≤ N) : RdI k w (some ⟨g, 0, none⟩) n L :=
 fun _ => ⟨g, 0, rfl, h.lt, fun i hi => by rw [Nat.zero_add]; exact h.cell (by omega)⟩
theorem OwnI.below {k : IntKind} {w w' : World} {B g N : Nat} {t : TypeId} {L : Nat → Int} (h : OwnI k w g N t L) (hb : Below B w w') (hg : g < B) : OwnI k w' g N t L := by
 obtain ⟨cs, h1, h2, h3⟩ := h
 exact ⟨cs, by rw [hb.block g hg]; exact h1, h2, h3⟩
theorem OwnI.set {k : IntKind} {w : World} {g N : Nat} {t : TypeId} {L : Nat → Int} (h : OwnI k w g N t L) (j : Nat) (x : Int) :
 OwnI k (w.setCell ⟨g, j, none⟩ (.int k x)) g N t (fun i => if i = j then x else L i) := by
 obtain ⟨cs, h1, h2, h3⟩ := h
 refine ⟨cs.setIfInBounds j (.int k x), ?_, by simpa using h2, fun i hi => ?_⟩
 ·simp [World.setCell, Array.getElem?_modify, h1]
 ·by_cases hij : i = j
  ·subst hij; rw [Array.getElem?_setIfInBounds_self_of_lt (by omega)]; simp
  ·rw [Array.getElem?_setIfInBounds_ne (fun e => hij e.symm), h3 i hi]; simp [hij]
theorem OwnI.congr {k : IntKind} {w : World} {g N : Nat} {t : TypeId} {L L' : Nat → Int} (h : OwnI k w g N t L) (hl : ∀ i, i < N → L i = L' i) : OwnI k w g N t L' := by
 obtain ⟨cs, h1, h2, h3⟩ := h
 exact ⟨cs, h1, h2, fun i hi => by rw [h3 i hi, hl i hi]⟩
/-- A word's byte. -/
def wbyte (x : Int) : Nat → Int
 | 0 => x % 256
 | 1 => x / 256 % 256
 | 2 => x / 65536 % 256
 | _ => x / 16777216 % 256
theorem wbyte_bd (x : Int) (j : Nat) : 0 ≤ wbyte x j ∧ wbyte x j ≤ 255 := by unfold wbyte; split <;> omega
/-- Four bytes are laid. -/
def put4 (w : World) (g i : Nat) (x : Int) : World :=
 (((w.setCell ⟨g, i, none⟩ (.int .u8 (x % 256))).setCell ⟨g, i + 1, none⟩ (.int .u8 (x / 256 % 256))).setCell ⟨g, i + 2, none⟩ (.int .u8 (x / 65536 % 256))).setCell ⟨g, i + 3, none⟩ (.int .u8 (x / 16777216))
def laid4 (L : Nat → Int) (i : Nat) (x : Int) (j : Nat) : Int := if i ≤ j ∧ j < i + 4 then wbyte x (j - i) else L j
theorem put4_own {w : World} {g N : Nat} {t : TypeId} {L : Nat → Int} (h : OwnI .u8 w g N t L) (i : Nat) (x : Int) (hx : 0 ≤ x) (hx' : x < 4294967296) : OwnI .u8 (put4 w g i x) g N t (laid4 L i x) := by
 refine ((((h.set i (x % 256)).set (i + 1) (x / 256 % 256)).set (i + 2) (x / 65536 % 256)).set (i + 3) (x / 16777216)).congr fun j _ => ?_
 unfold laid4
 by_cases h0 : j = i
 ·subst h0; rw [if_neg (by omega), if_neg (by omega), if_neg (by omega), if_pos rfl, if_pos (by omega), Nat.sub_self]; rfl
 ·by_cases h1 : j = i + 1
  ·subst h1; rw [if_neg (by omega), if_neg (by omega), if_pos rfl, if_pos (by omega), show i + 1 - i = 1 from by omega]; rfl
  ·by_cases h2 : j = i + 2
   ·subst h2; rw [if_neg (by omega), if_pos rfl, if_pos (by omega), show i + 2 - i = 2 from by omega]; rfl
   ·by_cases h3 : j = i + 3
    ·subst h3; rw [if_pos rfl, if_pos (by omega), show i + 3 - i = 3 from by omega]; unfold wbyte; simp; omega
    ·rw [if_neg h3, if_neg h2, if_neg h1, if_neg h0, if_neg (by omega)]
theorem put4_below {w : World} {B g : Nat} (hB : B ≤ g) (i : Nat) (x : Int) : Below B w (put4 w g i x) :=
 ((((Below.refl B w).setCell (p := ⟨g, i, none⟩) hB _).setCell (p := ⟨g, i + 1, none⟩) hB _).setCell (p := ⟨g, i + 2, none⟩) hB _).setCell (p := ⟨g, i + 3, none⟩) hB _
theorem made_u8 (N i : Nat) (hi : i < N) : (madeCells (Value.int .u8 0).cells (N * 1))[i]? = some (.int .u8 0) := by
 have h1 : i < (madeCells (Value.int .u8 0).cells (N * 1)).size := by rw [size_madeCells]; omega
 rw [Array.getElem?_eq_getElem h1]
 simp [madeCells, Value.cells, Nat.mod_one]
theorem made_own {w : World} {base g N : Nat} {e : TypeId} {xs : List Value} (h : w.ownsRow base e 1 (.slice (some ⟨g, 0, none⟩) N N) N xs) : w.heap[g]? = some (.cells xs.toArray e (0, 0)) := by
 obtain ⟨hl, hh⟩ := h
 rcases hh with ⟨h1, _⟩ | ⟨g', cap, cur, h1, _, h2, _, _, h5, h6⟩
 ·cases h1
 ·injection h1 with h1 h7 h8
  injection h1 with h1
  injection h1 with h1
  subst h1 h8
  rw [h2]
  have : cur.toList = xs := by
   rw [← h6, List.take_of_length_le]
   simp; omega
  rw [← this]
/-! Digits. -/
theorem toList_nil {s : ByteArray} : s.toList = [] ↔ s.size = 0 := by
 rw [ByteArray.toList_eq]
 constructor
 ·intro h; have := congrArg List.length h; simpa using this
 ·intro h; exact List.eq_nil_of_length_eq_zero (by simpa using h)
/-! The eight digits. -/
theorem OwnI.new (w : World) (k : IntKind) (cs : Array Value) (t : TypeId) (L : Nat → Int) (h : ∀ i, i < cs.size → cs[i]? = some (.int k (L i))) : OwnI k (w.alloc (.cells cs t)) w.heap.size cs.size t L :=
 ⟨cs, heap_alloc_new w _, rfl, h⟩
end Go.Proofs.YtgcknekhimpfkaaGreatDoor.Pl
namespace Go.Proofs.YtgcknekhimpfkaaGreatDoor
open Go Go.RowKit
/-- The cells of block g. -/
def rowOf (w : World) (g : Nat) : Array Value := match w.heap[g]? with | some (.cells cs _ _) => cs | _ => #[]
theorem cell_rowOf (w : World) (g i : Nat) : w.cell? ⟨g, i, none⟩ = (rowOf w g)[i]? := by
 unfold rowOf World.cell?
 cases h : w.heap[g]? with
 | none => simp
 | some o => cases o <;> simp
theorem range_rowOf (w : World) (g : Nat) : w.rangeAt g 0 (rowOf w g).toList := fun j v hj => by
 rw [Nat.zero_add, cell_rowOf]; simpa using hj
theorem load_rowOf {P : Program} (w : World) (g : Nat) (ty : TypeId) (d : TypeDesc) (n : Nat) (hu : P.underlying ty = some d) (hd : d.isRow = true) (hi : (P.info? ty).map (·.size) = some n) (h : (rowOf w g).size = n) :
 (Instr.loadAt ty (.pointer (some ⟨g, 0, none⟩))).run P w = .ok (.agg (rowOf w g)) w := by
 have := run_loadAt_mid (P := P) w g 0 ty (rowOf w g).toList d (range_rowOf w g) hu hd (by rw [hi, ← h]; simp)
 simpa using this
/-- A struct's variable, read whole: by a name of its own, so that the walk does not open it cell by cell. -/
def loadWhole (ty : TypeId) (v : Value) : Sem Value := Instr.loadAt ty v
/-- Block g holds just these cells, none of them frozen. -/
def Blk (w : World) (g : Nat) (cs : Array Value) (t : TypeId) : Prop := w.heap[g]? = some (.cells cs t (0, 0))
theorem Blk.lt {w : World} {g : Nat} {cs : Array Value} {t : TypeId} (h : Blk w g cs t) : g < w.heap.size := (Array.getElem?_eq_some_iff.1 h).1
theorem Blk.cell {w : World} {g : Nat} {cs : Array Value} {t : TypeId} (h : Blk w g cs t) (j : Nat) : w.cell? ⟨g, j, none⟩ = cs[j]? := cell_of_row w g j cs t _ h
theorem Blk.frozen {w : World} {g : Nat} {cs : Array Value} {t : TypeId} (h : Blk w g cs t) (j : Nat) : w.frozen? ⟨g, j, none⟩ = false := frozen_of_row w g j cs t h
theorem Blk.row {w : World} {g : Nat} {cs : Array Value} {t : TypeId} (h : Blk w g cs t) : rowOf w g = cs := by unfold rowOf; rw [h]
theorem Blk.below {B : Nat} {w w' : World} {g : Nat} {cs : Array Value} {t : TypeId} (h : Blk w g cs t) (b : Below B w w') (hg : g < B) : Blk w' g cs t := (b.block g hg).trans h
theorem Blk.step {w w' : World} {g : Nat} {cs : Array Value} {t : TypeId} (h : Blk w g cs t) (b : Below w.heap.size w w') : Blk w' g cs t := h.below b h.lt
theorem Blk.new (w : World) (cs : Array Value) (t : TypeId) : Blk (w.alloc (.cells cs t)) w.heap.size cs t := heap_alloc_new w _
theorem Blk.old {w : World} {g : Nat} {cs : Array Value} {t : TypeId} (h : Blk w g cs t) (o : Obj) : Blk (w.alloc o) g cs t := (Below.heap_alloc w o g h.lt).trans h
theorem Blk.drew {w : World} {g : Nat} {cs : Array Value} {t : TypeId} (h : Blk w g cs t) : Blk w.drew g cs t := h
theorem Blk.drewN {w : World} {g : Nat} {cs : Array Value} {t : TypeId} (h : Blk w g cs t) (n : Nat) : Blk (w.drewN n) g cs t := h
theorem Blk.far {w : World} {g : Nat} {cs : Array Value} {t : TypeId} (h : Blk w g cs t) {p : Addr} (hp : g ≠ p.block) (v : Value) : Blk (w.setCell p v) g cs t := (heap_setCell_other w p g v hp).trans h
theorem Blk.set {w : World} {g : Nat} {cs : Array Value} {t : TypeId} (h : Blk w g cs t) (i : Nat) (v : Value) : Blk (w.setCell ⟨g, i, none⟩ v) g (cs.setIfInBounds i v) t := heap_setCell_same w g i cs t v h
theorem Blk.setRow {w : World} {g : Nat} {cs : Array Value} {t : TypeId} (h : Blk w g cs t) (X : Array Value) : Blk (w.setRow g X) g X t := setRow_heap w g cs X t _ h
theorem Blk.farRow {w : World} {g k : Nat} {cs : Array Value} {t : TypeId} (h : Blk w g cs t) (hk : g ≠ k) (X : Array Value) : Blk (w.setRow k X) g cs t := (setRow_other w k g X hk).trans h
theorem belRow {B : Nat} {a w : World} (h : Below B a w) {g : Nat} (hg : B ≤ g) (X : Array Value) : Below B a (w.setRow g X) :=
 h.trans ⟨rfl, rfl, rfl, by simp, fun k hk => setRow_other w g k X (by omega)⟩
/-- Every value of one cell. -/
def OneRow (X : Array Value) : Prop := ∀ v ∈ X, v.oneCell' = true
theorem OneRow.set {X : Array Value} (h : OneRow X) (i : Nat) {v : Value} (hv : v.oneCell' = true) : OneRow (X.setIfInBounds i v) := fun x hx => by
 rcases Array.mem_or_eq_of_mem_setIfInBounds hx with hx | hx
 ·exact h x hx
 ·rw [hx]; exact hv
theorem run_loadRow {P : Program} {w : World} {g : Nat} {t : TypeId} {cs : Array Value} (h : Blk w g cs t) (ty : TypeId) (d : TypeDesc) (hu : P.underlying ty = some d) (hd : d.isRow = true) (hi : (P.info? ty).map (·.size) = some cs.size) :
 (Instr.loadAt ty (.pointer (some ⟨g, 0, none⟩))).run P w = .ok (.agg cs) w := by
 have := load_rowOf (P := P) w g ty d cs.size hu hd hi (by rw [h.row])
 rwa [h.row] at this
theorem run_loadVarRow {P : Program} {w : World} {g : Nat} {t : TypeId} {cs : Array Value} (h : Blk w g cs t) (ty : TypeId) (d : TypeDesc) (hu : P.underlying ty = some d) (hd : d.isRow = true) (hi : (P.info? ty).map (·.size) = some cs.size) :
 (loadVar ty ⟨g, 0, none⟩).run P w = .ok (.agg cs) w := by
 have := run_loadRow h ty d hu hd hi
 simpa only [Instr.loadAt, Instr.sureAddr, Sem.run_bind, Sem.run_pure, Result.andThen_ok] using this
theorem run_storeRow {P : Program} {w : World} {g : Nat} {t : TypeId} {old cs : Array Value} (h : Blk w g old t) (ty : TypeId) (hi : (P.info? ty).map (·.size) = some cs.size) (ho : old.size = cs.size) (h1 : OneRow cs) :
 (Instr.storeAt ty (.pointer (some ⟨g, 0, none⟩)) (.agg cs)).run P w = .ok () (w.setRow g cs) := by
 simp only [Instr.storeAt, Instr.sureAddr, Sem.run_bind, Sem.run_pure, Result.andThen_ok]
 exact run_storeVar_row w g t ty old cs h hi ho (by rw [Array.all_eq_true_iff_forall_mem]; exact h1)
theorem three {w w1 : World} {A B C : Array Value} {ta tb tc : TypeId} (hb : Below (((w.alloc (.cells A ta)).alloc (.cells B tb)).alloc (.cells C tc)).heap.size (((w.alloc (.cells A ta)).alloc (.cells B tb)).alloc (.cells C tc)) w1) :
 Blk w1 w.heap.size A ta ∧ Blk w1 (w.heap.size + 1) B tb ∧ Blk w1 (w.heap.size + 1 + 1) C tc ∧ w.heap.size + 3 ≤ w1.heap.size ∧ Below w.heap.size w w1 := by
 have h1 := Blk.new w A ta
 have h2 := Blk.new (w.alloc (.cells A ta)) B tb
 have h3 := Blk.new ((w.alloc (.cells A ta)).alloc (.cells B tb)) C tc
 simp only [World.size_alloc] at h2 h3
 have hs := hb.size
 simp only [World.size_alloc] at hs
 refine ⟨((h1.old _).old _).step hb, (h2.old _).step hb, h3.step hb, hs, ?_⟩
 exact Below.trans ((((Below.refl _ _).alloc (Nat.le_refl _) _).alloc (by simp) _).alloc (by simp; omega) _) (hb.mono (by simp; omega))
theorem alloc_setRow (w : World) (Z cs : Array Value) (t : TypeId) : (w.alloc (.cells Z t)).setRow w.heap.size cs = w.alloc (.cells cs t) := by
 unfold World.setRow World.alloc
 congr 1
 apply Array.ext
 ·simp
 ·intro k h1 h2
  simp only [Array.getElem_modify, Array.getElem_push]
  by_cases hk : k < w.heap.size
  ·rw [if_neg (by omega)]; simp [hk]
  ·have : k = w.heap.size := by simp at h2; omega
   subst this
   simp
/-- By names of their own, so that the walk does not open them cell by cell. -/
def storeWhole (ty : TypeId) (p v : Value) : Sem Unit := Instr.storeAt ty p v
end Go.Proofs.YtgcknekhimpfkaaGreatDoor
namespace Go.Proofs.YtgcknekhimpfkaaGreatDoor.Pl
open Go Go.RowKit
def lslV (a : Int) (m : Nat) : Int := a * 2 ^ m % 4294967296
def asrV (a : Int) (m : Nat) : Int := sg a / 2 ^ m % 4294967296
def rorV (a : Int) (m : Nat) : Int := a / 2 ^ m + a % 2 ^ m * 2 ^ (32 - m)
def sextV (a : Int) (k : Nat) : Int := if 2 ^ k / 2 ≤ a % 2 ^ k then a % 2 ^ k - 2 ^ k else a % 2 ^ k
theorem p2 (m : Nat) : (0 : Int) < 2 ^ m := Int.pow_pos (by decide)
theorem p2s (m : Nat) : (2 : Int) ^ (m + 1) = 2 ^ m * 2 := Int.pow_succ 2 m
theorem p2add (m n : Nat) : (2 : Int) ^ (m + n) = 2 ^ m * 2 ^ n := Int.pow_add 2 m n
theorem p2_32 (m : Nat) (h : m ≤ 32) : (2 : Int) ^ m * 2 ^ (32 - m) = 4294967296 := by
 rw [← p2add, show m + (32 - m) = 32 from by omega]; decide
theorem lslV_bd (a : Int) (m : Nat) : 0 ≤ lslV a m ∧ lslV a m < 4294967296 := by unfold lslV; omega
theorem asrV_bd (a : Int) (m : Nat) : 0 ≤ asrV a m ∧ asrV a m < 4294967296 := by unfold asrV; omega
theorem rorV_zero (a : Int) : rorV a 0 = a := by unfold rorV; simp [Int.emod_one]
theorem rorV_bd (a : Int) (m : Nat) (hm : m ≤ 32) (h : 0 ≤ a) (h' : a < 4294967296) : 0 ≤ rorV a m ∧ rorV a m < 4294967296 := by
 have hp := p2 m
 have hq := p2 (32 - m)
 have e := p2_32 m hm
 unfold rorV
 generalize (2 : Int) ^ m = P at *
 generalize (2 : Int) ^ (32 - m) = R at *
 have h1 : a / P < R := Int.ediv_lt_of_lt_mul hp (by rw [Int.mul_comm, e]; exact h')
 have h2 := Int.ediv_nonneg h (Int.le_of_lt hp)
 have h3 := Int.emod_nonneg a (by omega : P ≠ 0)
 have h4 := Int.emod_lt_of_pos a hp
 have h5 : a % P * R ≤ (P - 1) * R := Int.mul_le_mul_of_nonneg_right (by omega) (by omega)
 have h6 : 0 ≤ a % P * R := Int.mul_nonneg h3 (Int.le_of_lt hq)
 rw [Int.sub_mul, e] at h5
 omega
/-- Turned by all 32 places it is as it was. -/
theorem rorV_all (a : Int) (h : 0 ≤ a) (h' : a < 4294967296) : rorV a 32 = a := by
 unfold rorV
 rw [show (2 : Int) ^ 32 = 4294967296 from by decide]
 simp; omega
theorem mul_mod_right (a P R : Int) (h : 0 ≤ a) (hP : 0 ≤ P) (hR : 0 ≤ R) : a * R % (P * R) = a % P * R := by
 obtain ⟨a, rfl⟩ := Int.eq_ofNat_of_zero_le h
 obtain ⟨P, rfl⟩ := Int.eq_ofNat_of_zero_le hP
 obtain ⟨R, rfl⟩ := Int.eq_ofNat_of_zero_le hR
 have := Nat.mul_mod_mul_right R a P
 exact_mod_cast this
/-- The program's rotation: two shifts, joined. -/
theorem ror_join (a : Int) (m : Nat) (hm : m ≤ 32) (h : 0 ≤ a) (h' : a < 4294967296) :
 bits .or .u32 (a * 2 ^ (32 - m) % 4294967296) (a / 2 ^ m) = rorV a m := by
 have hb := rorV_bd a m hm h h'
 have hp := p2 m
 have hq := p2 (32 - m)
 have e := p2_32 m hm
 have e3 : a * 2 ^ (32 - m) % 4294967296 = a % 2 ^ m * 2 ^ (32 - m) := by
  rw [← e, mul_mod_right a _ _ h (Int.le_of_lt hp) (Int.le_of_lt hq)]
 have h1 : a / 2 ^ m < 2 ^ (32 - m) := Int.ediv_lt_of_lt_mul hp (by rw [Int.mul_comm, e]; exact h')
 have h2 := Int.ediv_nonneg h (Int.le_of_lt hp)
 have h3 := Int.emod_nonneg a (by omega : (2 : Int) ^ m ≠ 0)
 have h6 : 0 ≤ a % 2 ^ m * 2 ^ (32 - m) := Int.mul_nonneg h3 (Int.le_of_lt hq)
 rw [e3]
 unfold rorV at hb ⊢
 rw [u32_or _ _ h6 (by omega) h2 (by omega)]
 have hx : a % 2 ^ m * 2 ^ (32 - m) % 2 ^ (32 - m) = 0 := Int.mul_emod_left _ _
 obtain ⟨x, hxe⟩ := Int.eq_ofNat_of_zero_le h6
 obtain ⟨y, hye⟩ := Int.eq_ofNat_of_zero_le h2
 rw [hxe] at hx ⊢
 rw [hye] at h1 ⊢
 simp only [Int.toNat_natCast]
 have hx' : x % 2 ^ (32 - m) = 0 := by exact_mod_cast hx
 have hy' : y < 2 ^ (32 - m) := by exact_mod_cast h1
 rw [nat_join (32 - m) x y hx' hy']
 omega
/-- The place by which bits.RotateLeft32 turns. -/
theorem turn_at (m : Int) (_h : 0 ≤ m) (_h' : m < 32) : bits .and .u64 (IntKind.u64.wrap (-m)) 31 = (32 - m) % 32 := by
 rw [wrap_u64, u64_and _ _ (by omega) (by omega) (by omega) (by omega)]
 have : (31 : Int).toNat = 31 := rfl
 rw [this, nat_mask5]
 omega
theorem sext_go (a : Int) (k : Nat) (h1 : 1 ≤ k) (h2 : k ≤ 32) (h : 0 ≤ a) :
 wrap64 (wrap32 (a * 2 ^ (32 - k) % 4294967296) / 2 ^ (32 - k)) = sextV a k := by
 have hp := p2 k
 have hq := p2 (32 - k)
 have e := p2_32 k h2
 have e3 : a * 2 ^ (32 - k) % 4294967296 = a % 2 ^ k * 2 ^ (32 - k) := by rw [← e, mul_mod_right a _ _ h (Int.le_of_lt hp) (Int.le_of_lt hq)]
 have e4 : (2 : Int) ^ k = 2 ^ (k - 1) * 2 := by rw [← p2s, show k - 1 + 1 = k from by omega]
 have e5 : (2 : Int) ^ k / 2 = 2 ^ (k - 1) := by rw [e4]; omega
 have e6 : (2 : Int) ^ (k - 1) * 2 ^ (32 - k) = 2147483648 := by rw [← p2add, show k - 1 + (32 - k) = 31 from by omega]; decide
 have h3 := Int.emod_nonneg a (by omega : (2 : Int) ^ k ≠ 0)
 have h4 := Int.emod_lt_of_pos a hp
 have h7 : 2 ^ k ≤ (4294967296 : Int) := by
  have : (2 : Int) ^ k * 1 ≤ 2 ^ k * 2 ^ (32 - k) := Int.mul_le_mul_of_nonneg_left (by omega) (by omega)
  omega
 unfold sextV
 rw [e3, e5]
 generalize a % 2 ^ k = x at *
 generalize (2 : Int) ^ (32 - k) = R at *
 by_cases g : 2 ^ (k - 1) ≤ x
 ·rw [if_pos g]
  have h5 : 2 ^ (k - 1) * R ≤ x * R := Int.mul_le_mul_of_nonneg_right g (Int.le_of_lt hq)
  have h6 : x * R ≤ (2 ^ k - 1) * R := Int.mul_le_mul_of_nonneg_right (by omega) (Int.le_of_lt hq)
  rw [Int.sub_mul, e] at h6
  have e8 : wrap32 (x * R) = (x - 2 ^ k) * R := by rw [Int.sub_mul, e]; unfold wrap32; omega
  rw [e8, Int.mul_ediv_cancel _ (by omega)]
  unfold wrap64; omega
 ·rw [if_neg g]
  have h5 : x * R ≤ (2 ^ (k - 1) - 1) * R := Int.mul_le_mul_of_nonneg_right (by omega) (Int.le_of_lt hq)
  have h6 : 0 ≤ x * R := Int.mul_nonneg h3 (Int.le_of_lt hq)
  rw [Int.sub_mul, e6] at h5
  have e8 : wrap32 (x * R) = x * R := by unfold wrap32; omega
  rw [e8, Int.mul_ediv_cancel _ (by omega)]
  unfold wrap64; omega
theorem p2_bd (k : Nat) (h : k ≤ 32) : (0 : Int) < 2 ^ k ∧ (2 : Int) ^ k ≤ 4294967296 := by
 have e := p2_32 k h
 have hq := p2 (32 - k)
 have : (2 : Int) ^ k * 1 ≤ 2 ^ k * 2 ^ (32 - k) := Int.mul_le_mul_of_nonneg_left (by omega) (Int.le_of_lt (p2 k))
 exact ⟨p2 k, by omega⟩
end Go.Proofs.YtgcknekhimpfkaaGreatDoor.Pl
namespace Go.Proofs.YtgcknekhimpfkaaGreatDoor
open Go Go.RowKit Go.Lib
set_option linter.unusedVariables false
theorem tke {P : Program} {md : Region.Mode} {ops : Array Oper} {Q : Exit → Act → World → Prop} {S : World → Prop} (i : Nat) {oi : Oper} {v : Value} {fuel : Nat} {listed : Array Bool} {a : Act} {w : World}
 (hy : ∀ w, S w → (execOp a.eval oi).run P w = .ok (.value v) w) (hS : S w)
 (h : wpAnyH P md ops Q S fuel (listed.setIfInBounds i true) (a.put oi.dst v) w)
 (hi : ops[i]? = some oi := by rfl) (hs : Region.noSelect ops = true := by kernel_rfl) (hf : Region.free md ops listed i = true := by kernel_rfl) (hr : (Region.ready md ops listed).contains i = true := by kernel_rfl)
 (hQ : ∀ c a w, Q (.panic c) (a.put oi.dst v) w → Q (.panic c) a w := by exact fun _ _ _ h => h) (hg : Region.wanted oi (yielded ops a.tmps) = true := by first | kernel_rfl | rfl) : wpAnyH P md ops Q S (fuel + 1) listed a w :=
 wpAnyH_take hi hs hf hr hQ (.inl ⟨hg, hy⟩) hS h
end Go.Proofs.YtgcknekhimpfkaaGreatDoor
