/- Contracts of word.Add, word.Sub and of the document's Add, Sub: each gives the sum, the carry, the overflow as the plain text has them. No condition but that the words are words. -/
import Derived.Test.YtefaennifhmadaaPlain
import Derived.Test.YtefaennifhmadaaRows
import Derived.WalkKit
import Derived.ProofKit
import Derived.Handy
namespace Go.Proofs.Ytefaennifhmadaa
open Go.RowKit Pl
set_option linter.unusedVariables false

theorem bit_any (b : Bool) (w : World) : Calls Try.prog 38 #[.bool b] w fun e w' => e = .returned (.int .u32 (cr b)) ∧ w = w' := by
  cases b <;> (go_enter Try.func38, Try.ntmps38; go_wp2; go_ret; exact ⟨rfl, rfl⟩)

theorem add32_any (a b c : Int) (ha : 0 ≤ a) (ha' : a < 4294967296) (hb : 0 ≤ b) (hb' : b < 4294967296) (hc : 0 ≤ c) (hc' : c < 4294967296) (w : World) :
    Calls Try.prog 37 #[.int .u32 a, .int .u32 b, .int .u32 c] w fun e w' => e = .returned (.tuple #[.int .u32 ((a + b + c) % 4294967296), .int .u32 ((a + b + c) / 4294967296)]) ∧ w = w' := by
  go_enter Try.func37, Try.ntmps37
  go_wp2
  go_ret2
  exact ⟨rfl, rfl⟩

theorem sub32_any (a b c : Int) (ha : 0 ≤ a) (ha' : a < 4294967296) (hb : 0 ≤ b) (hb' : b < 4294967296) (hc : 0 ≤ c) (hc' : c ≤ 1) (w : World) :
    Calls Try.prog 42 #[.int .u32 a, .int .u32 b, .int .u32 c] w fun e w' => e = .returned (.tuple #[.int .u32 ((a - b - c) % 4294967296), .int .u32 (cr (decide (a - b - c < 0)))]) ∧ w = w' := by
  go_enter Try.func42, Try.ntmps42
  go_wp2
  go_ret2
  refine ⟨?_, rfl⟩
  rw [← borrow a b c ha ha' hb hb' hc hc']
  rfl

theorem add_any (a b : Int) (c : Bool) (ha : 0 ≤ a) (ha' : a < 4294967296) (hb : 0 ≤ b) (hb' : b < 4294967296) (w : World) :
    Calls Try.prog 13 #[.int .u32 a, .int .u32 b, .bool c] w fun e w' => e = .returned (.tuple #[.int .u32 (addS a b c), .bool (addC a b c), .bool (addV a b c)]) ∧ w = w' := by
  have hcr := cr_bd c
  go_enter Try.func13, Try.ntmps13
  go_wp2_with fail
  refine (bit_any c _).mono ?_
  rintro e w' ⟨rfl, rfl⟩
  go_wp2_with fail
  refine (add32_any a b (cr c) ha ha' hb hb' hcr.1 (by omega) _).mono ?_
  rintro e w' ⟨rfl, rfl⟩
  go_wp2_with fail
  go_ret3
  refine ⟨?_, rfl⟩
  rw [← over_add a b c ha ha' hb hb', ← carry_add a b c ha ha' hb hb']
  rfl

theorem sub_any (a b : Int) (c : Bool) (ha : 0 ≤ a) (ha' : a < 4294967296) (hb : 0 ≤ b) (hb' : b < 4294967296) (w : World) :
    Calls Try.prog 15 #[.int .u32 a, .int .u32 b, .bool c] w fun e w' => e = .returned (.tuple #[.int .u32 (subS a b c), .bool (subC a b c), .bool (subV a b c)]) ∧ w = w' := by
  have hcr := cr_bd c
  go_enter Try.func15, Try.ntmps15
  go_wp2_with fail
  refine (bit_any c _).mono ?_
  rintro e w' ⟨rfl, rfl⟩
  go_wp2_with fail
  refine (sub32_any a b (cr c) ha ha' hb hb' hcr.1 hcr.2 _).mono ?_
  rintro e w' ⟨rfl, rfl⟩
  go_wp2_with fail
  go_ret3
  refine ⟨?_, rfl⟩
  rw [← over_sub a b c ha ha' hb hb', show subC a b c = (cr (decide (a - b - cr c < 0)) == 1) from (cr_one _).symm]
  rfl

/-! The document's. -/
theorem one_any (b : Bool) (w : World) : Calls Try.prog 39 #[.bool b] w fun e w' => e = .returned (.int .i64 (cr b)) ∧ w = w' := by
  cases b <;> (go_enter Try.func39, Try.ntmps39; go_wp2; go_ret; exact ⟨rfl, rfl⟩)
theorem signed_any (a : Int) (ha : 0 ≤ a) (ha' : a < 4294967296) (w : World) : Calls Try.prog 40 #[.int .u32 a] w fun e w' => e = .returned (.int .i64 (sg a)) ∧ w = w' := by
  by_cases h : 2147483648 ≤ a
  · have H : Hid (sg a = a - 4294967296) := by unfold Hid sg; rw [if_neg (by omega)]
    go_enter Try.func40, Try.ntmps40; go_wp2; go_ret; exact ⟨by rw [H.out]; rfl, rfl⟩
  · have H : Hid (sg a = a) := by unfold Hid sg; rw [if_pos (by omega)]
    go_enter Try.func40, Try.ntmps40; go_wp2; go_ret; exact ⟨by rw [H.out]; rfl, rfl⟩
theorem leaves_any (s : Int) (w : World) : Calls Try.prog 41 #[.int .i64 s] w fun e w' => e = .returned (.bool (out32 s)) ∧ w = w' := by
  by_cases h : s < -2147483648
  · have H : Hid (out32 s = true) := by unfold Hid out32; simp; omega
    go_enter Try.func41, Try.ntmps41; go_wp2; go_ret; exact ⟨by rw [H.out]; rfl, rfl⟩
  · by_cases h2 : 2147483647 < s
    · have H : Hid (out32 s = true) := by unfold Hid out32; simp; omega
      go_enter Try.func41, Try.ntmps41; go_wp2; go_ret; exact ⟨by rw [H.out]; first | rfl | simp [h2], rfl⟩
    · have H : Hid (out32 s = false) := by unfold Hid out32; simp; omega
      go_enter Try.func41, Try.ntmps41; go_wp2; go_ret; exact ⟨by rw [H.out]; first | rfl | simp [h2], rfl⟩
theorem radd_any (a b : Int) (c : Bool) (ha : 0 ≤ a) (ha' : a < 4294967296) (hb : 0 ≤ b) (hb' : b < 4294967296) (w : World) :
    Calls Try.prog 14 #[.int .u32 a, .int .u32 b, .bool c] w fun e w' => e = .returned (.tuple #[.int .u32 (addS a b c), .bool (addC a b c), .bool (addV a b c)]) ∧ w = w' := by
  have hcr := cr_bd c
  have hsa := sg_bd a ha ha'
  have hsb := sg_bd b hb hb'
  go_enter Try.func14, Try.ntmps14
  go_wp2_with (first | (go_at_call 39; refine (one_any _ _).mono ?_; rintro e w' ⟨rfl, rfl⟩) | (go_at_call 40; refine (signed_any _ (by assumption) (by assumption) _).mono ?_; rintro e w' ⟨rfl, rfl⟩) | (go_at_call 41; refine (leaves_any _ _).mono ?_; rintro e w' ⟨rfl, rfl⟩))
  go_ret3
  exact ⟨rfl, rfl⟩

theorem rsub_any (a b : Int) (c : Bool) (ha : 0 ≤ a) (ha' : a < 4294967296) (hb : 0 ≤ b) (hb' : b < 4294967296) (w : World) :
    Calls Try.prog 16 #[.int .u32 a, .int .u32 b, .bool c] w fun e w' => e = .returned (.tuple #[.int .u32 (subS a b c), .bool (subC a b c), .bool (subV a b c)]) ∧ w = w' := by
  have hcr := cr_bd c
  have hsa := sg_bd a ha ha'
  have hsb := sg_bd b hb hb'
  by_cases hn : a - b - cr c < 0
  · have H : Hid (subS a b c = a - b - cr c + 4294967296) := by unfold Hid subS; omega
    go_enter Try.func16, Try.ntmps16
    go_wp2_with (first | (go_at_call 39; refine (one_any _ _).mono ?_; rintro e w' ⟨rfl, rfl⟩) | (go_at_call 40; refine (signed_any _ (by assumption) (by assumption) _).mono ?_; rintro e w' ⟨rfl, rfl⟩) | (go_at_call 41; refine (leaves_any _ _).mono ?_; rintro e w' ⟨rfl, rfl⟩))
    go_ret3
    exact ⟨by rw [H.out]; simp [subC, subV, hn], rfl⟩
  · have H : Hid (subS a b c = a - b - cr c) := by unfold Hid subS; omega
    go_enter Try.func16, Try.ntmps16
    go_wp2_with (first | (go_at_call 39; refine (one_any _ _).mono ?_; rintro e w' ⟨rfl, rfl⟩) | (go_at_call 40; refine (signed_any _ (by assumption) (by assumption) _).mono ?_; rintro e w' ⟨rfl, rfl⟩) | (go_at_call 41; refine (leaves_any _ _).mono ?_; rintro e w' ⟨rfl, rfl⟩))
    go_ret3
    exact ⟨by rw [H.out]; simp [subC, subV], rfl⟩

theorem shown_any (w : World) : Calls Try.prog 10 #[] w fun e w' => e = .returned (.bool true) ∧ w = w' := by
  have h1 : Hid (addS 4294967295 1 false = 0) := by unfold Hid; decide +kernel
  have h2 : Hid (addC 4294967295 1 false = true) := by unfold Hid; decide +kernel
  have h3 : Hid (addV 4294967295 1 false = false) := by unfold Hid; decide +kernel
  go_enter Try.func10, Try.ntmps10
  go_wp2_with fail
  refine (add_any 4294967295 1 false (by omega) (by omega) (by omega) (by omega) _).mono ?_
  rintro e w' ⟨rfl, rfl⟩
  rw [h1.out, h2.out, h3.out]
  go_wp2_with fail
  go_ret
  exact ⟨rfl, rfl⟩

theorem sums_walk (a0 a1 : Int) (a2 : Bool) (w0 : (Lit.int .u32 a0).wf = true) (w1 : (Lit.int .u32 a1).wf = true) (w : World) :
    Calls Try.prog 4 #[.int .u32 a0, .int .u32 a1, .bool a2] w fun e w' => e = .returned (.bool true) ∧ Grown w w' := by
  have b0 := bounds_u32 w0
  have b1 := bounds_u32 w1
  go_enter Try.func4, Try.ntmps4
  go_wp2_with (first | (go_at_call 10; refine (shown_any _).mono ?_; rintro e w' ⟨rfl, rfl⟩) | (go_at_call 13; refine (add_any _ _ _ (by omega) (by omega) (by omega) (by omega) _).mono ?_; rintro e w' ⟨rfl, rfl⟩) | (go_at_call 14; refine (radd_any _ _ _ (by omega) (by omega) (by omega) (by omega) _).mono ?_; rintro e w' ⟨rfl, rfl⟩) | (go_at_call 15; refine (sub_any _ _ _ (by omega) (by omega) (by omega) (by omega) _).mono ?_; rintro e w' ⟨rfl, rfl⟩) | (go_at_call 16; refine (rsub_any _ _ _ (by omega) (by omega) (by omega) (by omega) _).mono ?_; rintro e w' ⟨rfl, rfl⟩))
  go_ret
  exact ⟨rfl, Grown.refl _⟩
end Go.Proofs.Ytefaennifhmadaa
