/- Contracts of word's Add, Sub, Mul, Div, Lsl, Asr, Ror, Sext. -/
import Derived.Test.YtnghhkageiceaaaDoorPlain
import Derived.Test.YtnghhkageiceaaaDoorPlainB
import Derived.Test.YtnghhkageiceaaaDoorProg
import Derived.WalkKit
import Derived.ProofKit
import Derived.Handy
import Derived.Lib.Hide
import Derived.OwnWalk
import Derived.Below
import Derived.WalkSpells
import Derived.WalkSmall
import Derived.Deep.QuietTactic
import Derived.BigQuiet
namespace Go.Proofs.YtnghhkageiceaaaDoor
open Go.RowKit Pl
set_option linter.unusedVariables false
theorem bit_any (b : Bool) (w : World) : Calls Tryd.prog 46 #[.bool b] w fun e w' => e = .returned (.int .u32 (cr b)) ∧ w = w' := by
  cases b <;> (go_enter Tryd.func46, Tryd.ntmps46; go_wp2; go_ret; exact ⟨rfl, rfl⟩)

theorem add32_any (a b c : Int) (ha : 0 ≤ a) (ha' : a < 4294967296) (hb : 0 ≤ b) (hb' : b < 4294967296) (hc : 0 ≤ c) (hc' : c < 4294967296) (w : World) :
    Calls Tryd.prog 45 #[.int .u32 a, .int .u32 b, .int .u32 c] w fun e w' => e = .returned (.tuple #[.int .u32 ((a + b + c) % 4294967296), .int .u32 ((a + b + c) / 4294967296)]) ∧ w = w' := by
  go_enter Tryd.func45, Tryd.ntmps45
  go_wp2
  go_ret2
  exact ⟨rfl, rfl⟩

theorem sub32_any (a b c : Int) (ha : 0 ≤ a) (ha' : a < 4294967296) (hb : 0 ≤ b) (hb' : b < 4294967296) (hc : 0 ≤ c) (hc' : c ≤ 1) (w : World) :
    Calls Tryd.prog 47 #[.int .u32 a, .int .u32 b, .int .u32 c] w fun e w' => e = .returned (.tuple #[.int .u32 ((a - b - c) % 4294967296), .int .u32 (cr (decide (a - b - c < 0)))]) ∧ w = w' := by
  go_enter Tryd.func47, Tryd.ntmps47
  go_wp2
  go_ret2
  refine ⟨?_, rfl⟩
  rw [← borrow a b c ha ha' hb hb' hc hc']
  rfl

theorem add_any (a b : Int) (c : Bool) (ha : 0 ≤ a) (ha' : a < 4294967296) (hb : 0 ≤ b) (hb' : b < 4294967296) (w : World) :
    Calls Tryd.prog 33 #[.int .u32 a, .int .u32 b, .bool c] w fun e w' => e = .returned (.tuple #[.int .u32 (addS a b c), .bool (addC a b c), .bool (addV a b c)]) ∧ w = w' := by
  have hcr := cr_bd c
  go_enter Tryd.func33, Tryd.ntmps33
  go_wp2_with fail
  refine (bit_any c _).mono ?_
  rintro e w' ⟨rfl, rfl⟩
  go_wp2_with fail
  refine (add32_any a b (cr c) ha ha' hb hb' hcr.1 (by omega) _).mono ?_
  rintro e w' ⟨rfl, rfl⟩
  go_wp2_with fail
  go_ret3
  refine ⟨?_, rfl⟩
  rw [← over_add a b c ha ha' hb hb', ← carry_add a b c ha ha' hb hb']
  rfl

theorem sub_any (a b : Int) (c : Bool) (ha : 0 ≤ a) (ha' : a < 4294967296) (hb : 0 ≤ b) (hb' : b < 4294967296) (w : World) :
    Calls Tryd.prog 34 #[.int .u32 a, .int .u32 b, .bool c] w fun e w' => e = .returned (.tuple #[.int .u32 (subS a b c), .bool (subC a b c), .bool (subV a b c)]) ∧ w = w' := by
  have hcr := cr_bd c
  go_enter Tryd.func34, Tryd.ntmps34
  go_wp2_with fail
  refine (bit_any c _).mono ?_
  rintro e w' ⟨rfl, rfl⟩
  go_wp2_with fail
  refine (sub32_any a b (cr c) ha ha' hb hb' hcr.1 hcr.2 _).mono ?_
  rintro e w' ⟨rfl, rfl⟩
  go_wp2_with fail
  go_ret3
  refine ⟨?_, rfl⟩
  rw [← over_sub a b c ha ha' hb hb', show subC a b c = (cr (decide (a - b - cr c < 0)) == 1) from (cr_one _).symm]
  rfl

theorem mul_u (a b : Int) (ha : 0 ≤ a) (ha' : a < 4294967296) (hb : 0 ≤ b) (hb' : b < 4294967296) (w : World) :
    Calls Tryd.prog 35 #[.int .u32 a, .int .u32 b, .bool true] w fun e w' => e = .returned (.tuple #[.int .u32 (mulL a b true), .int .u32 (mulH a b true)]) ∧ w = w' := by
  have hp := prod_bound a b ha (by omega) hb (by omega)
  go_enter Tryd.func35, Tryd.ntmps35
  go_wp2_with fail
  go_ret2
  exact ⟨tup2 (mulL_u a b) (mulH_u a b hp), rfl⟩
theorem mul_s (a b : Int) (ha : 0 ≤ a) (ha' : a < 4294967296) (hb : 0 ≤ b) (hb' : b < 4294967296) (w : World) :
    Calls Tryd.prog 35 #[.int .u32 a, .int .u32 b, .bool false] w fun e w' => e = .returned (.tuple #[.int .u32 (mulL a b false), .int .u32 (mulH a b false)]) ∧ w = w' := by
  have hp := prod_bound a b ha (by omega) hb (by omega)
  have hs := sprod_bound a b
  have h1 := wrap32_bd a
  have h2 := wrap32_bd b
  go_enter Tryd.func35, Tryd.ntmps35
  go_wp2_with fail
  go_ret2
  exact ⟨tup2 (mulL_s a b _ _ (wrap32_sg a ha ha') (wrap32_sg b hb hb')) (mulH_s a b _ _ (wrap32_sg a ha ha') (wrap32_sg b hb hb')), rfl⟩
theorem mul_any (a b : Int) (u : Bool) (ha : 0 ≤ a) (ha' : a < 4294967296) (hb : 0 ≤ b) (hb' : b < 4294967296) (w : World) :
    Calls Tryd.prog 35 #[.int .u32 a, .int .u32 b, .bool u] w fun e w' => e = .returned (.tuple #[.int .u32 (mulL a b u), .int .u32 (mulH a b u)]) ∧ w = w' := by
  cases u
  · exact mul_s a b ha ha' hb hb' w
  · exact mul_u a b ha ha' hb hb' w
theorem div_no (a b : Int) (ha : 0 ≤ a) (ha' : a < 4294967296) (hb : 0 ≤ b) (hb' : b < 4294967296) (h : sg b ≤ 0) (w : World) :
    Calls Tryd.prog 36 #[.int .u32 a, .int .u32 b] w fun e w' => e = .returned (.tuple #[.int .u32 (divQ a b), .int .u32 (divR a b), .bool (divOk b)]) ∧ ∃ n, w' = w.drewN n := by
  have hz : wrap32 b ≤ 0 := by rw [wrap32_sg b hb hb']; exact h
  have e1 : Hid (0 = divQ a b) := by unfold Hid divQ; rw [if_pos h]
  have e2 : Hid (0 = divR a b) := by unfold Hid divR; rw [if_pos h]
  have e3 : Hid (false = divOk b) := by unfold Hid divOk; rw [decide_eq_true h]; rfl
  clear h
  go_enter Tryd.func36, Tryd.ntmps36
  go_wp2_with fail
  go_ret3
  exact ⟨tup3 e1.out e2.out e3.out, 0, rfl⟩
theorem div_yes (a b : Int) (ha : 0 ≤ a) (ha' : a < 4294967296) (hb : 0 ≤ b) (hb' : b < 4294967296) (h : 0 < sg b) (w : World) :
    Calls Tryd.prog 36 #[.int .u32 a, .int .u32 b] w fun e w' => e = .returned (.tuple #[.int .u32 (divQ a b), .int .u32 (divR a b), .bool (divOk b)]) ∧ ∃ n, w' = w.drewN n := by
  have hz : 0 < wrap32 b := by rw [wrap32_sg b hb hb']; exact h
  have h1 := wrap32_bd a
  have h2 := wrap32_bd b
  clear h
  go_enter Tryd.func36, Tryd.ntmps36
  go_wp2_with fail
  go_quiet (fail)
  go_wp2_with fail
  · have hr : (wrap32 a).tmod (wrap32 b) < 0 := by assumption
    go_ret3
    exact ⟨tup3 (divQ_neg a b _ _ (wrap32_sg a ha ha') (wrap32_sg b hb hb') hz hr) (divR_neg a b _ _ (wrap32_sg a ha ha') (wrap32_sg b hb hb') hz h2.2 hr) (divOk_yes b _ (wrap32_sg b hb hb') hz), _, rfl⟩
  · have hr : 0 ≤ (wrap32 a).tmod (wrap32 b) := by assumption
    go_ret3
    exact ⟨tup3 (divQ_pos a b _ _ (wrap32_sg a ha ha') (wrap32_sg b hb hb') hz hr) (divR_pos a b _ _ (wrap32_sg a ha ha') (wrap32_sg b hb hb') hz h2.2 hr) (divOk_yes b _ (wrap32_sg b hb hb') hz), _, rfl⟩
theorem div_any (a b : Int) (ha : 0 ≤ a) (ha' : a < 4294967296) (hb : 0 ≤ b) (hb' : b < 4294967296) (w : World) :
    Calls Tryd.prog 36 #[.int .u32 a, .int .u32 b] w fun e w' => e = .returned (.tuple #[.int .u32 (divQ a b), .int .u32 (divR a b), .bool (divOk b)]) ∧ ∃ n, w' = w.drewN n := by
  by_cases h : sg b ≤ 0
  · exact div_no a b ha ha' hb hb' h w
  · exact div_yes a b ha ha' hb hb' (by omega) w

theorem lsl_any (a n : Int) (ha : 0 ≤ a) (ha' : a < 4294967296) (hn : 0 ≤ n) (hn' : n < 4294967296) (w : World) :
    Calls Tryd.prog 30 #[.int .u32 a, .int .u32 n] w fun e w' => e = .returned (.int .u32 (lslV a (n % 32).toNat)) ∧ w = w' := by
  go_enter Tryd.func30, Tryd.ntmps30
  go_wp2_with fail
  go_ret
  exact ⟨rfl, rfl⟩
theorem asr_any (a n : Int) (ha : 0 ≤ a) (ha' : a < 4294967296) (hn : 0 ≤ n) (hn' : n < 4294967296) (w : World) :
    Calls Tryd.prog 31 #[.int .u32 a, .int .u32 n] w fun e w' => e = .returned (.int .u32 (asrV a (n % 32).toNat)) ∧ w = w' := by
  have := wrap32_bd a
  go_enter Tryd.func31, Tryd.ntmps31
  go_wp2_with fail
  go_ret
  refine ⟨one1 ?_, rfl⟩
  unfold asrV
  rw [← wrap32_sg a ha ha']
theorem rotl_any (a k s : Int) (ha : 0 ≤ a) (ha' : a < 4294967296) (hs : 0 ≤ s) (hs' : s < 32) (h : Hid (bits .and .u64 (IntKind.u64.wrap k) 31 = s)) (w : World) :
    Calls Tryd.prog 44 #[.int .u32 a, .int .i64 k] w fun e w' => e = .returned (.int .u32 (bits .or .u32 (a * 2 ^ s.toNat % 4294967296) (a / 2 ^ (32 - s).toNat))) ∧ w = w' := by
  have h := h.out
  go_enter Tryd.func44, Tryd.ntmps44
  go_wp2_with fail
  go_ret
  exact ⟨rfl, rfl⟩
theorem ror_any (a n : Int) (ha : 0 ≤ a) (ha' : a < 4294967296) (hn : 0 ≤ n) (hn' : n < 4294967296) (w : World) :
    Calls Tryd.prog 32 #[.int .u32 a, .int .u32 n] w fun e w' => e = .returned (.int .u32 (rorV a (n % 32).toNat)) ∧ w = w' := by
  have hb : 0 ≤ n % 32 ∧ n % 32 < 32 := by omega
  have hfin : Hid (bits .or .u32 (a * 2 ^ ((32 - n % 32) % 32).toNat % 4294967296) (a / 2 ^ (32 - (32 - n % 32) % 32).toNat) = rorV a (n % 32).toNat) := by
    unfold Hid
    by_cases hz : n % 32 = 0
    · rw [hz]
      have := ror_join a 32 (by omega) ha ha'
      rw [rorV_all a ha ha'] at this
      have h0 : rorV a 0 = a := rorV_zero a
      rw [show ((0 : Int)).toNat = 0 from rfl, h0]
      exact this
    · have := ror_join a (n % 32).toNat (by omega) ha ha'
      rw [show ((32 - n % 32) % 32).toNat = 32 - (n % 32).toNat from by omega, show (32 - (32 - n % 32) % 32).toNat = (n % 32).toNat from by omega]
      exact this
  go_enter Tryd.func32, Tryd.ntmps32
  go_wp2_with fail
  refine (rotl_any a _ ((32 - n % 32) % 32) ha ha' (by omega) (by omega) (turn_at _ hb.1 hb.2) _).mono ?_
  rintro e w' ⟨rfl, rfl⟩
  rw [hfin.out]
  go_wp2_with fail
  go_ret
  exact ⟨rfl, rfl⟩
theorem sext_yes (a n : Int) (ha : 0 ≤ a) (ha' : a < 4294967296) (hn : 1 ≤ n) (hn' : n ≤ 32) (w : World) :
    Calls Tryd.prog 22 #[.int .u32 a, .int .i64 n] w fun e w' => e = .returned (.int .i64 (sextV a n.toNat)) ∧ w = w' := by
  go_enter Tryd.func22, Tryd.ntmps22
  go_wp2_with fail
  go_ret
  refine ⟨one1 ?_, rfl⟩
  rw [← sext_go a n.toNat (by omega) (by omega) ha, show 32 - n.toNat = (32 - n).toNat from by omega]
theorem sext_no (a n : Int) (hn : n < 1 ∨ 32 < n) (w : World) :
    Calls Tryd.prog 22 #[.int .u32 a, .int .i64 n] w fun e w' => e = .returned (.int .i64 0) ∧ w = w' := by
  rcases hn with hn | hn
  · go_enter Tryd.func22, Tryd.ntmps22
    go_wp2_with fail
    go_ret
    exact ⟨rfl, rfl⟩
  · have : ¬ n < 1 := by omega
    go_enter Tryd.func22, Tryd.ntmps22
    go_wp2_with fail
    go_ret
    exact ⟨rfl, rfl⟩

theorem sext_any (a n : Int) (ha : 0 ≤ a) (ha' : a < 4294967296) (w : World) :
    Calls Tryd.prog 22 #[.int .u32 a, .int .i64 n] w fun e w' => e = .returned (.int .i64 (sextA a n)) ∧ w = w' := by
  unfold sextA
  by_cases h : n < 1 ∨ 32 < n
  · rw [if_pos h]; exact sext_no a n h w
  · rw [if_neg h]; exact sext_yes a n ha ha' (by omega) (by omega) w
end Go.Proofs.YtnghhkageiceaaaDoor
