/- Contracts of word.Mul, word.Div and of the document's. -/
import Derived.Test.YtefaennifhmadaaWordA
import Derived.Deep.QuietTactic
import Derived.BigQuiet
namespace Go.Proofs.Ytefaennifhmadaa
open Go.RowKit Pl
set_option linter.unusedVariables false

theorem grown_drewN {a w : World} (h : Grown a w) (n : Nat) : Grown a (w.drewN n) := ⟨h.1, h.2.1, h.2.2⟩
theorem mul_u (a b : Int) (ha : 0 ≤ a) (ha' : a < 4294967296) (hb : 0 ≤ b) (hb' : b < 4294967296) (w : World) :
    Calls Try.prog 25 #[.int .u32 a, .int .u32 b, .bool true] w fun e w' => e = .returned (.tuple #[.int .u32 (mulL a b true), .int .u32 (mulH a b true)]) ∧ w = w' := by
  have hp := prod_bound a b ha (by omega) hb (by omega)
  go_enter Try.func25, Try.ntmps25
  go_wp2_with fail
  go_ret2
  exact ⟨tup2 (mulL_u a b) (mulH_u a b hp), rfl⟩
theorem mul_s (a b : Int) (ha : 0 ≤ a) (ha' : a < 4294967296) (hb : 0 ≤ b) (hb' : b < 4294967296) (w : World) :
    Calls Try.prog 25 #[.int .u32 a, .int .u32 b, .bool false] w fun e w' => e = .returned (.tuple #[.int .u32 (mulL a b false), .int .u32 (mulH a b false)]) ∧ w = w' := by
  have hp := prod_bound a b ha (by omega) hb (by omega)
  have hs := sprod_bound a b
  have h1 := wrap32_bd a
  have h2 := wrap32_bd b
  go_enter Try.func25, Try.ntmps25
  go_wp2_with fail
  go_ret2
  exact ⟨tup2 (mulL_s a b _ _ (wrap32_sg a ha ha') (wrap32_sg b hb hb')) (mulH_s a b _ _ (wrap32_sg a ha ha') (wrap32_sg b hb hb')), rfl⟩
theorem mul_any (a b : Int) (u : Bool) (ha : 0 ≤ a) (ha' : a < 4294967296) (hb : 0 ≤ b) (hb' : b < 4294967296) (w : World) :
    Calls Try.prog 25 #[.int .u32 a, .int .u32 b, .bool u] w fun e w' => e = .returned (.tuple #[.int .u32 (mulL a b u), .int .u32 (mulH a b u)]) ∧ w = w' := by
  cases u
  · exact mul_s a b ha ha' hb hb' w
  · exact mul_u a b ha ha' hb hb' w
theorem rmul_u (a b : Int) (ha : 0 ≤ a) (ha' : a < 4294967296) (hb : 0 ≤ b) (hb' : b < 4294967296) (w : World) :
    Calls Try.prog 26 #[.int .u32 a, .int .u32 b, .bool true] w fun e w' => e = .returned (.tuple #[.int .u32 (mulL a b true), .int .u32 (mulH a b true)]) ∧ w = w' := by
  have hp := prod_bound a b ha (by omega) hb (by omega)
  go_enter Try.func26, Try.ntmps26
  go_wp2_with fail
  go_ret2
  exact ⟨tup2 (mulL_u a b) (mulH_u a b hp), rfl⟩
theorem rmul_s (a b : Int) (ha : 0 ≤ a) (ha' : a < 4294967296) (hb : 0 ≤ b) (hb' : b < 4294967296) (w : World) :
    Calls Try.prog 26 #[.int .u32 a, .int .u32 b, .bool false] w fun e w' => e = .returned (.tuple #[.int .u32 (mulL a b false), .int .u32 (mulH a b false)]) ∧ w = w' := by
  have hp := prod_bound a b ha (by omega) hb (by omega)
  have hs := sprod_bound a b
  rw [wrap32_sg a ha ha', wrap32_sg b hb hb'] at hs
  go_enter Try.func26, Try.ntmps26
  go_wp2_with (first | (go_at_call 40; refine (signed_any _ (by assumption) (by assumption) _).mono ?_; rintro e w' ⟨rfl, rfl⟩))
  go_ret2
  exact ⟨tup2 (mulL_t a b) (mulH_s a b _ _ rfl rfl), rfl⟩
theorem rmul_any (a b : Int) (u : Bool) (ha : 0 ≤ a) (ha' : a < 4294967296) (hb : 0 ≤ b) (hb' : b < 4294967296) (w : World) :
    Calls Try.prog 26 #[.int .u32 a, .int .u32 b, .bool u] w fun e w' => e = .returned (.tuple #[.int .u32 (mulL a b u), .int .u32 (mulH a b u)]) ∧ w = w' := by
  cases u
  · exact rmul_s a b ha ha' hb hb' w
  · exact rmul_u a b ha ha' hb hb' w

theorem div_no (a b : Int) (ha : 0 ≤ a) (ha' : a < 4294967296) (hb : 0 ≤ b) (hb' : b < 4294967296) (h : sg b ≤ 0) (w : World) :
    Calls Try.prog 27 #[.int .u32 a, .int .u32 b] w fun e w' => e = .returned (.tuple #[.int .u32 (divQ a b), .int .u32 (divR a b), .bool (divOk b)]) ∧ ∃ n, w' = w.drewN n := by
  have hz : wrap32 b ≤ 0 := by rw [wrap32_sg b hb hb']; exact h
  have e1 : Hid (0 = divQ a b) := by unfold Hid divQ; rw [if_pos h]
  have e2 : Hid (0 = divR a b) := by unfold Hid divR; rw [if_pos h]
  have e3 : Hid (false = divOk b) := by unfold Hid divOk; rw [decide_eq_true h]; rfl
  clear h
  go_enter Try.func27, Try.ntmps27
  go_wp2_with fail
  go_ret3
  exact ⟨tup3 e1.out e2.out e3.out, 0, rfl⟩
theorem div_yes (a b : Int) (ha : 0 ≤ a) (ha' : a < 4294967296) (hb : 0 ≤ b) (hb' : b < 4294967296) (h : 0 < sg b) (w : World) :
    Calls Try.prog 27 #[.int .u32 a, .int .u32 b] w fun e w' => e = .returned (.tuple #[.int .u32 (divQ a b), .int .u32 (divR a b), .bool (divOk b)]) ∧ ∃ n, w' = w.drewN n := by
  have hz : 0 < wrap32 b := by rw [wrap32_sg b hb hb']; exact h
  have h1 := wrap32_bd a
  have h2 := wrap32_bd b
  clear h
  go_enter Try.func27, Try.ntmps27
  go_wp2_with fail
  go_quiet (fail)
  go_wp2_with fail
  · have hr : (wrap32 a).tmod (wrap32 b) < 0 := by assumption
    go_ret3
    exact ⟨tup3 (divQ_neg a b _ _ (wrap32_sg a ha ha') (wrap32_sg b hb hb') hz hr) (divR_neg a b _ _ (wrap32_sg a ha ha') (wrap32_sg b hb hb') hz h2.2 hr) (divOk_yes b _ (wrap32_sg b hb hb') hz), _, rfl⟩
  · have hr : 0 ≤ (wrap32 a).tmod (wrap32 b) := by assumption
    go_ret3
    exact ⟨tup3 (divQ_pos a b _ _ (wrap32_sg a ha ha') (wrap32_sg b hb hb') hz hr) (divR_pos a b _ _ (wrap32_sg a ha ha') (wrap32_sg b hb hb') hz h2.2 hr) (divOk_yes b _ (wrap32_sg b hb hb') hz), _, rfl⟩
theorem div_any (a b : Int) (ha : 0 ≤ a) (ha' : a < 4294967296) (hb : 0 ≤ b) (hb' : b < 4294967296) (w : World) :
    Calls Try.prog 27 #[.int .u32 a, .int .u32 b] w fun e w' => e = .returned (.tuple #[.int .u32 (divQ a b), .int .u32 (divR a b), .bool (divOk b)]) ∧ ∃ n, w' = w.drewN n := by
  by_cases h : sg b ≤ 0
  · exact div_no a b ha ha' hb hb' h w
  · exact div_yes a b ha ha' hb hb' (by omega) w

theorem rdiv_no (a b : Int) (ha : 0 ≤ a) (ha' : a < 4294967296) (hb : 0 ≤ b) (hb' : b < 4294967296) (h : sg b ≤ 0) (w : World) :
    Calls Try.prog 28 #[.int .u32 a, .int .u32 b] w fun e w' => e = .returned (.tuple #[.int .u32 (divQ a b), .int .u32 (divR a b), .bool (divOk b)]) ∧ w = w' := by
  have e1 : Hid (0 = divQ a b) := by unfold Hid divQ; rw [if_pos h]
  have e2 : Hid (0 = divR a b) := by unfold Hid divR; rw [if_pos h]
  have e3 : Hid (false = divOk b) := by unfold Hid divOk; rw [decide_eq_true h]; rfl
  go_enter Try.func28, Try.ntmps28
  go_wp2_with (first | (go_at_call 40; refine (signed_any _ (by assumption) (by assumption) _).mono ?_; rintro e w' ⟨rfl, rfl⟩))
  go_ret3
  exact ⟨tup3 e1.out e2.out e3.out, rfl⟩
theorem rdiv_yes (a b : Int) (ha : 0 ≤ a) (ha' : a < 4294967296) (hb : 0 ≤ b) (hb' : b < 4294967296) (h : 0 < sg b) (w : World) :
    Calls Try.prog 28 #[.int .u32 a, .int .u32 b] w fun e w' => e = .returned (.tuple #[.int .u32 (divQ a b), .int .u32 (divR a b), .bool (divOk b)]) ∧ w = w' := by
  have h1 := sg_bd a ha ha'
  have h2 := sg_bd b hb hb'
  have h3 := tdiv_bd (sg a) (sg b) h1 h
  have h4 := tdivmul_bd (sg a) (sg b) h1 h h2.2
  have h5 := tdivmul_near (sg a) (sg b) h
  go_enter Try.func28, Try.ntmps28
  go_wp2_with (first | (go_at_call 40; refine (signed_any _ (by assumption) (by assumption) _).mono ?_; rintro e w' ⟨rfl, rfl⟩))
  · have hr : sg a < (sg a).tdiv (sg b) * sg b := by assumption
    go_ret3
    exact ⟨tup3 (rdivQ_neg a b h hr) (rdivR_neg a b h hr) (divOk_yes b _ rfl h), rfl⟩
  · have hr : (sg a).tdiv (sg b) * sg b ≤ sg a := by assumption
    go_ret3
    exact ⟨tup3 (rdivQ_pos a b h hr) (rdivR_pos a b h hr) (divOk_yes b _ rfl h), rfl⟩
theorem rdiv_any (a b : Int) (ha : 0 ≤ a) (ha' : a < 4294967296) (hb : 0 ≤ b) (hb' : b < 4294967296) (w : World) :
    Calls Try.prog 28 #[.int .u32 a, .int .u32 b] w fun e w' => e = .returned (.tuple #[.int .u32 (divQ a b), .int .u32 (divR a b), .bool (divOk b)]) ∧ w = w' := by
  by_cases h : sg b ≤ 0
  · exact rdiv_no a b ha ha' hb hb' h w
  · exact rdiv_yes a b ha ha' hb hb' (by omega) w

theorem products_walk (a0 a1 : Int) (w0 : (Lit.int .u32 a0).wf = true) (w1 : (Lit.int .u32 a1).wf = true) (w : World) :
    Calls Try.prog 6 #[.int .u32 a0, .int .u32 a1] w fun e w' => e = .returned (.bool true) ∧ Grown w w' := by
  have b0 := bounds_u32 w0
  have b1 := bounds_u32 w1
  go_enter Try.func6, Try.ntmps6
  go_wp2_with (first | (go_at_call 10; refine (shown_any _).mono ?_; rintro e w' ⟨rfl, rfl⟩) | (go_at_call 25; refine (mul_any _ _ _ (by omega) (by omega) (by omega) (by omega) _).mono ?_; rintro e w' ⟨rfl, rfl⟩) | (go_at_call 26; refine (rmul_any _ _ _ (by omega) (by omega) (by omega) (by omega) _).mono ?_; rintro e w' ⟨rfl, rfl⟩) | (go_at_call 27; refine (div_any _ _ (by omega) (by omega) (by omega) (by omega) _).mono ?_; rintro e w' ⟨rfl, n, rfl⟩) | (go_at_call 28; refine (rdiv_any _ _ (by omega) (by omega) (by omega) (by omega) _).mono ?_; rintro e w' ⟨rfl, rfl⟩))
  go_ret
  exact ⟨rfl, grown_drewN (Grown.refl _) _⟩
end Go.Proofs.Ytefaennifhmadaa
