/- Contracts of word.Lsl, Asr, Ror, Sext and of the document's; the walk of WordMoves. -/
import Derived.Test.YtefaennifhmadaaWordA
import Derived.Test.YtefaennifhmadaaPlainB
import Derived.Lib.Hide
namespace Go.Proofs.Ytefaennifhmadaa
open Go.RowKit Pl
set_option linter.unusedVariables false
theorem lsl_any (a n : Int) (ha : 0 ≤ a) (ha' : a < 4294967296) (hn : 0 ≤ n) (hn' : n < 4294967296) (w : World) :
    Calls Try.prog 17 #[.int .u32 a, .int .u32 n] w fun e w' => e = .returned (.int .u32 (lslV a (n % 32).toNat)) ∧ w = w' := by
  go_enter Try.func17, Try.ntmps17
  go_wp2_with fail
  go_ret
  exact ⟨rfl, rfl⟩
theorem asr_any (a n : Int) (ha : 0 ≤ a) (ha' : a < 4294967296) (hn : 0 ≤ n) (hn' : n < 4294967296) (w : World) :
    Calls Try.prog 18 #[.int .u32 a, .int .u32 n] w fun e w' => e = .returned (.int .u32 (asrV a (n % 32).toNat)) ∧ w = w' := by
  have := wrap32_bd a
  go_enter Try.func18, Try.ntmps18
  go_wp2_with fail
  go_ret
  refine ⟨one1 ?_, rfl⟩
  unfold asrV
  rw [← wrap32_sg a ha ha']
theorem rotl_any (a k s : Int) (ha : 0 ≤ a) (ha' : a < 4294967296) (hs : 0 ≤ s) (hs' : s < 32) (h : Hid (bits .and .u64 (IntKind.u64.wrap k) 31 = s)) (w : World) :
    Calls Try.prog 43 #[.int .u32 a, .int .i64 k] w fun e w' => e = .returned (.int .u32 (bits .or .u32 (a * 2 ^ s.toNat % 4294967296) (a / 2 ^ (32 - s).toNat))) ∧ w = w' := by
  have h := h.out
  go_enter Try.func43, Try.ntmps43
  go_wp2_with fail
  go_ret
  exact ⟨rfl, rfl⟩
theorem ror_any (a n : Int) (ha : 0 ≤ a) (ha' : a < 4294967296) (hn : 0 ≤ n) (hn' : n < 4294967296) (w : World) :
    Calls Try.prog 19 #[.int .u32 a, .int .u32 n] w fun e w' => e = .returned (.int .u32 (rorV a (n % 32).toNat)) ∧ w = w' := by
  have hb : 0 ≤ n % 32 ∧ n % 32 < 32 := by omega
  have hfin : Hid (bits .or .u32 (a * 2 ^ ((32 - n % 32) % 32).toNat % 4294967296) (a / 2 ^ (32 - (32 - n % 32) % 32).toNat) = rorV a (n % 32).toNat) := by
    unfold Hid
    by_cases hz : n % 32 = 0
    · rw [hz]
      have := ror_join a 32 (by omega) ha ha'
      rw [rorV_all a ha ha'] at this
      have h0 : rorV a 0 = a := rorV_zero a
      rw [show ((0 : Int)).toNat = 0 from rfl, h0]
      exact this
    · have := ror_join a (n % 32).toNat (by omega) ha ha'
      rw [show ((32 - n % 32) % 32).toNat = 32 - (n % 32).toNat from by omega, show (32 - (32 - n % 32) % 32).toNat = (n % 32).toNat from by omega]
      exact this
  go_enter Try.func19, Try.ntmps19
  go_wp2_with fail
  refine (rotl_any a _ ((32 - n % 32) % 32) ha ha' (by omega) (by omega) (turn_at _ hb.1 hb.2) _).mono ?_
  rintro e w' ⟨rfl, rfl⟩
  rw [hfin.out]
  go_wp2_with fail
  go_ret
  exact ⟨rfl, rfl⟩
theorem sext_yes (a n : Int) (ha : 0 ≤ a) (ha' : a < 4294967296) (hn : 1 ≤ n) (hn' : n ≤ 32) (w : World) :
    Calls Try.prog 20 #[.int .u32 a, .int .i64 n] w fun e w' => e = .returned (.int .i64 (sextV a n.toNat)) ∧ w = w' := by
  go_enter Try.func20, Try.ntmps20
  go_wp2_with fail
  go_ret
  refine ⟨one1 ?_, rfl⟩
  rw [← sext_go a n.toNat (by omega) (by omega) ha, show 32 - n.toNat = (32 - n).toNat from by omega]
theorem sext_no (a n : Int) (hn : n < 1 ∨ 32 < n) (w : World) :
    Calls Try.prog 20 #[.int .u32 a, .int .i64 n] w fun e w' => e = .returned (.int .i64 0) ∧ w = w' := by
  rcases hn with hn | hn
  · go_enter Try.func20, Try.ntmps20
    go_wp2_with fail
    go_ret
    exact ⟨rfl, rfl⟩
  · have : ¬ n < 1 := by omega
    go_enter Try.func20, Try.ntmps20
    go_wp2_with fail
    go_ret
    exact ⟨rfl, rfl⟩

/-! The document's. -/
theorem rlsl_any (a n : Int) (ha : 0 ≤ a) (ha' : a < 4294967296) (hn : 0 ≤ n) (hn' : n < 4294967296) (w : World) :
    Calls Try.prog 21 #[.int .u32 a, .int .u32 n] w fun e w' => e = .returned (.int .u32 (lslV a (n % 32).toNat)) ∧ w = w' := by
  have hz := lslV_zero a ha ha'
  go_enter Try.func21, Try.ntmps21
  go_wp2_with fail
  go_loop [0, 5] (fun x i => ∃ k : Nat, (k : Int) ≤ n % 32 ∧ i = .int .u32 k ∧ x = .int .u32 (lslV a k)) (fun _ i => (n % 32 - intOf i).toNat)
  case atStart => exact ⟨0, by omega, rfl, by rw [hz]⟩
  case round =>
    obtain ⟨k, hk, rfl, rfl⟩ := hrel
    clear hz
    have hb := lslV_bd a k
    have HS := Lib.hid (lslV_succ a k)
    by_cases hlt : (k : Int) < n % 32
    · go_wp2_with fail
      go_round
      case rel => exact ⟨k + 1, by omega, by go_num, by rw [← HS.out]⟩
      case measure => simp [intOf]; omega
    · go_wp2_with fail
      go_ret
      refine ⟨one1 ?_, rfl⟩
      rw [show (n % 32).toNat = k from by omega]
theorem rasr_any (a n : Int) (ha : 0 ≤ a) (ha' : a < 4294967296) (hn : 0 ≤ n) (hn' : n < 4294967296) (w : World) :
    Calls Try.prog 22 #[.int .u32 a, .int .u32 n] w fun e w' => e = .returned (.int .u32 (asrV a (n % 32).toNat)) ∧ w = w' := by
  have hz := asrV_zero a ha ha'
  go_enter Try.func22, Try.ntmps22
  go_wp2_with fail
  go_loop [0, 5] (fun x i => ∃ k : Nat, (k : Int) ≤ n % 32 ∧ i = .int .u32 k ∧ x = .int .u32 (asrV a k)) (fun _ i => (n % 32 - intOf i).toNat)
  case atStart => exact ⟨0, by omega, rfl, by rw [hz]⟩
  case round =>
    obtain ⟨k, hk, rfl, rfl⟩ := hrel
    clear hz
    have hb := asrV_bd a k
    have HS := Lib.hid (asrV_succ a k ha ha')
    by_cases hlt : (k : Int) < n % 32
    · go_wp2_with fail
      go_round
      case rel => exact ⟨k + 1, by omega, by go_num, by rw [← HS.out]⟩
      case measure => simp [intOf]; omega
    · go_wp2_with fail
      go_ret
      refine ⟨one1 ?_, rfl⟩
      rw [show (n % 32).toNat = k from by omega]
theorem rror_any (a n : Int) (ha : 0 ≤ a) (ha' : a < 4294967296) (hn : 0 ≤ n) (hn' : n < 4294967296) (w : World) :
    Calls Try.prog 23 #[.int .u32 a, .int .u32 n] w fun e w' => e = .returned (.int .u32 (rorV a (n % 32).toNat)) ∧ w = w' := by
  have hz := rorV_zero a
  go_enter Try.func23, Try.ntmps23
  go_wp2_with fail
  go_loop [0, 5] (fun x i => ∃ k : Nat, (k : Int) ≤ n % 32 ∧ i = .int .u32 k ∧ x = .int .u32 (rorV a k)) (fun _ i => (n % 32 - intOf i).toNat)
  case atStart => exact ⟨0, by omega, rfl, by rw [hz]⟩
  case round =>
    obtain ⟨k, hk, rfl, rfl⟩ := hrel
    clear hz
    have hb := rorV_bd a k (by omega) ha ha'
    have HS := Lib.hid (rorV_succ a k (by omega) ha)
    by_cases hlt : (k : Int) < n % 32
    · go_wp2_with fail
      go_round
      case rel => exact ⟨k + 1, by omega, by go_num, by rw [← HS.out]⟩
      case measure => simp [intOf]; omega
    · go_wp2_with fail
      go_ret
      refine ⟨one1 ?_, rfl⟩
      rw [show (n % 32).toNat = k from by omega]
theorem rsext_no (a n : Int) (hn : n < 1 ∨ 32 < n) (w : World) :
    Calls Try.prog 24 #[.int .u32 a, .int .i64 n] w fun e w' => e = .returned (.int .i64 0) ∧ w = w' := by
  rcases hn with hn | hn
  · go_enter Try.func24, Try.ntmps24
    go_wp2_with fail
    go_ret
    exact ⟨rfl, rfl⟩
  · have : ¬ n < 1 := by omega
    go_enter Try.func24, Try.ntmps24
    go_wp2_with fail
    go_ret
    exact ⟨rfl, rfl⟩
theorem rsext_yes (a n : Int) (ha : 0 ≤ a) (ha' : a < 4294967296) (hn : 1 ≤ n) (hn' : n ≤ 32) (w : World) :
    Calls Try.prog 24 #[.int .u32 a, .int .i64 n] w fun e w' => e = .returned (.int .i64 (sextV a n.toNat)) ∧ w = w' := by
  go_enter Try.func24, Try.ntmps24
  go_wp2_with fail
  go_loop [5, 6] (fun x i => ∃ k : Nat, (k : Int) ≤ n ∧ i = .int .i64 k ∧ x = .int .i64 (2 ^ k)) (fun _ i => (n - intOf i).toNat)
  case atStart => exact ⟨0, by omega, rfl, rfl⟩
  case round =>
    obtain ⟨k, hk, rfl, rfl⟩ := hrel
    have hb := p2_bd k (by omega)
    have HS := Lib.hid (p2s k)
    by_cases hlt : (k : Int) < n
    · go_wp2_with fail
      go_round
      case rel => exact ⟨k + 1, by omega, by go_num, by rw [HS.out]⟩
      case measure => simp [intOf]; omega
    · have hkn : Hid (n.toNat = k) := by unfold Hid; omega
      have hm0 := Int.emod_nonneg a (by omega : (2 : Int) ^ k ≠ 0)
      have hm1 := Int.emod_lt_of_pos a hb.1
      have hdef : Hid (sextV a k = if 2 ^ k / 2 ≤ a % 2 ^ k then a % 2 ^ k - 2 ^ k else a % 2 ^ k) := by unfold Hid sextV; rfl
      by_cases hg : 2 ^ k / 2 ≤ a % 2 ^ k
      · go_wp2_with fail
        go_ret
        refine ⟨one1 ?_, rfl⟩
        rw [hkn.out, hdef.out, if_pos hg]
      · go_wp2_with fail
        go_ret
        refine ⟨one1 ?_, rfl⟩
        rw [hkn.out, hdef.out, if_neg (by omega)]

theorem sext_any (a n : Int) (ha : 0 ≤ a) (ha' : a < 4294967296) (w : World) :
    Calls Try.prog 20 #[.int .u32 a, .int .i64 n] w fun e w' => e = .returned (.int .i64 (sextA a n)) ∧ w = w' := by
  unfold sextA
  by_cases h : n < 1 ∨ 32 < n
  · rw [if_pos h]; exact sext_no a n h w
  · rw [if_neg h]; exact sext_yes a n ha ha' (by omega) (by omega) w
theorem rsext_any (a n : Int) (ha : 0 ≤ a) (ha' : a < 4294967296) (w : World) :
    Calls Try.prog 24 #[.int .u32 a, .int .i64 n] w fun e w' => e = .returned (.int .i64 (sextA a n)) ∧ w = w' := by
  unfold sextA
  by_cases h : n < 1 ∨ 32 < n
  · rw [if_pos h]; exact rsext_no a n h w
  · rw [if_neg h]; exact rsext_yes a n ha ha' (by omega) (by omega) w

theorem moves_walk (a0 a1 a2 : Int) (w0 : (Lit.int .u32 a0).wf = true) (w1 : (Lit.int .u32 a1).wf = true) (w2 : (Lit.int .i64 a2).wf = true) (w : World) :
    Calls Try.prog 5 #[.int .u32 a0, .int .u32 a1, .int .i64 a2] w fun e w' => e = .returned (.bool true) ∧ Grown w w' := by
  have b0 := bounds_u32 w0
  have b1 := bounds_u32 w1
  go_enter Try.func5, Try.ntmps5
  go_wp2_with (first | (go_at_call 10; refine (shown_any _).mono ?_; rintro e w' ⟨rfl, rfl⟩) | (go_at_call 17; refine (lsl_any _ _ (by omega) (by omega) (by omega) (by omega) _).mono ?_; rintro e w' ⟨rfl, rfl⟩) | (go_at_call 21; refine (rlsl_any _ _ (by omega) (by omega) (by omega) (by omega) _).mono ?_; rintro e w' ⟨rfl, rfl⟩) | (go_at_call 18; refine (asr_any _ _ (by omega) (by omega) (by omega) (by omega) _).mono ?_; rintro e w' ⟨rfl, rfl⟩) | (go_at_call 22; refine (rasr_any _ _ (by omega) (by omega) (by omega) (by omega) _).mono ?_; rintro e w' ⟨rfl, rfl⟩) | (go_at_call 19; refine (ror_any _ _ (by omega) (by omega) (by omega) (by omega) _).mono ?_; rintro e w' ⟨rfl, rfl⟩) | (go_at_call 23; refine (rror_any _ _ (by omega) (by omega) (by omega) (by omega) _).mono ?_; rintro e w' ⟨rfl, rfl⟩) | (go_at_call 20; refine (sext_any _ _ (by omega) (by omega) _).mono ?_; rintro e w' ⟨rfl, rfl⟩) | (go_at_call 24; refine (rsext_any _ _ (by omega) (by omega) _).mono ?_; rintro e w' ⟨rfl, rfl⟩))
  go_ret
  exact ⟨rfl, Grown.refl _⟩
end Go.Proofs.Ytefaennifhmadaa
