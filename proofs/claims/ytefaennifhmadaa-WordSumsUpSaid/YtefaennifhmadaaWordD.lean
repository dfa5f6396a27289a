/- Contracts of word.Sum and of the document's; the walk of WordSumsUp. -/
import Derived.Test.YtefaennifhmadaaWordA
import Derived.Test.YtefaennifhmadaaPlainC
import Derived.Lib.Hide
namespace Go.Proofs.Ytefaennifhmadaa
open Go.RowKit Pl
set_option linter.unusedVariables false
theorem sum_any (A : Option Addr) (n c : Nat) (f : Nat → Int) (w : World) (hn : n ≤ 9223372036854775807) (hf : ∀ i, 0 ≤ f i ∧ f i ≤ 255) (hr : RdI .u8 w A n f) :
    Calls Try.prog 11 #[.slice A n c] w fun e w' => e = .returned (.int .u32 (sumK f n)) ∧ w = w' := by
  have HR := Lib.hid hr; clear hr
  have HF := Lib.hid hf; clear hf
  go_enter Try.func11, Try.ntmps11
  go_wp2_with fail
  go_loop [3, 8] (fun x i => ∃ k : Nat, k ≤ n ∧ i = .int .i64 k ∧ x = .int .u32 (sumK f k)) (fun _ i => n - (intOf i).toNat)
  case atStart => exact ⟨0, Nat.zero_le _, rfl, rfl⟩
  case round =>
    obtain ⟨k, hk, rfl, rfl⟩ := hrel
    by_cases hlt : k < n
    · obtain ⟨b, off, rfl, _, hc⟩ := HR.out (by omega)
      have hcell := hc k hlt
      clear hc
      have hb := HF.out k
      have hs := sumK_bd f k
      have hx := xor_bd _ _ hs.1 hs.2 hb.1 (by omega : f k < 4294967296)
      go_wp2_with fail
      go_round
      case rel => exact ⟨k + 1, by omega, by go_num, rfl⟩
      case measure => simp [intOf]; omega
    · obtain rfl : k = n := by omega
      go_wp2_with fail
      go_ret
      exact ⟨rfl, rfl⟩
theorem rsum_any (A : Option Addr) (n c : Nat) (f : Nat → Int) (w : World) (hn : n ≤ 9223372036854775807) (hf : ∀ i, 0 ≤ f i ∧ f i ≤ 255) (hr : RdI .u8 w A n f) :
    Calls Try.prog 12 #[.slice A n c] w fun e w' => e = .returned (.int .u32 (sumK f n)) ∧ w = w' := by
  have HR := Lib.hid hr; clear hr
  have HF := Lib.hid hf; clear hf
  go_enter Try.func12, Try.ntmps12
  go_wp2_with fail
  go_loop [3, 4] (fun x i => ∃ k : Nat, k ≤ n ∧ i = .int .i64 k ∧ x = .int .u64 (sumK f k)) (fun _ i => n - (intOf i).toNat)
  case atStart => exact ⟨0, Nat.zero_le _, rfl, rfl⟩
  case round =>
    obtain ⟨k, hk, rfl, rfl⟩ := hrel
    have hs := sumK_bd f k
    by_cases hlt : k < n
    · obtain ⟨b, off, rfl, _, hc⟩ := HR.out (by omega)
      have hcell := hc k hlt
      clear hc
      have hb := HF.out k
      have hx := xor_bd _ _ hs.1 hs.2 hb.1 (by omega : f k < 4294967296)
      have HS : Hid (sumK f (k + 1) = (sumK f k / 256 * 256 + bits .xor .u64 (sumK f k % 256) (f k)) * 16777619 % 4294967296) := by
        unfold Hid; rw [xor_low _ _ hs.1 hs.2 hb.1 hb.2]; rfl
      have hx2 : 0 ≤ sumK f k / 256 * 256 + bits .xor .u64 (sumK f k % 256) (f k) ∧ sumK f k / 256 * 256 + bits .xor .u64 (sumK f k % 256) (f k) < 4294967296 := by
        rw [xor_low _ _ hs.1 hs.2 hb.1 hb.2]; exact hx
      go_wp2_with fail
      go_round
      case rel => exact ⟨k + 1, by omega, by go_num, by rw [HS.out]⟩
      case measure => simp [intOf]; omega
    · obtain rfl : k = n := by omega
      go_wp2_with fail
      go_ret
      exact ⟨rfl, rfl⟩

theorem sumsup_walk (a0 : Option Addr) (len0 cap0 : Nat) (z0 : List Int) (w : World)
    (w0 : (a0 = none ∧ len0 = 0 ∧ cap0 = 0 ∧ z0 = []) ∨ ∃ x, a0 = some x ∧ len0 ≤ cap0 ∧ cap0 ≤ maxLen ∧ z0.length = cap0 ∧ (∀ i, i < z0.length → w.cell? (x.add i) = some (.int .u8 (z0.getD i 0))) ∧ ∀ n ∈ z0, (Lit.int .u8 n).wf = true) :
    Calls Try.prog 3 #[.slice a0 len0 cap0] w fun e w' => e = .returned (.bool true) ∧ Below w.heap.size w w' := by
  obtain ⟨hr, hn, hw⟩ := RdI.of_row w0
  have HR := Lib.hid hr
  have HF := Lib.hid (fun i => bounds_u8 (hw (by decide) i))
  clear hr hw w0
  go_enter Try.func3, Try.ntmps3
  go_wp2_with (first | (go_at_call 10; refine (shown_any _).mono ?_; rintro e w' ⟨rfl, rfl⟩) | (go_at_call 11; refine (sum_any _ _ _ _ _ hn HF.out HR.out).mono ?_; rintro e w' ⟨rfl, rfl⟩) | (go_at_call 12; refine (rsum_any _ _ _ _ _ hn HF.out HR.out).mono ?_; rintro e w' ⟨rfl, rfl⟩))
  go_ret
  exact ⟨rfl, Below.refl _ _⟩
end Go.Proofs.Ytefaennifhmadaa
