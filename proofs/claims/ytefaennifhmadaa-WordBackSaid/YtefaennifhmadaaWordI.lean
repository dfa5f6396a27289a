/- Contracts of word.Hex and of the document's. -/
import Derived.Test.YtefaennifhmadaaWordH
namespace Go.Proofs.Ytefaennifhmadaa
open Go.RowKit Pl
set_option linter.unusedVariables false
theorem hex_any (x : Int) (hx : 0 ≤ x) (hx' : x < 4294967296) (w : World) :
    Calls Try.prog 33 #[.int .u32 x] w fun e w' => e = .returned (.string (hexS x)) ∧ Below w.heap.size w w' := by
  have h0 : OwnI .u8 (w.alloc (.cells #[.int .u8 0, .int .u8 0, .int .u8 0, .int .u8 0, .int .u8 0, .int .u8 0, .int .u8 0, .int .u8 0] 57)) w.heap.size 8 57 (fun i => if i < 0 then hexd (nib x i) else 0) :=
    OwnI.new w .u8 #[.int .u8 0, .int .u8 0, .int .u8 0, .int .u8 0, .int .u8 0, .int .u8 0, .int .u8 0, .int .u8 0] _ _ (fun i hi => by
      have h8 : i = 0 ∨ i = 1 ∨ i = 2 ∨ i = 3 ∨ i = 4 ∨ i = 5 ∨ i = 6 ∨ i = 7 := by simp at hi; omega
      rcases h8 with rfl | rfl | rfl | rfl | rfl | rfl | rfl | rfl <;> rfl)
  have H0 := Lib.hid h0; clear h0
  go_enter Try.func33, Try.ntmps33
  go_wp2_with fail
  go_loopw [5] (fun i wr => ∃ k : Nat, k ≤ 8 ∧ i = .int .i64 k ∧ Hid (OwnI .u8 wr w.heap.size 8 57 (fun i => if i < k then hexd (nib x i) else 0)) ∧ Hid (Below w.heap.size w wr)) (fun i _ => 8 - (intOf i).toNat)
  case atStart => exact ⟨0, by omega, rfl, H0, (Below.refl _ _).alloc (Nat.le_refl _) _⟩
  case round =>
    obtain ⟨k, hk, rfl, HO, HB⟩ := hrel
    by_cases hlt : k < 8
    · have hc := HO.out.cell hlt
      have hf := HO.out.frozen k
      have hsh := shr_nib' x hx hx' k hlt
      have hdg := dig_get (nib x k) (nib_bd x k).1 (nib_bd x k).2
      have HS := Lib.hid (HO.out.set k (hexd (nib x k)))
      have hn := nib_bd x k
      have h28 : 0 ≤ 28 - 4 * (k : Int) := by omega
      go_wp2_with fail
      go_roundw
      case rel =>
        refine ⟨k + 1, by omega, by go_num, ?_, HB.out.setCell (Nat.le_refl _) _⟩
        exact HS.out.congr fun i hi => by
          by_cases hik : i = k
          · subst hik; rw [if_pos rfl, if_pos (by omega)]
          · rw [if_neg hik]
            by_cases h2 : i < k
            · rw [if_pos h2, if_pos (by omega)]
            · rw [if_neg h2, if_neg (by omega)]
      case measure => simp [intOf]; omega
    · obtain rfl : k = 8 := by omega
      have hcv := run_convert_bytes_arg (P := Try.prog) wr 22 5 Try.underlying22 Try.underlying5 w.heap.size 0 8 8 (hexN x 8) (by simp [hexN]) (fun i hi => by
        rw [Nat.zero_add, HO.out.cell hi, hexN_get x 8 i hi, if_pos hi]) 9 Try.underlying9
      go_wp2_with fail
      go_ret
      exact ⟨rfl, HB.out⟩
theorem slice_dig0 (w : World) : (Instr.slice 9 (.string (⟨#[48, 49, 50, 51, 52, 53, 54, 55, 56, 57, 65, 66, 67, 68, 69, 70]⟩ : ByteArray)) (some (.int .u32 0)) (some (.int .u32 (0 + 1))) none).run Try.prog w = .ok (.string ((⟨#[48, 49, 50, 51, 52, 53, 54, 55, 56, 57, 65, 66, 67, 68, 69, 70]⟩ : ByteArray).extract (0 : Int).toNat ((0 : Int).toNat + 1))) w := by kernel_rfl
theorem slice_dig1 (w : World) : (Instr.slice 9 (.string (⟨#[48, 49, 50, 51, 52, 53, 54, 55, 56, 57, 65, 66, 67, 68, 69, 70]⟩ : ByteArray)) (some (.int .u32 1)) (some (.int .u32 (1 + 1))) none).run Try.prog w = .ok (.string ((⟨#[48, 49, 50, 51, 52, 53, 54, 55, 56, 57, 65, 66, 67, 68, 69, 70]⟩ : ByteArray).extract (1 : Int).toNat ((1 : Int).toNat + 1))) w := by kernel_rfl
theorem slice_dig2 (w : World) : (Instr.slice 9 (.string (⟨#[48, 49, 50, 51, 52, 53, 54, 55, 56, 57, 65, 66, 67, 68, 69, 70]⟩ : ByteArray)) (some (.int .u32 2)) (some (.int .u32 (2 + 1))) none).run Try.prog w = .ok (.string ((⟨#[48, 49, 50, 51, 52, 53, 54, 55, 56, 57, 65, 66, 67, 68, 69, 70]⟩ : ByteArray).extract (2 : Int).toNat ((2 : Int).toNat + 1))) w := by kernel_rfl
theorem slice_dig3 (w : World) : (Instr.slice 9 (.string (⟨#[48, 49, 50, 51, 52, 53, 54, 55, 56, 57, 65, 66, 67, 68, 69, 70]⟩ : ByteArray)) (some (.int .u32 3)) (some (.int .u32 (3 + 1))) none).run Try.prog w = .ok (.string ((⟨#[48, 49, 50, 51, 52, 53, 54, 55, 56, 57, 65, 66, 67, 68, 69, 70]⟩ : ByteArray).extract (3 : Int).toNat ((3 : Int).toNat + 1))) w := by kernel_rfl
theorem slice_dig4 (w : World) : (Instr.slice 9 (.string (⟨#[48, 49, 50, 51, 52, 53, 54, 55, 56, 57, 65, 66, 67, 68, 69, 70]⟩ : ByteArray)) (some (.int .u32 4)) (some (.int .u32 (4 + 1))) none).run Try.prog w = .ok (.string ((⟨#[48, 49, 50, 51, 52, 53, 54, 55, 56, 57, 65, 66, 67, 68, 69, 70]⟩ : ByteArray).extract (4 : Int).toNat ((4 : Int).toNat + 1))) w := by kernel_rfl
theorem slice_dig5 (w : World) : (Instr.slice 9 (.string (⟨#[48, 49, 50, 51, 52, 53, 54, 55, 56, 57, 65, 66, 67, 68, 69, 70]⟩ : ByteArray)) (some (.int .u32 5)) (some (.int .u32 (5 + 1))) none).run Try.prog w = .ok (.string ((⟨#[48, 49, 50, 51, 52, 53, 54, 55, 56, 57, 65, 66, 67, 68, 69, 70]⟩ : ByteArray).extract (5 : Int).toNat ((5 : Int).toNat + 1))) w := by kernel_rfl
theorem slice_dig6 (w : World) : (Instr.slice 9 (.string (⟨#[48, 49, 50, 51, 52, 53, 54, 55, 56, 57, 65, 66, 67, 68, 69, 70]⟩ : ByteArray)) (some (.int .u32 6)) (some (.int .u32 (6 + 1))) none).run Try.prog w = .ok (.string ((⟨#[48, 49, 50, 51, 52, 53, 54, 55, 56, 57, 65, 66, 67, 68, 69, 70]⟩ : ByteArray).extract (6 : Int).toNat ((6 : Int).toNat + 1))) w := by kernel_rfl
theorem slice_dig7 (w : World) : (Instr.slice 9 (.string (⟨#[48, 49, 50, 51, 52, 53, 54, 55, 56, 57, 65, 66, 67, 68, 69, 70]⟩ : ByteArray)) (some (.int .u32 7)) (some (.int .u32 (7 + 1))) none).run Try.prog w = .ok (.string ((⟨#[48, 49, 50, 51, 52, 53, 54, 55, 56, 57, 65, 66, 67, 68, 69, 70]⟩ : ByteArray).extract (7 : Int).toNat ((7 : Int).toNat + 1))) w := by kernel_rfl
theorem slice_dig8 (w : World) : (Instr.slice 9 (.string (⟨#[48, 49, 50, 51, 52, 53, 54, 55, 56, 57, 65, 66, 67, 68, 69, 70]⟩ : ByteArray)) (some (.int .u32 8)) (some (.int .u32 (8 + 1))) none).run Try.prog w = .ok (.string ((⟨#[48, 49, 50, 51, 52, 53, 54, 55, 56, 57, 65, 66, 67, 68, 69, 70]⟩ : ByteArray).extract (8 : Int).toNat ((8 : Int).toNat + 1))) w := by kernel_rfl
theorem slice_dig9 (w : World) : (Instr.slice 9 (.string (⟨#[48, 49, 50, 51, 52, 53, 54, 55, 56, 57, 65, 66, 67, 68, 69, 70]⟩ : ByteArray)) (some (.int .u32 9)) (some (.int .u32 (9 + 1))) none).run Try.prog w = .ok (.string ((⟨#[48, 49, 50, 51, 52, 53, 54, 55, 56, 57, 65, 66, 67, 68, 69, 70]⟩ : ByteArray).extract (9 : Int).toNat ((9 : Int).toNat + 1))) w := by kernel_rfl
theorem slice_dig10 (w : World) : (Instr.slice 9 (.string (⟨#[48, 49, 50, 51, 52, 53, 54, 55, 56, 57, 65, 66, 67, 68, 69, 70]⟩ : ByteArray)) (some (.int .u32 10)) (some (.int .u32 (10 + 1))) none).run Try.prog w = .ok (.string ((⟨#[48, 49, 50, 51, 52, 53, 54, 55, 56, 57, 65, 66, 67, 68, 69, 70]⟩ : ByteArray).extract (10 : Int).toNat ((10 : Int).toNat + 1))) w := by kernel_rfl
theorem slice_dig11 (w : World) : (Instr.slice 9 (.string (⟨#[48, 49, 50, 51, 52, 53, 54, 55, 56, 57, 65, 66, 67, 68, 69, 70]⟩ : ByteArray)) (some (.int .u32 11)) (some (.int .u32 (11 + 1))) none).run Try.prog w = .ok (.string ((⟨#[48, 49, 50, 51, 52, 53, 54, 55, 56, 57, 65, 66, 67, 68, 69, 70]⟩ : ByteArray).extract (11 : Int).toNat ((11 : Int).toNat + 1))) w := by kernel_rfl
theorem slice_dig12 (w : World) : (Instr.slice 9 (.string (⟨#[48, 49, 50, 51, 52, 53, 54, 55, 56, 57, 65, 66, 67, 68, 69, 70]⟩ : ByteArray)) (some (.int .u32 12)) (some (.int .u32 (12 + 1))) none).run Try.prog w = .ok (.string ((⟨#[48, 49, 50, 51, 52, 53, 54, 55, 56, 57, 65, 66, 67, 68, 69, 70]⟩ : ByteArray).extract (12 : Int).toNat ((12 : Int).toNat + 1))) w := by kernel_rfl
theorem slice_dig13 (w : World) : (Instr.slice 9 (.string (⟨#[48, 49, 50, 51, 52, 53, 54, 55, 56, 57, 65, 66, 67, 68, 69, 70]⟩ : ByteArray)) (some (.int .u32 13)) (some (.int .u32 (13 + 1))) none).run Try.prog w = .ok (.string ((⟨#[48, 49, 50, 51, 52, 53, 54, 55, 56, 57, 65, 66, 67, 68, 69, 70]⟩ : ByteArray).extract (13 : Int).toNat ((13 : Int).toNat + 1))) w := by kernel_rfl
theorem slice_dig14 (w : World) : (Instr.slice 9 (.string (⟨#[48, 49, 50, 51, 52, 53, 54, 55, 56, 57, 65, 66, 67, 68, 69, 70]⟩ : ByteArray)) (some (.int .u32 14)) (some (.int .u32 (14 + 1))) none).run Try.prog w = .ok (.string ((⟨#[48, 49, 50, 51, 52, 53, 54, 55, 56, 57, 65, 66, 67, 68, 69, 70]⟩ : ByteArray).extract (14 : Int).toNat ((14 : Int).toNat + 1))) w := by kernel_rfl
theorem slice_dig15 (w : World) : (Instr.slice 9 (.string (⟨#[48, 49, 50, 51, 52, 53, 54, 55, 56, 57, 65, 66, 67, 68, 69, 70]⟩ : ByteArray)) (some (.int .u32 15)) (some (.int .u32 (15 + 1))) none).run Try.prog w = .ok (.string ((⟨#[48, 49, 50, 51, 52, 53, 54, 55, 56, 57, 65, 66, 67, 68, 69, 70]⟩ : ByteArray).extract (15 : Int).toNat ((15 : Int).toNat + 1))) w := by kernel_rfl
theorem slice_dig_ext (d : Int) (h0 : 0 ≤ d) (h1 : d < 16) (w : World) :
    (Instr.slice 9 (.string (⟨#[48, 49, 50, 51, 52, 53, 54, 55, 56, 57, 65, 66, 67, 68, 69, 70]⟩ : ByteArray)) (some (.int .u32 d)) (some (.int .u32 (d + 1))) none).run Try.prog w = .ok (.string ((⟨#[48, 49, 50, 51, 52, 53, 54, 55, 56, 57, 65, 66, 67, 68, 69, 70]⟩ : ByteArray).extract d.toNat (d.toNat + 1))) w := by
  have hd : d = 0 ∨ d = 1 ∨ d = 2 ∨ d = 3 ∨ d = 4 ∨ d = 5 ∨ d = 6 ∨ d = 7 ∨ d = 8 ∨ d = 9 ∨ d = 10 ∨ d = 11 ∨ d = 12 ∨ d = 13 ∨ d = 14 ∨ d = 15 := by omega
  rcases hd with rfl | rfl | rfl | rfl | rfl | rfl | rfl | rfl | rfl | rfl | rfl | rfl | rfl | rfl | rfl | rfl
  · exact slice_dig0 w
  · exact slice_dig1 w
  · exact slice_dig2 w
  · exact slice_dig3 w
  · exact slice_dig4 w
  · exact slice_dig5 w
  · exact slice_dig6 w
  · exact slice_dig7 w
  · exact slice_dig8 w
  · exact slice_dig9 w
  · exact slice_dig10 w
  · exact slice_dig11 w
  · exact slice_dig12 w
  · exact slice_dig13 w
  · exact slice_dig14 w
  · exact slice_dig15 w
theorem slice_dig (d : Int) (h0 : 0 ≤ d) (h1 : d < 16) (w : World) :
    (Instr.slice 9 (.string (⟨#[48, 49, 50, 51, 52, 53, 54, 55, 56, 57, 65, 66, 67, 68, 69, 70]⟩ : ByteArray)) (some (.int .u32 d)) (some (.int .u32 (d + 1))) none).run Try.prog w = .ok (.string (strOfNums [hexd d])) w := by
  rw [slice_dig_ext d h0 h1 w, dig_cut d.toNat (by omega), show ((d.toNat : Nat) : Int) = d from by omega]
theorem rhex_any (x : Int) (hx : 0 ≤ x) (hx' : x < 4294967296) (w : World) :
    Calls Try.prog 36 #[.int .u32 x] w fun e w' => e = .returned (.string (hexS x)) ∧ w = w' := by
  go_enter Try.func36, Try.ntmps36
  go_wp2_with fail
  go_loop [0, 3, 4] (fun a s i => ∃ k : Nat, k ≤ 8 ∧ i = .int .i64 k ∧ a = .int .u32 (x / 16 ^ k) ∧ s = .string (hexT x k)) (fun _ _ i => 8 - (intOf i).toNat)
  case atStart => exact ⟨0, by omega, rfl, by simp, rfl⟩
  case round =>
    obtain ⟨k, hk, rfl, rfl, rfl⟩ := hrel
    have h0 : 0 ≤ x / 16 ^ k ∧ x / 16 ^ k < 4294967296 := ⟨Int.ediv_nonneg hx (Int.le_of_lt (Int.pow_pos (by decide))), by have := Int.ediv_le_self (16 ^ k) hx; omega⟩
    have HD := Lib.hid (div_16 x k)
    have hz := hexT_size x k
    by_cases hlt : k < 8
    · have HP := nib_pow x k hlt
      have hn := nib_bd x (7 - k)
      have hsl := slice_dig (nib x (7 - k)) hn.1 hn.2
      have hss : (strOfNums [hexd (nib x (7 - k))]).size = 1 := by rw [strOfNums_size]; rfl
      have HS := hexT_succ x k hlt
      go_wp2_with fail
      go_round
      case rel => exact ⟨k + 1, by omega, by go_num, by rw [HD.out], rfl⟩
      case measure => simp [intOf]; omega
    · obtain rfl : k = 8 := by omega
      have HA := Lib.hid (hexT_all x)
      go_wp2_with fail
      go_ret
      exact ⟨by rw [← HA.out]; rfl, rfl⟩
end Go.Proofs.Ytefaennifhmadaa
