/- Contracts of word.Unhex and of the document's. -/
import Derived.Test.YtefaennifhmadaaWordA
import Derived.Test.YtefaennifhmadaaPlainC
import Derived.Lib.Hide
namespace Go.Proofs.Ytefaennifhmadaa
open Go.RowKit Pl
set_option linter.unusedVariables false
theorem tup2i {k l : IntKind} {a b c d : Int} (h : a = c) (g : b = d) : Ending.returned (.tuple #[.int k a, .int l b]) = Ending.returned (.tuple #[.int k c, .int l d]) := by rw [h, g]
theorem unhex_any (s : ByteArray) (w : World) (hs : s.size ≤ 9223372036854775807) :
    Calls Try.prog 34 #[.string s] w fun e w' => e = .returned (.tuple #[.int .u32 (unV s), .int .i64 (unE s)]) ∧ w = w' := by
  go_enter Try.func34, Try.ntmps34
  go_wp2_with fail
  go_loop [4, 9] (fun v i => ∃ k : Nat, k ≤ s.size ∧ i = .int .i64 k ∧ v = .int .u32 (valL (s.data.toList.take k) % 4294967296) ∧ Hid ((s.data.toList.take k).all isDig = true)) (fun _ i => s.size - (intOf i).toNat)
  case atStart => exact ⟨0, Nat.zero_le _, rfl, rfl, rfl⟩
  case round =>
    obtain ⟨k, hk, rfl, rfl, ha⟩ := hrel
    have hv : 0 ≤ valL (s.data.toList.take k) % 4294967296 ∧ valL (s.data.toList.take k) % 4294967296 < 4294967296 := by omega
    by_cases hlt : k < s.size
    · have HV := Lib.hid (val_snoc s k hlt)
      have HA := Lib.hid (fun hd => all_snoc hlt ha.out hd)
      have HBad := Lib.hid (fun hd => un_bad (bad_at hlt hd))
      go_wp2_with fail
      · have h1 : 48 ≤ (s[k].toNat : Int) := by assumption
        have h2 : (s[k].toNat : Int) ≤ 57 := by assumption
        go_round
        case rel => exact ⟨k + 1, by omega, by go_num, by rw [HV.out, un_step _ _ (by omega) (by omega)]; unfold digV; rw [if_pos h2], HA.out (dig_yes (.inl ⟨h1, h2⟩))⟩
        case measure => simp [intOf]; omega
      · have h1 : 57 < (s[k].toNat : Int) := by assumption
        have h2 : 65 ≤ (s[k].toNat : Int) := by assumption
        have h3 : (s[k].toNat : Int) ≤ 70 := by assumption
        go_round
        case rel => exact ⟨k + 1, by omega, by go_num, by rw [HV.out, un_step _ _ (by omega) (by omega)]; unfold digV; rw [if_neg (by omega)], HA.out (dig_yes (.inr ⟨h2, h3⟩))⟩
        case measure => simp [intOf]; omega
      all_goals
        go_ret2
        have hb := HBad.out (notDig (by omega) (by omega))
        exact ⟨tup2i hb.1.symm hb.2.symm, rfl⟩
    · have hkn : k = s.size := by omega
      have HT := Lib.hid (take_all (s := s) (k := k) (by omega))
      clear hkn
      go_wp2_with fail
      · have h1 : s.toList = [] := by assumption
        go_ret2
        have hb := un_bad (bad_len (.inl (toList_nil.1 h1)))
        exact ⟨tup2i hb.1.symm hb.2.symm, rfl⟩
      · have h1 : s.toList.isEmpty = true ∨ 8 < (s.size : Int) := by assumption
        go_ret2
        have hb := un_bad (s := s) (bad_len (by
          rcases h1 with h | h
          · exact .inl (toList_nil.1 (List.isEmpty_iff.1 h))
          · exact .inr (by omega)))
        exact ⟨tup2i hb.1.symm hb.2.symm, rfl⟩
      · have h1 : s.toList.isEmpty = false ∧ (s.size : Int) ≤ 8 := by assumption
        go_ret2
        have h0 : s.size ≠ 0 := fun h => by
          have := toList_nil.2 h
          rw [this] at h1
          exact absurd h1.1 (by decide)
        have hall := ha.out
        rw [HT.out] at hall
        have hb := un_good (s := s) (by omega) (by omega) hall
        exact ⟨tup2i (by rw [HT.out, hb.1]) hb.2.symm, rfl⟩
theorem runhex_short (s : ByteArray) (w : World) (hs : s.size = 0 ∨ 8 < s.size) (hs' : s.size ≤ 9223372036854775807) :
    Calls Try.prog 35 #[.string s] w fun e w' => e = .returned (.tuple #[.int .u32 (unV s), .int .i64 (unE s)]) ∧ w = w' := by
  have HB := Lib.hid (un_bad (bad_len hs))
  rcases hs with h | h
  · have h1 := toList_nil.2 h
    clear h
    go_enter Try.func35, Try.ntmps35
    go_wp2_with fail
    go_ret2
    exact ⟨tup2i HB.out.1.symm HB.out.2.symm, rfl⟩
  · have h0 : ¬ s.toList = [] := fun hh => by have := toList_nil.1 hh; omega
    have h1 : s.toList.isEmpty = false := by simpa using h0
    go_enter Try.func35, Try.ntmps35
    go_wp2_with fail
    go_ret2
    exact ⟨tup2i HB.out.1.symm HB.out.2.symm, rfl⟩
theorem runhex_go (s : ByteArray) (w : World) (hs : 1 ≤ s.size) (hs' : s.size ≤ 8) :
    Calls Try.prog 35 #[.string s] w fun e w' => e = .returned (.tuple #[.int .u32 (unV s), .int .i64 (unE s)]) ∧ w = w' := by
  have h0 : ¬ s.toList = [] := fun hh => by have := toList_nil.1 hh; omega
  have h1 : s.toList.isEmpty = false := by simpa using h0
  go_enter Try.func35, Try.ntmps35
  go_wp2_with fail
  go_loop [4, 5] (fun v i => ∃ k : Nat, k ≤ s.size ∧ i = .int .i64 k ∧ v = .int .u32 (valL (s.data.toList.take k) % 4294967296) ∧ Hid ((s.data.toList.take k).all isDig = true)) (fun _ i => s.size - (intOf i).toNat)
  case atStart => exact ⟨0, Nat.zero_le _, rfl, rfl, rfl⟩
  case round =>
    obtain ⟨k, hk, rfl, rfl, ha⟩ := hrel
    have hv : 0 ≤ valL (s.data.toList.take k) % 4294967296 ∧ valL (s.data.toList.take k) % 4294967296 < 4294967296 := by omega
    by_cases hlt : k < s.size
    · have HV := Lib.hid (val_snoc s k hlt)
      have HA := Lib.hid (fun hd => all_snoc hlt ha.out hd)
      have HBad := Lib.hid (fun hd => un_bad (bad_at hlt hd))
      go_wp2_with fail
      · have h1 : 48 ≤ (s[k].toNat : Int) := by assumption
        have h2 : (s[k].toNat : Int) ≤ 57 := by assumption
        go_round
        case rel => exact ⟨k + 1, by omega, by go_num, by rw [HV.out]; unfold digV; rw [if_pos h2]; exact congrArg _ (by omega), HA.out (dig_yes (.inl ⟨h1, h2⟩))⟩
        case measure => simp [intOf]; omega
      · have h1 : 57 < (s[k].toNat : Int) := by assumption
        have h2 : 65 ≤ (s[k].toNat : Int) := by assumption
        have h3 : (s[k].toNat : Int) ≤ 70 := by assumption
        go_round
        case rel => exact ⟨k + 1, by omega, by go_num, by rw [HV.out]; unfold digV; rw [if_neg (by omega)]; exact congrArg _ (by omega), HA.out (dig_yes (.inr ⟨h2, h3⟩))⟩
        case measure => simp [intOf]; omega
      all_goals
        go_ret2
        have hb := HBad.out (notDig (by omega) (by omega))
        exact ⟨tup2i hb.1.symm hb.2.symm, rfl⟩
    · have HT := Lib.hid (take_all (s := s) (k := k) (by omega))
      go_wp2_with fail
      go_ret2
      have hall := ha.out
      rw [HT.out] at hall
      have hb := un_good (s := s) hs hs' hall
      exact ⟨tup2i (by rw [HT.out, hb.1]) hb.2.symm, rfl⟩
theorem runhex_any (s : ByteArray) (w : World) (hs : s.size ≤ 9223372036854775807) :
    Calls Try.prog 35 #[.string s] w fun e w' => e = .returned (.tuple #[.int .u32 (unV s), .int .i64 (unE s)]) ∧ w = w' := by
  by_cases h : s.size = 0 ∨ 8 < s.size
  · exact runhex_short s w h hs
  · exact runhex_go s w (by omega) (by omega)
end Go.Proofs.Ytefaennifhmadaa
