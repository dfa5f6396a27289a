/- A number read: the program's. -/
import Derived.Test.YtgemnmceflcpcaaSdA
import Derived.Test.YtgemnmceflcpcaaSdG
import Derived.IntWalk
namespace Go.Proofs.Ytgemnmceflcpcaa
open Go Go.RowKit Go.Lib Go.Proofs.Ytgemnmceflcpcaa.Sy Pl
set_option linter.unusedVariables false
set_option linter.unusedSimpArgs false
def uintV (o : Option (Nat × Nat)) (p : Nat) : Value := match o with
  | some (n, k) => .tuple #[.int .u32 n, .int .i64 ((p + k : Nat) : Int), .bool true]
  | none => .tuple #[.int .u32 0, .int .i64 0, .bool false]
theorem and7_all : ((List.range 256).all fun n => bits .and .u8 ((n : Nat) : Int) 127 == ((n % 128 : Nat) : Int)) = true := by kernel_rfl
theorem and7 (n : Int) (h0 : 0 ≤ n) (h1 : n ≤ 255) : bits .and .u8 n 127 = n % 128 := by
  obtain ⟨m, rfl⟩ := Int.eq_ofNat_of_zero_le h0
  have := List.all_eq_true.1 and7_all m (List.mem_range.2 (by omega))
  rw [eq_of_beq this]; rfl
theorem drop_get {l : List Int} {p : Nat} (h : p < l.length) : l.drop p = l.getD p 0 :: l.drop (p + 1) := by
  rw [List.drop_eq_getElem_cons h]; simp [List.getD, List.getElem?_eq_getElem h]
theorem go_five {n : Nat} {l : List Int} : uintGo 5 n l = none := by
  cases l with
  | nil => rw [uintGo]
  | cons c r => rw [uintGo, if_pos rfl]
theorem or_put (acc k : Nat) (c : Int) (ha : acc < 128 ^ k) (hk : k < 5) (h0 : 0 ≤ c) (h1 : c ≤ 255) : bits .or .u64 (acc : Int) (IntKind.u64.wrap (c % 128 * 2 ^ (7 * k))) = ((acc + (c % 128).toNat * 128 ^ k : Nat) : Int) ∧ acc + (c % 128).toNat * 128 ^ k < 128 ^ (k + 1) ∧ acc + (c % 128).toNat * 128 ^ k < 34359738368 := by
  obtain ⟨d, hd⟩ : ∃ d : Nat, c % 128 = d := ⟨(c % 128).toNat, by omega⟩
  have hd2 : d < 128 := by omega
  rw [hd, Int.toNat_natCast]
  have hp : (128 : Nat) ^ k = 2 ^ (7 * k) := by rw [Nat.pow_mul]
  have hq : (128 : Nat) ^ (k + 1) ≤ 34359738368 := Nat.le_trans (Nat.pow_le_pow_right (by decide) (show k + 1 ≤ 5 by omega)) (by decide)
  have hm : acc + d * 128 ^ k < 128 ^ (k + 1) := by
    have h3 : d * 128 ^ k ≤ 127 * 128 ^ k := Nat.mul_le_mul_right _ (by omega)
    rw [Nat.pow_succ]; omega
  have hw : IntKind.u64.wrap ((d : Int) * 2 ^ (7 * k)) = ((d * 128 ^ k : Nat) : Int) := by
    have e : (d : Int) * 2 ^ (7 * k) = ((d * 128 ^ k : Nat) : Int) := by rw [hp]; push_cast; rfl
    rw [e, IntWalk.u64_in _ ⟨by omega, by omega⟩]
  refine ⟨?_, hm, by omega⟩
  rw [hw, u64_or _ _ (by omega) (by omega) (by omega) (by omega), Int.toNat_natCast, Int.toNat_natCast, Nat.or_comm, nat_join (7 * k) (d * 128 ^ k) acc (by rw [hp]; exact Nat.mul_mod_left _ _) (by rw [← hp]; exact ha)]
  congr 1; omega
theorem ret_tup3 {a b c d : Int} (h : a = b) (k : c = d) : Ending.returned (.tuple #[.int .u32 a, .int .i64 c, .bool true]) = .returned (.tuple #[.int .u32 b, .int .i64 d, .bool true]) := by rw [h, k]
section
variable {w : World}
set_option maxHeartbeats 4000000 in
theorem uint_some (b off cap : Nat) (l : List Int) (p : Nat) (ho : Oct l) (hl : l.length ≤ 2000000000) (hcap : l.length ≤ cap) (hc2 : cap ≤ maxLen) (hp : p < l.length) (hc : ∀ i, i < l.length → w.cell? ⟨b, off + i, none⟩ = some (.int .u8 (l.getD i 0))) :
    Calls Try.prog 82 #[.slice (some ⟨b, off, none⟩) l.length cap, .int .i64 p] w fun e w' => e = .returned (uintV (uintL (l.drop p)) p) ∧ w = w' := by
  have HO := Lib.hid ho
  have HC := Lib.hid hc
  unfold maxLen at hc2
  clear ho hc
  by_cases h5 : p + 5 ≤ l.length
  · have h6 : ¬ ((l.length : Int) < (p : Int) + 5) := by omega
    have h7 : (p : Int) + 5 ≤ (l.length : Int) := by omega
    go_enter Try.func82, Try.ntmps82
    go_wp2_with fail
    go_loop [7, 27] (fun n i => ∃ k acc : Nat, k ≤ 5 ∧ i = .int .i64 k ∧ n = .int .u64 acc ∧ acc < 128 ^ k ∧ Hid (uintL (l.drop p) = uintGo k acc (l.drop (p + k)))) (fun _ i => 5 - (intOf i).toNat)
    case atStart => exact ⟨0, 0, by omega, rfl, rfl, by omega, Lib.hid rfl⟩
    case round =>
      obtain ⟨k, acc, hk, rfl, rfl, ha, HE⟩ := hrel
      by_cases hlt : k < 5
      · have hcell := HC.out (p + k) (by omega)
        rw [← Nat.add_assoc] at hcell
        have hoc := oct_getD HO.out (p + k)
        have hE2 := HE.out
        rw [drop_get (show p + k < l.length by omega), uintGo, if_neg (by omega)] at hE2
        obtain ⟨c, hcc⟩ : ∃ c, c = l.getD (p + k) 0 := ⟨_, rfl⟩
        rw [← hcc] at hcell hoc hE2
        have hand := and7 c hoc.1 hoc.2
        have hor := or_put acc k c ha (by omega) hoc.1 hoc.2
        obtain ⟨N, hN⟩ : ∃ N : Nat, acc + (c % 128).toNat * 128 ^ k = N := ⟨_, rfl⟩
        rw [hN] at hor
        obtain ⟨hor, hN1, hN2⟩ := hor
        have HN := Lib.hid hN
        have HN1 := Lib.hid hN1
        have HE2 := Lib.hid hE2
        clear hcc ha hN hN1 hE2 HE
        by_cases hg : 128 ≤ c
        · have HF := Lib.hid (show uintL (l.drop p) = uintGo (k + 1) N (l.drop (p + (k + 1))) by
            rw [HE2.out, if_pos hg, ← HN.out, show (c - 128).toNat = (c % 128).toNat from by omega]; rfl)
          go_wp2_with fail
          go_round
          case rel => exact ⟨k + 1, N, by omega, by go_num, rfl, HN1.out, HF⟩
          case measure => simp [intOf]; omega
        · have hc128 : c < 128 := by omega
          have he : (c % 128).toNat = c.toNat := by omega
          by_cases hz : 0 < k ∧ c = 0
          · obtain ⟨hz1, rfl⟩ := hz
            have HF := Lib.hid (show uintL (l.drop p) = none by
              rw [HE2.out, if_neg (by omega), if_pos (.inl ⟨hz1, rfl⟩)])
            have hz2 : (0 : Int) < (k : Int) := by omega
            go_wp2_with fail
            go_ret3
            rw [HF.out]; exact ⟨rfl, rfl⟩
          · by_cases hb : 4294967295 < N
            · have HF := Lib.hid (show uintL (l.drop p) = none by
                rw [HE2.out, if_neg (by omega), ← he, HN.out, if_pos (.inr hb)])
              have hb2 : (4294967295 : Int) < (N : Int) := by omega
              by_cases hk0 : 0 < k
              · have hz3 : (c == 0) = false := by simp; omega
                have hz2 : (0 : Int) < (k : Int) := by omega
                clear hz
                go_wp2_with fail
                go_ret3
                rw [HF.out]; exact ⟨rfl, rfl⟩
              · have hz2 : (k : Int) ≤ 0 := by omega
                clear hz
                go_wp2_with fail
                go_ret3
                rw [HF.out]; exact ⟨rfl, rfl⟩
            · have HF := Lib.hid (show uintL (l.drop p) = some (N, k + 1) by
                rw [HE2.out, if_neg (by omega), ← he, HN.out, if_neg (by omega)])
              have hb2 : (N : Int) ≤ (4294967295 : Int) := by omega
              by_cases hk0 : 0 < k
              · have hz3 : (c == 0) = false := by simp; omega
                have hz2 : (0 : Int) < (k : Int) := by omega
                clear hz
                go_wp2_with fail
                go_ret3
                rw [HF.out]; exact ⟨ret_tup3 (by omega) (by omega), rfl⟩
              · have hz2 : (k : Int) ≤ 0 := by omega
                clear hz
                go_wp2_with fail
                go_ret3
                rw [HF.out]; exact ⟨ret_tup3 (by omega) (by omega), rfl⟩
      · obtain rfl : k = 5 := by omega
        have HF := Lib.hid (show uintL (l.drop p) = none by
          rw [HE.out]; exact go_five)
        go_wp2_with fail
        go_ret3
        rw [HF.out]; exact ⟨rfl, rfl⟩
  · have h6 : (l.length : Int) < (p : Int) + 5 := by omega
    have h7 : ¬ ((p : Int) + 5 ≤ (l.length : Int)) := by omega
    go_enter Try.func82, Try.ntmps82
    go_wp2_with fail
    go_loop [7, 27] (fun n i => ∃ k acc : Nat, k ≤ (l.length - p) ∧ i = .int .i64 k ∧ n = .int .u64 acc ∧ acc < 128 ^ k ∧ Hid (uintL (l.drop p) = uintGo k acc (l.drop (p + k)))) (fun _ i => (l.length - p) - (intOf i).toNat)
    case atStart => exact ⟨0, 0, by omega, rfl, rfl, by omega, Lib.hid rfl⟩
    case round =>
      obtain ⟨k, acc, hk, rfl, rfl, ha, HE⟩ := hrel
      by_cases hlt : k < (l.length - p)
      · have hcell := HC.out (p + k) (by omega)
        rw [← Nat.add_assoc] at hcell
        have hoc := oct_getD HO.out (p + k)
        have hE2 := HE.out
        rw [drop_get (show p + k < l.length by omega), uintGo, if_neg (by omega)] at hE2
        obtain ⟨c, hcc⟩ : ∃ c, c = l.getD (p + k) 0 := ⟨_, rfl⟩
        rw [← hcc] at hcell hoc hE2
        have hand := and7 c hoc.1 hoc.2
        have hor := or_put acc k c ha (by omega) hoc.1 hoc.2
        obtain ⟨N, hN⟩ : ∃ N : Nat, acc + (c % 128).toNat * 128 ^ k = N := ⟨_, rfl⟩
        rw [hN] at hor
        obtain ⟨hor, hN1, hN2⟩ := hor
        have HN := Lib.hid hN
        have HN1 := Lib.hid hN1
        have HE2 := Lib.hid hE2
        clear hcc ha hN hN1 hE2 HE
        by_cases hg : 128 ≤ c
        · have HF := Lib.hid (show uintL (l.drop p) = uintGo (k + 1) N (l.drop (p + (k + 1))) by
            rw [HE2.out, if_pos hg, ← HN.out, show (c - 128).toNat = (c % 128).toNat from by omega]; rfl)
          go_wp2_with fail
          go_round
          case rel => exact ⟨k + 1, N, by omega, by go_num, rfl, HN1.out, HF⟩
          case measure => simp [intOf]; omega
        · have hc128 : c < 128 := by omega
          have he : (c % 128).toNat = c.toNat := by omega
          by_cases hz : 0 < k ∧ c = 0
          · obtain ⟨hz1, rfl⟩ := hz
            have HF := Lib.hid (show uintL (l.drop p) = none by
              rw [HE2.out, if_neg (by omega), if_pos (.inl ⟨hz1, rfl⟩)])
            have hz2 : (0 : Int) < (k : Int) := by omega
            go_wp2_with fail
            go_ret3
            rw [HF.out]; exact ⟨rfl, rfl⟩
          · by_cases hb : 4294967295 < N
            · have HF := Lib.hid (show uintL (l.drop p) = none by
                rw [HE2.out, if_neg (by omega), ← he, HN.out, if_pos (.inr hb)])
              have hb2 : (4294967295 : Int) < (N : Int) := by omega
              by_cases hk0 : 0 < k
              · have hz3 : (c == 0) = false := by simp; omega
                have hz2 : (0 : Int) < (k : Int) := by omega
                clear hz
                go_wp2_with fail
                go_ret3
                rw [HF.out]; exact ⟨rfl, rfl⟩
              · have hz2 : (k : Int) ≤ 0 := by omega
                clear hz
                go_wp2_with fail
                go_ret3
                rw [HF.out]; exact ⟨rfl, rfl⟩
            · have HF := Lib.hid (show uintL (l.drop p) = some (N, k + 1) by
                rw [HE2.out, if_neg (by omega), ← he, HN.out, if_neg (by omega)])
              have hb2 : (N : Int) ≤ (4294967295 : Int) := by omega
              by_cases hk0 : 0 < k
              · have hz3 : (c == 0) = false := by simp; omega
                have hz2 : (0 : Int) < (k : Int) := by omega
                clear hz
                go_wp2_with fail
                go_ret3
                rw [HF.out]; exact ⟨ret_tup3 (by omega) (by omega), rfl⟩
              · have hz2 : (k : Int) ≤ 0 := by omega
                clear hz
                go_wp2_with fail
                go_ret3
                rw [HF.out]; exact ⟨ret_tup3 (by omega) (by omega), rfl⟩
      · obtain rfl : k = (l.length - p) := by omega
        have HF := Lib.hid (show uintL (l.drop p) = none by
          rw [HE.out]; rw [List.drop_eq_nil_of_le (by omega), uintGo])
        go_wp2_with fail
        go_ret3
        rw [HF.out]; exact ⟨rfl, rfl⟩
set_option maxHeartbeats 4000000 in
theorem uint_end (A : Option Addr) (cap : Nat) (n : Nat) (hl : n ≤ 2000000000) (hcap : n ≤ cap) (hc2 : cap ≤ maxLen) :
    Calls Try.prog 82 #[.slice A n cap, .int .i64 n] w fun e w' => e = .returned (.tuple #[.int .u32 0, .int .i64 0, .bool false]) ∧ w = w' := by
  unfold maxLen at hc2
  have h6 : ¬ ((n : Int) + 5 < (n : Int)) := by omega
  go_enter Try.func82, Try.ntmps82
  go_wp2_with fail
  all_goals
    refine wp_loop_rounds 1 ?_
    rw [rounds_succ]
    go_wp2_with fail
    go_ret3
    exact ⟨rfl, rfl⟩
end
end Go.Proofs.Ytgemnmceflcpcaa
