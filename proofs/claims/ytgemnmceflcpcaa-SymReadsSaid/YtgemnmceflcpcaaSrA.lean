/- The document's numbers and texts, read. -/
import Derived.Test.YtgemnmceflcpcaaSdU
namespace Go.Proofs.Ytgemnmceflcpcaa
open Go Go.RowKit Go.Lib Go.Proofs.Ytgemnmceflcpcaa.Sy Pl
set_option linter.unusedVariables false
set_option linter.unusedSimpArgs false
/-- What the document's Uint answers. -/
def RUintP (o : Option (Nat × Nat)) (p : Nat) (w : World) (e : Ending) (w' : World) : Prop :=
  (∃ n k, o = some (n, k) ∧ e = .returned (.tuple #[.int .u32 (n : Int), .int .i64 ((p + k : Nat) : Int), .bool true]) ∧ w = w') ∨ (o = none ∧ ∃ x y : Int, e = .returned (.tuple #[.int .u32 x, .int .i64 y, .bool false]) ∧ w = w')
/-- Behind k bytes of a number. -/
def ULoop (l : List Int) (p : Nat) (n q i : Value) : Prop := ∃ k acc P : Nat, k ≤ 5 ∧ i = .int .i64 k ∧ n = .int .u64 acc ∧ q = .int .u64 P ∧ Hid (P = 128 ^ k) ∧ acc < P ∧ P ≤ 34359738368 ∧ Hid (uintL (l.drop p) = uintGo k acc (l.drop (p + k)))
theorem tmod_back {N : Nat} {C : Int} (h : (4294967296 : Int) = C) (hb : (N : Int) < C) : (N : Int) % C % 4294967296 = (N : Int) := by
  subst h; omega
section
variable {w : World}
set_option maxHeartbeats 4000000 in
set_option maxRecDepth 100000 in
theorem ruint_some (A : Option Addr) (cap : Nat) (l : List Int) (p : Nat) (ho : Oct l) (hl : l.length ≤ 2000000000) (hp : p ≤ l.length) (hc : RdI .u8 w A l.length (fun i => l.getD i 0)) :
    Calls Try.prog 96 #[.slice A l.length cap, .int .i64 p] w (RUintP (uintL (l.drop p)) p w) := by
  have HO := Lib.hid ho
  have HC := Lib.hid hc
  clear ho hc
  go_enter Try.func96, Try.ntmps96
  go_wp2_with fail
  go_loop [7, 8, 9] (fun n q i => ULoop l p n q i) (fun _ _ i => 5 - (intOf i).toNat)
  case atStart => exact ⟨0, 0, 1, by omega, rfl, rfl, rfl, Lib.hid rfl, by omega, by omega, Lib.hid rfl⟩
  case round =>
    obtain ⟨k, acc, P, hk, rfl, rfl, rfl, HP, ha, hP, HE⟩ := hrel
    by_cases hlt : k < 5
    · by_cases hin : p + k < l.length
      · obtain ⟨b, off, rfl, _, hcl⟩ := HC.out (by omega)
        have hcell : w.cell? ⟨b, off + (p + k), none⟩ = some (.int .u8 (l.getD (p + k) 0)) := hcl (p + k) hin
        clear hcl
        have hoc := oct_getD HO.out (p + k)
        have hini : (k : Int) < (l.length : Int) - (p : Int) := by omega
        obtain ⟨c, hcc⟩ : ∃ c, c = l.getD (p + k) 0 := ⟨_, rfl⟩
        rw [← hcc] at hcell hoc
        have HCC := Lib.hid hcc
        clear hcc
        have hE2 := HE.out
        rw [drop_get hin, uintGo, if_neg (by omega)] at hE2
        have hm : IntKind.u64.wrap (c % 128 * (P : Int)) = (((c % 128).toNat * P : Nat) : Int) ∧ (c % 128).toNat * P ≤ 127 * P := by
          have h1 : (c % 128).toNat * P ≤ 127 * P := Nat.mul_le_mul_right _ (by omega)
          refine ⟨?_, h1⟩
          have e : c % 128 * (P : Int) = (((c % 128).toNat * P : Nat) : Int) := by
            rw [Int.natCast_mul]; congr 1; omega
          rw [e, IntWalk.u64_in _ ⟨by omega, by omega⟩]
        obtain ⟨N, hN⟩ : ∃ N : Nat, acc + (c % 128).toNat * P = N := ⟨_, rfl⟩
        have hsum : IntKind.u64.wrap ((acc : Int) + IntKind.u64.wrap (c % 128 * (P : Int))) = (N : Int) := by
          rw [hm.1, ← hN, IntWalk.u64_in _ ⟨by omega, by omega⟩]; omega
        have hN2 : N < P * 128 := by have := hm.2; omega
        have HNM := Lib.hid (show (c % 128).toNat * P ≤ N by omega)
        have HM := Lib.hid hN
        rw [← HCC.out, ← HP.out] at hE2
        have HE2 := Lib.hid hE2
        clear hE2 hN hm HE
        by_cases hg : 128 ≤ c
        · as_aux_lemma =>
            have hg2 : ¬ c = 0 := by omega
            have hg3 : (c == 0) = false := by simp; omega
            have HF := Lib.hid (show uintL (l.drop p) = uintGo (k + 1) N (l.drop (p + (k + 1))) by
              rw [HE2.out, if_pos hg, ← HM.out, show (c - 128).toNat = (c % 128).toNat from by omega]; rfl)
            have HPP := Lib.hid (show P * 128 = 128 ^ (k + 1) by rw [HP.out, Nat.pow_succ])
            have hp5 : P * 128 ≤ 34359738368 := by
              rw [HPP.out]; exact Nat.le_trans (Nat.pow_le_pow_right (by decide) (show k + 1 ≤ 5 by omega)) (by decide)
            clear hg2
            go_wp2_with fail
            all_goals
              go_round
              case rel => exact ⟨_, _, _, .int .u64 (N : Int), .int .u64 ((P : Int) * 128), .int .i64 ((k : Int) + 1), ⟨k + 1, N, P * 128, by omega, by go_num, rfl, by go_num, HPP, by omega, by omega, HF⟩, rfl, rfl, rfl, rfl, rfl, rfl⟩
              case measure => simp [intOf]; omega
        · have hc128 : c < 128 := by omega
          have he : (c % 128).toNat = c.toNat := by omega
          by_cases hz : 0 < k ∧ c = 0
          · as_aux_lemma =>
              obtain ⟨hz1, rfl⟩ := hz
              have HF := Lib.hid (show uintL (l.drop p) = none by rw [HE2.out, if_neg (by omega), if_pos (.inl ⟨hz1, rfl⟩)])
              have hz2 : (0 : Int) < (k : Int) := by omega
              clear hg hc128
              go_wp2_with fail
              go_ret3
              exact .inr ⟨HF.out, _, _, rfl, rfl⟩
          · by_cases hb : 4294967295 < N
            · have HF := Lib.hid (show uintL (l.drop p) = none by
                rw [HE2.out, if_neg (by omega), ← he, HM.out, if_pos (.inr hb)])
              have hb2 : (4294967296 : Int) ≤ (N : Int) := by omega
              have hc0 : (0 : Int) < (4294967296 : Int) := by decide
              have HBB := Lib.hid hb
              generalize hC : (4294967296 : Int) = C at hb2 hc0 ⊢
              have HCC2 := Lib.hid hC
              clear hC hb
              by_cases hk0 : 0 < k
              · as_aux_lemma =>
                  have hz3 : (c == 0) = false := by simp; omega
                  have hz2 : (0 : Int) < (k : Int) := by omega
                  clear hz
                  go_wp2_with fail
                  go_ret3
                  exact .inr ⟨HF.out, _, _, rfl, rfl⟩
              · as_aux_lemma =>
                  have hz2 : (k : Int) ≤ 0 := by omega
                  clear hz
                  go_wp2_with fail
                  go_ret3
                  exact .inr ⟨HF.out, _, _, rfl, rfl⟩
            · have HF := Lib.hid (show uintL (l.drop p) = some (N, k + 1) by
                rw [HE2.out, if_neg (by omega), ← he, HM.out, if_neg (by omega)])
              have hb2 : (N : Int) < (4294967296 : Int) := by omega
              have hc0 : (0 : Int) < (4294967296 : Int) := by decide
              have HBB := Lib.hid hb
              generalize hC : (4294967296 : Int) = C at hb2 hc0 ⊢
              have HCC2 := Lib.hid hC
              clear hC hb
              by_cases hk0 : 0 < k
              · as_aux_lemma =>
                  have hz3 : (c == 0) = false := by simp; omega
                  have hz2 : (0 : Int) < (k : Int) := by omega
                  have hp1 : 1 ≤ P := by omega
                  have hpos : (0 : Int) < (N : Int) := by
                    have : 1 * 1 ≤ (c % 128).toNat * P := Nat.mul_le_mul (by omega) hp1
                    have h5 := HNM.out; omega
                  clear hz
                  go_wp2_with fail
                  go_ret3
                  exact .inl ⟨_, _, HF.out, ret_tup3 (tmod_back HCC2.out hb2) (by omega), rfl⟩
              · have hz2 : (k : Int) ≤ 0 := by omega
                have hz4 : ((k : Int) == 0) = true := by simp; omega
                clear hz
                by_cases hpos : (0 : Int) < (N : Int)
                · as_aux_lemma =>
                    go_wp2_with fail
                    go_ret3
                    exact .inl ⟨_, _, HF.out, ret_tup3 (tmod_back HCC2.out hb2) (by omega), rfl⟩
                · as_aux_lemma =>
                    have hpos' : (N : Int) ≤ 0 := by omega
                    go_wp2_with fail
                    go_ret3
                    exact .inl ⟨_, _, HF.out, ret_tup3 (by omega) (by omega), rfl⟩
      · as_aux_lemma =>
          have HF := Lib.hid (show uintL (l.drop p) = none by
            rw [HE.out, List.drop_eq_nil_of_le (by omega), uintGo])
          have hini : (l.length : Int) - (p : Int) ≤ (k : Int) := by omega
          go_wp2_with fail
          go_ret3
          exact .inr ⟨HF.out, _, _, rfl, rfl⟩
    · as_aux_lemma =>
        obtain rfl : k = 5 := by omega
        have HF := Lib.hid (show uintL (l.drop p) = none by rw [HE.out]; exact go_five)
        go_wp2_with fail
        go_ret3
        exact .inr ⟨HF.out, _, _, rfl, rfl⟩
end
end Go.Proofs.Ytgemnmceflcpcaa
