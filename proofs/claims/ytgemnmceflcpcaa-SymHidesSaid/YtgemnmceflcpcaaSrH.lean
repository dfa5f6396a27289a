/- Is a text a name: the document's. -/
import Derived.Test.YtgemnmceflcpcaaSrG
namespace Go.Proofs.Ytgemnmceflcpcaa
open Go Go.RowKit Go.Lib Go.Proofs.Ytgemnmceflcpcaa.Sy
set_option linter.unusedVariables false
set_option linter.unusedSimpArgs false
section
variable {w : World}
set_option maxHeartbeats 4000000 in
set_option maxRecDepth 100000 in
theorem risname_any (s : ByteArray) (hs : s.size ≤ maxLen) {c : Bool} (hc : IsB c (isNm s)) : Calls Try.prog 42 #[.string s] w fun e w' => e = .returned (.bool c) ∧ w = w' := by
  have HC := Lib.hid hc
  unfold maxLen at hs
  clear hc
  by_cases hz : s = ⟨#[]⟩
  · subst hz
    obtain rfl := HC.out.no (fun h => h.1 rfl)
    go_enter Try.func42, Try.ntmps42
    go_wp2_with fail
    go_ret
    exact ⟨rfl, rfl⟩
  · have z1 := str_ne hz
    have z2 := str_ne2 hz
    have hz0 : s.size ≠ 0 := fun h => hz (by cases s with | mk d => cases d with | mk l => cases l with | nil => rfl | cons a b => simp [ByteArray.size] at h)
    clear hz
    by_cases hy : s.size ≤ 20
    · have hy1 : (s.size : Int) ≤ 20 := by omega
      go_enter Try.func42, Try.ntmps42
      go_wp2_with fail
      go_loop [3] (fun i => ∃ k : Nat, k ≤ s.size ∧ i = .int .i64 k ∧ Hid (∀ j, j < k → okAt s j)) (fun i => s.size - (intOf i).toNat)
      case atStart => exact ⟨0, Nat.zero_le _, rfl, Lib.hid (fun j hj => absurd hj (by omega))⟩
      case round =>
        obtain ⟨k, hk, rfl, HN⟩ := hrel
        by_cases hlt : k < s.size
        · have hltn : (k : Int) < (s.size : Int) := by omega
          by_cases q1 : (s[k].toNat : Int) < 48
          · have d48 : ((s[k].toNat : Int) < 48) := by omega
            have a97 : ¬ (97 ≤ (s[k].toNat : Int)) := by omega
            have a65 : ¬ (65 ≤ (s[k].toNat : Int)) := by omega
            have hnl : ¬ letN (chr s k) := fun h => by unfold letN at h; rw [chr_at hlt] at h; omega
            by_cases e0 : k = 0
            · subst e0
              have hno : ¬ okAt s 0 := fun h => by
                rcases h with h | h
                · exact hnl h
                · exact h.1 rfl
              clear hnl
              obtain rfl := HC.out.no (fun h => hno (h.2.2 0 hlt))
              clear hno
              go_wp2_with fail
              go_ret
              exact ⟨rfl, rfl⟩
            have e1 : ((k : Int) == 0) = false := by simp; omega
            have hno : ¬ okAt s k := fun h => by
              rcases h with h | h
              · exact hnl h
              · rw [chr_at hlt] at h; omega
            clear hnl
            obtain rfl := HC.out.no (fun h => hno (h.2.2 k hlt))
            clear hno
            go_wp2_with fail
            go_ret
            exact ⟨rfl, rfl⟩
          · by_cases q2 : (s[k].toNat : Int) ≤ 57
            · have d48 : ¬ ((s[k].toNat : Int) < 48) := by omega
              have d57 : ¬ (57 < (s[k].toNat : Int)) := by omega
              have a97 : ¬ (97 ≤ (s[k].toNat : Int)) := by omega
              have a65 : ¬ (65 ≤ (s[k].toNat : Int)) := by omega
              have hnl : ¬ letN (chr s k) := fun h => by unfold letN at h; rw [chr_at hlt] at h; omega
              by_cases e0 : k = 0
              · subst e0
                have hno : ¬ okAt s 0 := fun h => by
                  rcases h with h | h
                  · exact hnl h
                  · exact h.1 rfl
                clear hnl
                obtain rfl := HC.out.no (fun h => hno (h.2.2 0 hlt))
                clear hno
                go_wp2_with fail
                go_ret
                exact ⟨rfl, rfl⟩
              have e1 : ((k : Int) == 0) = false := by simp; omega
              have hok : okAt s k := .inr ⟨e0, by rw [chr_at hlt]; omega, by rw [chr_at hlt]; omega⟩
              clear hnl
              have HI := Lib.hid (ok_snoc HN.out hok)
              clear hok
              go_wp2_with fail
              go_round
              case rel => exact ⟨k + 1, by omega, by go_num, HI⟩
              case measure => simp [intOf]; omega
            · by_cases q3 : (s[k].toNat : Int) < 65
              · have d48 : ¬ ((s[k].toNat : Int) < 48) := by omega
                have d57 : (57 < (s[k].toNat : Int)) := by omega
                have a97 : ¬ (97 ≤ (s[k].toNat : Int)) := by omega
                have a65 : ¬ (65 ≤ (s[k].toNat : Int)) := by omega
                have hnl : ¬ letN (chr s k) := fun h => by unfold letN at h; rw [chr_at hlt] at h; omega
                by_cases e0 : k = 0
                · subst e0
                  have hno : ¬ okAt s 0 := fun h => by
                    rcases h with h | h
                    · exact hnl h
                    · exact h.1 rfl
                  clear hnl
                  obtain rfl := HC.out.no (fun h => hno (h.2.2 0 hlt))
                  clear hno
                  go_wp2_with fail
                  go_ret
                  exact ⟨rfl, rfl⟩
                have e1 : ((k : Int) == 0) = false := by simp; omega
                have hno : ¬ okAt s k := fun h => by
                  rcases h with h | h
                  · exact hnl h
                  · rw [chr_at hlt] at h; omega
                clear hnl
                obtain rfl := HC.out.no (fun h => hno (h.2.2 k hlt))
                clear hno
                go_wp2_with fail
                go_ret
                exact ⟨rfl, rfl⟩
              · by_cases q4 : (s[k].toNat : Int) ≤ 90
                · have a97 : ¬ (97 ≤ (s[k].toNat : Int)) := by omega
                  have a65 : (65 ≤ (s[k].toNat : Int)) := by omega
                  have a90 : ((s[k].toNat : Int) ≤ 90) := by omega
                  have hok : okAt s k := .inl (by unfold letN; rw [chr_at hlt]; omega)
                  have HI := Lib.hid (ok_snoc HN.out hok)
                  clear hok
                  go_wp2_with fail
                  go_round
                  case rel => exact ⟨k + 1, by omega, by go_num, HI⟩
                  case measure => simp [intOf]; omega
                · by_cases q5 : (s[k].toNat : Int) < 97
                  · have d48 : ¬ ((s[k].toNat : Int) < 48) := by omega
                    have d57 : (57 < (s[k].toNat : Int)) := by omega
                    have a97 : ¬ (97 ≤ (s[k].toNat : Int)) := by omega
                    have a65 : (65 ≤ (s[k].toNat : Int)) := by omega
                    have a90 : ¬ ((s[k].toNat : Int) ≤ 90) := by omega
                    have hnl : ¬ letN (chr s k) := fun h => by unfold letN at h; rw [chr_at hlt] at h; omega
                    by_cases e0 : k = 0
                    · subst e0
                      have hno : ¬ okAt s 0 := fun h => by
                        rcases h with h | h
                        · exact hnl h
                        · exact h.1 rfl
                      clear hnl
                      obtain rfl := HC.out.no (fun h => hno (h.2.2 0 hlt))
                      clear hno
                      go_wp2_with fail
                      go_ret
                      exact ⟨rfl, rfl⟩
                    have e1 : ((k : Int) == 0) = false := by simp; omega
                    have hno : ¬ okAt s k := fun h => by
                      rcases h with h | h
                      · exact hnl h
                      · rw [chr_at hlt] at h; omega
                    clear hnl
                    obtain rfl := HC.out.no (fun h => hno (h.2.2 k hlt))
                    clear hno
                    go_wp2_with fail
                    go_ret
                    exact ⟨rfl, rfl⟩
                  · by_cases q6 : (s[k].toNat : Int) ≤ 122
                    · have a97 : (97 ≤ (s[k].toNat : Int)) := by omega
                      have a122 : ((s[k].toNat : Int) ≤ 122) := by omega
                      have hok : okAt s k := .inl (by unfold letN; rw [chr_at hlt]; omega)
                      have HI := Lib.hid (ok_snoc HN.out hok)
                      clear hok
                      go_wp2_with fail
                      go_round
                      case rel => exact ⟨k + 1, by omega, by go_num, HI⟩
                      case measure => simp [intOf]; omega
                    · have d48 : ¬ ((s[k].toNat : Int) < 48) := by omega
                      have d57 : (57 < (s[k].toNat : Int)) := by omega
                      have a97 : (97 ≤ (s[k].toNat : Int)) := by omega
                      have a122 : ¬ ((s[k].toNat : Int) ≤ 122) := by omega
                      have a65 : (65 ≤ (s[k].toNat : Int)) := by omega
                      have a90 : ¬ ((s[k].toNat : Int) ≤ 90) := by omega
                      have hnl : ¬ letN (chr s k) := fun h => by unfold letN at h; rw [chr_at hlt] at h; omega
                      by_cases e0 : k = 0
                      · subst e0
                        have hno : ¬ okAt s 0 := fun h => by
                          rcases h with h | h
                          · exact hnl h
                          · exact h.1 rfl
                        clear hnl
                        obtain rfl := HC.out.no (fun h => hno (h.2.2 0 hlt))
                        clear hno
                        go_wp2_with fail
                        go_ret
                        exact ⟨rfl, rfl⟩
                      have e1 : ((k : Int) == 0) = false := by simp; omega
                      have hno : ¬ okAt s k := fun h => by
                        rcases h with h | h
                        · exact hnl h
                        · rw [chr_at hlt] at h; omega
                      clear hnl
                      obtain rfl := HC.out.no (fun h => hno (h.2.2 k hlt))
                      clear hno
                      go_wp2_with fail
                      go_ret
                      exact ⟨rfl, rfl⟩
        · obtain rfl : k = s.size := by omega
          obtain rfl := HC.out.yes ⟨hz0, hy, HN.out⟩
          go_wp2_with fail
          go_ret
          exact ⟨rfl, rfl⟩
    · have hy1 : 20 < (s.size : Int) := by omega
      obtain rfl := HC.out.no (fun h => hy h.2.1)
      go_enter Try.func42, Try.ntmps42
      go_wp2_with fail
      go_ret
      exact ⟨rfl, rfl⟩
end
end Go.Proofs.Ytgemnmceflcpcaa
