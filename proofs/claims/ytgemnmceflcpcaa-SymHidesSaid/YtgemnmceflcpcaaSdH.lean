/- The questions about a byte. -/
import Derived.Test.YtgemnmceflcpcaaSdF
namespace Go.Proofs.Ytgemnmceflcpcaa
open Go Go.RowKit Go.Lib Go.Proofs.Ytgemnmceflcpcaa.Sy Pl
set_option linter.unusedVariables false
set_option linter.unusedSimpArgs false
theorem plain_is (n : Int) : IsB (plainB n) (plainF n) := ⟨by unfold plainB plainF; exact decide_eq_true_iff⟩
theorem asks_plain : Asks 56 plainB := ⟨fun W args => by simp [go_sem], fun W n _ _ => plain_any n (plain_is n)⟩
theorem asks_res : Asks 85 resB := ⟨fun W args => by simp [go_sem], fun W n h0 h1 => by
  have H := Lib.hid (plain_any (w := W) n (plain_is n))
  by_cases hz : n = 0
  · subst hz
    go_enter Try.func85, Try.ntmps85
    go_wp2_with fail
    go_ret
    exact ⟨ret_bool (by decide), rfl⟩
  · have hz1 : (n == 0) = false := by simpa using hz
    have hr : resB n = plainB n := by unfold resB plainB; simp [hz]
    go_enter Try.func85, Try.ntmps85
    go_wp2_with (go_at_call 56; refine H.out.mono ?_; rintro e w1 ⟨rfl, rfl⟩)
    go_ret
    exact ⟨ret_bool (by unfold resB plainB; simp [hz]), rfl⟩⟩
theorem asks_how : Asks 84 howB := ⟨fun W args => by simp [go_sem], fun W n h0 h1 => by
  go_enter Try.func84, Try.ntmps84
  go_wp2_with fail
  go_ret
  exact ⟨ret_bool (by unfold howB; rfl), rfl⟩⟩
theorem asks_type : Asks 80 typeB := ⟨fun W args => by simp [go_sem], fun W n h0 h1 => by
  by_cases hp : 1 ≤ n ∧ n ≤ 5
  · have hb : plainB n = true := by unfold plainB; simpa using hp
    have H := Lib.hid (plain_any (w := W) n (plain_is n))
    rw [hb] at H
    by_cases h4 : n = 4
    · subst h4
      go_enter Try.func80, Try.ntmps80
      go_wp2_with (go_at_call 56; refine H.out.mono ?_; rintro e w1 ⟨rfl, rfl⟩)
      go_ret
      exact ⟨ret_bool (by decide), rfl⟩
    · have h41 : (n != 4) = true := by simpa using h4
      have h42 : (n == 4) = false := by simpa using h4
      have hr : typeB n = true := by unfold typeB; simp; omega
      rw [hr]
      go_enter Try.func80, Try.ntmps80
      go_wp2_with (go_at_call 56; refine H.out.mono ?_; rintro e w1 ⟨rfl, rfl⟩)
      go_ret
      exact ⟨rfl, rfl⟩
  · have hb : plainB n = false := by unfold plainB; simpa using hp
    have H := Lib.hid (plain_any (w := W) n (plain_is n))
    rw [hb] at H
    by_cases h7 : n = 7
    · subst h7
      go_enter Try.func80, Try.ntmps80
      go_wp2_with (go_at_call 56; refine H.out.mono ?_; rintro e w1 ⟨rfl, rfl⟩)
      go_ret
      exact ⟨ret_bool (by decide), rfl⟩
    · have h71 : (n == 7) = false := by simpa using h7
      have hr : typeB n = false := by unfold typeB; simp; omega
      rw [hr]
      go_enter Try.func80, Try.ntmps80
      go_wp2_with (go_at_call 56; refine H.out.mono ?_; rintro e w1 ⟨rfl, rfl⟩)
      go_ret
      exact ⟨rfl, rfl⟩⟩
end Go.Proofs.Ytgemnmceflcpcaa
