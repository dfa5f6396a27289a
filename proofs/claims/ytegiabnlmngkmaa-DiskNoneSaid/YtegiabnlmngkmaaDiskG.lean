/- A nil disk. -/
import Derived.Test.YtegiabnlmngkmaaDiskF
import Derived.Test.YtegiabnlmngkmaaGen
namespace Go.Proofs.Ytegiabnlmngkmaa
open Go Go.RowKit Go.Lib
set_option linter.unusedVariables false
theorem none_there (n : Int) (w : World) :
    Calls Try.prog 24 #[.pointer none, .int .i64 n] w fun e w' => e = .returned (.int .i64 1) ∧ w = w' := by
  go_enter Try.func24, Try.ntmps24
  go_wp2_with fail
  go_ret
  exact ⟨rfl, rfl⟩
theorem none_sectors (w : World) : Calls Try.prog 19 #[.pointer none] w fun e w' => e = .returned (.int .i64 0) ∧ w = w' := by
  go_enter Try.func19, Try.ntmps19
  go_wp2_with fail
  go_ret
  exact ⟨rfl, rfl⟩
theorem none_read (n : Int) (w : World) : Calls Try.prog 13 #[.pointer none, .int .i64 n] w fun e w' => e = .returned (.tuple #[.slice none 0 0, .int .i64 1]) ∧ w = w' := by
  go_enter Try.func13, Try.ntmps13
  go_wp2_with (first | (go_at_call 24; refine (none_there n _).mono ?_; rintro e w' ⟨rfl, rfl⟩))
  go_ret2
  exact ⟨rfl, rfl⟩
theorem none_write (n : Int) (b : Value) (w : World) : Calls Try.prog 11 #[.pointer none, .int .i64 n, b] w fun e w' => e = .returned (.int .i64 1) ∧ w = w' := by
  go_enter Try.func11, Try.ntmps11
  go_wp2_with (first | (go_at_call 24; refine (none_there n _).mono ?_; rintro e w' ⟨rfl, rfl⟩))
  go_ret
  exact ⟨rfl, rfl⟩
theorem none_writes (w : World) : Calls Try.prog 14 #[.pointer none] w fun e w' => e = .returned (.slice none 0 0) ∧ w = w' := by
  go_enter Try.func14, Try.ntmps14
  go_wp2_with fail
  go_ret
  exact ⟨rfl, rfl⟩
theorem none_image (w : World) : Calls Try.prog 20 #[.pointer none] w fun e w' => e = .returned (.slice none 0 0) ∧ w = w' := by
  go_enter Try.func20, Try.ntmps20
  go_wp2_with fail
  go_ret
  exact ⟨rfl, rfl⟩
theorem none_cut (n : Int) (w : World) : Calls Try.prog 23 #[.pointer none, .int .i64 n] w fun e w' => e = .returned (.tuple #[.pointer none, .int .i64 1]) ∧ w = w' := by
  go_enter Try.func23, Try.ntmps23
  go_wp2_with fail
  go_ret2
  exact ⟨rfl, rfl⟩
theorem diskNone_any (n : Int) (b : Value) (w : World) : Calls Try.prog 8 #[.int .i64 n, b] w fun e w' => e = .returned (.bool true) ∧ Below w.heap.size w w' := by
  go_enter Try.func8, Try.ntmps8
  go_wp2_with (first | (go_at_call 9; refine (shown_any _).mono ?_; rintro e w1 ⟨rfl, hb1⟩) | (go_at_call 19; refine (none_sectors _).mono ?_; rintro e w' ⟨rfl, rfl⟩) | (go_at_call 13; refine (none_read n _).mono ?_; rintro e w' ⟨rfl, rfl⟩) | (go_at_call 11; refine (none_write n b _).mono ?_; rintro e w' ⟨rfl, rfl⟩) | (go_at_call 14; refine (none_writes _).mono ?_; rintro e w' ⟨rfl, rfl⟩) | (go_at_call 20; refine (none_image _).mono ?_; rintro e w' ⟨rfl, rfl⟩) | (go_at_call 23; refine (none_cut n _).mono ?_; rintro e w' ⟨rfl, rfl⟩))
  go_ret
  exact ⟨rfl, hb1⟩
def diskNoneAts : List Gen.AT := [.one (.int .i64), .one (.slice 1 [.int .u8])]
theorem diskNone_args (W : World) (vs : List Value) (h : Gen.ArgsGood W diskNoneAts vs) :
    Calls Try.prog 8 vs.toArray W fun e W' => e = .returned (.bool true) ∧ Below W.heap.size W W' := by
  match vs, h with
  | [v0, v1], h =>
    obtain ⟨h0, h1, _⟩ := h
    obtain ⟨n, rfl, _⟩ := h0.int_inv
    exact diskNone_any n v1 W
end Go.Proofs.Ytegiabnlmngkmaa
