/- Of a nil bus. -/
import Derived.Test.YtmamocdkmmkkjaaBusL
namespace Go.Proofs.Ytmamocdkmmkkjaa
open Go Go.RowKit Go.Lib Go.Proofs.Ytmamocdkmmkkjaa.Pl
set_option linter.unusedVariables false
set_option linter.unusedSimpArgs false
theorem bnil_Word (a : Int) (w : World) : Calls Try.prog 11 #[.pointer none, .int .u32 a] w fun e w' => e = .returned (.tuple #[.int .u32 0, .bool false]) ∧ w = w' := by
  go_enter Try.func11, Try.ntmps11
  go_wp2_with fail
  go_ret2
  exact ⟨rfl, rfl⟩
theorem bnil_Feed (s : ByteArray) (w : World) : Calls Try.prog 17 #[.pointer none, .string s] w fun e w' => e = .returned (.int .i64 1) ∧ w = w' := by
  go_enter Try.func17, Try.ntmps17
  go_wp2_with fail
  go_ret
  exact ⟨rfl, rfl⟩
theorem bnil_Waiting (w : World) : Calls Try.prog 18 #[.pointer none] w fun e w' => e = .returned (.int .i64 0) ∧ w = w' := by
  go_enter Try.func18, Try.ntmps18
  go_wp2_with fail
  go_ret
  exact ⟨rfl, rfl⟩
theorem bnil_Out (w : World) : Calls Try.prog 19 #[.pointer none] w fun e w' => e = .returned (.string ByteArray.empty) ∧ w = w' := by
  go_enter Try.func19, Try.ntmps19
  go_wp2_with fail
  go_ret
  exact ⟨rfl, rfl⟩
theorem bnil_Poke (a y : Int) (w : World) : Calls Try.prog 13 #[.pointer none, .int .u32 a, .int .u32 y] w fun e w' => e = .returned (.bool false) ∧ w = w' := by
  go_enter Try.func13, Try.ntmps13
  go_wp2_with fail
  go_ret
  exact ⟨rfl, rfl⟩
theorem bnil_Disk (w : World) : Calls Try.prog 25 #[.pointer none] w fun e w' => e = .returned (.pointer none) ∧ w = w' := by
  go_enter Try.func25, Try.ntmps25
  go_wp2_with fail
  go_ret
  exact ⟨rfl, rfl⟩
theorem bnil_Tick (a : Int) (w : World) : Calls Try.prog 31 #[.pointer none, .int .u32 a] w fun e w' => e = .returned (.tuple #[]) ∧ w = w' := by
  go_enter Try.func31, Try.ntmps31
  go_wp2_with fail
  go_end0
  exact ⟨rfl, rfl⟩
theorem bnil_Do (k a y : Int) (w : World) : Calls Try.prog 10 #[.pointer none, .agg #[.int .i64 k, .int .u32 a, .int .u32 y]] w fun e w' => e = .returned (.tuple #[.int .u32 0, .int .i64 1]) ∧ Below w.heap.size w w' := by
  go_enter Try.func10, Try.ntmps10
  go_wp2_with fail
  go_ret2
  exact ⟨rfl, (Below.refl _ _).alloc (Nat.le_refl _) _⟩
set_option maxRecDepth 100000 in
theorem bnothing_any (w : World) : Calls Try.prog 20 #[] w fun e w' => e = .returned (.bool true) ∧ Below w.heap.size w w' := by
  go_enter Try.func20, Try.ntmps20
  go_upto_region 3 with (go_at_call 10; refine (bnil_Do _ _ _ _).mono ?_; rintro e w1 ⟨rfl, hb1⟩; have HB1 := Lib.hid hb1; clear hb1)
  go_wp2_with (first | (go_at_call 11; refine (bnil_Word _ _).mono ?_; rintro e w2 ⟨rfl, rfl⟩) | (go_at_call 9; refine (bnew_nil _ _ _ _).mono ?_; rintro e w2 ⟨rfl, rfl⟩) | (go_at_call 31; refine (bnil_Tick _ _).mono ?_; rintro e w2 ⟨rfl, rfl⟩) | (go_at_call 17; refine (bnil_Feed _ _).mono ?_; rintro e w2 ⟨rfl, rfl⟩) | (go_at_call 18; refine (bnil_Waiting _).mono ?_; rintro e w2 ⟨rfl, rfl⟩) | (go_at_call 19; refine (bnil_Out _).mono ?_; rintro e w2 ⟨rfl, rfl⟩) | (go_at_call 13; refine (bnil_Poke _ _ _).mono ?_; rintro e w2 ⟨rfl, rfl⟩) | (go_at_call 25; refine (bnil_Disk _).mono ?_; rintro e w2 ⟨rfl, rfl⟩))
  go_ret
  exact ⟨rfl, HB1.out⟩
end Go.Proofs.Ytmamocdkmmkkjaa
