/- The document's: the word of an instruction. -/
import Derived.Test.YtnghhkageiceaaaDoorRefC
namespace Go.Proofs.YtnghhkageiceaaaDoor
open Go Go.RowKit Go.Lib Go.Proofs.YtnghhkageiceaaaDoor.Pl
set_option linter.unusedVariables false
set_option linter.unusedSimpArgs false
set_option maxHeartbeats 1000000 in
theorem renc_no (f : Int) (u v : Bool) (a b op c n : Int) (hr : rightB f u v a b op c n = false) (w : World) :
    Calls Tryd.prog 17 #[ins f u v a b op c n] w fun e w' => e = .returned (.tuple #[.int .u32 0, .int .i64 20]) ∧ Below w.heap.size w w' := by
  unfold ins
  go_enter Tryd.func17, Tryd.ntmps17
  go_wp2_with (go_at_call 25; refine (rright_any _ _ _ _ _ _ _ _ _).mono ?_; rintro e w1 ⟨rfl, hb1⟩; have hi := fun j => hb1.cell (p := ⟨w.heap.size, j, none⟩) (by simp))
  go_ret2
  exact ⟨rfl, bel1 hb1⟩
set_option maxHeartbeats 1000000 in
theorem renc_yes (f : Int) (u v : Bool) (a b op c n : Int) (hr : rightB f u v a b op c n = true) (w : World) :
    Calls Tryd.prog 17 #[ins f u v a b op c n] w fun e w' => e = .returned (.tuple #[.int .u32 (encW f u v a b op c n), .int .i64 0]) ∧ Below w.heap.size w w' := by
  have HR := Lib.hid hr
  unfold ins
  go_enter Tryd.func17, Tryd.ntmps17
  go_wp2_with (first | (go_at_call 25; refine (rright_any _ _ _ _ _ _ _ _ _).mono ?_; rintro e w1 ⟨rfl, hb1⟩; have hi := fun j => hb1.cell (p := ⟨w.heap.size, j, none⟩) (by simp)) | (go_at_call 26; refine (rlaid_any HR.out _).mono ?_; rintro e w2 ⟨rfl, hb2⟩))
  go_ret2
  exact ⟨rfl, (bel1 hb1).trans (hb2.mono (bel1 hb1).size)⟩
theorem renc_any (f : Int) (u v : Bool) (a b op c n : Int) (w : World) :
    Calls Tryd.prog 17 #[ins f u v a b op c n] w fun e w' => e = .returned (.tuple #[.int .u32 (encR f u v a b op c n), .int .i64 (encE f u v a b op c n)]) ∧ Below w.heap.size w w' := by
  cases hr : rightB f u v a b op c n
  · rw [show encR f u v a b op c n = 0 from by unfold encR; rw [hr]; rfl, show encE f u v a b op c n = 20 from by unfold encE; rw [hr]; rfl]
    exact renc_no f u v a b op c n hr w
  · rw [show encR f u v a b op c n = encW f u v a b op c n from by unfold encR; rw [hr]; rfl, show encE f u v a b op c n = 0 from by unfold encE; rw [hr]; rfl]
    exact renc_yes f u v a b op c n hr w
end Go.Proofs.YtnghhkageiceaaaDoor
