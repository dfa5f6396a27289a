/- The word of an instruction: Encode. -/
import Derived.Test.YtnghhkageiceaaaDoorCpuG
import Derived.Deep.QuietTactic
import Derived.BigQuiet
namespace Go.Proofs.YtnghhkageiceaaaDoor
open Go Go.RowKit Go.Lib Go.Proofs.YtnghhkageiceaaaDoor.Pl
set_option linter.unusedVariables false
set_option linter.unusedSimpArgs false
attribute [local go_sem ↓] run_eql_ins
theorem tup_ui {k k' : IntKind} {x y a c : Int} (h : x = a) (g : y = c) : Ending.returned (.tuple #[.int k x, .int k' y]) = Ending.returned (.tuple #[.int k a, .int k' c]) := by rw [h, g]
theorem enc_0 (u v : Bool) (a b op c n : Int) (hz : insEq 0 0 u false v false a 0 b 0 op 0 c 0 n 0 = false) (hr : rightB 0 u v a b op c n = true) (w : World) (hT : Tab w) :
    Calls Tryd.prog 16 #[ins 0 u v a b op c n] w fun e w' => e = .returned (.tuple #[.int .u32 (encW 0 u v a b op c n), .int .i64 0]) ∧ Below w.heap.size w w' := by
  have HT : Hid (Tab (w.alloc (.cells #[.int .i64 0, .bool u, .bool v, .int .i64 a, .int .i64 b, .int .i64 op, .int .i64 c, .int .i64 n] 33 (0, 0)))) := hT.below ((Below.refl w.heap.size w).alloc (Nat.le_refl _) _) hT.lt
  have HE := Lib.hid (enc_or0 u v a b op c n hr)
  unfold ins
  go_enter Tryd.func16, Tryd.ntmps16
  go_wp2_with (go_at_call 27; go_must (refine (right_any _ _ _ _ _ _ _ _ _ HT.out).mono ?_); rintro e w1 ⟨rfl, hb1⟩; have hi := fun j => hb1.cell (p := ⟨w.heap.size, j, none⟩) (by simp))
  go_big_quiet ((go_at_call 28; exact Calls.quiet_of_same (flag_any _ _ (by omega) (by omega) _)))
  go_wp2_with fail
  go_ret2
  exact ⟨tup_ui HE.out rfl, by first | exact belN (bel1 hb1) _ | exact bel1 hb1⟩
theorem enc_1 (u v : Bool) (a b op c n : Int) (hz : insEq 1 0 u false v false a 0 b 0 op 0 c 0 n 0 = false) (hr : rightB 1 u v a b op c n = true) (w : World) (hT : Tab w) :
    Calls Tryd.prog 16 #[ins 1 u v a b op c n] w fun e w' => e = .returned (.tuple #[.int .u32 (encW 1 u v a b op c n), .int .i64 0]) ∧ Below w.heap.size w w' := by
  have HT : Hid (Tab (w.alloc (.cells #[.int .i64 1, .bool u, .bool v, .int .i64 a, .int .i64 b, .int .i64 op, .int .i64 c, .int .i64 n] 33 (0, 0)))) := hT.below ((Below.refl w.heap.size w).alloc (Nat.le_refl _) _) hT.lt
  have HE := Lib.hid (enc_or1 u v a b op c n hr)
  unfold ins
  go_enter Tryd.func16, Tryd.ntmps16
  go_wp2_with (go_at_call 27; go_must (refine (right_any _ _ _ _ _ _ _ _ _ HT.out).mono ?_); rintro e w1 ⟨rfl, hb1⟩; have hi := fun j => hb1.cell (p := ⟨w.heap.size, j, none⟩) (by simp))
  go_big_quiet ((go_at_call 28; exact Calls.quiet_of_same (flag_any _ _ (by omega) (by omega) _)))
  go_wp2_with fail
  go_ret2
  exact ⟨tup_ui HE.out rfl, by first | exact belN (bel1 hb1) _ | exact bel1 hb1⟩
theorem enc_2 (u v : Bool) (a b op c n : Int) (hz : insEq 2 0 u false v false a 0 b 0 op 0 c 0 n 0 = false) (hr : rightB 2 u v a b op c n = true) (w : World) (hT : Tab w) :
    Calls Tryd.prog 16 #[ins 2 u v a b op c n] w fun e w' => e = .returned (.tuple #[.int .u32 (encW 2 u v a b op c n), .int .i64 0]) ∧ Below w.heap.size w w' := by
  have HT : Hid (Tab (w.alloc (.cells #[.int .i64 2, .bool u, .bool v, .int .i64 a, .int .i64 b, .int .i64 op, .int .i64 c, .int .i64 n] 33 (0, 0)))) := hT.below ((Below.refl w.heap.size w).alloc (Nat.le_refl _) _) hT.lt
  have HE := Lib.hid (enc_or2 u v a b op c n hr)
  unfold ins
  go_enter Tryd.func16, Tryd.ntmps16
  go_wp2_with (go_at_call 27; go_must (refine (right_any _ _ _ _ _ _ _ _ _ HT.out).mono ?_); rintro e w1 ⟨rfl, hb1⟩; have hi := fun j => hb1.cell (p := ⟨w.heap.size, j, none⟩) (by simp))
  go_big_quiet ((go_at_call 28; exact Calls.quiet_of_same (flag_any _ _ (by omega) (by omega) _)))
  go_wp2_with fail
  go_ret2
  exact ⟨tup_ui HE.out rfl, by first | exact belN (bel1 hb1) _ | exact bel1 hb1⟩
theorem enc_3 (u v : Bool) (a b op c n : Int) (hz : insEq 3 0 u false v false a 0 b 0 op 0 c 0 n 0 = false) (hr : rightB 3 u v a b op c n = true) (w : World) (hT : Tab w) :
    Calls Tryd.prog 16 #[ins 3 u v a b op c n] w fun e w' => e = .returned (.tuple #[.int .u32 (encW 3 u v a b op c n), .int .i64 0]) ∧ Below w.heap.size w w' := by
  have HT : Hid (Tab (w.alloc (.cells #[.int .i64 3, .bool u, .bool v, .int .i64 a, .int .i64 b, .int .i64 op, .int .i64 c, .int .i64 n] 33 (0, 0)))) := hT.below ((Below.refl w.heap.size w).alloc (Nat.le_refl _) _) hT.lt
  have HE := Lib.hid (enc_or3 u v a b op c n hr)
  unfold ins
  go_enter Tryd.func16, Tryd.ntmps16
  go_wp2_with (go_at_call 27; go_must (refine (right_any _ _ _ _ _ _ _ _ _ HT.out).mono ?_); rintro e w1 ⟨rfl, hb1⟩; have hi := fun j => hb1.cell (p := ⟨w.heap.size, j, none⟩) (by simp))
  go_big_quiet ((go_at_call 28; exact Calls.quiet_of_same (flag_any _ _ (by omega) (by omega) _)))
  go_wp2_with fail
  go_ret2
  exact ⟨tup_ui HE.out rfl, by first | exact belN (bel1 hb1) _ | exact bel1 hb1⟩
theorem enc_z (w : World) :
    Calls Tryd.prog 16 #[ins 0 false false 0 0 0 0 0] w fun e w' => e = .returned (.tuple #[.int .u32 0, .int .i64 0]) ∧ Below w.heap.size w w' := by
  have hz := insEq_self 0 false false 0 0 0 0 0
  unfold ins
  go_enter Tryd.func16, Tryd.ntmps16
  go_wp2_with fail
  go_ret2
  exact ⟨rfl, (Below.refl _ _).alloc (Nat.le_refl _) _⟩
theorem enc_no (f : Int) (u v : Bool) (a b op c n : Int) (hz : insEq f 0 u false v false a 0 b 0 op 0 c 0 n 0 = false) (hr : rightB f u v a b op c n = false) (w : World) (hT : Tab w) :
    Calls Tryd.prog 16 #[ins f u v a b op c n] w fun e w' => e = .returned (.tuple #[.int .u32 0, .int .i64 20]) ∧ Below w.heap.size w w' := by
  have HT : Hid (Tab (w.alloc (.cells #[.int .i64 f, .bool u, .bool v, .int .i64 a, .int .i64 b, .int .i64 op, .int .i64 c, .int .i64 n] 33 (0, 0)))) := hT.below ((Below.refl w.heap.size w).alloc (Nat.le_refl _) _) hT.lt
  unfold ins
  go_enter Tryd.func16, Tryd.ntmps16
  go_wp2_with (go_at_call 27; go_must (refine (right_any _ _ _ _ _ _ _ _ _ HT.out).mono ?_); rintro e w1 ⟨rfl, hb1⟩; have hi := fun j => hb1.cell (p := ⟨w.heap.size, j, none⟩) (by simp))
  go_ret2
  exact ⟨rfl, by first | exact belN (bel1 hb1) _ | exact bel1 hb1⟩
def encR (f : Int) (u v : Bool) (a b op c n : Int) : Int := if rightB f u v a b op c n then encW f u v a b op c n else 0
def encE (f : Int) (u v : Bool) (a b op c n : Int) : Int := if rightB f u v a b op c n then 0 else 20
theorem enc_any (f : Int) (u v : Bool) (a b op c n : Int) (w : World) (hT : Tab w) :
    Calls Tryd.prog 16 #[ins f u v a b op c n] w fun e w' => e = .returned (.tuple #[.int .u32 (encR f u v a b op c n), .int .i64 (encE f u v a b op c n)]) ∧ Below w.heap.size w w' := by
  cases hz : insEq f 0 u false v false a 0 b 0 op 0 c 0 n 0
  · cases hr : rightB f u v a b op c n
    · rw [show encR f u v a b op c n = 0 from by unfold encR; rw [hr]; rfl, show encE f u v a b op c n = 20 from by unfold encE; rw [hr]; rfl]
      exact enc_no f u v a b op c n hz hr w hT
    · rw [show encR f u v a b op c n = encW f u v a b op c n from by unfold encR; rw [hr]; rfl, show encE f u v a b op c n = 0 from by unfold encE; rw [hr]; rfl]
      obtain ⟨_, _, _, _, hf⟩ := right_inv hr
      rcases hf with ⟨rfl, _⟩ | ⟨rfl, _⟩ | ⟨rfl, _⟩ | ⟨rfl, _⟩
      · exact enc_0 u v a b op c n hz hr w hT
      · exact enc_1 u v a b op c n hz hr w hT
      · exact enc_2 u v a b op c n hz hr w hT
      · exact enc_3 u v a b op c n hz hr w hT
  · unfold insEq at hz
    obtain ⟨rfl, rfl, rfl, rfl, rfl, rfl, rfl, rfl⟩ := of_decide_eq_true hz
    exact enc_z w
end Go.Proofs.YtnghhkageiceaaaDoor
