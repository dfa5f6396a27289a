/- What an instruction may be: within, reckoning. -/
import Derived.Test.YtnghhkageiceaaaDoorProg
import Derived.WalkKit
import Derived.ProofKit
import Derived.OwnWalk
import Derived.Below
import Derived.WalkSpells
import Derived.Lib.Hide
import Derived.Handy
namespace Go.Proofs.YtnghhkageiceaaaDoor
open Go Go.RowKit Go.Lib
set_option linter.unusedVariables false
set_option linter.unusedSimpArgs false
theorem within_any (n lo hi : Int) (w : World) : Calls Tryd.prog 42 #[.int .i64 n, .int .i64 lo, .int .i64 hi] w fun e w' => e = .returned (.bool (decide (lo ≤ n) && decide (n ≤ hi))) ∧ w = w' := by
  by_cases h : lo ≤ n
  · go_enter Tryd.func42, Tryd.ntmps42
    go_wp2_with fail
    go_ret
    exact ⟨by simp [h], rfl⟩
  · go_enter Tryd.func42, Tryd.ntmps42
    go_wp2_with fail
    go_ret
    exact ⟨by simp; omega, rfl⟩
/-- The table of what the operations take, as it lies. -/
def tk : List Int := [3, 2, 2, 2, 2, 2, 2, 2, 3, 3, 3, 2, 4, 4, 4, 0]
def Tab (w : World) : Prop := ∀ k, k < 16 → w.cell? ⟨0, k, none⟩ = some (.int .i64 (tk.getD k 0))
theorem Tab.lt {w : World} (h : Tab w) : 0 < w.heap.size := World.block_lt_of_cell? w ⟨0, 0, none⟩ (h 0 (by decide))
theorem Tab.below {w w' : World} {B : Nat} (h : Tab w) (b : Below B w w') (hB : 0 < B) : Tab w' := fun k hk => by
  rw [World.cell?_of_block (b.block 0 hB)]; exact h k hk
/-- An instruction's value. -/
def ins (f : Int) (u v : Bool) (a b op c n : Int) : Value := .agg #[.int .i64 f, .bool u, .bool v, .int .i64 a, .int .i64 b, .int .i64 op, .int .i64 c, .int .i64 n]
def reckB (f : Int) (u v : Bool) (a b op c : Int) : Bool :=
  if op < 0 ∨ 11 < op ∧ op ≠ 15 then false
  else if op = 15 then decide (f = 1) && !u && !v && decide (a = 0) && decide (b = 0)
  else if op = 0 then decide (b = 0) && (if f = 1 then !u || !v else (!v && !u) || (u && decide (c = 0)))
  else (!u || decide (8 ≤ op ∧ op ≤ 10)) && (!v || decide (f = 1))
end Go.Proofs.YtnghhkageiceaaaDoor
