/- The conditions of a branch: the document's. -/
import Derived.Test.YtgcknekhimpfkaaGreatDoorQC
import Derived.WalkKit
import Derived.ProofKit
import Derived.Handy
import Derived.Lib.Hide
namespace Go.Proofs.YtgcknekhimpfkaaGreatDoor
open Go.RowKit
set_option linter.unusedVariables false
theorem rholds_no (cs : Array Value) (n z c v : Bool) (hf : FlagsAre cs n z c v) (k : Int) (hk : k < 0 ∨ 15 < k) (w : World) :
 Calls Tryz.prog 103 #[.agg cs, .int .i64 k] w fun e w' => e = .returned (.bool (holdsV n z c v k)) ∧ Below w.heap.size w w' := by
 obtain ⟨f17, f18, f19, f20⟩ := hf
 have H : Hid (holdsV n z c v k = false) := by unfold Hid holdsV; rw [if_pos hk]
 rcases hk with hk | hk
 ·go_enter Tryz.func103, Tryz.ntmps103
  go_wp2
  go_ret
  exact ⟨by rw [H.out]; rfl, by go_grown⟩
 ·have : ¬ k < 0 := by omega
  go_enter Tryz.func103, Tryz.ntmps103
  go_wp2
  go_ret
  exact ⟨by rw [H.out]; rfl, by go_grown⟩
def selB (m : Int) (a b c d e f g i : Bool) : Bool := if m = 0 then a else if m = 1 then b else if m = 2 then c else if m = 3 then d else if m = 4 then e else if m = 5 then f else if m = 6 then g else i
theorem sel_at (m : Int) (h0 : 0 ≤ m) (h1 : m < 8) (a b c d e f g i : Bool) : [Value.bool a, .bool b, .bool c, .bool d, .bool e, .bool f, .bool g, .bool i][m.toNat]? = some (.bool (selB m a b c d e f g i)) := by
 have hm : m = 0 ∨ m = 1 ∨ m = 2 ∨ m = 3 ∨ m = 4 ∨ m = 5 ∨ m = 6 ∨ m = 7 := by omega
 rcases hm with rfl | rfl | rfl | rfl | rfl | rfl | rfl | rfl <;> rfl
theorem sel_cond (n z c v x y u : Bool) (k : Int) (hx : x = (c || z)) (hy : y = (n != v)) (hu : u = ((n != v) || z)) (h0 : 0 ≤ k) : selB (k % 8) n z c v x y u true = condB n z c v k := by
 subst hx hy hu
 rfl
set_option maxHeartbeats 1000000 in
theorem rholds_yes (cs : Array Value) (n z c v : Bool) (hf : FlagsAre cs n z c v) (k : Int) (h0 : 0 ≤ k) (h1 : k ≤ 15) (w : World) :
 Calls Tryz.prog 103 #[.agg cs, .int .i64 k] w fun e w' => e = .returned (.bool (holdsV n z c v k)) ∧ Below w.heap.size w w' := by
 obtain ⟨f17, f18, f19, f20⟩ := hf
 have H : holdsV n z c v k = (condB n z c v k == decide (k < 8)) := by unfold holdsV; rw [if_neg (by omega)]
 have HH := Lib.hid H; clear H
 have hidx : ∀ (a b c d e f g i : Bool) (hh : (k % 8).toNat < [Value.bool a, .bool b, .bool c, .bool d, .bool e, .bool f, .bool g, .bool i].length), [Value.bool a, .bool b, .bool c, .bool d, .bool e, .bool f, .bool g, .bool i][(k % 8).toNat]'hh = .bool (selB (k % 8) a b c d e f g i) := fun a b c d e f g i hh => by
  have := sel_at (k % 8) (by omega) (by omega) a b c d e f g i
  rw [List.getElem?_eq_getElem hh] at this
  exact Option.some.inj this
 have h2 : k % 8 < 8 := by omega
 have h3 : 0 ≤ k % 8 := by omega
 go_enter Tryz.func103, Tryz.ntmps103
 go_wp2
 all_goals
  go_ret
  refine ⟨?_, by go_grown⟩
  rw [HH.out, ← sel_cond n z c v _ _ _ k rfl rfl rfl h0]
  first | (simp [*]; done) | (cases n <;> cases v <;> simp_all)
theorem rholds_any (cs : Array Value) (n z c v : Bool) (hf : FlagsAre cs n z c v) (k : Int) (w : World) :
 Calls Tryz.prog 103 #[.agg cs, .int .i64 k] w fun e w' => e = .returned (.bool (holdsV n z c v k)) ∧ Below w.heap.size w w' := by
 by_cases hk : k < 0 ∨ 15 < k
 ·exact rholds_no cs n z c v hf k hk w
 ·exact rholds_yes cs n z c v hf k (by omega) (by omega) w
end Go.Proofs.YtgcknekhimpfkaaGreatDoor
