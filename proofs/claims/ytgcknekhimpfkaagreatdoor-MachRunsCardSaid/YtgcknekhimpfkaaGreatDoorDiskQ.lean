/- The document's disk: Write, Writes. -/
import Derived.Test.YtgcknekhimpfkaaGreatDoorDiskP
import Derived.Deep.AppendLies
import Derived.Lib.Hide
namespace Go.Proofs.YtgcknekhimpfkaaGreatDoor
open Go Go.RowKit Go.Lib
set_option linter.unusedVariables false
set_option linter.unusedSimpArgs false
attribute [local go_sem ↓] Go.wp_at_zero Go.wp_at_succ
theorem info_rwrite : ∃ (i : TypeInfo) (z : Value), Tryz.prog.info? 137 = some i ∧ i.zero = some z ∧ i.size = 2 ∧ i.bytes = 24 ∧ z.cells.size = 2 := by
 have h : (Tryz.prog.info? 137).map (fun i => (i.zero.map (·.cells.size), i.size, i.bytes)) = some (some 2, 2, 24) := by kernel_rfl
 obtain ⟨i, hi, hzz⟩ := Option.map_eq_some_iff.1 h
 simp only [Prod.mk.injEq] at hzz
 obtain ⟨z, hz, hs⟩ := Option.map_eq_some_iff.1 hzz.1
 exact ⟨i, z, hi, hz, hzz.2.1, hzz.2.2, hs⟩
section
variable {w : World} {base r : Nat} {vf vw : Value} {N : Nat} {sec0 : Nat → ByteArray} {hist : List (Nat × ByteArray)}
theorem rwrite_no (R : RefAt w base r vf vw N sec0 hist) (n : Int) (a : Option Addr) (lb cb : Nat) (h0 : n ≤ 9223372036854775807) (hlb : lb ≤ 9223372036854775807) (hbig : hist.length ≤ 4096) (x : Int)
 (hx : ((n < 0 ∨ (N : Int) ≤ n) ∧ x = 31) ∨ (0 ≤ n ∧ n < N ∧ ((lb : Int) == 1024) = false ∧ x = 32) ∨ (0 ≤ n ∧ n < N ∧ lb = 1024 ∧ hist.length = 4096 ∧ x = 33)) :
 Calls Tryz.prog 112 #[.pointer (some ⟨r, 0, none⟩), .int .i64 n, .slice a lb cb] w fun e w' => e = .returned (.int .i64 x) ∧ w = w' := by
 have c0 := R.c0
 have c1 := R.c1
 obtain ⟨q, c, rfl⟩ := R.fform
 obtain ⟨q', c', rfl, _⟩ := R.wform
 have HBIG := hid hbig
 clear hbig
 rcases hx with ⟨h1, rfl⟩ | ⟨h1, h2, h3, rfl⟩ | ⟨h1, h2, rfl, h3, rfl⟩
 ·rcases h1 with h1 | h1
  ·go_enter Tryz.func112, Tryz.ntmps112
   go_wp2_with fail
   go_ret
   exact ⟨rfl, rfl⟩
  ·go_enter Tryz.func112, Tryz.ntmps112
   go_wp2_with fail
   all_goals
    go_ret
    exact ⟨rfl, rfl⟩
 ·go_enter Tryz.func112, Tryz.ntmps112
  go_wp2_with fail
  all_goals
   go_ret
   exact ⟨rfl, rfl⟩
 ·go_enter Tryz.func112, Tryz.ntmps112
  rw [h3] at c1
  go_wp2_with fail
  all_goals
   go_ret
   exact ⟨rfl, rfl⟩
end
end Go.Proofs.YtgcknekhimpfkaaGreatDoor
