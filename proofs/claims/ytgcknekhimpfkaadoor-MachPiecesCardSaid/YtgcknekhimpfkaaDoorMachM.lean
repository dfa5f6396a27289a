/- The document's machine, made: that it is there. -/
import Derived.Test.YtgcknekhimpfkaaDoorRBusA
import Derived.Test.YtgcknekhimpfkaaDoorQH
namespace Go.Proofs.YtgcknekhimpfkaaDoor
open Go Go.RowKit Go.Lib Go.Proofs.YtgcknekhimpfkaaDoor.Pl
set_option linter.unusedVariables false
set_option linter.unusedSimpArgs false
set_option maxRecDepth 100000 in
set_option maxHeartbeats 1000000 in
theorem rmNew_bad (A : Option Addr) (n c : Nat) (ent : Int) (w : World) (d : Addr) (hn : n ≤ 9223372036854775807) (h0 : 0 ≤ ent) (h1 : ent < 4294967296) (hb : ¬ mgood n ent) : Calls Tryd.prog 34 #[.agg #[.slice A n c, .int .u32 ent], .pointer (some d)] w fun e w' => e = .returned (.tuple #[.pointer none, .int .i64 50]) ∧ Below w.heap.size w w' := by
  have hb2 : 262144 < n ∨ (¬ 262144 < n ∧ ¬ ent % 4 = 0) ∨ (¬ 262144 < n ∧ ent % 4 = 0 ∧ 1048576 ≤ ent) := by unfold mgood at hb; omega
  clear hb
  rcases hb2 with hb | ⟨ha, hb⟩ | ⟨ha, hb, hc⟩
  · have t1 : decide ((262144 : Int) < n) = true := decide_eq_true (by omega)
    go_enter Tryd.func34, Tryd.ntmps34
    go_wp2_with fail
    go_ret2
    exact ⟨rfl, (Below.refl _ _).alloc (Nat.le_refl _) _⟩
  · have t1 : decide ((262144 : Int) < n) = false := decide_eq_false (by omega)
    have t2 : (ent % 4 != 0) = true := by simpa using hb
    go_enter Tryd.func34, Tryd.ntmps34
    go_wp2_with fail
    go_ret2
    exact ⟨rfl, (Below.refl _ _).alloc (Nat.le_refl _) _⟩
  · have t1 : decide ((262144 : Int) < n) = false := decide_eq_false (by omega)
    have t2 : (ent % 4 != 0) = false := by simpa using hb
    have t3 : decide ((1048576 : Int) ≤ ent) = true := decide_eq_true hc
    go_enter Tryd.func34, Tryd.ntmps34
    go_wp2_with fail
    go_ret2
    exact ⟨rfl, (Below.refl _ _).alloc (Nat.le_refl _) _⟩
set_option maxRecDepth 100000 in
set_option maxHeartbeats 1000000 in
theorem rmNew_yes (A : Option Addr) (n c : Nat) (ent : Int) (w : World) (h0 : 0 ≤ ent) (hb : mgood n ent) (f : Nat → Int) (hr : RdI .u32 w A n f) (r : Nat) :
    Calls Tryd.prog 34 #[.agg #[.slice A n c, .int .u32 ent], .pointer (some ⟨r, 0, none⟩)] w fun e w' => ∃ g, e = .returned (.tuple #[.pointer (some ⟨g, 0, none⟩), .int .i64 0]) ∧ Below w.heap.size w w' := by
  obtain ⟨hn, h4, h5⟩ := hb
  have t1 : decide ((262144 : Int) < n) = false := decide_eq_false (by omega)
  have t2 : (ent % 4 != 0) = false := by simpa using h4
  have t3 : decide ((1048576 : Int) ≤ ent) = false := decide_eq_false (by omega)
  have hB : Below w.heap.size w (w.alloc (.cells #[.slice A n c, .int .u32 ent] 33)) := (Below.refl _ _).alloc (Nat.le_refl _) _
  have HNW := Lib.hid (rbnew_yes A n c f (w.alloc (.cells #[.slice A n c, .int .u32 ent] 33)) r hn (fun hn0 => by obtain ⟨b, off, hA, hlt, hc⟩ := hr hn0; exact ⟨b, off, hA, Nat.lt_of_lt_of_le hlt hB.size, fun i hi => (hB.cell (p := ⟨b, off + i, none⟩) hlt).trans (hc i hi)⟩))
  have HB := Lib.hid hB
  clear hr hB
  go_enter Tryd.func34, Tryd.ntmps34
  go_upto_region 6 with (go_at_call 56; refine HNW.out.mono ?_; rintro e w1 ⟨b, mm, rfl, -, -, hb1, -, -⟩; have KE := ((Blk.new w #[.slice A n c, .int .u32 ent] 33).step hb1).cell 1; simp only [List.getElem?_toArray, List.getElem?_cons_zero, List.getElem?_cons_succ] at KE; have HB1 := Lib.hid hb1; have hlt : w.heap.size < w1.heap.size := Nat.lt_of_lt_of_le (by simp) hb1.size; clear hb1)
  clear HNW
  go_wp2_with fail
  go_ret2
  have hww := HB.out.trans (HB1.out.mono HB.out.size)
  exact ⟨_, rfl, hww.alloc hww.size _⟩
end Go.Proofs.YtgcknekhimpfkaaDoor
