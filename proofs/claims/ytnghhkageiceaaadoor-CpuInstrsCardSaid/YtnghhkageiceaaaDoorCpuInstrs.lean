/- The walk of CpuInstrs. -/
import Derived.Test.YtnghhkageiceaaaDoorInsAt
namespace Go.Proofs.YtnghhkageiceaaaDoor
open Go Go.RowKit Go.Lib Go.Proofs.YtnghhkageiceaaaDoor.Pl
set_option linter.unusedVariables false
set_option linter.unusedSimpArgs false
attribute [local go_sem ↓] exec_load_cpu exec_store_cpu run_eql_ins run_neq_ins
set_option maxRecDepth 100000 in
set_option maxHeartbeats 1000000 in
theorem instrs_some (g off len cap : Nat) (w : World) (hl : len ≤ 9223372036854775807) (hm : 8 * len ≤ 9223372036854775807) (hbl : g < w.heap.size) (hcell : ∀ i, i < len → ∃ f u v a b op c n, InsAt w g (off + i * 8) f u v a b op c n) (hT : Tab w) :
    Calls Tryd.prog 5 #[.slice (some ⟨g, off, none⟩) len cap] w fun e w' => e = .returned (.bool true) ∧ Below w.heap.size w w' := by
  have HT : Hid (∀ W, Below w.heap.size w W → Tab W) := fun W hB => hT.below hB hT.lt
  have HC := Lib.hid hcell
  have HBL := Lib.hid hbl
  clear hcell hT hbl
  go_enter Tryd.func5, Tryd.ntmps5
  go_wp2_with fail
  go_loopw [3] (fun i wr => ∃ k : Nat, k ≤ len ∧ i = .int .i64 k ∧ Hid (Below w.heap.size w wr)) (fun i _ => len - (intOf i).toNat)
  case atStart => exact ⟨0, by omega, rfl, Below.refl _ _⟩
  case round =>
    obtain ⟨k, hk, rfl, HB⟩ := hrel
    by_cases hlt : k < len
    · obtain ⟨f, u, v, a, b, op, c, n, hI⟩ := HC.out k hlt
      have HI := Lib.hid hI
      clear hI
      obtain ⟨i0, i1, i2, i3, i4, i5, i6, i7⟩ := HI.out.below HB.out HBL.out
      go_wp2_with fail
      refine (enc_any f u v a b op c n _ (HT.out _ HB.out)).mono ?_
      rintro e w1 ⟨rfl, hb1⟩
      have HB1 := Lib.hid (HB.out.trans (hb1.mono HB.out.size))
      obtain ⟨j0, j1, j2, j3, j4, j5, j6, j7⟩ := HI.out.below HB1.out HBL.out
      clear hb1 i0 i1 i2 i3 i4 i5 i6 i7
      go_wp2_with fail
      refine (renc_any f u v a b op c n _).mono ?_
      rintro e w2 ⟨rfl, hb2⟩
      have HB2 := Lib.hid (HB1.out.trans (hb2.mono HB1.out.size))
      clear hb2 j0 j1 j2 j3 j4 j5 j6 j7
      go_wp2_with fail
      go_roundw
      case rel => exact ⟨k + 1, by omega, by go_num, HB2⟩
      case measure => simp [intOf]; omega
    · have : k = len := by omega
      go_wp2_with fail
      refine (shown_any _ (HT.out _ HB.out)).mono ?_
      rintro e w2 ⟨rfl, hb2⟩
      go_wp2_with fail
      go_ret
      exact ⟨rfl, HB.out.trans (hb2.mono HB.out.size)⟩
theorem instrs_nil (A : Option Addr) (cap : Nat) (w : World) (hT : Tab w) :
    Calls Tryd.prog 5 #[.slice A 0 cap] w fun e w' => e = .returned (.bool true) ∧ Below w.heap.size w w' := by
  go_enter Tryd.func5, Tryd.ntmps5
  go_wp2_with fail
  go_loop [3] (fun i => i = .int .i64 0) (fun _ => 0)
  case atStart => rfl
  case round =>
    obtain rfl := hrel
    go_wp2_with fail
    refine (shown_any _ hT).mono ?_
    rintro e w2 ⟨rfl, hb2⟩
    go_wp2_with fail
    go_ret
    exact ⟨rfl, hb2⟩
def cpuInstrsAts : List Gen.AT := [.one (.slice 56 [.int .i64, .bool, .bool, .int .i64, .int .i64, .int .i64, .int .i64, .int .i64])]
theorem cpuInstrs_args (W : World) (vs : List Value) (h : Gen.ArgsGood W cpuInstrsAts vs) (hT : Tab W) :
    Calls Tryd.prog 5 vs.toArray W fun e W' => e = .returned (.bool true) ∧ Below W.heap.size W W' := by
  match vs, h with
  | [v0], h =>
    obtain ⟨h0, _⟩ := h
    obtain ⟨A, len, cap, V, rfl, hle, hm, hrb, hR⟩ := Gen.Good.slice_inv h0
    unfold maxLen at hm
    have hrb' : cap * 56 ≤ 140737488351232 := hrb
    by_cases hl : len = 0
    · subst hl; exact instrs_nil A cap W hT
    · obtain ⟨g, off, rfl, hg, hc⟩ := insAt_of_row hR (by omega)
      exact instrs_some g off len cap W (by omega) (by omega) hg (fun i hi => hc i (by omega)) hT
end Go.Proofs.YtnghhkageiceaaaDoor
