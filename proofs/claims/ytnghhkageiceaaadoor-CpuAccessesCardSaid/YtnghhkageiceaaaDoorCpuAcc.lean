/- The walk of CpuAccesses. -/
import Derived.Test.YtnghhkageiceaaaDoorAccR
import Derived.Test.YtnghhkageiceaaaDoorCpuS
import Derived.Test.YtnghhkageiceaaaDoorCpuArg
import Derived.Test.YtnghhkageiceaaaDoorInsAt
import Derived.Deep.RegionHeld3
namespace Go.Proofs.YtnghhkageiceaaaDoor
open Go Go.RowKit Go.Lib Go.Proofs.YtnghhkageiceaaaDoor.Pl
set_option linter.unusedVariables false
set_option linter.unusedSimpArgs false
attribute [local go_sem ↓] exec_load_cpu exec_store_cpu
theorem acc_neq (k x y : Int) (w : World) : (binOp .neq 52 (.agg #[.int .i64 k, .int .u32 x, .int .u32 y]) (.agg #[.int .i64 k, .int .u32 x, .int .u32 y])).run Tryd.prog w = .ok (.bool false) w := by
  rw [run_neq_struct]
  simp [go_sem, Tryd.underlying52]
set_option maxRecDepth 100000 in
set_option maxHeartbeats 1000000 in
theorem accs_some (cs : Array Value) (hc : CpuOk cs) (g off len cap : Nat) (w : World) (hl : len ≤ 9223372036854775807) (hm : 8 * len ≤ 9223372036854775807) (hbl : g < w.heap.size) (hcell : ∀ i, i < len → ∃ f u v a b op c n, InsAt w g (off + i * 8) f u v a b op c n) (hT : Tab w) :
    Calls Tryd.prog 11 #[.agg cs, .slice (some ⟨g, off, none⟩) len cap] w fun e w' => e = .returned (.bool true) ∧ Below w.heap.size w w' := by
  have HT : Hid (∀ W, Below w.heap.size w W → Tab W) := fun W hB => hT.below hB hT.lt
  have HCE := Lib.hid hcell
  have HBL := Lib.hid hbl
  have HC := Lib.hid hc
  clear hcell hT hbl hc
  go_enter Tryd.func11, Tryd.ntmps11
  go_wp2_with fail
  go_loopw [5] (fun i wr => ∃ k : Nat, k ≤ len ∧ i = .int .i64 k ∧ Hid (Below w.heap.size w wr) ∧ Hid (Blk wr w.heap.size cs 25)) (fun i _ => len - (intOf i).toNat)
  case atStart => exact ⟨0, by omega, rfl, (Below.refl _ _).alloc (Nat.le_refl _) _, Blk.new w cs 25⟩
  case round =>
    obtain ⟨k, hk, rfl, HB, H0⟩ := hrel
    by_cases hlt : k < len
    · obtain ⟨f, u, v, a, b, op, c, n, hI⟩ := HCE.out k hlt
      have HI := Lib.hid hI
      clear hI
      obtain ⟨R, hR⟩ : ∃ R, accR cs f u v a b op c n = R := ⟨_, rfl⟩
      have hne : ∀ w, (binOp .neq 52 (.agg R) (.agg R)).run Tryd.prog w = .ok (.bool false) w := fun w => by rw [← hR]; exact acc_neq _ _ _ w
      have HRR := Lib.hid hR
      clear hR
      go_upto_region 4 with fail
      have JB : Hid (Below w.heap.size w wr.drew) := belN HB.out 1
      have J0 : Hid (Blk wr.drew w.heap.size cs 25) := H0.out
      refine wp_region_held_drew (S := (fun w' => Hid (Below w.heap.size w w') ∧ Hid (Blk w' w.heap.size cs 25))) (by kernel_rfl) ⟨JB, J0⟩ (fun hHeld => ?_)
      clear hHeld
      generalize wr.drew = wd at JB J0 ⊢
      have hHeld : ((fun w' => Hid (Below w.heap.size w w') ∧ Hid (Blk w' w.heap.size cs 25)) wd) := ⟨JB, J0⟩
      refine wpAnyH_take (i := 0) (oi := _) (v := ?v0_96) rfl (by kernel_rfl) (by kernel_rfl) (by kernel_rfl) (fun _ _ _ h => h) (Or.inl ⟨by rfl, ?hy0_96⟩) (by assumption) ?rest0_96
      case hy0_96 => (intro wq hSw; (try dsimp only at hSw); obtain ⟨qB, q0⟩ := hSw; have hld := load_cpu q0.out HC.out.size; obtain ⟨i0, i1, i2, i3, i4, i5, i6, i7⟩ := HI.out.below qB.out HBL.out; clear q0 qB; have hkk : (k : Int) < len := (by omega); simp only [List.getElem_toArray, List.getElem_cons_zero, List.getElem_cons_succ]; go_simp; try with_reducible rfl)
      simp only [List.getElem_toArray, List.getElem_cons_zero, List.getElem_cons_succ]
      refine wpAnyH_take (i := 1) (oi := _) (v := ?v1_97) rfl (by kernel_rfl) (by kernel_rfl) (by kernel_rfl) (fun _ _ _ h => h) (Or.inl ⟨by rfl, ?hy1_97⟩) (by assumption) ?rest1_97
      case hy1_97 => (intro wq hSw; (try dsimp only at hSw); obtain ⟨qB, q0⟩ := hSw; clear q0 qB; have hkk : (k : Int) < len := (by omega); simp only [List.getElem_toArray, List.getElem_cons_zero, List.getElem_cons_succ]; go_simp; try with_reducible rfl)
      simp only [List.getElem_toArray, List.getElem_cons_zero, List.getElem_cons_succ]
      refine wpAnyH_take (i := 2) (oi := _) (v := ?v2_98) rfl (by kernel_rfl) (by kernel_rfl) (by kernel_rfl) (fun _ _ _ h => h) (Or.inl ⟨by rfl, ?hy2_98⟩) (by assumption) ?rest2_98
      case hy2_98 => (intro wq hSw; (try dsimp only at hSw); obtain ⟨qB, q0⟩ := hSw; clear q0 qB; have hkk : (k : Int) < len := (by omega); simp only [List.getElem_toArray, List.getElem_cons_zero, List.getElem_cons_succ]; go_simp; try with_reducible rfl)
      simp only [List.getElem_toArray, List.getElem_cons_zero, List.getElem_cons_succ]
      refine wpAnyH_take (i := 3) (oi := _) (v := ?v3_99) rfl (by kernel_rfl) (by kernel_rfl) (by kernel_rfl) (fun _ _ _ h => h) (Or.inl ⟨by rfl, ?hy3_99⟩) (by assumption) ?rest3_99
      case hy3_99 => (intro wq hSw; (try dsimp only at hSw); obtain ⟨qB, q0⟩ := hSw; clear q0 qB; have hkk : (k : Int) < len := (by omega); simp only [List.getElem_toArray, List.getElem_cons_zero, List.getElem_cons_succ]; go_simp; try with_reducible rfl)
      simp only [List.getElem_toArray, List.getElem_cons_zero, List.getElem_cons_succ]
      refine wpAnyH_take (i := 4) (oi := _) (v := ?v4_100) rfl (by kernel_rfl) (by kernel_rfl) (by kernel_rfl) (fun _ _ _ h => h) (Or.inl ⟨by rfl, ?hy4_100⟩) (by assumption) ?rest4_100
      case hy4_100 => (intro wq hSw; (try dsimp only at hSw); obtain ⟨qB, q0⟩ := hSw; have hld := load_cpu q0.out HC.out.size; obtain ⟨i0, i1, i2, i3, i4, i5, i6, i7⟩ := HI.out.below qB.out HBL.out; clear q0 qB; have hkk : (k : Int) < len := (by omega); simp only [List.getElem_toArray, List.getElem_cons_zero, List.getElem_cons_succ]; go_simp; try with_reducible rfl)
      simp only [List.getElem_toArray, List.getElem_cons_zero, List.getElem_cons_succ]
      refine wpAnyH_take (i := 6) (oi := _) (v := ?v6_101) rfl (by kernel_rfl) (by kernel_rfl) (by kernel_rfl) (fun _ _ _ h => h) (Or.inl ⟨by rfl, ?hy6_101⟩) (by assumption) ?rest6_101
      case hy6_101 => (intro wq hSw; (try dsimp only at hSw); obtain ⟨qB, q0⟩ := hSw; have hld := load_cpu q0.out HC.out.size; obtain ⟨i0, i1, i2, i3, i4, i5, i6, i7⟩ := HI.out.below qB.out HBL.out; clear q0 qB; have hkk : (k : Int) < len := (by omega); simp only [List.getElem_toArray, List.getElem_cons_zero, List.getElem_cons_succ]; go_simp; try with_reducible rfl)
      simp only [List.getElem_toArray, List.getElem_cons_zero, List.getElem_cons_succ]
      refine wpAnyH_take (i := 7) (oi := _) (v := ?v7_102) rfl (by kernel_rfl) (by kernel_rfl) (by kernel_rfl) (fun _ _ _ h => h) (Or.inl ⟨by rfl, ?hy7_102⟩) (by assumption) ?rest7_102
      case hy7_102 => (intro wq hSw; (try dsimp only at hSw); obtain ⟨qB, q0⟩ := hSw; clear q0 qB; have hkk : (k : Int) < len := (by omega); simp only [List.getElem_toArray, List.getElem_cons_zero, List.getElem_cons_succ]; go_simp; try with_reducible rfl)
      simp only [List.getElem_toArray, List.getElem_cons_zero, List.getElem_cons_succ]
      refine wpAnyH_take (i := 8) (oi := _) (v := ?v8_103) rfl (by kernel_rfl) (by kernel_rfl) (by kernel_rfl) (fun _ _ _ h => h) (Or.inl ⟨by rfl, ?hy8_103⟩) (by assumption) ?rest8_103
      case hy8_103 => (intro wq hSw; (try dsimp only at hSw); obtain ⟨qB, q0⟩ := hSw; clear q0 qB; have hkk : (k : Int) < len := (by omega); simp only [List.getElem_toArray, List.getElem_cons_zero, List.getElem_cons_succ]; go_simp; try with_reducible rfl)
      simp only [List.getElem_toArray, List.getElem_cons_zero, List.getElem_cons_succ]
      refine wpAnyH_take (i := 9) (oi := _) (v := ?v9_104) rfl (by kernel_rfl) (by kernel_rfl) (by kernel_rfl) (fun _ _ _ h => h) (Or.inl ⟨by rfl, ?hy9_104⟩) (by assumption) ?rest9_104
      case hy9_104 => (intro wq hSw; (try dsimp only at hSw); obtain ⟨qB, q0⟩ := hSw; clear q0 qB; have hkk : (k : Int) < len := (by omega); simp only [List.getElem_toArray, List.getElem_cons_zero, List.getElem_cons_succ]; go_simp; try with_reducible rfl)
      simp only [List.getElem_toArray, List.getElem_cons_zero, List.getElem_cons_succ]
      refine wpAnyH_take (i := 10) (oi := _) (v := ?v10_105) rfl (by kernel_rfl) (by kernel_rfl) (by kernel_rfl) (fun _ _ _ h => h) (Or.inl ⟨by rfl, ?hy10_105⟩) (by assumption) ?rest10_105
      case hy10_105 => (intro wq hSw; (try dsimp only at hSw); obtain ⟨qB, q0⟩ := hSw; have hld := load_cpu q0.out HC.out.size; obtain ⟨i0, i1, i2, i3, i4, i5, i6, i7⟩ := HI.out.below qB.out HBL.out; clear q0 qB; have hkk : (k : Int) < len := (by omega); simp only [List.getElem_toArray, List.getElem_cons_zero, List.getElem_cons_succ]; go_simp; try with_reducible rfl)
      simp only [List.getElem_toArray, List.getElem_cons_zero, List.getElem_cons_succ]
      refine wpAnyH_ready (rs := [5]) (by kernel_rfl) (by simp) ?_
      refine AllReadyH.cons (o := _) rfl (fun K hK => ?_) AllReadyH.nil
      try simp only [List.getElem_toArray, List.getElem_cons_zero, List.getElem_cons_succ]
      go_simp
      go_at_call 20
      refine (acc_any cs HC.out f u v a b op c n _ (HT.out _ JB.out)).mono ?_
      rintro e w1 ⟨rfl, hb1⟩
      rw [HRR.out]
      have LB := Lib.hid (JB.out.trans (hb1.mono JB.out.size))
      have L0 := Lib.hid (J0.out.step hb1)
      clear hb1
      refine hK.out _ _ ⟨LB, L0⟩ (fun _ => ?_)
      try simp only [List.getElem_toArray, List.getElem_cons_zero, List.getElem_cons_succ]
      refine wpAnyH_ready (rs := [11]) (by kernel_rfl) (by simp) ?_
      refine AllReadyH.cons (o := _) rfl (fun K hK => ?_) AllReadyH.nil
      try simp only [List.getElem_toArray, List.getElem_cons_zero, List.getElem_cons_succ]
      go_simp
      go_at_call 21
      refine (racc_any cs HC.out f u v a b op c n _ (HT.out _ LB.out)).mono ?_
      rintro e w2 ⟨rfl, hb1⟩
      rw [HRR.out]
      have MB := Lib.hid (LB.out.trans (hb1.mono LB.out.size))
      have M0 := Lib.hid (L0.out.step hb1)
      clear hb1
      refine hK.out _ _ ⟨MB, M0⟩ (fun _ => ?_)
      try simp only [List.getElem_toArray, List.getElem_cons_zero, List.getElem_cons_succ]
      refine wpAnyH_take (i := 12) (oi := _) (v := ?v12_106) rfl (by kernel_rfl) (by kernel_rfl) (by kernel_rfl) (fun _ _ _ h => h) (Or.inl ⟨by rfl, ?hy12_106⟩) ⟨MB, M0⟩ ?rest12_106
      case hy12_106 => (intro wq hSw; (try dsimp only at hSw); obtain ⟨qB, q0⟩ := hSw; clear q0 qB; have hkk : (k : Int) < len := (by omega); simp only [List.getElem_toArray, List.getElem_cons_zero, List.getElem_cons_succ]; go_simp; try with_reducible rfl)
      simp only [List.getElem_toArray, List.getElem_cons_zero, List.getElem_cons_succ]
      refine wpAnyH_done (by kernel_rfl) ?_ _
      clear hHeld
      go_wp2_with fail
      go_roundw
      case rel => exact ⟨k + 1, by omega, by go_num, MB, M0⟩
      case measure => simp [intOf]; omega
    · have : k = len := by omega
      go_wp2_with fail
      refine (shown_any _ (HT.out _ HB.out)).mono ?_
      rintro e w2 ⟨rfl, hb2⟩
      go_wp2_with fail
      go_ret
      exact ⟨rfl, HB.out.trans (hb2.mono HB.out.size)⟩
set_option maxRecDepth 100000 in
set_option maxHeartbeats 1000000 in
theorem accs_nil (cs : Array Value) (hc : CpuOk cs) (A : Option Addr) (cap : Nat) (w : World) (hT : Tab w) :
    Calls Tryd.prog 11 #[.agg cs, .slice A 0 cap] w fun e w' => e = .returned (.bool true) ∧ Below w.heap.size w w' := by
  have HB : Hid (Below w.heap.size w (w.alloc (.cells cs 25))) := (Below.refl _ _).alloc (Nat.le_refl _) _
  have HT : Hid (∀ W, Below w.heap.size w W → Tab W) := fun W hB => hT.below hB hT.lt
  clear hT
  go_enter Tryd.func11, Tryd.ntmps11
  go_wp2_with fail
  go_loop [5] (fun i => i = .int .i64 0) (fun _ => 0)
  case atStart => rfl
  case round =>
    obtain rfl := hrel
    go_wp2_with fail
    refine (shown_any _ (HT.out _ HB.out)).mono ?_
    rintro e w2 ⟨rfl, hb2⟩
    go_wp2_with fail
    go_ret
    exact ⟨rfl, HB.out.trans (hb2.mono HB.out.size)⟩
def cpuAccessesAts : List Gen.AT := [.agg [.int .u32, .int .u32, .int .u32, .int .u32, .int .u32, .int .u32, .int .u32, .int .u32, .int .u32, .int .u32, .int .u32, .int .u32, .int .u32, .int .u32, .int .u32, .int .u32, .int .u32, .bool, .bool, .bool, .bool, .int .u32], .one (.slice 56 [.int .i64, .bool, .bool, .int .i64, .int .i64, .int .i64, .int .i64, .int .i64])]
theorem cpuAccesses_args (W : World) (vs : List Value) (h : Gen.ArgsGood W cpuAccessesAts vs) (hT : Tab W) :
    Calls Tryd.prog 11 vs.toArray W fun e W' => e = .returned (.bool true) ∧ Below W.heap.size W W' := by
  match vs, h with
  | [v0, v1], h =>
    obtain ⟨hc, h0, _⟩ := h
    obtain ⟨cs, rfl, hg⟩ := hc
    have hc := cpu_inv hg
    obtain ⟨A, len, cap, V, rfl, hle, hm, hrb, hR⟩ := Gen.Good.slice_inv h0
    unfold maxLen at hm
    have hrb' : cap * 56 ≤ 140737488351232 := hrb
    by_cases hl : len = 0
    · subst hl; exact accs_nil _ hc A cap W hT
    · obtain ⟨g, off, rfl, hg, hcl⟩ := insAt_of_row hR (by omega)
      exact accs_some _ hc g off len cap W (by omega) (by omega) hg (fun i hi => hcl i (by omega)) hT
end Go.Proofs.YtnghhkageiceaaaDoor
