/- DiskDoes. -/
import Derived.Test.YtegiabnlmngkmaaDiskV
namespace Go.Proofs.Ytegiabnlmngkmaa
open Go Go.RowKit Go.Lib
set_option linter.unusedVariables false
set_option linter.unusedSimpArgs false
attribute [local go_sem ↓] exec_load_step
theorem diskDoes_no (n : Int) (hn : ¬ (8 ≤ n ∧ n ≤ 1024)) (b : Value) (w : World) : Calls Try.prog 5 #[.int .i64 n, b] w fun e w' => e = .returned (.bool true) ∧ Below w.heap.size w w' := by
  go_enter Try.func5, Try.ntmps5
  go_wp2_with (first | (go_at_call 9; refine (shown_any _).mono ?_; rintro e w1 ⟨rfl, hb1⟩) | (go_at_call 10; go_must (refine (new_no n _ hn).mono ?_); rintro e w' ⟨rfl, rfl⟩) | (go_at_call 15; go_must (refine (rnew_no n _ hn).mono ?_); rintro e w' ⟨rfl, rfl⟩))
  go_ret
  exact ⟨rfl, hb1⟩
theorem list_get_int (l : List (Nat × ByteArray)) (k : Nat) (hk : k < l.length) : ∃ x : Nat, (l.map fun p => Value.int .i64 p.1)[k]? = some (.int .i64 x) ∧ (l.map (·.1))[k]? = some x := by
  refine ⟨l[k].1, ?_, ?_⟩ <;> simp [hk]
set_option maxHeartbeats 1000000 in
theorem diskDoes_yes (N : Nat) (h8 : 8 ≤ N) (h9 : N ≤ 1024) (A : Option Addr) (len cap : Nat) (hlen : len ≤ 1000000000000000) (w : World) (hS : Script w A len) : Calls Try.prog 5 #[.int .i64 (N : Int), .slice A len cap] w fun e w' => e = .returned (.bool true) ∧ Below w.heap.size w w' := by
  have HSC := Lib.hid hS
  have HLE := Lib.hid hlen
  clear hS hlen
  have hN0 : ((N : Int).toNat) = N := by simp
  go_enter Try.func5, Try.ntmps5
  go_upto_region 8 with (first | (go_at_call 9; refine (shown_any _).mono ?_; rintro e w1 ⟨rfl, hb1⟩) | (go_at_call 10; go_must (refine (new_yes N _ (by omega) (by omega)).mono ?_); rintro e w2 ⟨d, s, rfl, D, hb2⟩; rw [Int.toNat_natCast] at D) | (go_at_call 15; go_must (refine (rnew_yes N _ h8 h9).mono ?_); rintro e w3 ⟨r, vf, rfl, R, hb3⟩))
  have T3 := two_new D R hb2.size hb3
  have hB3 : Below w.heap.size w w3 := hb1.trans ((hb2.mono hb1.size).trans (hb3.mono (Nat.le_trans hb1.size hb2.size)))
  have hwb := hb1.size
  generalize w1.heap.size = base at *
  have HLOOP : Hid (∃ v vw hist, Two w3 base d s v r vf vw N hist ∧ Below w.heap.size w w3) := ⟨_, _, _, T3, hB3⟩
  clear D R hb1 hb2 hb3 T3 hB3
  go_wp2_with fail
  go_loopw [10] (fun i wr => ∃ k : Nat, k ≤ len ∧ i = .int .i64 k ∧ Hid (∃ v vw hist, Two wr base d s v r vf vw N hist ∧ Below w.heap.size w wr)) (fun i _ => len - (intOf i).toNat)
  case atStart => exact ⟨0, by omega, rfl, HLOOP.out⟩
  case round =>
    obtain ⟨k, hk, rfl, HX⟩ := hrel
    obtain ⟨v, vw, hist, T, hB⟩ := HX.out
    have HT := Lib.hid T
    have HB := Lib.hid hB
    by_cases hlt : k < len
    · obtain ⟨b, off, kind, n, f, m, lg, rfl, hr, hn⟩ := (HSC.out.below hB) k hlt
      have hlt2 : (k : Int) < (len : Int) := by omega
      have hld := load_step_mid wr b (off + k * 5) _ rfl hr
      have HN := Lib.hid hn
      have hkw : IntKind.i64.wrap ((k : Int) + 1) = (k : Int) + 1 := IntWalk.i64_in _ (by have := HLE.out; omega)
      clear T hB HX HLOOP hr hn
      go_wp2_with (first | (go_at_call 16; go_must (refine (does_two HT.out kind n HN.out f m lg).mono ?_); rintro e w5 ⟨rfl, v', vw', hist', T', hB'⟩; have HL5 : Hid (∃ v vw hist, Two w5 base d s v r vf vw N hist ∧ Below w.heap.size w w5) := ⟨_, _, _, T', HB.out.trans (hB'.mono hwb)⟩; clear T' hB'))
      go_roundw
      case rel => exact ⟨k + 1, by omega, by go_num, HL5.out⟩
      case measure => simp [intOf]; omega
    · obtain rfl : k = len := by omega
      clear hk hlt T hB HX HLOOP
      go_upto_region 16 with (first | (go_at_call 14; go_must (refine (writes_any HT.out.P.D).mono ?_); rintro e w6 ⟨v6, rfl, ho6, hb6⟩) | (go_at_call 17; go_must (refine (rwrites_any (HT.out.below hb6).P.R HT.out.few).mono ?_); rintro e w7 ⟨v7, rfl, ho7, hb7⟩))
      have ho6' : w6.ownsRow wr.heap.size 3 1 v6 hist.length (hist.map fun p => .int .i64 p.1) := by
        have h1 := olds_length sec00 hist
        have h2 : ((olds sec00 hist).map fun p => Value.int .i64 p.1) = hist.map fun p => .int .i64 p.1 := by
          have := congrArg (List.map fun n : Nat => Value.int .i64 n) (olds_map sec00 hist)
          rw [List.map_map, List.map_map] at this
          exact this
        rw [h1, h2] at ho6
        exact ho6
      have ho67 := (Touch.of_below hb7 []).owns ho6' (by simp)
      obtain ⟨q6, c6, rfl⟩ := own_slice ho6'
      obtain ⟨q7, c7, rfl⟩ := own_slice ho7
      have hb67 := hb6.trans (hb7.mono hb6.size)
      have HT7 := Lib.hid (HT.out.below hb67)
      have HB7 := Lib.hid (HB.out.trans (hb67.mono HB.out.size))
      have H6 := Lib.hid ho67
      have H7 := Lib.hid ho7
      have hM := HT.out.few
      have HM := Lib.hid hM
      have HW0 : Hid (Below w7.heap.size w7 w7) := Below.refl _ _
      clear ho6 ho6' ho67 ho7 hb6 hb7 hb67 HT HB hM
      obtain ⟨wo, hwo⟩ : ∃ wo : World, wo = wr := ⟨_, rfl⟩
      clear hwo
      go_wp2_with fail
      go_loopw [14, 15] (fun b i wq => b = .bool true ∧ ∃ k : Nat, k ≤ hist.length ∧ i = .int .i64 k ∧ Hid (Below w7.heap.size w7 wq)) (fun _ i _ => hist.length - (intOf i).toNat)
      case atStart => exact ⟨rfl, 0, by omega, rfl, HW0.out⟩
      case round =>
        obtain ⟨rfl, j, hj, rfl, HQ⟩ := hrel
        by_cases hjl : j < hist.length
        · obtain ⟨x, hx, _⟩ := list_get_int hist j hjl
          obtain ⟨ga, ca, e1, k1⟩ := own_cell H6.out _ _ hx
          obtain ⟨gb, cb, e2, k2⟩ := own_cell H7.out _ _ hx
          simp only [Value.slice.injEq, true_and] at e1 e2
          obtain ⟨rfl, rfl⟩ := e1
          obtain ⟨rfl, rfl⟩ := e2
          have hca : ∀ wz, Hid (Below w7.heap.size w7 wz) → wz.cell? ⟨ga, j, none⟩ = some (.int .i64 x) := fun wz h => (Touch.of_below h.out []).cell k1 (by simp)
          have hcb : ∀ wz, Hid (Below w7.heap.size w7 wz) → wz.cell? ⟨gb, j, none⟩ = some (.int .i64 x) := fun wz h => (Touch.of_below h.out []).cell k2 (by simp)
          have hj2 : (j : Int) < (hist.length : Int) := by omega
          have hkw : IntKind.i64.wrap ((j : Int) + 1) = (j : Int) + 1 := IntWalk.i64_in _ (by have := HM.out; omega)
          have HQd : Hid (Below w7.heap.size w7 wr.drew) := HQ.out.drew
          go_upto_region 20 with fail
          refine wp_region_held_drew (S := fun w' => Hid (Below w7.heap.size w7 w')) (by kernel_rfl) HQd (fun hHeld => ?_)
          refine wpAnyH_take (i := 0) (oi := _) (v := ?v0_1) rfl (by kernel_rfl) (by kernel_rfl) (by kernel_rfl) (fun _ _ _ h => h) (Or.inl ⟨by rfl, ?hy0_1⟩) (by assumption) ?rest0_1
          case hy0_1 => (intro wq hSw; (try dsimp only at hSw); simp only [List.getElem_toArray, List.getElem_cons_zero, List.getElem_cons_succ]; go_simp; try with_reducible rfl)
          simp only [Act.put, List.getElem_toArray, List.getElem_cons_zero, List.getElem_cons_succ, List.setIfInBounds_toArray, List.set_cons_zero, List.set_cons_succ]
          refine wpAnyH_take (i := 1) (oi := _) (v := ?v1_2) rfl (by kernel_rfl) (by kernel_rfl) (by kernel_rfl) (fun _ _ _ h => h) (Or.inl ⟨by rfl, ?hy1_2⟩) (by assumption) ?rest1_2
          case hy1_2 => (intro wq hSw; (try dsimp only at hSw); simp only [List.getElem_toArray, List.getElem_cons_zero, List.getElem_cons_succ]; go_simp; try with_reducible rfl)
          simp only [Act.put, List.getElem_toArray, List.getElem_cons_zero, List.getElem_cons_succ, List.setIfInBounds_toArray, List.set_cons_zero, List.set_cons_succ]
          refine wpAnyH_take (i := 2) (oi := _) (v := ?v2_3) rfl (by kernel_rfl) (by kernel_rfl) (by kernel_rfl) (fun _ _ _ h => h) (Or.inl ⟨by rfl, ?hy2_3⟩) (by assumption) ?rest2_3
          case hy2_3 => (intro wq hSw; (try dsimp only at hSw); simp only [List.getElem_toArray, List.getElem_cons_zero, List.getElem_cons_succ]; go_simp; try with_reducible rfl)
          simp only [Act.put, List.getElem_toArray, List.getElem_cons_zero, List.getElem_cons_succ, List.setIfInBounds_toArray, List.set_cons_zero, List.set_cons_succ]
          refine wpAnyH_take (i := 3) (oi := _) (v := ?v3_4) rfl (by kernel_rfl) (by kernel_rfl) (by kernel_rfl) (fun _ _ _ h => h) (Or.inl ⟨by rfl, ?hy3_4⟩) (by assumption) ?rest3_4
          case hy3_4 => (intro wq hSw; (try dsimp only at hSw); simp only [List.getElem_toArray, List.getElem_cons_zero, List.getElem_cons_succ]; go_simp; try with_reducible rfl)
          simp only [Act.put, List.getElem_toArray, List.getElem_cons_zero, List.getElem_cons_succ, List.setIfInBounds_toArray, List.set_cons_zero, List.set_cons_succ]
          refine wpAnyH_take (i := 4) (oi := _) (v := ?v4_5) rfl (by kernel_rfl) (by kernel_rfl) (by kernel_rfl) (fun _ _ _ h => h) (Or.inl ⟨by rfl, ?hy4_5⟩) (by assumption) ?rest4_5
          case hy4_5 => (intro wq hSw; (try dsimp only at hSw); simp only [List.getElem_toArray, List.getElem_cons_zero, List.getElem_cons_succ]; go_simp; try with_reducible rfl)
          simp only [Act.put, List.getElem_toArray, List.getElem_cons_zero, List.getElem_cons_succ, List.setIfInBounds_toArray, List.set_cons_zero, List.set_cons_succ]
          refine wpAnyH_take (i := 5) (oi := _) (v := ?v5_6) rfl (by kernel_rfl) (by kernel_rfl) (by kernel_rfl) (fun _ _ _ h => h) (Or.inl ⟨by rfl, ?hy5_6⟩) (by assumption) ?rest5_6
          case hy5_6 => (intro wq hSw; (try dsimp only at hSw); simp only [List.getElem_toArray, List.getElem_cons_zero, List.getElem_cons_succ]; go_simp; try with_reducible rfl)
          simp only [Act.put, List.getElem_toArray, List.getElem_cons_zero, List.getElem_cons_succ, List.setIfInBounds_toArray, List.set_cons_zero, List.set_cons_succ]
          refine wpAnyH_take (i := 6) (oi := _) (v := ?v6_7) rfl (by kernel_rfl) (by kernel_rfl) (by kernel_rfl) (fun _ _ _ h => h) (Or.inl ⟨by rfl, ?hy6_7⟩) (by assumption) ?rest6_7
          case hy6_7 => (intro wq hSw; (try dsimp only at hSw); simp only [List.getElem_toArray, List.getElem_cons_zero, List.getElem_cons_succ]; go_simp; try with_reducible rfl)
          simp only [Act.put, List.getElem_toArray, List.getElem_cons_zero, List.getElem_cons_succ, List.setIfInBounds_toArray, List.set_cons_zero, List.set_cons_succ]
          refine wpAnyH_take (i := 7) (oi := _) (v := ?v7_8) rfl (by kernel_rfl) (by kernel_rfl) (by kernel_rfl) (fun _ _ _ h => h) (Or.inl ⟨by rfl, ?hy7_8⟩) (by assumption) ?rest7_8
          case hy7_8 => (intro wq hSw; (try dsimp only at hSw); simp only [List.getElem_toArray, List.getElem_cons_zero, List.getElem_cons_succ]; go_simp; try with_reducible rfl)
          simp only [Act.put, List.getElem_toArray, List.getElem_cons_zero, List.getElem_cons_succ, List.setIfInBounds_toArray, List.set_cons_zero, List.set_cons_succ]
          refine wpAnyH_take (i := 8) (oi := _) (v := ?v8_9) rfl (by kernel_rfl) (by kernel_rfl) (by kernel_rfl) (fun _ _ _ h => h) (Or.inl ⟨by rfl, ?hy8_9⟩) (by assumption) ?rest8_9
          case hy8_9 => (intro wq hSw; (try dsimp only at hSw); simp only [List.getElem_toArray, List.getElem_cons_zero, List.getElem_cons_succ]; go_simp; try with_reducible rfl)
          simp only [Act.put, List.getElem_toArray, List.getElem_cons_zero, List.getElem_cons_succ, List.setIfInBounds_toArray, List.set_cons_zero, List.set_cons_succ]
          refine wpAnyH_take (i := 9) (oi := _) (v := ?v9_10) rfl (by kernel_rfl) (by kernel_rfl) (by kernel_rfl) (fun _ _ _ h => h) (Or.inl ⟨by rfl, ?hy9_10⟩) (by assumption) ?rest9_10
          case hy9_10 => (intro wq hSw; (try dsimp only at hSw); simp only [List.getElem_toArray, List.getElem_cons_zero, List.getElem_cons_succ]; go_simp; try with_reducible rfl)
          simp only [Act.put, List.getElem_toArray, List.getElem_cons_zero, List.getElem_cons_succ, List.setIfInBounds_toArray, List.set_cons_zero, List.set_cons_succ]
          refine wpAnyH_done (by kernel_rfl) ?_ _
          clear hca hcb
          go_wp2_with fail
          go_roundw
          case rel => exact ⟨rfl, j + 1, by omega, by go_num, HQd.out⟩
          case measure => simp [intOf]; omega
        · obtain rfl : j = hist.length := by omega
          have HTq := Lib.hid (HT7.out.below HQ.out)
          have HBq := Lib.hid (HB7.out.trans (HQ.out.mono HB7.out.size))
          have c1 := HTq.out.P.R.c1
          obtain ⟨qw, cw, e7, _⟩ := HTq.out.P.R.wform
          rw [e7] at c1
          have hfew : (hist.length : Int) ≤ (hist.length : Int) := Int.le_refl _
          clear hj hjl HQ HW0 e7
          go_wp2_with (first | (go_at_call 18; go_must (refine (rcut_yes HTq.out.P.R hist.length (Nat.le_refl _) HTq.out.few h9 (fun i _ => HTq.out.size _ i)).mono ?_); rintro e w8 ⟨rfl, hb8⟩; rw [List.take_length]; have HT8 := Lib.hid (HTq.out.below hb8); have HB8 := Lib.hid (HBq.out.trans (hb8.mono HBq.out.size)); clear hb8) | (go_at_call 19; go_must (refine (sectors_any HT8.out.P.D).mono ?_); rintro e w' ⟨rfl, rfl⟩) | (go_at_call 20; go_must (refine (image_any HT8.out.P.D).mono ?_); rintro e w9 ⟨v9, rfl, hrow, hb9⟩; have hcv := hrow.conv))
          all_goals
            go_ret
            exact ⟨by first | rfl | simp, HB8.out.trans (hb9.mono HB8.out.size)⟩
def diskDoesAts : List Gen.AT := [.one (.int .i64), .one (.slice 32 [.int .i64, .int .i64, .int .u8, .int .u8, .int .i64])]
theorem diskDoes_args (W : World) (vs : List Value) (h : Gen.ArgsGood W diskDoesAts vs) :
    Calls Try.prog 5 vs.toArray W fun e W' => e = .returned (.bool true) ∧ Below W.heap.size W W' := by
  match vs, h with
  | [v0, v1], h =>
    obtain ⟨h0, h1, _⟩ := h
    obtain ⟨n, rfl, wn⟩ := h0.int_inv
    obtain ⟨A, len, cap, V, rfl, hl, hm, hb, hr⟩ := h1.slice_inv
    have hm' : len ≤ 1000000000000000 := by unfold maxLen at hm; unfold reachBytes at hb; omega
    by_cases hn : 8 ≤ n ∧ n ≤ 1024
    · obtain ⟨N, rfl⟩ := Int.eq_ofNat_of_zero_le (show 0 ≤ n by omega)
      exact diskDoes_yes N (by omega) (by omega) A len cap hm' W (script_of hl hr)
    · exact diskDoes_no n hn _ W
end Go.Proofs.Ytegiabnlmngkmaa
