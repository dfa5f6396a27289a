/- DiskCuts. -/
import Derived.Test.YtegiabnlmngkmaaDiskY
namespace Go.Proofs.Ytegiabnlmngkmaa
open Go Go.RowKit Go.Lib
set_option linter.unusedVariables false
set_option linter.unusedSimpArgs false
attribute [local go_sem ↓] exec_load_step
theorem diskCuts_no (n : Int) (hn : ¬ (8 ≤ n ∧ n ≤ 1024)) (b c : Value) (w : World) : Calls Try.prog 7 #[.int .i64 n, b, c] w fun e w' => e = .returned (.bool true) ∧ Below w.heap.size w w' := by
  go_enter Try.func7, Try.ntmps7
  go_wp2_with (first | (go_at_call 9; refine (shown_any _).mono ?_; rintro e w1 ⟨rfl, hb1⟩) | (go_at_call 10; go_must (refine (new_no n _ hn).mono ?_); rintro e w' ⟨rfl, rfl⟩) | (go_at_call 15; go_must (refine (rnew_no n _ hn).mono ?_); rintro e w' ⟨rfl, rfl⟩))
  go_ret
  exact ⟨rfl, hb1⟩
set_option maxHeartbeats 1000000 in
theorem diskCuts_yes (N : Nat) (h8 : 8 ≤ N) (h9 : N ≤ 1024) (A : Option Addr) (len cap : Nat) (hlen : len ≤ 1000000000000000) (at_ : Int) (hat : -9223372036854775808 ≤ at_ ∧ at_ ≤ 9223372036854775807) (w : World) (hS : Script w A len) : Calls Try.prog 7 #[.int .i64 (N : Int), .slice A len cap, .int .i64 at_] w fun e w' => e = .returned (.bool true) ∧ Below w.heap.size w w' := by
  have HSC := Lib.hid hS
  have HLE := Lib.hid hlen
  have HAT := Lib.hid hat
  clear hS hlen hat
  go_enter Try.func7, Try.ntmps7
  go_upto_region 6 with (first | (go_at_call 9; refine (shown_any _).mono ?_; rintro e w1 ⟨rfl, hb1⟩) | (go_at_call 10; go_must (refine (new_yes N _ (by omega) (by omega)).mono ?_); rintro e w2 ⟨d, s, rfl, D, hb2⟩; rw [Int.toNat_natCast] at D) | (go_at_call 15; go_must (refine (rnew_yes N _ h8 h9).mono ?_); rintro e w3 ⟨r, vf, rfl, R, hb3⟩))
  have T3 := two_new D R hb2.size hb3
  have hB3 : Below w.heap.size w w3 := hb1.trans ((hb2.mono hb1.size).trans (hb3.mono (Nat.le_trans hb1.size hb2.size)))
  have hwb := hb1.size
  generalize w1.heap.size = base at *
  have HLOOP : Hid (∃ v vw hist, Two w3 base d s v r vf vw N hist ∧ Below w.heap.size w w3) := ⟨_, _, _, T3, hB3⟩
  clear D R hb1 hb2 hb3 T3 hB3
  go_wp2_with fail
  go_loopw [12] (fun i wr => ∃ k : Nat, k ≤ len ∧ i = .int .i64 k ∧ Hid (∃ v vw hist, Two wr base d s v r vf vw N hist ∧ Below w.heap.size w wr)) (fun i _ => len - (intOf i).toNat)
  case atStart => exact ⟨0, by omega, rfl, HLOOP.out⟩
  case round =>
    obtain ⟨k, hk, rfl, HX⟩ := hrel
    obtain ⟨v, vw, hist, T, hB⟩ := HX.out
    have HT := Lib.hid T
    have HB := Lib.hid hB
    by_cases hlt : k < len
    · obtain ⟨b, off, kind, n, f, m, lg, rfl, hr, hn⟩ := (HSC.out.below hB) k hlt
      have hlt2 : (k : Int) < (len : Int) := by omega
      have hld := load_step_mid wr b (off + k * 5) _ rfl hr
      have HN := Lib.hid hn
      have hkw : IntKind.i64.wrap ((k : Int) + 1) = (k : Int) + 1 := IntWalk.i64_in _ (by have := HLE.out; omega)
      clear T hB HX HLOOP hr hn
      go_wp2_with (first | (go_at_call 16; go_must (refine (does_two HT.out kind n HN.out f m lg).mono ?_); rintro e w5 ⟨rfl, v', vw', hist', T', hB'⟩; have HL5 : Hid (∃ v vw hist, Two w5 base d s v r vf vw N hist ∧ Below w.heap.size w w5) := ⟨_, _, _, T', HB.out.trans (hB'.mono hwb)⟩; clear T' hB'))
      go_roundw
      case rel => exact ⟨k + 1, by omega, by go_num, HL5.out⟩
      case measure => simp [intOf]; omega
    · obtain rfl : k = len := by omega
      have hol := olds_length sec00 hist
      have HOL := Lib.hid hol
      clear hk hlt T hB HX HLOOP hol
      by_cases hin : 0 ≤ at_ ∧ at_ ≤ (hist.length : Int)
      · obtain ⟨a, rfl⟩ := Int.eq_ofNat_of_zero_le hin.1
        have ha := Lib.hid (show a ≤ hist.length by omega)
        clear hin
        go_upto_region 13 with (first | (go_at_call 23; go_must (refine (cut_yes HT.out.P.D a (by rw [HOL.out]; exact ha.out)).mono ?_); rintro e w6 ⟨c, sc, rfl, C, hb6⟩; rw [back_olds sec00 _ hist rfl a ha.out] at C))
        have HC := Lib.hid C
        have HT6 := Lib.hid (HT.out.below hb6)
        have HB6 := Lib.hid (HB.out.trans (hb6.mono HB.out.size))
        have HDL := Lib.hid (drow_lt HT.out.P.D)
        clear C hb6
        go_upto_region 18 with (first | (go_at_call 18; go_must (refine (rcut_yes HT6.out.P.R a ha.out HT6.out.few h9 (fun i _ => HT6.out.size a i)).mono ?_); rintro e w7 ⟨rfl, hb7⟩))
        have HC7 := Lib.hid (HC.out.below (hb7.mono (Nat.le_refl _)))
        have HD7 := Lib.hid (HT6.out.P.D.below hb7)
        have HB7 := Lib.hid (HB6.out.trans (hb7.mono HB6.out.size))
        clear hb7 HC HT6 HB6 HT
        go_upto_region 19 with (first | (go_at_call 20; go_must (refine (image_any HD7.out).mono ?_); rintro e w8 ⟨v8, rfl, row8, hb8⟩; have hcv8 := row8.conv))
        have HC8 := Lib.hid (HC7.out.below hb8)
        have HD8 := Lib.hid (HD7.out.below hb8)
        have HB8 := Lib.hid (HB7.out.trans (hb8.mono HB7.out.size))
        clear hb8 HC7 HD7 HB7 hcv8 row8
        go_upto_region 20 with (first | (go_at_call 20; go_must (refine (image_any HC8.out).mono ?_); rintro e w9 ⟨v9, rfl, row9, hb9⟩; have hcv9 := row9.conv))
        have HC9 := Lib.hid (HC8.out.below hb9)
        have HD9 := Lib.hid (HD8.out.below hb9)
        have HB9 := Lib.hid (HB8.out.trans (hb9.mono HB8.out.size))
        clear hb9 HC8 HD8 HB8 hcv9 row9
        have hcr : ∀ x ∈ drow c sc (.slice none 0 0), wr.heap.size ≤ x := fun x hx => by
          simp only [drow, List.mem_cons, Option.mem_toList, Value.ownBlock] at hx
          rcases hx with rfl | rfl | hx
          · exact HC9.out.bd
          · exact HC9.out.bs
          · cases hx
        have HCR := Lib.hid hcr
        have HNC : Hid (∀ x, w9.heap.size ≤ x → x ∉ drow c sc (.slice none 0 0)) := fun x hx hm => by
          have := (drow_lt HC9.out x hm).2; omega
        clear hcr
        go_upto_region 21 with (first | (go_at_call 12; go_must (refine (filled_any 0 0 33 0 (-1) _).mono ?_); rintro e w10 ⟨g, rfl, q1, q2, q3⟩; rw [stepLong_neg]) | (go_at_call 11; go_must (refine (write_bytes (HC9.out.below q3) 1 (by omega) (by decide) g _ (stepBytes_len _ _ _) q2 (HNC.out g q1)).mono ?_); rintro e w11 ⟨rfl, v11, C11, t11, hv11⟩))
        have HC11 := Lib.hid C11
        have hnd : ∀ x ∈ drow d s v, x ∉ drow c sc (.slice none 0 0) := fun x hx hm => by
          have h1 := HCR.out x hm
          have h2 := (HDL.out x hx).2
          omega
        have HD11 := Lib.hid ((HD9.out.below q3).touch t11 (hnd d (by simp [drow])) (hnd s (by simp [drow])) (fun x hx => hnd x (by simp [drow, hx])))
        have HB11 := Lib.hid ((HB9.out.trans (q3.mono HB9.out.size)).trans (t11.below (B := w.heap.size) (Nat.le_trans HB9.out.size q3.size) (fun x hx => Nat.le_trans HB.out.size (HCR.out x hx))))
        clear C11 t11 hv11 hnd q1 q2 q3 HC9 HD9 HB9 HNC HCR HDL
        go_upto_region 22 with (first | (go_at_call 14; go_must (refine (writes_any HD11.out).mono ?_); rintro e w12 ⟨v12, rfl, ho12, hb12⟩; obtain ⟨q12, c12, rfl⟩ := own_slice ho12) | (go_at_call 23; go_must (refine (cut_yes (HD11.out.below hb12) (olds sec00 hist).length (Nat.le_refl _)).mono ?_); rintro e w13 ⟨lc, ls, rfl, L, hb13⟩; rw [back_all] at L))
        have hb123 := hb12.trans (hb13.mono hb12.size)
        have HC13 := Lib.hid (HC11.out.below hb123)
        have HD13 := Lib.hid (HD11.out.below hb123)
        have HB13 := Lib.hid (HB11.out.trans (hb123.mono HB11.out.size))
        have HL13 := Lib.hid L
        clear hb123 hb12 hb13 L HC11 HD11 HB11 ho12
        go_wp2_with (first | (go_at_call 20; refine (image_any HL14.out).mono ?_; rintro e w15 ⟨v15, rfl, row15, hb15⟩; have hcv15 := row15.conv; have hb145 := hb14.trans (hb15.mono hb14.size); have HC15 := Lib.hid (HC13.out.below hb145)) | (go_at_call 20; refine (image_any HD13.out).mono ?_; rintro e w14 ⟨v14, rfl, row14, hb14⟩; have hcv14 := row14.conv; have HL14 := Lib.hid (HL13.out.below hb14)) | (go_at_call 14; go_must (refine (writes_any HC15.out).mono ?_); rintro e w16 ⟨v16, rfl, ho16, hb16⟩; obtain ⟨q16, c16, rfl⟩ := own_slice ho16))
        go_ret
        exact ⟨by first | rfl | simp, (HB13.out.trans (hb145.mono HB13.out.size)).trans (hb16.mono (Nat.le_trans HB13.out.size hb145.size))⟩
      · have hno : at_ < 0 ∨ (hist.length : Int) < at_ := by omega
        have hno' : at_ < 0 ∨ ((olds sec00 hist).length : Int) < at_ := by rw [HOL.out]; exact hno
        have HNO := Lib.hid hno
        have HNO' := Lib.hid hno'
        clear hin hno hno'
        go_wp2_with (first | (go_at_call 23; go_must (refine (cut_no HT.out.P.D at_ HNO'.out HAT.out.2).mono ?_); rintro e w6 ⟨rfl, rfl⟩) | (go_at_call 18; go_must (refine (rcut_no HT.out.P.R at_ HNO.out HAT.out.2).mono ?_); rintro e w7 ⟨rfl, rfl⟩))
        go_ret
        exact ⟨rfl, HB.out⟩
def diskCutsAts : List Gen.AT := [.one (.int .i64), .one (.slice 32 [.int .i64, .int .i64, .int .u8, .int .u8, .int .i64]), .one (.int .i64)]
theorem diskCuts_args (W : World) (vs : List Value) (h : Gen.ArgsGood W diskCutsAts vs) :
    Calls Try.prog 7 vs.toArray W fun e W' => e = .returned (.bool true) ∧ Below W.heap.size W W' := by
  match vs, h with
  | [v0, v1, v2], h =>
    obtain ⟨h0, h1, h2, _⟩ := h
    obtain ⟨n, rfl, wn⟩ := h0.int_inv
    obtain ⟨A, len, cap, V, rfl, hl, hm, hb, hr⟩ := h1.slice_inv
    obtain ⟨a, rfl, wa⟩ := h2.int_inv
    have hm' : len ≤ 1000000000000000 := by unfold maxLen at hm; unfold reachBytes at hb; omega
    by_cases hn : 8 ≤ n ∧ n ≤ 1024
    · obtain ⟨N, rfl⟩ := Int.eq_ofNat_of_zero_le (show 0 ≤ n by omega)
      exact diskCuts_yes N (by omega) (by omega) A len cap hm' a (i64_of wa) W (script_of hl hr)
    · exact diskCuts_no n hn _ _ W
end Go.Proofs.Ytegiabnlmngkmaa
