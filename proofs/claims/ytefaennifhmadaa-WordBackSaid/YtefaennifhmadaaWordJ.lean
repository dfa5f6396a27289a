/- The walks of WordDigits and WordBack. -/
import Derived.Test.YtefaennifhmadaaWordB
import Derived.Test.YtefaennifhmadaaWordC
import Derived.Test.YtefaennifhmadaaWordF
import Derived.Test.YtefaennifhmadaaWordI
import Derived.Test.YtefaennifhmadaaPlainD
import Derived.Test.YtefaennifhmadaaGen
namespace Go.Proofs.Ytefaennifhmadaa
open Go.RowKit Pl
set_option linter.unusedVariables false
theorem digits_walk (x : Int) (s : ByteArray) (w : World) (hx : 0 ≤ x) (hx' : x < 4294967296) (hs : s.size ≤ 140737488351232) :
    Calls Try.prog 8 #[.int .u32 x, .string s] w fun e w' => e = .returned (.bool true) ∧ Below w.heap.size w w' := by
  go_enter Try.func8, Try.ntmps8
  go_wp2_with fail
  refine (shown_any _).mono ?_; rintro e w' ⟨rfl, rfl⟩
  go_wp2_with fail
  refine (hex_any x hx hx' _).mono ?_; rintro e w1 ⟨rfl, hb1⟩
  have HB := Lib.hid hb1; clear hb1
  go_wp2_with fail
  refine (unhex_any s _ (by omega)).mono ?_; rintro e w' ⟨rfl, rfl⟩
  go_wp2_with fail
  refine (runhex_any s _ (by omega)).mono ?_; rintro e w' ⟨rfl, rfl⟩
  go_wp2_with (go_at_call 36; refine (rhex_any x hx hx' _).mono ?_; rintro e w' ⟨rfl, rfl⟩)
  go_ret
  exact ⟨rfl, HB.out⟩
def wordDigitsAts : List Gen.AT := [.one (.int .u32), .one (.str)]
theorem wordDigits_args (W : World) (vs : List Value) (h : Gen.ArgsGood W wordDigitsAts vs) :
    Calls Try.prog 8 vs.toArray W fun e W' => e = .returned (.bool true) ∧ Below W.heap.size W W' := by
  match vs, h with
  | [v0, v1], h =>
    obtain ⟨h0, h1, _⟩ := h
    obtain ⟨x, rfl, wx⟩ := h0.int_inv
    obtain ⟨s, rfl, hs⟩ := h1.str_inv
    have bx := bounds_u32 wx
    exact digits_walk x s W (by omega) (by omega) hs

theorem make4 (w : World) : (Instr.makeSlice 22 (.int .i64 4) (.int .i64 4)).run Try.prog w = .ok (.slice (some ⟨w.heap.size, 0, none⟩) 4 4) (w.alloc (.cells #[.int .u8 0, .int .u8 0, .int .u8 0, .int .u8 0] 5)) := by kernel_rfl
theorem four_new (w : World) (t : TypeId) : OwnI .u8 (w.alloc (.cells #[.int .u8 0, .int .u8 0, .int .u8 0, .int .u8 0] t)) w.heap.size 4 t (fun _ => 0) :=
  OwnI.new w .u8 #[.int .u8 0, .int .u8 0, .int .u8 0, .int .u8 0] t _ (fun i hi => by
    have h8 : i = 0 ∨ i = 1 ∨ i = 2 ∨ i = 3 := by simp at hi; omega
    rcases h8 with rfl | rfl | rfl | rfl <;> rfl)
set_option maxHeartbeats 1000000 in
theorem back_walk (a b : Int) (c : Bool) (n : Int) (w : World) (ha : 0 ≤ a) (ha' : a < 4294967296) (hb : 0 ≤ b) (hb' : b < 4294967296) (hn : 0 ≤ n) (hn' : n < 4294967296) :
    Calls Try.prog 9 #[.int .u32 a, .int .u32 b, .bool c, .int .u32 n] w fun e w' => e = .returned (.bool true) ∧ Below w.heap.size w w' := by
  have hs := addS_bd a b c
  have hB := Lib.hid (back a b c ha ha' hb hb')
  have hp := prod_bound a b ha (by omega) hb (by omega)
  have hl := mulL_bd a b true
  have hh := mulH_bd a b true
  have hM := Lib.hid (back_mul a b hp)
  have hX := Lib.hid (hexS_back a ha ha')
  have hT := Lib.hid (turned_back' a (n % 32) ha ha' (by omega) (by omega))
  have hrb := rorV_bd a (n % 32).toNat (by omega) ha ha'
  have h4 := make4
  have hok : getOk 4 0 = true := by decide
  go_enter Try.func9, Try.ntmps9
  go_wp2_with fail
  refine (shown_any _).mono ?_; rintro e w' ⟨rfl, rfl⟩
  go_wp2_with fail
  refine (add_any a b c ha ha' hb hb' _).mono ?_; rintro e w' ⟨rfl, rfl⟩
  go_wp2_with fail
  refine (sub_any (addS a b c) b c hs.1 hs.2 hb hb' _).mono ?_; rintro e w' ⟨rfl, rfl⟩
  rw [hB.out.1, hB.out.2]
  go_wp2_with fail
  refine (mul_any a b true ha ha' hb hb' _).mono ?_; rintro e w' ⟨rfl, rfl⟩
  go_wp2_with fail
  have hO := four_new w 5
  refine (put_any w.heap.size 0 4 4 4 5 _ 0 a _ (by omega) ha ha' hO (by omega)).mono ?_
  rintro e w1 ⟨rfl, hw1⟩
  have hO1 := putW_own (off := 0) (n := 4) hO 0 a ha ha'
  have hb1 := ((Below.refl w.heap.size w).alloc (Nat.le_refl _) (.cells #[.int .u8 0, .int .u8 0, .int .u8 0, .int .u8 0] 5)).trans (putW_below (B := w.heap.size) (g := w.heap.size) (off := 0) (n := 4) (Nat.le_refl _) 0 a)
  rw [hw1] at hO1 hb1
  clear hw1 hO h4
  have HO := Lib.hid (hO1.congr (L' := laid4 (fun _ => 0) 0 a) (fun i hi => by unfold laid4; rw [if_pos ⟨hok, by simp, by simp; omega⟩, if_pos ⟨by omega, by omega⟩]; simp)); clear hO1
  have HB := Lib.hid hb1; clear hb1
  go_wp2_with fail
  refine (get_any (some ⟨w.heap.size, 0, none⟩) 4 4 (laid4 (fun _ => 0) 0 a) 0 _ (by omega) (by omega) (laid_bd a) (HO.out.rd (by omega))).mono ?_
  rintro e w' ⟨rfl, rfl⟩
  rw [get_laid a ha ha']
  go_wp2_with fail
  refine (hex_any a ha ha' _).mono ?_
  rintro e w2 ⟨rfl, hb2⟩
  have HB2 := Lib.hid (HB.out.trans (hb2.mono (Nat.le_of_lt HO.out.lt)))
  clear hb2 HB HO
  go_wp2_with fail
  refine (unhex_any (hexS a) _ (by unfold hexS; rw [strOfNums_size]; simp [hexN])).mono ?_
  rintro e w' ⟨rfl, rfl⟩
  rw [hX.out.1, hX.out.2]
  go_wp2_with fail
  refine (ror_any a _ ha ha' (by omega) (by omega) _).mono ?_
  rintro e w' ⟨rfl, rfl⟩
  go_wp2_with fail
  refine (ror_any _ _ hrb.1 hrb.2 (by omega) (by omega) _).mono ?_
  rintro e w' ⟨rfl, rfl⟩
  rw [hT.out]
  go_wp2_with fail
  refine (div_any a b ha ha' hb hb' _).mono ?_
  rintro e w' ⟨rfl, k, rfl⟩
  have hm := hM.out
  by_cases hd : divOk b = true
  · obtain ⟨h1, h2, h3⟩ := back_div a b ha ha' hb hb' hd
    have hq : (divQ a b * b + divR a b) % 4294967296 = a := by omega
    clear h1
    go_wp2_with fail
    go_ret
    exact ⟨rfl, (HB2.out.trans ⟨rfl, rfl, rfl, Nat.le_refl _, fun _ _ => rfl⟩)⟩
  · have hd' : divOk b = false := by simpa using hd
    clear hd
    go_wp2_with fail
    go_ret
    exact ⟨rfl, (HB2.out.trans ⟨rfl, rfl, rfl, Nat.le_refl _, fun _ _ => rfl⟩)⟩
def wordBackAts : List Gen.AT := [.one (.int .u32), .one (.int .u32), .one (.bool), .one (.int .u32)]
theorem wordBack_args (W : World) (vs : List Value) (h : Gen.ArgsGood W wordBackAts vs) :
    Calls Try.prog 9 vs.toArray W fun e W' => e = .returned (.bool true) ∧ Below W.heap.size W W' := by
  match vs, h with
  | [v0, v1, v2, v3], h =>
    obtain ⟨h0, h1, h2, h3, _⟩ := h
    obtain ⟨a, rfl, wa⟩ := h0.int_inv
    obtain ⟨b, rfl, wb⟩ := h1.int_inv
    obtain ⟨c, rfl⟩ := h2.bool_inv
    obtain ⟨n, rfl, wn⟩ := h3.int_inv
    have ba := bounds_u32 wa
    have bb := bounds_u32 wb
    have bn := bounds_u32 wn
    exact back_walk a b c n W (by omega) (by omega) (by omega) (by omega) (by omega) (by omega)
end Go.Proofs.Ytefaennifhmadaa
