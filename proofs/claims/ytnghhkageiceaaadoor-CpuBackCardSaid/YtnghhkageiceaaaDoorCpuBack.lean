/- The walk of CpuBack. -/
import Derived.Test.YtnghhkageiceaaaDoorCpuS
import Derived.Test.YtnghhkageiceaaaDoorCpuEnc
import Derived.Test.YtnghhkageiceaaaDoorCpuArg
namespace Go.Proofs.YtnghhkageiceaaaDoor
open Go Go.RowKit Go.Lib Go.Proofs.YtnghhkageiceaaaDoor.Pl
set_option linter.unusedVariables false
set_option linter.unusedSimpArgs false
attribute [local go_sem ↓] exec_load_cpu exec_store_cpu run_eql_ins run_neq_ins
set_option maxRecDepth 100000 in
set_option maxHeartbeats 1000000 in
theorem back_tt (x : Int) (h0 : 0 ≤ x) (h1 : x < 4294967296) (f : Int) (u v : Bool) (a b op c n : Int) (kx : decOk x = true) (kr : rightB f u v a b op c n = true) (w : World) (hT : Tab w) :
    Calls Tryd.prog 6 #[.int .u32 x, .agg #[.int .i64 f, .bool u, .bool v, .int .i64 a, .int .i64 b, .int .i64 op, .int .i64 c, .int .i64 n]] w fun e w' => e = .returned (.bool true) ∧ Below w.heap.size w w' := by
  have HT : Hid (∀ W, Below w.heap.size w W → Tab W) := fun W hB => hT.below hB hT.lt
  have Kx := Lib.hid kx
  have Kr := Lib.hid kr
  have hq := insEq_self f u v a b op c n
  have hz := insEq_self 0 false false 0 0 0 0 0
  clear hT kx kr
  have b0 : Below w.heap.size w (w.alloc (.cells #[.int .i64 f, .bool u, .bool v, .int .i64 a, .int .i64 b, .int .i64 op, .int .i64 c, .int .i64 n] 33)) := (Below.refl _ _).alloc (Nat.le_refl _) _
  have K0 : Blk (w.alloc (.cells #[.int .i64 f, .bool u, .bool v, .int .i64 a, .int .i64 b, .int .i64 op, .int .i64 c, .int .i64 n] 33)) w.heap.size #[.int .i64 f, .bool u, .bool v, .int .i64 a, .int .i64 b, .int .i64 op, .int .i64 c, .int .i64 n] 33 := Blk.new _ _ _
  have HB0 := Lib.hid b0
  have HK0 := Lib.hid K0
  clear b0 K0
  go_enter Tryd.func6, Tryd.ntmps6
  go_wp2_with fail
  refine (dec_yes x h0 h1 Kx.out _ (HT.out _ HB0.out)).mono ?_
  rintro e w1 ⟨rfl, hb1⟩
  have HB1 := Lib.hid ((HB0.out.trans (hb1.mono HB0.out.size)).alloc (Nat.le_trans HB0.out.size hb1.size) (.cells #[.int .i64 (decF x), .bool (decU x), .bool (decV x), .int .i64 (decA x), .int .i64 (decB x), .int .i64 (decO x), .int .i64 (decC x), .int .i64 (decN x)] 33))
  have HK1 := Lib.hid (Blk.old (HK0.out.step hb1) (.cells #[.int .i64 (decF x), .bool (decU x), .bool (decV x), .int .i64 (decA x), .int .i64 (decB x), .int .i64 (decO x), .int .i64 (decC x), .int .i64 (decN x)] 33))
  have HJ1 := Lib.hid (Blk.new w1 #[.int .i64 (decF x), .bool (decU x), .bool (decV x), .int .i64 (decA x), .int .i64 (decB x), .int .i64 (decO x), .int .i64 (decC x), .int .i64 (decN x)] 33)
  clear hb1 HB0 HK0
  go_wp2_with fail
  refine (shown_any _ (HT.out _ HB1.out)).mono ?_
  rintro e w2 ⟨rfl, hb2⟩
  have HB2 := Lib.hid (HB1.out.trans (hb2.mono HB1.out.size))
  have HK2 := Lib.hid (HK1.out.step hb2)
  have HJ2 := Lib.hid (HJ1.out.step hb2)
  clear hb2 HB1 HK1 HJ1
  obtain ⟨j0, j1, j2, j3, j4, j5, j6, j7⟩ := insCells (HJ2.out)
  go_wp2_with fail
  refine (enc_back x Kx.out _ (HT.out _ HB2.out)).mono ?_
  rintro e w3 ⟨rfl, hb3⟩
  have HB3 := Lib.hid (HB2.out.trans (hb3.mono HB2.out.size))
  have HK3 := Lib.hid (HK2.out.step hb3)
  have HJ3 := Lib.hid (HJ2.out.step hb3)
  clear hb3 HB2 HK2 HJ2
  clear j0 j1 j2 j3 j4 j5 j6 j7
  obtain ⟨i0, i1, i2, i3, i4, i5, i6, i7⟩ := insCells (HK3.out)
  go_wp2_with fail
  refine (enc_yes Kr.out _ (HT.out _ HB3.out)).mono ?_
  rintro e w4 ⟨rfl, hb4⟩
  have HB4 := Lib.hid (HB3.out.trans (hb4.mono HB3.out.size))
  have HK4 := Lib.hid (HK3.out.step hb4)
  clear hb4 HB3 HK3 HJ3
  clear i0 i1 i2 i3 i4 i5 i6 i7
  go_wp2_with fail
  refine (dec_back Kr.out _ (HT.out _ HB4.out)).mono ?_
  rintro e w5 ⟨rfl, hb5⟩
  have HB5 := Lib.hid (HB4.out.trans (hb5.mono HB4.out.size))
  have HK5 := Lib.hid (Blk.old (HK4.out.step hb5) (.cells #[.int .i64 f, .bool u, .bool v, .int .i64 a, .int .i64 b, .int .i64 op, .int .i64 c, .int .i64 n] 33))
  obtain ⟨i0, i1, i2, i3, i4, i5, i6, i7⟩ := insCells (HK5.out)
  clear hb5 HB4 HK4
  go_wp2_with fail
  go_ret
  exact ⟨rfl, HB5.out.alloc HB5.out.size _⟩
set_option maxRecDepth 100000 in
set_option maxHeartbeats 1000000 in
theorem back_tf (x : Int) (h0 : 0 ≤ x) (h1 : x < 4294967296) (f : Int) (u v : Bool) (a b op c n : Int) (kx : decOk x = true) (kr : rightB f u v a b op c n = false) (w : World) (hT : Tab w) :
    Calls Tryd.prog 6 #[.int .u32 x, .agg #[.int .i64 f, .bool u, .bool v, .int .i64 a, .int .i64 b, .int .i64 op, .int .i64 c, .int .i64 n]] w fun e w' => e = .returned (.bool true) ∧ Below w.heap.size w w' := by
  have HT : Hid (∀ W, Below w.heap.size w W → Tab W) := fun W hB => hT.below hB hT.lt
  have Kx := Lib.hid kx
  have Kr := Lib.hid kr
  have hq := insEq_self f u v a b op c n
  have hz := insEq_self 0 false false 0 0 0 0 0
  clear hT kx kr
  have b0 : Below w.heap.size w (w.alloc (.cells #[.int .i64 f, .bool u, .bool v, .int .i64 a, .int .i64 b, .int .i64 op, .int .i64 c, .int .i64 n] 33)) := (Below.refl _ _).alloc (Nat.le_refl _) _
  have K0 : Blk (w.alloc (.cells #[.int .i64 f, .bool u, .bool v, .int .i64 a, .int .i64 b, .int .i64 op, .int .i64 c, .int .i64 n] 33)) w.heap.size #[.int .i64 f, .bool u, .bool v, .int .i64 a, .int .i64 b, .int .i64 op, .int .i64 c, .int .i64 n] 33 := Blk.new _ _ _
  have HB0 := Lib.hid b0
  have HK0 := Lib.hid K0
  clear b0 K0
  go_enter Tryd.func6, Tryd.ntmps6
  go_wp2_with fail
  refine (dec_yes x h0 h1 Kx.out _ (HT.out _ HB0.out)).mono ?_
  rintro e w1 ⟨rfl, hb1⟩
  have HB1 := Lib.hid ((HB0.out.trans (hb1.mono HB0.out.size)).alloc (Nat.le_trans HB0.out.size hb1.size) (.cells #[.int .i64 (decF x), .bool (decU x), .bool (decV x), .int .i64 (decA x), .int .i64 (decB x), .int .i64 (decO x), .int .i64 (decC x), .int .i64 (decN x)] 33))
  have HK1 := Lib.hid (Blk.old (HK0.out.step hb1) (.cells #[.int .i64 (decF x), .bool (decU x), .bool (decV x), .int .i64 (decA x), .int .i64 (decB x), .int .i64 (decO x), .int .i64 (decC x), .int .i64 (decN x)] 33))
  have HJ1 := Lib.hid (Blk.new w1 #[.int .i64 (decF x), .bool (decU x), .bool (decV x), .int .i64 (decA x), .int .i64 (decB x), .int .i64 (decO x), .int .i64 (decC x), .int .i64 (decN x)] 33)
  clear hb1 HB0 HK0
  go_wp2_with fail
  refine (shown_any _ (HT.out _ HB1.out)).mono ?_
  rintro e w2 ⟨rfl, hb2⟩
  have HB2 := Lib.hid (HB1.out.trans (hb2.mono HB1.out.size))
  have HK2 := Lib.hid (HK1.out.step hb2)
  have HJ2 := Lib.hid (HJ1.out.step hb2)
  clear hb2 HB1 HK1 HJ1
  obtain ⟨j0, j1, j2, j3, j4, j5, j6, j7⟩ := insCells (HJ2.out)
  go_wp2_with fail
  refine (enc_back x Kx.out _ (HT.out _ HB2.out)).mono ?_
  rintro e w3 ⟨rfl, hb3⟩
  have HB3 := Lib.hid (HB2.out.trans (hb3.mono HB2.out.size))
  have HK3 := Lib.hid (HK2.out.step hb3)
  have HJ3 := Lib.hid (HJ2.out.step hb3)
  clear hb3 HB2 HK2 HJ2
  clear j0 j1 j2 j3 j4 j5 j6 j7
  obtain ⟨i0, i1, i2, i3, i4, i5, i6, i7⟩ := insCells (HK3.out)
  go_wp2_with fail
  refine (enc_not Kr.out _ (HT.out _ HB3.out)).mono ?_
  rintro e w4 ⟨rfl, hb4⟩
  have HB4 := Lib.hid (HB3.out.trans (hb4.mono HB3.out.size))
  have HK4 := Lib.hid (HK3.out.step hb4)
  clear hb4 HB3 HK3 HJ3
  clear i0 i1 i2 i3 i4 i5 i6 i7
  go_wp2_with fail
  refine (dec_any 0 (by omega) (by omega) _ (HT.out _ HB4.out)).mono ?_
  rintro e w5 ⟨rfl, hb5⟩
  have HB5 := Lib.hid (HB4.out.trans (hb5.mono HB4.out.size))
  rw [show decRes 0 = .agg #[.int .i64 0, .bool false, .bool false, .int .i64 0, .int .i64 0, .int .i64 0, .int .i64 0, .int .i64 0] by kernel_rfl, show decOk 0 = true by kernel_rfl]
  clear hb5 HB4 HK4
  go_wp2_with fail
  go_ret
  exact ⟨rfl, HB5.out.alloc HB5.out.size _⟩
set_option maxRecDepth 100000 in
set_option maxHeartbeats 1000000 in
theorem back_ft (x : Int) (h0 : 0 ≤ x) (h1 : x < 4294967296) (f : Int) (u v : Bool) (a b op c n : Int) (kx : decOk x = false) (kr : rightB f u v a b op c n = true) (w : World) (hT : Tab w) :
    Calls Tryd.prog 6 #[.int .u32 x, .agg #[.int .i64 f, .bool u, .bool v, .int .i64 a, .int .i64 b, .int .i64 op, .int .i64 c, .int .i64 n]] w fun e w' => e = .returned (.bool true) ∧ Below w.heap.size w w' := by
  have HT : Hid (∀ W, Below w.heap.size w W → Tab W) := fun W hB => hT.below hB hT.lt
  have Kx := Lib.hid kx
  have Kr := Lib.hid kr
  have hq := insEq_self f u v a b op c n
  have hz := insEq_self 0 false false 0 0 0 0 0
  clear hT kx kr
  have b0 : Below w.heap.size w (w.alloc (.cells #[.int .i64 f, .bool u, .bool v, .int .i64 a, .int .i64 b, .int .i64 op, .int .i64 c, .int .i64 n] 33)) := (Below.refl _ _).alloc (Nat.le_refl _) _
  have K0 : Blk (w.alloc (.cells #[.int .i64 f, .bool u, .bool v, .int .i64 a, .int .i64 b, .int .i64 op, .int .i64 c, .int .i64 n] 33)) w.heap.size #[.int .i64 f, .bool u, .bool v, .int .i64 a, .int .i64 b, .int .i64 op, .int .i64 c, .int .i64 n] 33 := Blk.new _ _ _
  have HB0 := Lib.hid b0
  have HK0 := Lib.hid K0
  clear b0 K0
  go_enter Tryd.func6, Tryd.ntmps6
  go_wp2_with fail
  refine (dec_not x h0 h1 Kx.out _ (HT.out _ HB0.out)).mono ?_
  rintro e w1 ⟨rfl, hb1⟩
  have HB1 := Lib.hid ((HB0.out.trans (hb1.mono HB0.out.size)).alloc (Nat.le_trans HB0.out.size hb1.size) (.cells #[.int .i64 0, .bool false, .bool false, .int .i64 0, .int .i64 0, .int .i64 0, .int .i64 0, .int .i64 0] 33))
  have HK1 := Lib.hid (Blk.old (HK0.out.step hb1) (.cells #[.int .i64 0, .bool false, .bool false, .int .i64 0, .int .i64 0, .int .i64 0, .int .i64 0, .int .i64 0] 33))
  have HJ1 := Lib.hid (Blk.new w1 #[.int .i64 0, .bool false, .bool false, .int .i64 0, .int .i64 0, .int .i64 0, .int .i64 0, .int .i64 0] 33)
  clear hb1 HB0 HK0
  go_wp2_with fail
  refine (shown_any _ (HT.out _ HB1.out)).mono ?_
  rintro e w2 ⟨rfl, hb2⟩
  have HB2 := Lib.hid (HB1.out.trans (hb2.mono HB1.out.size))
  have HK2 := Lib.hid (HK1.out.step hb2)
  have HJ2 := Lib.hid (HJ1.out.step hb2)
  clear hb2 HB1 HK1 HJ1
  obtain ⟨j0, j1, j2, j3, j4, j5, j6, j7⟩ := insCells (HJ2.out)
  go_wp2_with fail
  refine (enc_zero _ (HT.out _ HB2.out)).mono ?_
  rintro e w3 ⟨rfl, hb3⟩
  have HB3 := Lib.hid (HB2.out.trans (hb3.mono HB2.out.size))
  have HK3 := Lib.hid (HK2.out.step hb3)
  have HJ3 := Lib.hid (HJ2.out.step hb3)
  clear hb3 HB2 HK2 HJ2
  clear j0 j1 j2 j3 j4 j5 j6 j7
  obtain ⟨j0, j1, j2, j3, j4, j5, j6, j7⟩ := insCells (HJ3.out)
  obtain ⟨i0, i1, i2, i3, i4, i5, i6, i7⟩ := insCells (HK3.out)
  go_wp2_with fail
  refine (enc_yes Kr.out _ (HT.out _ HB3.out)).mono ?_
  rintro e w4 ⟨rfl, hb4⟩
  have HB4 := Lib.hid (HB3.out.trans (hb4.mono HB3.out.size))
  have HK4 := Lib.hid (HK3.out.step hb4)
  clear hb4 HB3 HK3 HJ3
  clear i0 i1 i2 i3 i4 i5 i6 i7
  clear j0 j1 j2 j3 j4 j5 j6 j7
  go_wp2_with fail
  refine (dec_back Kr.out _ (HT.out _ HB4.out)).mono ?_
  rintro e w5 ⟨rfl, hb5⟩
  have HB5 := Lib.hid (HB4.out.trans (hb5.mono HB4.out.size))
  have HK5 := Lib.hid (Blk.old (HK4.out.step hb5) (.cells #[.int .i64 f, .bool u, .bool v, .int .i64 a, .int .i64 b, .int .i64 op, .int .i64 c, .int .i64 n] 33))
  obtain ⟨i0, i1, i2, i3, i4, i5, i6, i7⟩ := insCells (HK5.out)
  clear hb5 HB4 HK4
  go_wp2_with fail
  go_ret
  exact ⟨rfl, HB5.out.alloc HB5.out.size _⟩
set_option maxRecDepth 100000 in
set_option maxHeartbeats 1000000 in
theorem back_ff (x : Int) (h0 : 0 ≤ x) (h1 : x < 4294967296) (f : Int) (u v : Bool) (a b op c n : Int) (kx : decOk x = false) (kr : rightB f u v a b op c n = false) (w : World) (hT : Tab w) :
    Calls Tryd.prog 6 #[.int .u32 x, .agg #[.int .i64 f, .bool u, .bool v, .int .i64 a, .int .i64 b, .int .i64 op, .int .i64 c, .int .i64 n]] w fun e w' => e = .returned (.bool true) ∧ Below w.heap.size w w' := by
  have HT : Hid (∀ W, Below w.heap.size w W → Tab W) := fun W hB => hT.below hB hT.lt
  have Kx := Lib.hid kx
  have Kr := Lib.hid kr
  have hq := insEq_self f u v a b op c n
  have hz := insEq_self 0 false false 0 0 0 0 0
  clear hT kx kr
  have b0 : Below w.heap.size w (w.alloc (.cells #[.int .i64 f, .bool u, .bool v, .int .i64 a, .int .i64 b, .int .i64 op, .int .i64 c, .int .i64 n] 33)) := (Below.refl _ _).alloc (Nat.le_refl _) _
  have K0 : Blk (w.alloc (.cells #[.int .i64 f, .bool u, .bool v, .int .i64 a, .int .i64 b, .int .i64 op, .int .i64 c, .int .i64 n] 33)) w.heap.size #[.int .i64 f, .bool u, .bool v, .int .i64 a, .int .i64 b, .int .i64 op, .int .i64 c, .int .i64 n] 33 := Blk.new _ _ _
  have HB0 := Lib.hid b0
  have HK0 := Lib.hid K0
  clear b0 K0
  go_enter Tryd.func6, Tryd.ntmps6
  go_wp2_with fail
  refine (dec_not x h0 h1 Kx.out _ (HT.out _ HB0.out)).mono ?_
  rintro e w1 ⟨rfl, hb1⟩
  have HB1 := Lib.hid ((HB0.out.trans (hb1.mono HB0.out.size)).alloc (Nat.le_trans HB0.out.size hb1.size) (.cells #[.int .i64 0, .bool false, .bool false, .int .i64 0, .int .i64 0, .int .i64 0, .int .i64 0, .int .i64 0] 33))
  have HK1 := Lib.hid (Blk.old (HK0.out.step hb1) (.cells #[.int .i64 0, .bool false, .bool false, .int .i64 0, .int .i64 0, .int .i64 0, .int .i64 0, .int .i64 0] 33))
  have HJ1 := Lib.hid (Blk.new w1 #[.int .i64 0, .bool false, .bool false, .int .i64 0, .int .i64 0, .int .i64 0, .int .i64 0, .int .i64 0] 33)
  clear hb1 HB0 HK0
  go_wp2_with fail
  refine (shown_any _ (HT.out _ HB1.out)).mono ?_
  rintro e w2 ⟨rfl, hb2⟩
  have HB2 := Lib.hid (HB1.out.trans (hb2.mono HB1.out.size))
  have HK2 := Lib.hid (HK1.out.step hb2)
  have HJ2 := Lib.hid (HJ1.out.step hb2)
  clear hb2 HB1 HK1 HJ1
  obtain ⟨j0, j1, j2, j3, j4, j5, j6, j7⟩ := insCells (HJ2.out)
  go_wp2_with fail
  refine (enc_zero _ (HT.out _ HB2.out)).mono ?_
  rintro e w3 ⟨rfl, hb3⟩
  have HB3 := Lib.hid (HB2.out.trans (hb3.mono HB2.out.size))
  have HK3 := Lib.hid (HK2.out.step hb3)
  have HJ3 := Lib.hid (HJ2.out.step hb3)
  clear hb3 HB2 HK2 HJ2
  clear j0 j1 j2 j3 j4 j5 j6 j7
  obtain ⟨j0, j1, j2, j3, j4, j5, j6, j7⟩ := insCells (HJ3.out)
  obtain ⟨i0, i1, i2, i3, i4, i5, i6, i7⟩ := insCells (HK3.out)
  go_wp2_with fail
  refine (enc_not Kr.out _ (HT.out _ HB3.out)).mono ?_
  rintro e w4 ⟨rfl, hb4⟩
  have HB4 := Lib.hid (HB3.out.trans (hb4.mono HB3.out.size))
  have HK4 := Lib.hid (HK3.out.step hb4)
  clear hb4 HB3 HK3 HJ3
  clear i0 i1 i2 i3 i4 i5 i6 i7
  clear j0 j1 j2 j3 j4 j5 j6 j7
  go_wp2_with fail
  refine (dec_any 0 (by omega) (by omega) _ (HT.out _ HB4.out)).mono ?_
  rintro e w5 ⟨rfl, hb5⟩
  have HB5 := Lib.hid (HB4.out.trans (hb5.mono HB4.out.size))
  rw [show decRes 0 = .agg #[.int .i64 0, .bool false, .bool false, .int .i64 0, .int .i64 0, .int .i64 0, .int .i64 0, .int .i64 0] by kernel_rfl, show decOk 0 = true by kernel_rfl]
  clear hb5 HB4 HK4
  go_wp2_with fail
  go_ret
  exact ⟨rfl, HB5.out.alloc HB5.out.size _⟩
def cpuBackAts : List Gen.AT := [.one (.int .u32), .agg [.int .i64, .bool, .bool, .int .i64, .int .i64, .int .i64, .int .i64, .int .i64]]
theorem cpuBack_args (W : World) (vs : List Value) (h : Gen.ArgsGood W cpuBackAts vs) (hT : Tab W) :
    Calls Tryd.prog 6 vs.toArray W fun e W' => e = .returned (.bool true) ∧ Below W.heap.size W W' := by
  match vs, h with
  | [v0, v1], h =>
    obtain ⟨h0, ⟨cs, rfl, hg⟩, _⟩ := h
    obtain ⟨x, rfl, wx⟩ := h0.int_inv
    have bx := bounds_u32 wx
    obtain ⟨f, u, v, a, b, op, c, n, rfl⟩ := ins_inv hg
    cases kx : decOk x <;> cases kr : rightB f u v a b op c n
    · exact back_ff x (by omega) (by omega) f u v a b op c n kx kr W hT
    · exact back_ft x (by omega) (by omega) f u v a b op c n kx kr W hT
    · exact back_tf x (by omega) (by omega) f u v a b op c n kx kr W hT
    · exact back_tt x (by omega) (by omega) f u v a b op c n kx kr W hT
end Go.Proofs.YtnghhkageiceaaaDoor
