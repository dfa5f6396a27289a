/- The walk of CpuDivides. -/
import Derived.Test.YtnghhkageiceaaaDoorCpuTwo
import Derived.Test.YtnghhkageiceaaaDoorCpuArg
namespace Go.Proofs.YtnghhkageiceaaaDoor
open Go Go.RowKit Go.Lib Go.Proofs.YtnghhkageiceaaaDoor.Pl
set_option linter.unusedVariables false
set_option linter.unusedSimpArgs false
attribute [local go_sem ↓] exec_load_cpu exec_store_cpu
theorem fin_at0 {X : Array Value} (h : X.size = 22) (W : Int) : (fin X 0 W)[0]? = some (.int .u32 W) := by
  unfold fin
  rw [set_at _ 18 0 _ (by simp [h]), if_neg (by omega), set_at _ 17 0 _ (by simp [h]), if_neg (by omega), set_at _ 0 0 _ (by simp [h]), if_pos rfl]
theorem fin_far {X : Array Value} (h : X.size = 22) (a : Nat) (ha : a ≤ 15) (W : Int) (j : Nat) (hj : j ≠ a ∧ j ≠ 17 ∧ j ≠ 18) : (fin X a W)[j]? = X[j]? := by
  unfold fin
  rw [set_at _ 18 j _ (by simp [h]), if_neg (by omega), set_at _ 17 j _ (by simp [h]), if_neg (by omega), set_at _ a j _ (by simp [h]; omega), if_neg (by omega)]
theorem two_alu (cs : Array Value) (op : Int) (u : Bool) (hr : rightB 0 u false 0 1 op 2 0 = true) : exV cs 0 u false 0 1 op 2 0 0 = exAlu cs 0 u false 0 1 op 2 0 := exV_alu (a := 0) (b := 1) (c := 2) hr (.inl rfl)
theorem two_div {cs : Array Value} (h : CpuOk cs) (hd : divOk (rgV cs 2) = true) :
    twoT cs 11 false = false ∧ (twoR cs 11 false)[0]? = some (.int .u32 (divQ (rgV cs 1) (rgV cs 2))) ∧ (twoR cs 11 false)[16]? = some (.int .u32 (divR (rgV cs 1) (rgV cs 2))) := by
  have e : exV cs 0 false false 0 1 11 2 0 0 = (fin ((c21 cs).setIfInBounds 16 (.int .u32 (divR (rgV cs 1) (rgV cs 2)))) 0 (divQ (rgV cs 1) (rgV cs 2)), 0, false) := by
    rw [two_alu cs 11 false rfl]
    unfold exAlu
    rw [if_neg (by omega), if_neg (by rw [show opX cs 0 false 2 0 = rgV cs 2 from rfl, hd]; simp)]
    rfl
  unfold twoT twoR
  rw [e]
  refine ⟨rfl, fin_at0 (by simp [c21_size h.size]) _, ?_⟩
  rw [fin_far (by simp [c21_size h.size]) 0 (by omega) _ 16 (by omega), set_at _ 16 16 _ (by rw [c21_size h.size]; omega), if_pos rfl]
theorem two_nodiv {cs : Array Value} (hd : divOk (rgV cs 2) = false) : twoT cs 11 false = true ∧ twoR cs 11 false = cs := by
  have e : exV cs 0 false false 0 1 11 2 0 0 = (cs, 6, true) := by
    rw [two_alu cs 11 false rfl]
    unfold exAlu
    rw [if_neg (by omega), if_pos ⟨rfl, hd⟩]
  unfold twoT twoR
  rw [e]
  exact ⟨rfl, rfl⟩
theorem or_64 (x y : Int) (hx : 0 ≤ x) (hx' : x < 4294967296) (hy : 0 ≤ y) (hy' : y < 4294967296) : bits .or .u64 (x * 4294967296) y = x * 4294967296 + y := by
  rw [u64_or _ _ (by omega) (by omega) (by omega) (by omega)]
  obtain ⟨x, rfl⟩ := Int.eq_ofNat_of_zero_le hx
  obtain ⟨y, rfl⟩ := Int.eq_ofNat_of_zero_le hy
  rw [show ((x : Int) * 4294967296).toNat = x * 4294967296 from by omega, Int.toNat_natCast]
  have := nat_join 32 (x * 4294967296) y (by omega) (by omega)
  rw [this]
  omega
theorem whole_u (a b : Int) (ha : 0 ≤ a) (ha' : a < 4294967296) (hb : 0 ≤ b) (hb' : b < 4294967296) : mulH a b true * 4294967296 + mulL a b true = a * b := by
  have h : 0 ≤ a * b ∧ a * b ≤ 18446744065119617025 := ⟨Int.mul_nonneg ha hb, Int.mul_le_mul (show a ≤ 4294967295 by omega) (show b ≤ 4294967295 by omega) hb (by omega)⟩
  unfold mulH mulL
  rw [show mulP a b true = a * b from rfl]
  omega
theorem mul_ubd (a b : Int) (ha : 0 ≤ a) (ha' : a < 4294967296) (hb : 0 ≤ b) (hb' : b < 4294967296) : 0 ≤ a * b ∧ a * b ≤ 18446744065119617025 :=
  ⟨Int.mul_nonneg ha hb, Int.mul_le_mul (show a ≤ 4294967295 by omega) (show b ≤ 4294967295 by omega) hb (by omega)⟩
theorem sg_back (a : Int) (h0 : -2147483648 ≤ a) (h1 : a ≤ 2147483647) : sg (a % 4294967296) = a := by unfold sg; split <;> omega
theorem whole_s (a b : Int) (ha0 : -2147483648 ≤ a) (ha1 : a ≤ 2147483647) (hb0 : -2147483648 ≤ b) (hb1 : b ≤ 2147483647) : wrap64 (mulH (a % 4294967296) (b % 4294967296) false * 4294967296 + mulL (a % 4294967296) (b % 4294967296) false) = a * b := by
  have h := mul_bd a b ⟨ha0, ha1⟩ ⟨hb0, hb1⟩
  unfold mulH mulL
  rw [show mulP (a % 4294967296) (b % 4294967296) false = sg (a % 4294967296) * sg (b % 4294967296) from rfl, sg_back a ha0 ha1, sg_back b hb0 hb1]
  unfold wrap64
  omega
theorem div_back32 (a b : Int) (ha0 : -2147483648 ≤ a) (ha1 : a ≤ 2147483647) (hb0 : 0 < b) (hb1 : b ≤ 2147483647) :
    wrap32 (divQ (a % 4294967296) (b % 4294967296)) * b + divR (a % 4294967296) (b % 4294967296) = a ∧ 0 ≤ divR (a % 4294967296) (b % 4294967296) ∧ divR (a % 4294967296) (b % 4294967296) < b := by
  unfold divQ divR
  rw [sg_back a ha0 ha1, sg_back b (by omega) hb1, if_neg (by omega), if_neg (by omega)]
  have h1 := Int.emod_nonneg a (show b ≠ 0 by omega)
  have h2 := Int.emod_lt_of_pos a hb0
  have h3 := Int.mul_ediv_add_emod a b
  have hq : -2147483648 ≤ a / b ∧ a / b ≤ 2147483647 := by
    refine ⟨?_, ?_⟩
    · exact Int.le_ediv_of_mul_le hb0 (by
        have : -2147483648 * b ≤ -2147483648 * 1 := Int.mul_le_mul_of_nonpos_left (by omega) (by omega)
        omega)
    · by_cases g : 0 ≤ a
      · have := Int.ediv_le_self b g; omega
      · have := Int.ediv_neg_of_neg_of_pos (show a < 0 by omega) hb0; omega
  rw [show wrap32 (a / b % 4294967296) = a / b from by unfold wrap32; omega, Int.mul_comm]
  exact ⟨h3, h1, h2⟩
theorem two_mul {cs : Array Value} (h : CpuOk cs) (u : Bool) :
    twoT cs 10 u = false ∧ (twoR cs 10 u)[0]? = some (.int .u32 (mulL (rgV cs 1) (rgV cs 2) u)) ∧ (twoR cs 10 u)[16]? = some (.int .u32 (mulH (rgV cs 1) (rgV cs 2) u)) := by
  have e : exV cs 0 u false 0 1 10 2 0 0 = (fin ((c21 cs).setIfInBounds 16 (.int .u32 (mulH (rgV cs 1) (rgV cs 2) u))) 0 (mulL (rgV cs 1) (rgV cs 2) u), 0, false) := by
    rw [two_alu cs 10 u (by cases u <;> rfl)]
    rfl
  unfold twoT twoR
  rw [e]
  refine ⟨rfl, fin_at0 (by simp [c21_size h.size]) _, ?_⟩
  rw [fin_far (by simp [c21_size h.size]) 0 (by omega) _ 16 (by omega), set_at _ 16 16 _ (by rw [c21_size h.size]; omega), if_pos rfl]
set_option maxRecDepth 100000 in
set_option maxHeartbeats 1000000 in
theorem divides_yes (a b : Int) (ha0 : -2147483648 ≤ a) (ha1 : a ≤ 2147483647) (hb0 : -2147483648 ≤ b) (hb1 : b ≤ 2147483647) (hb : Hid (0 < b)) (w : World) (hT : Tab w) :
    Calls Tryd.prog 3 #[.int .i32 a, .int .i32 b] w fun e w' => e = .returned (.bool true) ∧ Below w.heap.size w w' := by
  have HT : Hid (∀ W, Below w.heap.size w W → Tab W) := fun W hB => hT.below hB hT.lt
  clear hT
  have hok : CpuOk #[.int .u32 0, .int .u32 (a % 4294967296), .int .u32 (b % 4294967296), .int .u32 0, .int .u32 0, .int .u32 0, .int .u32 0, .int .u32 0, .int .u32 0, .int .u32 0, .int .u32 0, .int .u32 0, .int .u32 0, .int .u32 0, .int .u32 0, .int .u32 0, .int .u32 0, .bool false, .bool false, .bool false, .bool false, .int .u32 0] := cpuOk_lit (fun k => if k = 1 then (a % 4294967296) else if k = 2 then (b % 4294967296) else 0) (fun k => by (repeat' split) <;> omega) 0 0 (by omega) (by omega) false false false false
  obtain ⟨L, hL⟩ : ∃ L : Array Value, #[.int .u32 0, .int .u32 (a % 4294967296), .int .u32 (b % 4294967296), .int .u32 0, .int .u32 0, .int .u32 0, .int .u32 0, .int .u32 0, .int .u32 0, .int .u32 0, .int .u32 0, .int .u32 0, .int .u32 0, .int .u32 0, .int .u32 0, .int .u32 0, .int .u32 0, .bool false, .bool false, .bool false, .bool false, .int .u32 0] = L := ⟨_, rfl⟩
  have hst := store_new (w := w) (Z := #[.int .u32 0, .int .u32 0, .int .u32 0, .int .u32 0, .int .u32 0, .int .u32 0, .int .u32 0, .int .u32 0, .int .u32 0, .int .u32 0, .int .u32 0, .int .u32 0, .int .u32 0, .int .u32 0, .int .u32 0, .int .u32 0, .int .u32 0, .bool false, .bool false, .bool false, .bool false, .int .u32 0]) (cs := #[.int .u32 0, .int .u32 0, .int .u32 0, .int .u32 0, .int .u32 0, .int .u32 0, .int .u32 0, .int .u32 0, .int .u32 0, .int .u32 0, .int .u32 0, .int .u32 0, .int .u32 0, .int .u32 0, .int .u32 0, .int .u32 0, .int .u32 0, .bool false, .bool false, .bool false, .bool false, .int .u32 0]) (t := 25) rfl rfl (cpuOk_lit (fun _ => 0) (fun _ => by omega) 0 0 (by omega) (by omega) false false false false).one
  have r1 : rgV #[.int .u32 0, .int .u32 (a % 4294967296), .int .u32 (b % 4294967296), .int .u32 0, .int .u32 0, .int .u32 0, .int .u32 0, .int .u32 0, .int .u32 0, .int .u32 0, .int .u32 0, .int .u32 0, .int .u32 0, .int .u32 0, .int .u32 0, .int .u32 0, .int .u32 0, .bool false, .bool false, .bool false, .bool false, .int .u32 0] 1 = (a % 4294967296) := rfl
  have r2 : rgV #[.int .u32 0, .int .u32 (a % 4294967296), .int .u32 (b % 4294967296), .int .u32 0, .int .u32 0, .int .u32 0, .int .u32 0, .int .u32 0, .int .u32 0, .int .u32 0, .int .u32 0, .int .u32 0, .int .u32 0, .int .u32 0, .int .u32 0, .int .u32 0, .int .u32 0, .bool false, .bool false, .bool false, .bool false, .int .u32 0] 2 = (b % 4294967296) := rfl
  rw [hL] at hok r1 r2
  have k0 := Blk.new w L 25
  have hl := load_cpu k0 hok.size
  have HB0 := Lib.hid ((Below.refl w.heap.size w).alloc (Nat.le_refl _) (.cells L 25))
  have HOK := Lib.hid hok
  have HK0 := Lib.hid k0
  have R1 := Lib.hid r1
  have R2 := Lib.hid r2
  clear k0 r1 r2 hok
  obtain ⟨mL, mH, uL, uH, hmL, hmH, huL, huH⟩ : ∃ p q r s, mulL (a % 4294967296) (b % 4294967296) false = p ∧ mulH (a % 4294967296) (b % 4294967296) false = q ∧ mulL (a % 4294967296) (b % 4294967296) true = r ∧ mulH (a % 4294967296) (b % 4294967296) true = s := ⟨_, _, _, _, rfl, rfl, rfl, rfl⟩
  have HN : Hid (0 ≤ mL ∧ mL < 4294967296 ∧ 0 ≤ mH ∧ mH < 4294967296 ∧ 0 ≤ uL ∧ uL < 4294967296 ∧ 0 ≤ uH ∧ uH < 4294967296 ∧ -4611686018427387904 ≤ a * b ∧ a * b ≤ 4611686018427387904 ∧ 0 ≤ (a % 4294967296) * (b % 4294967296) ∧ (a % 4294967296) * (b % 4294967296) ≤ 18446744065119617025) := by
    have o5 := mul_bd a b ⟨ha0, ha1⟩ ⟨hb0, hb1⟩
    have o6 := mul_ubd (a % 4294967296) (b % 4294967296) (by omega) (by omega) (by omega) (by omega)
    refine ⟨?_, ?_, ?_, ?_, ?_, ?_, ?_, ?_, o5.1, o5.2, o6.1, o6.2⟩
    · rw [← hmL]; unfold mulL; omega
    · rw [← hmL]; unfold mulL; omega
    · rw [← hmH]; unfold mulH; omega
    · rw [← hmH]; unfold mulH; omega
    · rw [← huL]; unfold mulL; omega
    · rw [← huL]; unfold mulL; omega
    · rw [← huH]; unfold mulH; omega
    · rw [← huH]; unfold mulH; omega
  have HO : Hid (bits .or .u64 (mH * 4294967296) mL = mH * 4294967296 + mL ∧ wrap64 (mH * 4294967296 + mL) = a * b ∧ bits .or .u64 (uH * 4294967296) uL = uH * 4294967296 + uL ∧ uH * 4294967296 + uL = (a % 4294967296) * (b % 4294967296)) := by
    obtain ⟨n0, n1, n2, n3, n4, n5, n6, n7, _⟩ := HN.out
    refine ⟨or_64 _ _ n2 n3 n0 n1, ?_, or_64 _ _ n6 n7 n4 n5, ?_⟩
    · rw [← hmL, ← hmH]; exact whole_s a b ha0 ha1 hb0 hb1
    · rw [← huL, ← huH]; exact whole_u _ _ (by omega) (by omega) (by omega) (by omega)
  have HE : Hid (mulL (a % 4294967296) (b % 4294967296) false = mL ∧ mulH (a % 4294967296) (b % 4294967296) false = mH ∧ mulL (a % 4294967296) (b % 4294967296) true = uL ∧ mulH (a % 4294967296) (b % 4294967296) true = uH) := ⟨hmL, hmH, huL, huH⟩
  clear hmL hmH huL huH
  go_enter Tryd.func3, Tryd.ntmps3
  go_wp2_with fail
  refine (two_any L HOK.out 11 false _ (HT.out _ HB0.out)).mono ?_
  rintro e w1 ⟨rfl, hb1⟩
  clear hL hst hl
  have HX := Lib.hid (twoR_ok HOK.out 11 false)
  have hst1 := store_new (w := w1) (Z := #[.int .u32 0, .int .u32 0, .int .u32 0, .int .u32 0, .int .u32 0, .int .u32 0, .int .u32 0, .int .u32 0, .int .u32 0, .int .u32 0, .int .u32 0, .int .u32 0, .int .u32 0, .int .u32 0, .int .u32 0, .int .u32 0, .int .u32 0, .bool false, .bool false, .bool false, .bool false, .int .u32 0]) (t := 25) rfl HX.out.size HX.out.one
  have HB1 := Lib.hid ((HB0.out.trans (hb1.mono HB0.out.size)).alloc (Nat.le_trans HB0.out.size hb1.size) (.cells (twoR L 11 false) 25))
  have HK1 := Lib.hid (Blk.old (HK0.out.step hb1) (.cells (twoR L 11 false) 25))
  have HD1 := Lib.hid (Blk.new w1 (twoR L 11 false) 25)
  have hl1 := load_cpu HK1.out HOK.out.size
  clear hb1 HB0 HK0
  go_wp2_with fail
  refine (two_any L HOK.out 10 false _ (HT.out _ HB1.out)).mono ?_
  rintro e w2 ⟨rfl, hb2⟩
  clear hst1 hl1
  have HY := Lib.hid (twoR_ok HOK.out 10 false)
  have hst2 := store_new (w := w2) (Z := #[.int .u32 0, .int .u32 0, .int .u32 0, .int .u32 0, .int .u32 0, .int .u32 0, .int .u32 0, .int .u32 0, .int .u32 0, .int .u32 0, .int .u32 0, .int .u32 0, .int .u32 0, .int .u32 0, .int .u32 0, .int .u32 0, .int .u32 0, .bool false, .bool false, .bool false, .bool false, .int .u32 0]) (t := 25) rfl HY.out.size HY.out.one
  have HB2 := Lib.hid ((HB1.out.trans (hb2.mono HB1.out.size)).alloc (Nat.le_trans HB1.out.size hb2.size) (.cells (twoR L 10 false) 25))
  have HK2 := Lib.hid (Blk.old (HK1.out.step hb2) (.cells (twoR L 10 false) 25))
  have HD2 := Lib.hid (Blk.old (HD1.out.step hb2) (.cells (twoR L 10 false) 25))
  have HM2 := Lib.hid (Blk.new w2 (twoR L 10 false) 25)
  have hl2 := load_cpu HK2.out HOK.out.size
  clear hb2 HB1 HK1 HD1
  go_wp2_with fail
  refine (two_any L HOK.out 10 true _ (HT.out _ HB2.out)).mono ?_
  rintro e w3 ⟨rfl, hb3⟩
  clear hst2 hl2
  have HU := Lib.hid (twoR_ok HOK.out 10 true)
  have hst3 := store_new (w := w3) (Z := #[.int .u32 0, .int .u32 0, .int .u32 0, .int .u32 0, .int .u32 0, .int .u32 0, .int .u32 0, .int .u32 0, .int .u32 0, .int .u32 0, .int .u32 0, .int .u32 0, .int .u32 0, .int .u32 0, .int .u32 0, .int .u32 0, .int .u32 0, .bool false, .bool false, .bool false, .bool false, .int .u32 0]) (t := 25) rfl HU.out.size HU.out.one
  have HB3 := Lib.hid ((HB2.out.trans (hb3.mono HB2.out.size)).alloc (Nat.le_trans HB2.out.size hb3.size) (.cells (twoR L 10 true) 25))
  have HK3 := Lib.hid (Blk.old (HK2.out.step hb3) (.cells (twoR L 10 true) 25))
  have HD3 := Lib.hid (Blk.old (HD2.out.step hb3) (.cells (twoR L 10 true) 25))
  have HM3 := Lib.hid (Blk.old (HM2.out.step hb3) (.cells (twoR L 10 true) 25))
  have HN3 := Lib.hid (Blk.new w3 (twoR L 10 true) 25)
  clear hb3 HB2 HK2 HD2 HM2
  have hl3 := load_cpu HK3.out HOK.out.size
  have hl4 := load_cpu HD3.out HX.out.size
  obtain ⟨m0, m1, m2⟩ := two_mul HOK.out false
  obtain ⟨u0, u1, u2⟩ := two_mul HOK.out true
  rw [R1.out, R2.out] at m1 m2 u1 u2
  rw [HE.out.1] at m1
  rw [HE.out.2.1] at m2
  rw [HE.out.2.2.1] at u1
  rw [HE.out.2.2.2] at u2
  have cm0 := (HM3.out.cell 0).trans m1
  have cm1 := (HM3.out.cell 16).trans m2
  have cu0 := (HN3.out.cell 0).trans u1
  have cu1 := (HN3.out.cell 16).trans u2
  clear m1 m2 u1 u2
  obtain ⟨bm0, bm1, bm2, bm3, bu0, bu1, bu2, bu3, o50, o51, o60, o61⟩ := HN.out
  obtain ⟨o1, o2, o3, o4⟩ := HO.out
  clear HE HN HO
  obtain ⟨d0, d1, d2⟩ := two_div HOK.out (by rw [R2.out]; exact by unfold divOk; rw [sg_back b (by omega) hb1]; have := hb.out; simp; omega)
  rw [R1.out, R2.out] at d1 d2
  have cd0 := (HD3.out.cell 0).trans d1
  have cd1 := (HD3.out.cell 16).trans d2
  clear d1 d2
  have CD := Lib.hid (And.intro cd0 cd1)
  clear cd0 cd1
  go_upto_region 9 with fail
  obtain ⟨cd0, cd1⟩ := CD.out
  have h0b : 0 < b := hb.out
  clear hl3 hl4 cm0 cm1 cu0 cu1 bm0 bm1 bm2 bm3 bu0 bu1 bu2 bu3 o50 o51 o60 o61 o1 o2 o3 o4
  obtain ⟨e2, r0, r1⟩ := div_back32 a b ha0 ha1 h0b hb1
  obtain ⟨Q, hQ⟩ : ∃ x, divQ (a % 4294967296) (b % 4294967296) = x := ⟨_, rfl⟩
  obtain ⟨R, hR⟩ : ∃ x, divR (a % 4294967296) (b % 4294967296) = x := ⟨_, rfl⟩
  rw [hQ] at cd0 e2
  rw [hR] at cd1 e2 r0 r1
  obtain ⟨q, hq⟩ : ∃ x, wrap32 Q = x := ⟨_, rfl⟩
  rw [hq] at e2
  have qd := wrap32_bd Q
  rw [hq] at qd
  obtain ⟨qd0, qd1⟩ := qd
  have qb0 : -4294967296 ≤ q * b := by omega
  have qb1 : q * b ≤ 4294967296 := by omega
  have h0c : ¬ b ≤ 0 := by omega
  clear hQ hR
  go_wp2_with fail
  go_ret
  exact ⟨rfl, HB3.out⟩
set_option maxRecDepth 100000 in
set_option maxHeartbeats 1000000 in
theorem divides_no (a b : Int) (ha0 : -2147483648 ≤ a) (ha1 : a ≤ 2147483647) (hb0 : -2147483648 ≤ b) (hb1 : b ≤ 2147483647) (hb : Hid (b ≤ 0)) (w : World) (hT : Tab w) :
    Calls Tryd.prog 3 #[.int .i32 a, .int .i32 b] w fun e w' => e = .returned (.bool true) ∧ Below w.heap.size w w' := by
  have HT : Hid (∀ W, Below w.heap.size w W → Tab W) := fun W hB => hT.below hB hT.lt
  clear hT
  have hok : CpuOk #[.int .u32 0, .int .u32 (a % 4294967296), .int .u32 (b % 4294967296), .int .u32 0, .int .u32 0, .int .u32 0, .int .u32 0, .int .u32 0, .int .u32 0, .int .u32 0, .int .u32 0, .int .u32 0, .int .u32 0, .int .u32 0, .int .u32 0, .int .u32 0, .int .u32 0, .bool false, .bool false, .bool false, .bool false, .int .u32 0] := cpuOk_lit (fun k => if k = 1 then (a % 4294967296) else if k = 2 then (b % 4294967296) else 0) (fun k => by (repeat' split) <;> omega) 0 0 (by omega) (by omega) false false false false
  obtain ⟨L, hL⟩ : ∃ L : Array Value, #[.int .u32 0, .int .u32 (a % 4294967296), .int .u32 (b % 4294967296), .int .u32 0, .int .u32 0, .int .u32 0, .int .u32 0, .int .u32 0, .int .u32 0, .int .u32 0, .int .u32 0, .int .u32 0, .int .u32 0, .int .u32 0, .int .u32 0, .int .u32 0, .int .u32 0, .bool false, .bool false, .bool false, .bool false, .int .u32 0] = L := ⟨_, rfl⟩
  have hst := store_new (w := w) (Z := #[.int .u32 0, .int .u32 0, .int .u32 0, .int .u32 0, .int .u32 0, .int .u32 0, .int .u32 0, .int .u32 0, .int .u32 0, .int .u32 0, .int .u32 0, .int .u32 0, .int .u32 0, .int .u32 0, .int .u32 0, .int .u32 0, .int .u32 0, .bool false, .bool false, .bool false, .bool false, .int .u32 0]) (cs := #[.int .u32 0, .int .u32 0, .int .u32 0, .int .u32 0, .int .u32 0, .int .u32 0, .int .u32 0, .int .u32 0, .int .u32 0, .int .u32 0, .int .u32 0, .int .u32 0, .int .u32 0, .int .u32 0, .int .u32 0, .int .u32 0, .int .u32 0, .bool false, .bool false, .bool false, .bool false, .int .u32 0]) (t := 25) rfl rfl (cpuOk_lit (fun _ => 0) (fun _ => by omega) 0 0 (by omega) (by omega) false false false false).one
  have r1 : rgV #[.int .u32 0, .int .u32 (a % 4294967296), .int .u32 (b % 4294967296), .int .u32 0, .int .u32 0, .int .u32 0, .int .u32 0, .int .u32 0, .int .u32 0, .int .u32 0, .int .u32 0, .int .u32 0, .int .u32 0, .int .u32 0, .int .u32 0, .int .u32 0, .int .u32 0, .bool false, .bool false, .bool false, .bool false, .int .u32 0] 1 = (a % 4294967296) := rfl
  have r2 : rgV #[.int .u32 0, .int .u32 (a % 4294967296), .int .u32 (b % 4294967296), .int .u32 0, .int .u32 0, .int .u32 0, .int .u32 0, .int .u32 0, .int .u32 0, .int .u32 0, .int .u32 0, .int .u32 0, .int .u32 0, .int .u32 0, .int .u32 0, .int .u32 0, .int .u32 0, .bool false, .bool false, .bool false, .bool false, .int .u32 0] 2 = (b % 4294967296) := rfl
  rw [hL] at hok r1 r2
  have k0 := Blk.new w L 25
  have hl := load_cpu k0 hok.size
  have HB0 := Lib.hid ((Below.refl w.heap.size w).alloc (Nat.le_refl _) (.cells L 25))
  have HOK := Lib.hid hok
  have HK0 := Lib.hid k0
  have R1 := Lib.hid r1
  have R2 := Lib.hid r2
  clear k0 r1 r2 hok
  obtain ⟨mL, mH, uL, uH, hmL, hmH, huL, huH⟩ : ∃ p q r s, mulL (a % 4294967296) (b % 4294967296) false = p ∧ mulH (a % 4294967296) (b % 4294967296) false = q ∧ mulL (a % 4294967296) (b % 4294967296) true = r ∧ mulH (a % 4294967296) (b % 4294967296) true = s := ⟨_, _, _, _, rfl, rfl, rfl, rfl⟩
  have HN : Hid (0 ≤ mL ∧ mL < 4294967296 ∧ 0 ≤ mH ∧ mH < 4294967296 ∧ 0 ≤ uL ∧ uL < 4294967296 ∧ 0 ≤ uH ∧ uH < 4294967296 ∧ -4611686018427387904 ≤ a * b ∧ a * b ≤ 4611686018427387904 ∧ 0 ≤ (a % 4294967296) * (b % 4294967296) ∧ (a % 4294967296) * (b % 4294967296) ≤ 18446744065119617025) := by
    have o5 := mul_bd a b ⟨ha0, ha1⟩ ⟨hb0, hb1⟩
    have o6 := mul_ubd (a % 4294967296) (b % 4294967296) (by omega) (by omega) (by omega) (by omega)
    refine ⟨?_, ?_, ?_, ?_, ?_, ?_, ?_, ?_, o5.1, o5.2, o6.1, o6.2⟩
    · rw [← hmL]; unfold mulL; omega
    · rw [← hmL]; unfold mulL; omega
    · rw [← hmH]; unfold mulH; omega
    · rw [← hmH]; unfold mulH; omega
    · rw [← huL]; unfold mulL; omega
    · rw [← huL]; unfold mulL; omega
    · rw [← huH]; unfold mulH; omega
    · rw [← huH]; unfold mulH; omega
  have HO : Hid (bits .or .u64 (mH * 4294967296) mL = mH * 4294967296 + mL ∧ wrap64 (mH * 4294967296 + mL) = a * b ∧ bits .or .u64 (uH * 4294967296) uL = uH * 4294967296 + uL ∧ uH * 4294967296 + uL = (a % 4294967296) * (b % 4294967296)) := by
    obtain ⟨n0, n1, n2, n3, n4, n5, n6, n7, _⟩ := HN.out
    refine ⟨or_64 _ _ n2 n3 n0 n1, ?_, or_64 _ _ n6 n7 n4 n5, ?_⟩
    · rw [← hmL, ← hmH]; exact whole_s a b ha0 ha1 hb0 hb1
    · rw [← huL, ← huH]; exact whole_u _ _ (by omega) (by omega) (by omega) (by omega)
  have HE : Hid (mulL (a % 4294967296) (b % 4294967296) false = mL ∧ mulH (a % 4294967296) (b % 4294967296) false = mH ∧ mulL (a % 4294967296) (b % 4294967296) true = uL ∧ mulH (a % 4294967296) (b % 4294967296) true = uH) := ⟨hmL, hmH, huL, huH⟩
  clear hmL hmH huL huH
  go_enter Tryd.func3, Tryd.ntmps3
  go_wp2_with fail
  refine (two_any L HOK.out 11 false _ (HT.out _ HB0.out)).mono ?_
  rintro e w1 ⟨rfl, hb1⟩
  clear hL hst hl
  have HX := Lib.hid (twoR_ok HOK.out 11 false)
  have hst1 := store_new (w := w1) (Z := #[.int .u32 0, .int .u32 0, .int .u32 0, .int .u32 0, .int .u32 0, .int .u32 0, .int .u32 0, .int .u32 0, .int .u32 0, .int .u32 0, .int .u32 0, .int .u32 0, .int .u32 0, .int .u32 0, .int .u32 0, .int .u32 0, .int .u32 0, .bool false, .bool false, .bool false, .bool false, .int .u32 0]) (t := 25) rfl HX.out.size HX.out.one
  have HB1 := Lib.hid ((HB0.out.trans (hb1.mono HB0.out.size)).alloc (Nat.le_trans HB0.out.size hb1.size) (.cells (twoR L 11 false) 25))
  have HK1 := Lib.hid (Blk.old (HK0.out.step hb1) (.cells (twoR L 11 false) 25))
  have HD1 := Lib.hid (Blk.new w1 (twoR L 11 false) 25)
  have hl1 := load_cpu HK1.out HOK.out.size
  clear hb1 HB0 HK0
  go_wp2_with fail
  refine (two_any L HOK.out 10 false _ (HT.out _ HB1.out)).mono ?_
  rintro e w2 ⟨rfl, hb2⟩
  clear hst1 hl1
  have HY := Lib.hid (twoR_ok HOK.out 10 false)
  have hst2 := store_new (w := w2) (Z := #[.int .u32 0, .int .u32 0, .int .u32 0, .int .u32 0, .int .u32 0, .int .u32 0, .int .u32 0, .int .u32 0, .int .u32 0, .int .u32 0, .int .u32 0, .int .u32 0, .int .u32 0, .int .u32 0, .int .u32 0, .int .u32 0, .int .u32 0, .bool false, .bool false, .bool false, .bool false, .int .u32 0]) (t := 25) rfl HY.out.size HY.out.one
  have HB2 := Lib.hid ((HB1.out.trans (hb2.mono HB1.out.size)).alloc (Nat.le_trans HB1.out.size hb2.size) (.cells (twoR L 10 false) 25))
  have HK2 := Lib.hid (Blk.old (HK1.out.step hb2) (.cells (twoR L 10 false) 25))
  have HD2 := Lib.hid (Blk.old (HD1.out.step hb2) (.cells (twoR L 10 false) 25))
  have HM2 := Lib.hid (Blk.new w2 (twoR L 10 false) 25)
  have hl2 := load_cpu HK2.out HOK.out.size
  clear hb2 HB1 HK1 HD1
  go_wp2_with fail
  refine (two_any L HOK.out 10 true _ (HT.out _ HB2.out)).mono ?_
  rintro e w3 ⟨rfl, hb3⟩
  clear hst2 hl2
  have HU := Lib.hid (twoR_ok HOK.out 10 true)
  have hst3 := store_new (w := w3) (Z := #[.int .u32 0, .int .u32 0, .int .u32 0, .int .u32 0, .int .u32 0, .int .u32 0, .int .u32 0, .int .u32 0, .int .u32 0, .int .u32 0, .int .u32 0, .int .u32 0, .int .u32 0, .int .u32 0, .int .u32 0, .int .u32 0, .int .u32 0, .bool false, .bool false, .bool false, .bool false, .int .u32 0]) (t := 25) rfl HU.out.size HU.out.one
  have HB3 := Lib.hid ((HB2.out.trans (hb3.mono HB2.out.size)).alloc (Nat.le_trans HB2.out.size hb3.size) (.cells (twoR L 10 true) 25))
  have HK3 := Lib.hid (Blk.old (HK2.out.step hb3) (.cells (twoR L 10 true) 25))
  have HD3 := Lib.hid (Blk.old (HD2.out.step hb3) (.cells (twoR L 10 true) 25))
  have HM3 := Lib.hid (Blk.old (HM2.out.step hb3) (.cells (twoR L 10 true) 25))
  have HN3 := Lib.hid (Blk.new w3 (twoR L 10 true) 25)
  clear hb3 HB2 HK2 HD2 HM2
  have hl3 := load_cpu HK3.out HOK.out.size
  have hl4 := load_cpu HD3.out HX.out.size
  obtain ⟨m0, m1, m2⟩ := two_mul HOK.out false
  obtain ⟨u0, u1, u2⟩ := two_mul HOK.out true
  rw [R1.out, R2.out] at m1 m2 u1 u2
  rw [HE.out.1] at m1
  rw [HE.out.2.1] at m2
  rw [HE.out.2.2.1] at u1
  rw [HE.out.2.2.2] at u2
  have cm0 := (HM3.out.cell 0).trans m1
  have cm1 := (HM3.out.cell 16).trans m2
  have cu0 := (HN3.out.cell 0).trans u1
  have cu1 := (HN3.out.cell 16).trans u2
  clear m1 m2 u1 u2
  obtain ⟨bm0, bm1, bm2, bm3, bu0, bu1, bu2, bu3, o50, o51, o60, o61⟩ := HN.out
  obtain ⟨o1, o2, o3, o4⟩ := HO.out
  clear HE HN HO
  obtain ⟨d0, d1⟩ := two_nodiv (cs := L) (by rw [R2.out]; unfold divOk; rw [sg_back b hb0 hb1]; have := hb.out; simp; omega)
  rw [d1] at hl4
  have heq := run_eql_cpu HOK.out
  have D0 := Lib.hid d0
  clear d1
  go_upto_region 9 with fail
  have h0b : b ≤ 0 := hb.out
  clear cm0 cm1 cu0 cu1 bm0 bm1 bm2 bm3 bu0 bu1 bu2 bu3 o50 o51 o60 o61 o1 o2 o3 o4
  go_wp2_with fail
  go_ret
  exact ⟨rfl, HB3.out⟩
def cpuDividesAts : List Gen.AT := [.one (.int .i32), .one (.int .i32)]
theorem cpuDivides_args (W : World) (vs : List Value) (h : Gen.ArgsGood W cpuDividesAts vs) (hT : Tab W) :
    Calls Tryd.prog 3 vs.toArray W fun e W' => e = .returned (.bool true) ∧ Below W.heap.size W W' := by
  match vs, h with
  | [v0, v1], h =>
    obtain ⟨h0, h1, _⟩ := h
    obtain ⟨a, rfl, wa⟩ := h0.int_inv
    obtain ⟨b, rfl, wb⟩ := h1.int_inv
    have ba := bounds_i32 wa
    have bb := bounds_i32 wb
    by_cases hb : b ≤ 0
    · exact divides_no a b (by omega) (by omega) (by omega) (by omega) hb W hT
    · exact divides_yes a b (by omega) (by omega) (by omega) (by omega) (show 0 < b by omega) W hT
end Go.Proofs.YtnghhkageiceaaaDoor
