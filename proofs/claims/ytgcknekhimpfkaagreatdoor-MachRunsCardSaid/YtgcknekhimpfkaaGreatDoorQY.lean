/- The document's: a word with its sign, a register that gets a word, what is moved, turned, divided. -/
import Derived.Test.YtgcknekhimpfkaaGreatDoorQI
import Derived.Deep.DeepCutAuto
import Derived.Test.YtgcknekhimpfkaaGreatDoorQV
set_option maxHeartbeats 1000000
namespace Go.Proofs.YtgcknekhimpfkaaGreatDoor
open Go Go.RowKit Go.Lib Go.Proofs.YtgcknekhimpfkaaGreatDoor.Pl
set_option linter.unusedVariables false
set_option linter.unusedSimpArgs false
attribute [local go_sem ↓] exec_load_cpu exec_store_cpu
theorem number_any (x : Int) (h0 : 0 ≤ x) (h1 : x < 4294967296) (w : World) : Calls Tryz.prog 105 #[.int .u32 x] w fun e w' => e = .returned (.int .i64 (sg x)) ∧ w = w' := by
 by_cases h : x < 2147483648
 ·have H : Hid (sg x = x) := by unfold Hid sg; rw [if_pos h]
  go_enter Tryz.func105, Tryz.ntmps105
  go_wp2_with fail
  go_ret
  exact ⟨by rw [H.out]; rfl, rfl⟩
 ·have H : Hid (sg x = x - 4294967296) := by unfold Hid sg; rw [if_neg h]
  have h' : 2147483648 ≤ x := by omega
  clear h
  go_enter Tryz.func105, Tryz.ntmps105
  go_wp2_with fail
  go_ret
  exact ⟨by rw [H.out]; rfl, rfl⟩
set_option maxRecDepth 100000 in
theorem gets_any (cs : Array Value) (hc : CpuOk cs) (a : Nat) (ha : a ≤ 15) (x : Int) (h0 : 0 ≤ x) (h1 : x < 4294967296) (w : World) :
 Calls Tryz.prog 93 #[.agg cs, .int .i64 a, .int .u32 x] w fun e w' => e = .returned (.agg (fin cs a x)) ∧ Below w.heap.size w w' := by
 have HC := hid hc
 clear hc
 have ha' : (a : Int) < 16 := by omega
 have b0 : Blk ((w.alloc (.cells cs 50)).alloc (.cells #[.int .u32 0, .int .u32 0, .int .u32 0, .int .u32 0, .int .u32 0, .int .u32 0, .int .u32 0, .int .u32 0, .int .u32 0, .int .u32 0, .int .u32 0, .int .u32 0, .int .u32 0, .int .u32 0, .int .u32 0, .int .u32 0, .int .u32 0, .bool false, .bool false, .bool false, .bool false, .int .u32 0] 50)) w.heap.size cs 50 := Blk.old (Blk.new w cs 50) _
 have b1 := Blk.new (w.alloc (.cells cs 50)) (#[.int .u32 0, .int .u32 0, .int .u32 0, .int .u32 0, .int .u32 0, .int .u32 0, .int .u32 0, .int .u32 0, .int .u32 0, .int .u32 0, .int .u32 0, .int .u32 0, .int .u32 0, .int .u32 0, .int .u32 0, .int .u32 0, .int .u32 0, .bool false, .bool false, .bool false, .bool false, .int .u32 0] : Array Value) 50
 simp only [World.size_alloc] at b1
 have hB : Below w.heap.size w ((w.alloc (.cells cs 50)).alloc (.cells #[.int .u32 0, .int .u32 0, .int .u32 0, .int .u32 0, .int .u32 0, .int .u32 0, .int .u32 0, .int .u32 0, .int .u32 0, .int .u32 0, .int .u32 0, .int .u32 0, .int .u32 0, .int .u32 0, .int .u32 0, .int .u32 0, .int .u32 0, .bool false, .bool false, .bool false, .bool false, .int .u32 0] 50)) := ((Below.refl w.heap.size w).alloc (Nat.le_refl _) _).alloc (by simp) _
 have B0 := hid b0
 have B1 := hid b1
 have HB := hid hB
 clear b0 b1 hB
 go_enter Tryz.func93, Tryz.ntmps93
 go_upto_region 1 with fail
 generalize (w.alloc (.cells cs 50)).alloc (.cells #[.int .u32 0, .int .u32 0, .int .u32 0, .int .u32 0, .int .u32 0, .int .u32 0, .int .u32 0, .int .u32 0, .int .u32 0, .int .u32 0, .int .u32 0, .int .u32 0, .int .u32 0, .int .u32 0, .int .u32 0, .int .u32 0, .int .u32 0, .bool false, .bool false, .bool false, .bool false, .int .u32 0] 50) = W at B0 B1 HB ⊢
 obtain ⟨⟨xa, ta⟩, ⟨x17, t17⟩, ⟨x18, t18⟩, tf, hl, hst, hres⟩ := tailf B0.out B1.out (by omega) HC.out.size rfl HC.out.one a ha
 have K_hres := hid hres
 clear hres
 go_wp2_with fail
 have hres := K_hres.out
 refine bodyPost_ret (v := .agg (finR cs a x (decide (2147483648 ≤ x)) (x == 0))) ?_ rfl ⟨?_, ?_⟩
 ·simp [results, Tryz.results93, asAddr, hres]
 ·unfold finR fin; rw [beq_dec]
 ·exact belRow (bel_chain HB.out _ _ _ _) (by omega) _
theorem or_pair (w : Int) (n : Nat) (hn : n ≤ 31) (h0 : 0 ≤ w) (h1 : w < 4294967296) : bits .or .u64 (w * 4294967296) w / 2 ^ n % 4294967296 = rorV w n := by
 have e : bits .or .u64 (w * 4294967296) w = w * 4294967296 + w := by
  rw [u64_or _ _ (by omega) (by omega) h0 (by omega)]
  obtain ⟨x, rfl⟩ := Int.eq_ofNat_of_zero_le h0
  rw [show ((x : Int) * 4294967296).toNat = x * 4294967296 from by omega, Int.toNat_natCast, nat_join 32 (x * 4294967296) x (by omega) (by omega)]
  omega
 have hp := p2 n
 have hq := p2 (32 - n)
 have e2 := p2_32 n (by omega)
 have e3 : w * 4294967296 + w = w + w * 2 ^ (32 - n) * 2 ^ n := by rw [← e2, Int.mul_assoc, Int.mul_comm (2 ^ (32 - n)) (2 ^ n)]; omega
 rw [e, e3, Int.add_mul_ediv_right _ _ (by omega)]
 have h2 : w * 2 ^ (32 - n) % 4294967296 = w % 2 ^ n * 2 ^ (32 - n) := by rw [← e2, mul_mod_right w _ _ h0 (Int.le_of_lt hp) (Int.le_of_lt hq)]
 have hb := rorV_bd w n (by omega) h0 h1
 unfold rorV at hb ⊢
 omega
theorem turned_any (x : Int) (n : Nat) (hn : n ≤ 31) (h0 : 0 ≤ x) (h1 : x < 4294967296) (w : World) :
 Calls Tryz.prog 106 #[.int .u32 x, .int .i64 n] w fun e w' => e = .returned (.int .u32 (rorV x n)) ∧ w = w' := by
 have H := hid (or_pair x n hn h0 h1)
 have hn' : (n : Int) ≤ 31 := by omega
 go_enter Tryz.func106, Tryz.ntmps106
 go_wp2_with fail
 go_ret
 exact ⟨by rw [← H.out]; rfl, rfl⟩
theorem down_any (a b : Int) (ha : -2147483648 ≤ a ∧ a ≤ 2147483647) (hb : 0 < b) (hb' : b ≤ 2147483647) (w : World) :
 Calls Tryz.prog 109 #[.int .i64 a, .int .i64 b] w fun e w' => e = .returned (.tuple #[.int .i64 (a / b), .int .i64 (a % b)]) ∧ w = w' := by
 obtain ⟨ha0, ha1⟩ := ha
 have hq := tdiv_bd a b ⟨ha0, ha1⟩ hb
 have h5 := Int.tmod_lt_of_pos a hb
 have h6 : -b < a.tmod b := by
  have := Int.tmod_lt_of_pos (-a) hb
  rw [Int.neg_tmod] at this; omega
 obtain ⟨hq0, hq1⟩ := hq
 have hd := hid (tdiv_down a b hb)
 by_cases h : a.tmod b < 0
 ·obtain ⟨e1, e2⟩ := hd.out.1 h
  have H1 := hid e1
  have H2 := hid e2
  clear e1 e2
  go_enter Tryz.func109, Tryz.ntmps109
  go_wp2_with fail
  go_ret2
  exact ⟨tup_ui H1.out H2.out, rfl⟩
 ·obtain ⟨e1, e2⟩ := hd.out.2 (by omega)
  have H1 := hid e1
  have H2 := hid e2
  clear e1 e2
  go_enter Tryz.func109, Tryz.ntmps109
  go_wp2_with fail
  go_ret2
  exact ⟨tup_ui H1.out H2.out, rfl⟩
end Go.Proofs.YtgcknekhimpfkaaGreatDoor
namespace Go.Proofs.YtgcknekhimpfkaaGreatDoor
open Go Go.RowKit Go.Lib Go.Proofs.YtgcknekhimpfkaaGreatDoor.Pl
set_option linter.unusedVariables false
set_option linter.unusedSimpArgs false
theorem ret_int' {k : IntKind} {a b : Int} (h : a = b) : Ending.returned (.int k a) = Ending.returned (.int k b) := by rw [h]
theorem rbit_any (b : Bool) (w : World) : Calls Tryz.prog 100 #[.bool b] w fun e w' => e = .returned (.int .u32 (cr b)) ∧ w' = w := by
 cases b <;> (go_enter Tryz.func100, Tryz.ntmps100; go_wp2_with fail; go_ret; exact ⟨rfl, rfl⟩)
theorem field_nat (x : Int) (f m : Nat) (h0 : 0 ≤ x) (h1 : x < 4294967296) (hf : f ≤ 31) (hm : m ≤ 24) (w : World) :
 Calls Tryz.prog 84 #[.int .u32 x, .int .i64 f, .int .i64 m] w fun e w' => e = .returned (.int .i64 (x / 2 ^ f % 2 ^ m)) ∧ ∃ n, w' = w.drewN n := by
 have hp : (2 : Int) ^ m % 4294967296 = 2 ^ m ∧ 1 ≤ (2 : Int) ^ m ∧ (2 : Int) ^ m ≤ 16777216 := by
  have h1 : (1 : Int) ≤ 2 ^ m := Int.pow_pos (by decide)
  have h2 : (2 : Int) ^ m ≤ 2 ^ 24 := by exact_mod_cast Nat.pow_le_pow_right (n := 2) (by decide) hm
  omega
 obtain ⟨p0, p1, p2⟩ := hp
 have hd : 0 ≤ x / 2 ^ f ∧ x / 2 ^ f ≤ x := ⟨Int.ediv_nonneg h0 (Int.le_of_lt (Int.pow_pos (by decide))), Int.ediv_le_self _ h0⟩
 have ha := and_low (x / 2 ^ f) m (by omega)
 rw [show x / 2 ^ f % 4294967296 = x / 2 ^ f from by omega] at ha
 have hb : 0 ≤ x / 2 ^ f % 2 ^ m ∧ x / 2 ^ f % 2 ^ m < 16777216 := ⟨Int.emod_nonneg _ (by omega), Int.lt_of_lt_of_le (Int.emod_lt_of_pos _ (by omega)) p2⟩
 obtain ⟨hb0, hb1⟩ := hb
 obtain ⟨hd0, hd1⟩ := hd
 go_enter Tryz.func84, Tryz.ntmps84
 go_wp2_with fail
 go_big_quiet (fail)
 go_wp2_with fail
 go_ret
 exact ⟨rfl, nq, rfl⟩
theorem field_any (x f m : Int) (h0 : 0 ≤ x) (h1 : x < 4294967296) (hf : 0 ≤ f) (hf' : f ≤ 31) (hm : 0 ≤ m) (hm' : m ≤ 24) (w : World) :
 Calls Tryz.prog 84 #[.int .u32 x, .int .i64 f, .int .i64 m] w fun e w' => e = .returned (.int .i64 (x / 2 ^ f.toNat % 2 ^ m.toNat)) ∧ ∃ n, w' = w.drewN n := by
 obtain ⟨f, rfl⟩ := Int.eq_ofNat_of_zero_le hf
 obtain ⟨m, rfl⟩ := Int.eq_ofNat_of_zero_le hm
 exact field_nat x f m h0 h1 (by omega) (by omega) w
theorem rsext_20 (x : Int) (h0 : 0 ≤ x) (w : World) : Calls Tryz.prog 85 #[.int .i64 (x % 1048576), .int .i64 20] w fun e w' => e = .returned (.int .i64 (sextV x 20)) ∧ w' = w := by
 have hb : 0 ≤ x % 1048576 ∧ x % 1048576 < 1048576 := by omega
 by_cases h : x % 1048576 < 524288
 ·have H : Hid (sextV x 20 = x % 1048576) := by unfold Hid sextV; rw [if_neg (by show ¬ (524288 ≤ x % 1048576); omega)]; rfl
  generalize x % 1048576 = y at *
  go_enter Tryz.func85, Tryz.ntmps85
  go_wp2_with fail
  go_ret
  exact ⟨by rw [H.out]; rfl, rfl⟩
 ·have H : Hid (sextV x 20 = x % 1048576 - 1048576) := by unfold Hid sextV; rw [if_pos (by show 524288 ≤ x % 1048576; omega)]; rfl
  have h2 : 524288 ≤ x % 1048576 := by omega
  generalize x % 1048576 = y at *
  go_enter Tryz.func85, Tryz.ntmps85
  go_wp2_with fail
  go_ret
  exact ⟨by rw [H.out]; rfl, rfl⟩
theorem rsext_24 (x : Int) (h0 : 0 ≤ x) (w : World) : Calls Tryz.prog 85 #[.int .i64 (x % 16777216), .int .i64 24] w fun e w' => e = .returned (.int .i64 (sextV x 24)) ∧ w' = w := by
 have hb : 0 ≤ x % 16777216 ∧ x % 16777216 < 16777216 := by omega
 by_cases h : x % 16777216 < 8388608
 ·have H : Hid (sextV x 24 = x % 16777216) := by unfold Hid sextV; rw [if_neg (by show ¬ (8388608 ≤ x % 16777216); omega)]; rfl
  generalize x % 16777216 = y at *
  go_enter Tryz.func85, Tryz.ntmps85
  go_wp2_with fail
  go_ret
  exact ⟨by rw [H.out]; rfl, rfl⟩
 ·have H : Hid (sextV x 24 = x % 16777216 - 16777216) := by unfold Hid sextV; rw [if_pos (by show 8388608 ≤ x % 16777216; omega)]; rfl
  have h2 : 8388608 ≤ x % 16777216 := by omega
  generalize x % 16777216 = y at *
  go_enter Tryz.func85, Tryz.ntmps85
  go_wp2_with fail
  go_ret
  exact ⟨by rw [H.out]; rfl, rfl⟩
theorem or_3 (F : Int) (u v : Bool) (a : Int) (hF : F = 0 ∨ F = 1073741824 ∨ F = 2147483648 ∨ F = 3221225472) (ha : 0 ≤ a ∧ a ≤ 15) :
 bits .or .u32 (bits .or .u32 (bits .or .u32 F (cr u * 536870912 % 4294967296)) (cr v * 268435456 % 4294967296)) (a % 4294967296 * 16777216 % 4294967296) = F + cr u * 536870912 + cr v * 268435456 + a * 16777216 := by
 have hu := cr_bd u
 have hv := cr_bd v
 rw [show cr u * 536870912 % 4294967296 = cr u * 536870912 from by omega, show cr v * 268435456 % 4294967296 = cr v * 268435456 from by omega, show a % 4294967296 * 16777216 % 4294967296 = a * 16777216 from by omega]
 generalize cr u = U at *
 generalize cr v = V at *
 rw [or_low F (U * 536870912) 30 (by omega) (by omega) (by simp; omega) (by omega) (by omega) (by simp; omega),
  or_low _ (V * 268435456) 29 (by omega) (by omega) (by simp; omega) (by omega) (by omega) (by simp; omega),
  or_low _ (a * 16777216) 28 (by omega) (by omega) (by simp; omega) (by omega) (by omega) (by simp; omega)]
theorem laid_or0 (u v : Bool) (a b op c n : Int) (h : rightB 0 u v a b op c n = true) :
 bits .or .u32 (bits .or .u32 (bits .or .u32 (bits .or .u32 (bits .or .u32 (bits .or .u32 (bits .or .u32 0 (cr u * 536870912 % 4294967296)) (cr v * 268435456 % 4294967296)) (a % 4294967296 * 16777216 % 4294967296)) (b % 4294967296 * 1048576 % 4294967296)) (op % 4294967296 * 65536 % 4294967296)) (n % 4294967296)) (c % 4294967296) = encW 0 u v a b op c n := by
 obtain ⟨ha, hb, hc, ho, hf⟩ := right_inv h
 have hu := cr_bd u
 have hv := cr_bd v
 have hn : 0 ≤ n ∧ n ≤ 65535 ∧ (n = 0 ∨ c = 0) := by omega
 rw [or_3 _ u v a (by omega) ha, show b % 4294967296 * 1048576 % 4294967296 = b * 1048576 from by omega, show op % 4294967296 * 65536 % 4294967296 = op * 65536 from by omega, show n % 4294967296 = n from by omega, show c % 4294967296 = c from by omega]
 obtain ⟨U, hU⟩ : ∃ U, cr u = U := ⟨_, rfl⟩
 obtain ⟨V, hV⟩ : ∃ V, cr v = V := ⟨_, rfl⟩
 rw [hU] at hu ⊢
 rw [hV] at hv ⊢
 rw [or_low _ (b * 1048576) 24 (by omega) (by omega) (by simp; omega) (by omega) (by omega) (by simp; omega),
  or_low _ (op * 65536) 20 (by omega) (by omega) (by simp; omega) (by omega) (by omega) (by simp; omega),
  or_low _ n 16 (by omega) (by omega) (by simp; omega) (by omega) (by omega) (by simp; omega)]
 unfold encW encN
 rw [hU, hV]
 rcases hn.2.2 with rfl | rfl
 ·rw [or_low _ c 16 (by omega) (by omega) (by simp; omega) (by omega) (by omega) (by simp; omega)]
  simp <;> omega
 ·rw [or_low _ 0 0 (by omega) (by omega) (by simp) (by omega) (by omega) (by simp)]
  simp <;> omega
theorem laid_or1 (u v : Bool) (a b op c n : Int) (h : rightB 1 u v a b op c n = true) :
 bits .or .u32 (bits .or .u32 (bits .or .u32 (bits .or .u32 (bits .or .u32 (bits .or .u32 (bits .or .u32 1073741824 (cr u * 536870912 % 4294967296)) (cr v * 268435456 % 4294967296)) (a % 4294967296 * 16777216 % 4294967296)) (b % 4294967296 * 1048576 % 4294967296)) (op % 4294967296 * 65536 % 4294967296)) (n % 4294967296)) (c % 4294967296) = encW 1 u v a b op c n := by
 obtain ⟨ha, hb, hc, ho, hf⟩ := right_inv h
 have hu := cr_bd u
 have hv := cr_bd v
 have hn : 0 ≤ n ∧ n ≤ 65535 ∧ (n = 0 ∨ c = 0) := by omega
 rw [or_3 _ u v a (by omega) ha, show b % 4294967296 * 1048576 % 4294967296 = b * 1048576 from by omega, show op % 4294967296 * 65536 % 4294967296 = op * 65536 from by omega, show n % 4294967296 = n from by omega, show c % 4294967296 = c from by omega]
 obtain ⟨U, hU⟩ : ∃ U, cr u = U := ⟨_, rfl⟩
 obtain ⟨V, hV⟩ : ∃ V, cr v = V := ⟨_, rfl⟩
 rw [hU] at hu ⊢
 rw [hV] at hv ⊢
 rw [or_low _ (b * 1048576) 24 (by omega) (by omega) (by simp; omega) (by omega) (by omega) (by simp; omega),
  or_low _ (op * 65536) 20 (by omega) (by omega) (by simp; omega) (by omega) (by omega) (by simp; omega),
  or_low _ n 16 (by omega) (by omega) (by simp; omega) (by omega) (by omega) (by simp; omega)]
 unfold encW encN
 rw [hU, hV]
 rcases hn.2.2 with rfl | rfl
 ·rw [or_low _ c 16 (by omega) (by omega) (by simp; omega) (by omega) (by omega) (by simp; omega)]
  simp <;> omega
 ·rw [or_low _ 0 0 (by omega) (by omega) (by simp) (by omega) (by omega) (by simp)]
  simp <;> omega
theorem laid_or2 (u v : Bool) (a b op c n : Int) (h : rightB 2 u v a b op c n = true) :
 bits .or .u32 (bits .or .u32 (bits .or .u32 (bits .or .u32 (bits .or .u32 2147483648 (cr u * 536870912 % 4294967296)) (cr v * 268435456 % 4294967296)) (a % 4294967296 * 16777216 % 4294967296)) (b % 4294967296 * 1048576 % 4294967296)) (bits .and .u32 (n % 4294967296) 1048575) = encW 2 u v a b op c n := by
 obtain ⟨ha, hb, hc, ho, hf⟩ := right_inv h
 have hu := cr_bd u
 have hv := cr_bd v
 have hn : c = 0 ∧ op = 0 := by omega
 obtain ⟨rfl, rfl⟩ := hn
 rw [or_3 _ u v a (by omega) ha, show b % 4294967296 * 1048576 % 4294967296 = b * 1048576 from by omega, show bits .and .u32 (n % 4294967296) 1048575 = n % 1048576 from and_low n 20 (by omega)]
 rw [or_low _ (b * 1048576) 24 (by omega) (by omega) (by simp; omega) (by omega) (by omega) (by simp; omega),
  or_low _ (n % 1048576) 20 (by omega) (by omega) (by simp; omega) (by omega) (by omega) (by simp; omega)]
 unfold encW encN
 simp
theorem laid_or3 (u v : Bool) (a b op c n : Int) (h : rightB 3 u v a b op c n = true) :
 bits .or .u32 (bits .or .u32 (bits .or .u32 (bits .or .u32 (bits .or .u32 3221225472 (cr u * 536870912 % 4294967296)) (cr v * 268435456 % 4294967296)) (a % 4294967296 * 16777216 % 4294967296)) (bits .and .u32 (n % 4294967296) 16777215)) (c % 4294967296) = encW 3 u v a b op c n := by
 obtain ⟨ha, hb, hc, ho, hf⟩ := right_inv h
 have hu := cr_bd u
 have hv := cr_bd v
 rcases hf with ⟨h, _⟩ | ⟨h, _⟩ | ⟨h, _⟩ | ⟨_, h1, h2, h3⟩
 ·omega
 ·omega
 ·omega
 subst h1 h2
 rw [or_3 _ u v a (by omega) ha, show bits .and .u32 (n % 4294967296) 16777215 = n % 16777216 from and_low n 24 (by omega), show c % 4294967296 = c from by omega]
 unfold encW encN
 rcases h3 with ⟨_, rfl, _⟩ | ⟨_, rfl⟩
 ·rw [or_low _ (n % 16777216) 24 (by omega) (by omega) (by simp; omega) (by omega) (by omega) (by simp; omega), or_low _ 0 0 (by omega) (by omega) (by simp) (by omega) (by omega) (by simp)]
  simp
 ·rw [show (0 : Int) % 16777216 = 0 from rfl, or_low _ 0 0 (by omega) (by omega) (by simp) (by omega) (by omega) (by simp), or_low _ c 24 (by omega) (by omega) (by simp; omega) (by omega) (by omega) (by simp; omega)]
  simp
theorem laid_0 (u v : Bool) (a b op c n : Int) (hr : rightB 0 u v a b op c n = true) (w : World) :
 Calls Tryz.prog 87 #[ins 0 u v a b op c n] w fun e w' => e = .returned (.int .u32 (encW 0 u v a b op c n)) ∧ Below w.heap.size w w' := by
 have HE := hid (laid_or0 u v a b op c n hr)
 unfold ins
 go_enter Tryz.func87, Tryz.ntmps87
 go_wp2_with fail
 go_big_quiet ((go_at_call 100; exact Calls.quiet_of_same (rbit_any _ _)))
 go_wp2_with fail
 go_ret
 exact ⟨ret_int' HE.out, belN ((Below.refl _ _).alloc (Nat.le_refl _) _) _⟩
theorem laid_1 (u v : Bool) (a b op c n : Int) (hr : rightB 1 u v a b op c n = true) (w : World) :
 Calls Tryz.prog 87 #[ins 1 u v a b op c n] w fun e w' => e = .returned (.int .u32 (encW 1 u v a b op c n)) ∧ Below w.heap.size w w' := by
 have HE := hid (laid_or1 u v a b op c n hr)
 unfold ins
 go_enter Tryz.func87, Tryz.ntmps87
 go_wp2_with fail
 go_big_quiet ((go_at_call 100; exact Calls.quiet_of_same (rbit_any _ _)))
 go_wp2_with fail
 go_ret
 exact ⟨ret_int' HE.out, belN ((Below.refl _ _).alloc (Nat.le_refl _) _) _⟩
theorem laid_2 (u v : Bool) (a b op c n : Int) (hr : rightB 2 u v a b op c n = true) (w : World) :
 Calls Tryz.prog 87 #[ins 2 u v a b op c n] w fun e w' => e = .returned (.int .u32 (encW 2 u v a b op c n)) ∧ Below w.heap.size w w' := by
 have HE := hid (laid_or2 u v a b op c n hr)
 unfold ins
 go_enter Tryz.func87, Tryz.ntmps87
 go_wp2_with fail
 go_big_quiet ((go_at_call 100; exact Calls.quiet_of_same (rbit_any _ _)))
 go_wp2_with fail
 go_ret
 exact ⟨ret_int' HE.out, belN ((Below.refl _ _).alloc (Nat.le_refl _) _) _⟩
theorem laid_3 (u v : Bool) (a b op c n : Int) (hr : rightB 3 u v a b op c n = true) (w : World) :
 Calls Tryz.prog 87 #[ins 3 u v a b op c n] w fun e w' => e = .returned (.int .u32 (encW 3 u v a b op c n)) ∧ Below w.heap.size w w' := by
 have HE := hid (laid_or3 u v a b op c n hr)
 unfold ins
 go_enter Tryz.func87, Tryz.ntmps87
 go_wp2_with fail
 go_big_quiet ((go_at_call 100; exact Calls.quiet_of_same (rbit_any _ _)))
 go_wp2_with fail
 go_ret
 exact ⟨ret_int' HE.out, belN ((Below.refl _ _).alloc (Nat.le_refl _) _) _⟩
theorem rlaid_any {f : Int} {u v : Bool} {a b op c n : Int} (hr : rightB f u v a b op c n = true) (w : World) :
 Calls Tryz.prog 87 #[ins f u v a b op c n] w fun e w' => e = .returned (.int .u32 (encW f u v a b op c n)) ∧ Below w.heap.size w w' := by
 obtain ⟨_, _, _, _, hf⟩ := right_inv hr
 rcases hf with ⟨rfl, _⟩ | ⟨rfl, _⟩ | ⟨rfl, _⟩ | ⟨rfl, _⟩
 ·exact laid_0 u v a b op c n hr w
 ·exact laid_1 u v a b op c n hr w
 ·exact laid_2 u v a b op c n hr w
 ·exact laid_3 u v a b op c n hr w
end Go.Proofs.YtgcknekhimpfkaaGreatDoor
