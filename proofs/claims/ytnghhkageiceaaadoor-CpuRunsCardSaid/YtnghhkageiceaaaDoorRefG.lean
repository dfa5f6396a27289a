/- The document's: a word with its sign, a register that gets a word, what is moved, turned, divided. -/
import Derived.Test.YtnghhkageiceaaaDoorCpuL
import Derived.Test.YtnghhkageiceaaaDoorCpuI
import Derived.Deep.DeepCutAuto
namespace Go.Proofs.YtnghhkageiceaaaDoor
open Go Go.RowKit Go.Lib Go.Proofs.YtnghhkageiceaaaDoor.Pl
set_option linter.unusedVariables false
set_option linter.unusedSimpArgs false
attribute [local go_sem ↓] exec_load_cpu exec_store_cpu
theorem number_any (x : Int) (h0 : 0 ≤ x) (h1 : x < 4294967296) (w : World) : Calls Tryd.prog 50 #[.int .u32 x] w fun e w' => e = .returned (.int .i64 (sg x)) ∧ w = w' := by
  by_cases h : x < 2147483648
  · have H : Hid (sg x = x) := by unfold Hid sg; rw [if_pos h]
    go_enter Tryd.func50, Tryd.ntmps50
    go_wp2_with fail
    go_ret
    exact ⟨by rw [H.out]; rfl, rfl⟩
  · have H : Hid (sg x = x - 4294967296) := by unfold Hid sg; rw [if_neg h]
    have h' : 2147483648 ≤ x := by omega
    clear h
    go_enter Tryd.func50, Tryd.ntmps50
    go_wp2_with fail
    go_ret
    exact ⟨by rw [H.out]; rfl, rfl⟩
set_option maxRecDepth 100000 in
set_option maxHeartbeats 1000000 in
theorem gets_any (cs : Array Value) (hc : CpuOk cs) (a : Nat) (ha : a ≤ 15) (x : Int) (h0 : 0 ≤ x) (h1 : x < 4294967296) (w : World) :
    Calls Tryd.prog 38 #[.agg cs, .int .i64 a, .int .u32 x] w fun e w' => e = .returned (.agg (fin cs a x)) ∧ Below w.heap.size w w' := by
  have HC := Lib.hid hc
  clear hc
  have ha' : (a : Int) < 16 := by omega
  have b0 : Blk ((w.alloc (.cells cs 25)).alloc (.cells #[.int .u32 0, .int .u32 0, .int .u32 0, .int .u32 0, .int .u32 0, .int .u32 0, .int .u32 0, .int .u32 0, .int .u32 0, .int .u32 0, .int .u32 0, .int .u32 0, .int .u32 0, .int .u32 0, .int .u32 0, .int .u32 0, .int .u32 0, .bool false, .bool false, .bool false, .bool false, .int .u32 0] 25)) w.heap.size cs 25 := Blk.old (Blk.new w cs 25) _
  have b1 := Blk.new (w.alloc (.cells cs 25)) (#[.int .u32 0, .int .u32 0, .int .u32 0, .int .u32 0, .int .u32 0, .int .u32 0, .int .u32 0, .int .u32 0, .int .u32 0, .int .u32 0, .int .u32 0, .int .u32 0, .int .u32 0, .int .u32 0, .int .u32 0, .int .u32 0, .int .u32 0, .bool false, .bool false, .bool false, .bool false, .int .u32 0] : Array Value) 25
  simp only [World.size_alloc] at b1
  have hB : Below w.heap.size w ((w.alloc (.cells cs 25)).alloc (.cells #[.int .u32 0, .int .u32 0, .int .u32 0, .int .u32 0, .int .u32 0, .int .u32 0, .int .u32 0, .int .u32 0, .int .u32 0, .int .u32 0, .int .u32 0, .int .u32 0, .int .u32 0, .int .u32 0, .int .u32 0, .int .u32 0, .int .u32 0, .bool false, .bool false, .bool false, .bool false, .int .u32 0] 25)) := ((Below.refl w.heap.size w).alloc (Nat.le_refl _) _).alloc (by simp) _
  have B0 := Lib.hid b0
  have B1 := Lib.hid b1
  have HB := Lib.hid hB
  clear b0 b1 hB
  go_enter Tryd.func38, Tryd.ntmps38
  go_upto_region 1 with fail
  generalize (w.alloc (.cells cs 25)).alloc (.cells #[.int .u32 0, .int .u32 0, .int .u32 0, .int .u32 0, .int .u32 0, .int .u32 0, .int .u32 0, .int .u32 0, .int .u32 0, .int .u32 0, .int .u32 0, .int .u32 0, .int .u32 0, .int .u32 0, .int .u32 0, .int .u32 0, .int .u32 0, .bool false, .bool false, .bool false, .bool false, .int .u32 0] 25) = W at B0 B1 HB ⊢
  obtain ⟨⟨xa, ta⟩, ⟨x17, t17⟩, ⟨x18, t18⟩, tf, hl, hst, hres⟩ := tailf B0.out B1.out (by omega) HC.out.size rfl HC.out.one a ha
  have K_hres := Lib.hid hres
  clear hres
  go_wp2_with fail
  have hres := K_hres.out
  refine bodyPost_ret (v := .agg (finR cs a x (decide (2147483648 ≤ x)) (x == 0))) ?_ rfl ⟨?_, ?_⟩
  · simp [results, Tryd.results38, asAddr, hres]
  · unfold finR fin; rw [beq_dec]
  · exact belRow (bel_chain HB.out _ _ _ _) (by omega) _
theorem or_pair (w : Int) (n : Nat) (hn : n ≤ 31) (h0 : 0 ≤ w) (h1 : w < 4294967296) : bits .or .u64 (w * 4294967296) w / 2 ^ n % 4294967296 = rorV w n := by
  have e : bits .or .u64 (w * 4294967296) w = w * 4294967296 + w := by
    rw [u64_or _ _ (by omega) (by omega) h0 (by omega)]
    obtain ⟨x, rfl⟩ := Int.eq_ofNat_of_zero_le h0
    rw [show ((x : Int) * 4294967296).toNat = x * 4294967296 from by omega, Int.toNat_natCast, nat_join 32 (x * 4294967296) x (by omega) (by omega)]
    omega
  have hp := p2 n
  have hq := p2 (32 - n)
  have e2 := p2_32 n (by omega)
  have e3 : w * 4294967296 + w = w + w * 2 ^ (32 - n) * 2 ^ n := by rw [← e2, Int.mul_assoc, Int.mul_comm (2 ^ (32 - n)) (2 ^ n)]; omega
  rw [e, e3, Int.add_mul_ediv_right _ _ (by omega)]
  have h2 : w * 2 ^ (32 - n) % 4294967296 = w % 2 ^ n * 2 ^ (32 - n) := by rw [← e2, mul_mod_right w _ _ h0 (Int.le_of_lt hp) (Int.le_of_lt hq)]
  have hb := rorV_bd w n (by omega) h0 h1
  unfold rorV at hb ⊢
  omega
set_option maxHeartbeats 1000000 in
theorem turned_any (x : Int) (n : Nat) (hn : n ≤ 31) (h0 : 0 ≤ x) (h1 : x < 4294967296) (w : World) :
    Calls Tryd.prog 51 #[.int .u32 x, .int .i64 n] w fun e w' => e = .returned (.int .u32 (rorV x n)) ∧ w = w' := by
  have H := Lib.hid (or_pair x n hn h0 h1)
  have hn' : (n : Int) ≤ 31 := by omega
  go_enter Tryd.func51, Tryd.ntmps51
  go_wp2_with fail
  go_ret
  exact ⟨by rw [← H.out]; rfl, rfl⟩
set_option maxHeartbeats 1000000 in
theorem down_any (a b : Int) (ha : -2147483648 ≤ a ∧ a ≤ 2147483647) (hb : 0 < b) (hb' : b ≤ 2147483647) (w : World) :
    Calls Tryd.prog 54 #[.int .i64 a, .int .i64 b] w fun e w' => e = .returned (.tuple #[.int .i64 (a / b), .int .i64 (a % b)]) ∧ w = w' := by
  obtain ⟨ha0, ha1⟩ := ha
  have hq := tdiv_bd a b ⟨ha0, ha1⟩ hb
  have h5 := Int.tmod_lt_of_pos a hb
  have h6 : -b < a.tmod b := by
    have := Int.tmod_lt_of_pos (-a) hb
    rw [Int.neg_tmod] at this; omega
  obtain ⟨hq0, hq1⟩ := hq
  have hd := Lib.hid (tdiv_down a b hb)
  by_cases h : a.tmod b < 0
  · obtain ⟨e1, e2⟩ := hd.out.1 h
    have H1 := Lib.hid e1
    have H2 := Lib.hid e2
    clear e1 e2
    go_enter Tryd.func54, Tryd.ntmps54
    go_wp2_with fail
    go_ret2
    exact ⟨tup_ui H1.out H2.out, rfl⟩
  · obtain ⟨e1, e2⟩ := hd.out.2 (by omega)
    have H1 := Lib.hid e1
    have H2 := Lib.hid e2
    clear e1 e2
    go_enter Tryd.func54, Tryd.ntmps54
    go_wp2_with fail
    go_ret2
    exact ⟨tup_ui H1.out H2.out, rfl⟩
end Go.Proofs.YtnghhkageiceaaaDoor
