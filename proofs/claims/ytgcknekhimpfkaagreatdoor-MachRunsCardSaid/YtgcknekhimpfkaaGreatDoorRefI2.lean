/- The document's: reckoned, the rest. -/
import Derived.Test.YtgcknekhimpfkaaGreatDoorRefI1
namespace Go.Proofs.YtgcknekhimpfkaaGreatDoor
open Go Go.RowKit Go.Lib Go.Proofs.YtgcknekhimpfkaaGreatDoor.Pl
set_option maxHeartbeats 1000000
set_option linter.unusedVariables false
set_option linter.unusedSimpArgs false
attribute [local go_sem ↓] exec_load_cpu exec_store_cpu
set_option maxRecDepth 100000 in
theorem rk_4 (cs : Array Value) (hc : CpuOk cs) (f : Int) (hf : f = 0 ∨ f = 1) (u v : Bool) (a b c : Nat) (n : Int) (hr : rightB f u v a b 4 c n = true) (w : World) :
 Calls Tryz.prog 94 #[.agg cs, ins f u v a b 4 c n] w fun e w' => e = .returned (.tuple #[.agg (fin cs a (bits .and .u32 (rgV cs b) (opX cs f v c n))), .bool true]) ∧ Below w.heap.size w w' := by
 have hn := reck_n (hf) hr
 have hn0 := hn.1
 have hn1 := hn.2
 clear hn
 have ha : a ≤ 15 := by have := (right_inv hr).1; omega
 have hbb : (b : Int) < 16 := by have := (right_inv hr).2.1; omega
 have hcc : (c : Int) < 16 := by have := (right_inv hr).2.2.1; omega
 obtain ⟨hrc, hrc0, hrc1⟩ := hc.rg (k := c) (by omega)
 obtain ⟨hrb, hrb0, hrb1⟩ := hc.rg (k := b) (by omega)
 obtain ⟨hX0, hX1⟩ := opX_bd hc f v (by omega : c ≤ 15) hn0 hn1
 have hot := or_top n hn0 hn1
 have HRC := hid hrc
 have HRB := hid hrb
 have HC := hid hc
 have HR := hid hr
 clear hrc hrb hc hr
 unfold ins
 obtain ⟨h0, h1, h2, hs, hB⟩ := three_made w cs #[.int .i64 f, .bool u, .bool v, .int .i64 a, .int .i64 b, .int .i64 4, .int .i64 c, .int .i64 n] #[.int .u32 0, .int .u32 0, .int .u32 0, .int .u32 0, .int .u32 0, .int .u32 0, .int .u32 0, .int .u32 0, .int .u32 0, .int .u32 0, .int .u32 0, .int .u32 0, .int .u32 0, .int .u32 0, .int .u32 0, .int .u32 0, .int .u32 0, .bool false, .bool false, .bool false, .bool false, .int .u32 0] 50 92 50
 have K0 := hid h0
 have K1 := hid h1
 have K2 := hid h2
 have KB := hid hB
 clear h0 h1 h2 hs hB
 go_enter Tryz.func94, Tryz.ntmps94
 go_upto_region 1 with fail
 generalize ((w.alloc (.cells cs 50)).alloc (.cells #[.int .i64 f, .bool u, .bool v, .int .i64 a, .int .i64 b, .int .i64 4, .int .i64 c, .int .i64 n] 92)).alloc (.cells #[.int .u32 0, .int .u32 0, .int .u32 0, .int .u32 0, .int .u32 0, .int .u32 0, .int .u32 0, .int .u32 0, .int .u32 0, .int .u32 0, .int .u32 0, .int .u32 0, .int .u32 0, .int .u32 0, .int .u32 0, .int .u32 0, .int .u32 0, .bool false, .bool false, .bool false, .bool false, .int .u32 0] 50) = W at K0 K1 K2 KB ⊢
 have i0 : W.cell? ⟨w.heap.size + 1, 0, none⟩ = some (.int .i64 f) := K1.out.cell 0
 have i2 : W.cell? ⟨w.heap.size + 1, 2, none⟩ = some (.bool v) := K1.out.cell 2
 have i4 : W.cell? ⟨w.heap.size + 1, 4, none⟩ = some (.int .i64 b) := K1.out.cell 4
 have i5 : W.cell? ⟨w.heap.size + 1, 5, none⟩ = some (.int .i64 4) := K1.out.cell 5
 have i6 : W.cell? ⟨w.heap.size + 1, 6, none⟩ = some (.int .i64 c) := K1.out.cell 6
 have i7 : W.cell? ⟨w.heap.size + 1, 7, none⟩ = some (.int .i64 n) := K1.out.cell 7
 have oc := (K0.out.cell c).trans HRC.out
 have ob := (K0.out.cell b).trans HRB.out
 go_upto_if 18 with fail
 go_cut [6] from 11 to 25 (fun s6 wx => s6 = .int .u32 (opX cs f v c n) ∧ W = wx)
 case first =>
  rcases hf with rfl | rfl
  ·go_wp2_with fail
   go_meet
   exact ⟨rfl, rfl⟩
  ·cases v
   ·go_wp2_with fail
    go_meet
    exact ⟨rfl, rfl⟩
   ·go_wp2_with fail
    go_meet
    exact ⟨rfl, rfl⟩
 case rest =>
  obtain ⟨rfl, rfl⟩ := hcut
  clear oc hot i0 i2 i6 i7 hcc hrc0 hrc1 HRC
  generalize hx : opX cs f v c n = x at hX0 hX1 ⊢
  generalize hy : rgV cs b = y at hrb0 hrb1 HRB ob ⊢
  have HX := hid hx
  have HY := hid hy
  clear hx hy
  obtain ⟨m, hm⟩ : ∃ m : Nat, x % 32 = (m : Int) := ⟨(x % 32).toNat, by omega⟩
  have hm31 : (m : Int) ≤ 31 := by omega
  have HM : Hid ((x % 32).toNat = m) := by unfold Hid; omega
  have hl := load_cpu K0.out HC.out.size
  have i3 : W.cell? ⟨w.heap.size + 1, 3, none⟩ = some (.int .i64 a) := K1.out.cell 3
  have HV : Hid (0 ≤ (bits .and .u32 y x) ∧ (bits .and .u32 y x) < 4294967296) := u32_bits_bd _ _ _
  clear hm hm31
  go_wp2_with (go_at_call 93; (refine (gets_any cs HC.out a ha _ HV.out.1 HV.out.2 _).mono ?_; rintro e w1 ⟨rfl, hb1⟩; have M2 := hid (K2.out.step hb1); have MB := hid (KB.out.trans (hb1.mono KB.out.size)); have hst := store_cpu (cs := fin cs a (bits .and .u32 y x)) M2.out rfl (fin_size HC.out.size) (fin_one HC.out.one); have KRES := hid (loadVar_cpu (M2.out.setRow (fin cs a (bits .and .u32 y x))) (fin_size HC.out.size)); clear hb1))
  have hres := KRES.out
  refine bodyPost_ret (v := .tuple #[.agg (fin cs a (bits .and .u32 y x)), .bool true]) ?_ rfl ⟨by rw [HX.out, HY.out], belRow MB.out (by omega) _⟩
  simp [results, Tryz.results94, asAddr, hres]
set_option maxRecDepth 100000 in
theorem rk_5 (cs : Array Value) (hc : CpuOk cs) (f : Int) (hf : f = 0 ∨ f = 1) (u v : Bool) (a b c : Nat) (n : Int) (hr : rightB f u v a b 5 c n = true) (w : World) :
 Calls Tryz.prog 94 #[.agg cs, ins f u v a b 5 c n] w fun e w' => e = .returned (.tuple #[.agg (fin cs a (bits .andNot .u32 (rgV cs b) (opX cs f v c n))), .bool true]) ∧ Below w.heap.size w w' := by
 have hn := reck_n (hf) hr
 have hn0 := hn.1
 have hn1 := hn.2
 clear hn
 have ha : a ≤ 15 := by have := (right_inv hr).1; omega
 have hbb : (b : Int) < 16 := by have := (right_inv hr).2.1; omega
 have hcc : (c : Int) < 16 := by have := (right_inv hr).2.2.1; omega
 obtain ⟨hrc, hrc0, hrc1⟩ := hc.rg (k := c) (by omega)
 obtain ⟨hrb, hrb0, hrb1⟩ := hc.rg (k := b) (by omega)
 obtain ⟨hX0, hX1⟩ := opX_bd hc f v (by omega : c ≤ 15) hn0 hn1
 have hot := or_top n hn0 hn1
 have HRC := hid hrc
 have HRB := hid hrb
 have HC := hid hc
 have HR := hid hr
 clear hrc hrb hc hr
 unfold ins
 obtain ⟨h0, h1, h2, hs, hB⟩ := three_made w cs #[.int .i64 f, .bool u, .bool v, .int .i64 a, .int .i64 b, .int .i64 5, .int .i64 c, .int .i64 n] #[.int .u32 0, .int .u32 0, .int .u32 0, .int .u32 0, .int .u32 0, .int .u32 0, .int .u32 0, .int .u32 0, .int .u32 0, .int .u32 0, .int .u32 0, .int .u32 0, .int .u32 0, .int .u32 0, .int .u32 0, .int .u32 0, .int .u32 0, .bool false, .bool false, .bool false, .bool false, .int .u32 0] 50 92 50
 have K0 := hid h0
 have K1 := hid h1
 have K2 := hid h2
 have KB := hid hB
 clear h0 h1 h2 hs hB
 go_enter Tryz.func94, Tryz.ntmps94
 go_upto_region 1 with fail
 generalize ((w.alloc (.cells cs 50)).alloc (.cells #[.int .i64 f, .bool u, .bool v, .int .i64 a, .int .i64 b, .int .i64 5, .int .i64 c, .int .i64 n] 92)).alloc (.cells #[.int .u32 0, .int .u32 0, .int .u32 0, .int .u32 0, .int .u32 0, .int .u32 0, .int .u32 0, .int .u32 0, .int .u32 0, .int .u32 0, .int .u32 0, .int .u32 0, .int .u32 0, .int .u32 0, .int .u32 0, .int .u32 0, .int .u32 0, .bool false, .bool false, .bool false, .bool false, .int .u32 0] 50) = W at K0 K1 K2 KB ⊢
 have i0 : W.cell? ⟨w.heap.size + 1, 0, none⟩ = some (.int .i64 f) := K1.out.cell 0
 have i2 : W.cell? ⟨w.heap.size + 1, 2, none⟩ = some (.bool v) := K1.out.cell 2
 have i4 : W.cell? ⟨w.heap.size + 1, 4, none⟩ = some (.int .i64 b) := K1.out.cell 4
 have i5 : W.cell? ⟨w.heap.size + 1, 5, none⟩ = some (.int .i64 5) := K1.out.cell 5
 have i6 : W.cell? ⟨w.heap.size + 1, 6, none⟩ = some (.int .i64 c) := K1.out.cell 6
 have i7 : W.cell? ⟨w.heap.size + 1, 7, none⟩ = some (.int .i64 n) := K1.out.cell 7
 have oc := (K0.out.cell c).trans HRC.out
 have ob := (K0.out.cell b).trans HRB.out
 go_upto_if 18 with fail
 go_cut [6] from 11 to 25 (fun s6 wx => s6 = .int .u32 (opX cs f v c n) ∧ W = wx)
 case first =>
  rcases hf with rfl | rfl
  ·go_wp2_with fail
   go_meet
   exact ⟨rfl, rfl⟩
  ·cases v
   ·go_wp2_with fail
    go_meet
    exact ⟨rfl, rfl⟩
   ·go_wp2_with fail
    go_meet
    exact ⟨rfl, rfl⟩
 case rest =>
  obtain ⟨rfl, rfl⟩ := hcut
  clear oc hot i0 i2 i6 i7 hcc hrc0 hrc1 HRC
  generalize hx : opX cs f v c n = x at hX0 hX1 ⊢
  generalize hy : rgV cs b = y at hrb0 hrb1 HRB ob ⊢
  have HX := hid hx
  have HY := hid hy
  clear hx hy
  obtain ⟨m, hm⟩ : ∃ m : Nat, x % 32 = (m : Int) := ⟨(x % 32).toNat, by omega⟩
  have hm31 : (m : Int) ≤ 31 := by omega
  have HM : Hid ((x % 32).toNat = m) := by unfold Hid; omega
  have hl := load_cpu K0.out HC.out.size
  have i3 : W.cell? ⟨w.heap.size + 1, 3, none⟩ = some (.int .i64 a) := K1.out.cell 3
  have HV : Hid (0 ≤ (bits .andNot .u32 y x) ∧ (bits .andNot .u32 y x) < 4294967296) := u32_bits_bd _ _ _
  clear hm hm31
  have hnx := and_not y x hrb0 hrb1 hX0 hX1
  go_wp2_with (go_at_call 93; (refine (gets_any cs HC.out a ha _ HV.out.1 HV.out.2 _).mono ?_; rintro e w1 ⟨rfl, hb1⟩; have M2 := hid (K2.out.step hb1); have MB := hid (KB.out.trans (hb1.mono KB.out.size)); have hst := store_cpu (cs := fin cs a (bits .andNot .u32 y x)) M2.out rfl (fin_size HC.out.size) (fin_one HC.out.one); have KRES := hid (loadVar_cpu (M2.out.setRow (fin cs a (bits .andNot .u32 y x))) (fin_size HC.out.size)); clear hb1))
  have hres := KRES.out
  refine bodyPost_ret (v := .tuple #[.agg (fin cs a (bits .andNot .u32 y x)), .bool true]) ?_ rfl ⟨by rw [HX.out, HY.out], belRow MB.out (by omega) _⟩
  simp [results, Tryz.results94, asAddr, hres]
set_option maxRecDepth 100000 in
theorem rk_6 (cs : Array Value) (hc : CpuOk cs) (f : Int) (hf : f = 0 ∨ f = 1) (u v : Bool) (a b c : Nat) (n : Int) (hr : rightB f u v a b 6 c n = true) (w : World) :
 Calls Tryz.prog 94 #[.agg cs, ins f u v a b 6 c n] w fun e w' => e = .returned (.tuple #[.agg (fin cs a (bits .or .u32 (rgV cs b) (opX cs f v c n))), .bool true]) ∧ Below w.heap.size w w' := by
 have hn := reck_n (hf) hr
 have hn0 := hn.1
 have hn1 := hn.2
 clear hn
 have ha : a ≤ 15 := by have := (right_inv hr).1; omega
 have hbb : (b : Int) < 16 := by have := (right_inv hr).2.1; omega
 have hcc : (c : Int) < 16 := by have := (right_inv hr).2.2.1; omega
 obtain ⟨hrc, hrc0, hrc1⟩ := hc.rg (k := c) (by omega)
 obtain ⟨hrb, hrb0, hrb1⟩ := hc.rg (k := b) (by omega)
 obtain ⟨hX0, hX1⟩ := opX_bd hc f v (by omega : c ≤ 15) hn0 hn1
 have hot := or_top n hn0 hn1
 have HRC := hid hrc
 have HRB := hid hrb
 have HC := hid hc
 have HR := hid hr
 clear hrc hrb hc hr
 unfold ins
 obtain ⟨h0, h1, h2, hs, hB⟩ := three_made w cs #[.int .i64 f, .bool u, .bool v, .int .i64 a, .int .i64 b, .int .i64 6, .int .i64 c, .int .i64 n] #[.int .u32 0, .int .u32 0, .int .u32 0, .int .u32 0, .int .u32 0, .int .u32 0, .int .u32 0, .int .u32 0, .int .u32 0, .int .u32 0, .int .u32 0, .int .u32 0, .int .u32 0, .int .u32 0, .int .u32 0, .int .u32 0, .int .u32 0, .bool false, .bool false, .bool false, .bool false, .int .u32 0] 50 92 50
 have K0 := hid h0
 have K1 := hid h1
 have K2 := hid h2
 have KB := hid hB
 clear h0 h1 h2 hs hB
 go_enter Tryz.func94, Tryz.ntmps94
 go_upto_region 1 with fail
 generalize ((w.alloc (.cells cs 50)).alloc (.cells #[.int .i64 f, .bool u, .bool v, .int .i64 a, .int .i64 b, .int .i64 6, .int .i64 c, .int .i64 n] 92)).alloc (.cells #[.int .u32 0, .int .u32 0, .int .u32 0, .int .u32 0, .int .u32 0, .int .u32 0, .int .u32 0, .int .u32 0, .int .u32 0, .int .u32 0, .int .u32 0, .int .u32 0, .int .u32 0, .int .u32 0, .int .u32 0, .int .u32 0, .int .u32 0, .bool false, .bool false, .bool false, .bool false, .int .u32 0] 50) = W at K0 K1 K2 KB ⊢
 have i0 : W.cell? ⟨w.heap.size + 1, 0, none⟩ = some (.int .i64 f) := K1.out.cell 0
 have i2 : W.cell? ⟨w.heap.size + 1, 2, none⟩ = some (.bool v) := K1.out.cell 2
 have i4 : W.cell? ⟨w.heap.size + 1, 4, none⟩ = some (.int .i64 b) := K1.out.cell 4
 have i5 : W.cell? ⟨w.heap.size + 1, 5, none⟩ = some (.int .i64 6) := K1.out.cell 5
 have i6 : W.cell? ⟨w.heap.size + 1, 6, none⟩ = some (.int .i64 c) := K1.out.cell 6
 have i7 : W.cell? ⟨w.heap.size + 1, 7, none⟩ = some (.int .i64 n) := K1.out.cell 7
 have oc := (K0.out.cell c).trans HRC.out
 have ob := (K0.out.cell b).trans HRB.out
 go_upto_if 18 with fail
 go_cut [6] from 11 to 25 (fun s6 wx => s6 = .int .u32 (opX cs f v c n) ∧ W = wx)
 case first =>
  rcases hf with rfl | rfl
  ·go_wp2_with fail
   go_meet
   exact ⟨rfl, rfl⟩
  ·cases v
   ·go_wp2_with fail
    go_meet
    exact ⟨rfl, rfl⟩
   ·go_wp2_with fail
    go_meet
    exact ⟨rfl, rfl⟩
 case rest =>
  obtain ⟨rfl, rfl⟩ := hcut
  clear oc hot i0 i2 i6 i7 hcc hrc0 hrc1 HRC
  generalize hx : opX cs f v c n = x at hX0 hX1 ⊢
  generalize hy : rgV cs b = y at hrb0 hrb1 HRB ob ⊢
  have HX := hid hx
  have HY := hid hy
  clear hx hy
  obtain ⟨m, hm⟩ : ∃ m : Nat, x % 32 = (m : Int) := ⟨(x % 32).toNat, by omega⟩
  have hm31 : (m : Int) ≤ 31 := by omega
  have HM : Hid ((x % 32).toNat = m) := by unfold Hid; omega
  have hl := load_cpu K0.out HC.out.size
  have i3 : W.cell? ⟨w.heap.size + 1, 3, none⟩ = some (.int .i64 a) := K1.out.cell 3
  have HV : Hid (0 ≤ (bits .or .u32 y x) ∧ (bits .or .u32 y x) < 4294967296) := u32_bits_bd _ _ _
  clear hm hm31
  go_wp2_with (go_at_call 93; (refine (gets_any cs HC.out a ha _ HV.out.1 HV.out.2 _).mono ?_; rintro e w1 ⟨rfl, hb1⟩; have M2 := hid (K2.out.step hb1); have MB := hid (KB.out.trans (hb1.mono KB.out.size)); have hst := store_cpu (cs := fin cs a (bits .or .u32 y x)) M2.out rfl (fin_size HC.out.size) (fin_one HC.out.one); have KRES := hid (loadVar_cpu (M2.out.setRow (fin cs a (bits .or .u32 y x))) (fin_size HC.out.size)); clear hb1))
  have hres := KRES.out
  refine bodyPost_ret (v := .tuple #[.agg (fin cs a (bits .or .u32 y x)), .bool true]) ?_ rfl ⟨by rw [HX.out, HY.out], belRow MB.out (by omega) _⟩
  simp [results, Tryz.results94, asAddr, hres]
set_option maxRecDepth 100000 in
theorem rk_7 (cs : Array Value) (hc : CpuOk cs) (f : Int) (hf : f = 0 ∨ f = 1) (u v : Bool) (a b c : Nat) (n : Int) (hr : rightB f u v a b 7 c n = true) (w : World) :
 Calls Tryz.prog 94 #[.agg cs, ins f u v a b 7 c n] w fun e w' => e = .returned (.tuple #[.agg (fin cs a (bits .xor .u32 (rgV cs b) (opX cs f v c n))), .bool true]) ∧ Below w.heap.size w w' := by
 have hn := reck_n (hf) hr
 have hn0 := hn.1
 have hn1 := hn.2
 clear hn
 have ha : a ≤ 15 := by have := (right_inv hr).1; omega
 have hbb : (b : Int) < 16 := by have := (right_inv hr).2.1; omega
 have hcc : (c : Int) < 16 := by have := (right_inv hr).2.2.1; omega
 obtain ⟨hrc, hrc0, hrc1⟩ := hc.rg (k := c) (by omega)
 obtain ⟨hrb, hrb0, hrb1⟩ := hc.rg (k := b) (by omega)
 obtain ⟨hX0, hX1⟩ := opX_bd hc f v (by omega : c ≤ 15) hn0 hn1
 have hot := or_top n hn0 hn1
 have HRC := hid hrc
 have HRB := hid hrb
 have HC := hid hc
 have HR := hid hr
 clear hrc hrb hc hr
 unfold ins
 obtain ⟨h0, h1, h2, hs, hB⟩ := three_made w cs #[.int .i64 f, .bool u, .bool v, .int .i64 a, .int .i64 b, .int .i64 7, .int .i64 c, .int .i64 n] #[.int .u32 0, .int .u32 0, .int .u32 0, .int .u32 0, .int .u32 0, .int .u32 0, .int .u32 0, .int .u32 0, .int .u32 0, .int .u32 0, .int .u32 0, .int .u32 0, .int .u32 0, .int .u32 0, .int .u32 0, .int .u32 0, .int .u32 0, .bool false, .bool false, .bool false, .bool false, .int .u32 0] 50 92 50
 have K0 := hid h0
 have K1 := hid h1
 have K2 := hid h2
 have KB := hid hB
 clear h0 h1 h2 hs hB
 go_enter Tryz.func94, Tryz.ntmps94
 go_upto_region 1 with fail
 generalize ((w.alloc (.cells cs 50)).alloc (.cells #[.int .i64 f, .bool u, .bool v, .int .i64 a, .int .i64 b, .int .i64 7, .int .i64 c, .int .i64 n] 92)).alloc (.cells #[.int .u32 0, .int .u32 0, .int .u32 0, .int .u32 0, .int .u32 0, .int .u32 0, .int .u32 0, .int .u32 0, .int .u32 0, .int .u32 0, .int .u32 0, .int .u32 0, .int .u32 0, .int .u32 0, .int .u32 0, .int .u32 0, .int .u32 0, .bool false, .bool false, .bool false, .bool false, .int .u32 0] 50) = W at K0 K1 K2 KB ⊢
 have i0 : W.cell? ⟨w.heap.size + 1, 0, none⟩ = some (.int .i64 f) := K1.out.cell 0
 have i2 : W.cell? ⟨w.heap.size + 1, 2, none⟩ = some (.bool v) := K1.out.cell 2
 have i4 : W.cell? ⟨w.heap.size + 1, 4, none⟩ = some (.int .i64 b) := K1.out.cell 4
 have i5 : W.cell? ⟨w.heap.size + 1, 5, none⟩ = some (.int .i64 7) := K1.out.cell 5
 have i6 : W.cell? ⟨w.heap.size + 1, 6, none⟩ = some (.int .i64 c) := K1.out.cell 6
 have i7 : W.cell? ⟨w.heap.size + 1, 7, none⟩ = some (.int .i64 n) := K1.out.cell 7
 have oc := (K0.out.cell c).trans HRC.out
 have ob := (K0.out.cell b).trans HRB.out
 go_upto_if 18 with fail
 go_cut [6] from 11 to 25 (fun s6 wx => s6 = .int .u32 (opX cs f v c n) ∧ W = wx)
 case first =>
  rcases hf with rfl | rfl
  ·go_wp2_with fail
   go_meet
   exact ⟨rfl, rfl⟩
  ·cases v
   ·go_wp2_with fail
    go_meet
    exact ⟨rfl, rfl⟩
   ·go_wp2_with fail
    go_meet
    exact ⟨rfl, rfl⟩
 case rest =>
  obtain ⟨rfl, rfl⟩ := hcut
  clear oc hot i0 i2 i6 i7 hcc hrc0 hrc1 HRC
  generalize hx : opX cs f v c n = x at hX0 hX1 ⊢
  generalize hy : rgV cs b = y at hrb0 hrb1 HRB ob ⊢
  have HX := hid hx
  have HY := hid hy
  clear hx hy
  obtain ⟨m, hm⟩ : ∃ m : Nat, x % 32 = (m : Int) := ⟨(x % 32).toNat, by omega⟩
  have hm31 : (m : Int) ≤ 31 := by omega
  have HM : Hid ((x % 32).toNat = m) := by unfold Hid; omega
  have hl := load_cpu K0.out HC.out.size
  have i3 : W.cell? ⟨w.heap.size + 1, 3, none⟩ = some (.int .i64 a) := K1.out.cell 3
  have HV : Hid (0 ≤ (bits .xor .u32 y x) ∧ (bits .xor .u32 y x) < 4294967296) := u32_bits_bd _ _ _
  clear hm hm31
  go_wp2_with (go_at_call 93; (refine (gets_any cs HC.out a ha _ HV.out.1 HV.out.2 _).mono ?_; rintro e w1 ⟨rfl, hb1⟩; have M2 := hid (K2.out.step hb1); have MB := hid (KB.out.trans (hb1.mono KB.out.size)); have hst := store_cpu (cs := fin cs a (bits .xor .u32 y x)) M2.out rfl (fin_size HC.out.size) (fin_one HC.out.one); have KRES := hid (loadVar_cpu (M2.out.setRow (fin cs a (bits .xor .u32 y x))) (fin_size HC.out.size)); clear hb1))
  have hres := KRES.out
  refine bodyPost_ret (v := .tuple #[.agg (fin cs a (bits .xor .u32 y x)), .bool true]) ?_ rfl ⟨by rw [HX.out, HY.out], belRow MB.out (by omega) _⟩
  simp [results, Tryz.results94, asAddr, hres]
set_option maxRecDepth 100000 in
theorem rk_8 (cs : Array Value) (hc : CpuOk cs) (f : Int) (hf : f = 0 ∨ f = 1) (u v : Bool) (a b c : Nat) (n : Int) (hr : rightB f u v a b 8 c n = true) (w : World) :
 Calls Tryz.prog 94 #[.agg cs, ins f u v a b 8 c n] w fun e w' => e = .returned (.tuple #[.agg (((fin cs a (addS (rgV cs b) (opX cs f v c n) (u && flV cs 19))).setIfInBounds 19 (.bool (addC (rgV cs b) (opX cs f v c n) (u && flV cs 19)))).setIfInBounds 20 (.bool (addV (rgV cs b) (opX cs f v c n) (u && flV cs 19)))), .bool true]) ∧ Below w.heap.size w w' := by
 have hn := reck_n (hf) hr
 have hn0 := hn.1
 have hn1 := hn.2
 clear hn
 have ha : a ≤ 15 := by have := (right_inv hr).1; omega
 have hbb : (b : Int) < 16 := by have := (right_inv hr).2.1; omega
 have hcc : (c : Int) < 16 := by have := (right_inv hr).2.2.1; omega
 obtain ⟨hrc, hrc0, hrc1⟩ := hc.rg (k := c) (by omega)
 obtain ⟨hrb, hrb0, hrb1⟩ := hc.rg (k := b) (by omega)
 obtain ⟨hX0, hX1⟩ := opX_bd hc f v (by omega : c ≤ 15) hn0 hn1
 have hot := or_top n hn0 hn1
 have HRC := hid hrc
 have HRB := hid hrb
 have HC := hid hc
 have HR := hid hr
 clear hrc hrb hc hr
 unfold ins
 obtain ⟨h0, h1, h2, hs, hB⟩ := three_made w cs #[.int .i64 f, .bool u, .bool v, .int .i64 a, .int .i64 b, .int .i64 8, .int .i64 c, .int .i64 n] #[.int .u32 0, .int .u32 0, .int .u32 0, .int .u32 0, .int .u32 0, .int .u32 0, .int .u32 0, .int .u32 0, .int .u32 0, .int .u32 0, .int .u32 0, .int .u32 0, .int .u32 0, .int .u32 0, .int .u32 0, .int .u32 0, .int .u32 0, .bool false, .bool false, .bool false, .bool false, .int .u32 0] 50 92 50
 have K0 := hid h0
 have K1 := hid h1
 have K2 := hid h2
 have KB := hid hB
 clear h0 h1 h2 hs hB
 go_enter Tryz.func94, Tryz.ntmps94
 go_upto_region 1 with fail
 generalize ((w.alloc (.cells cs 50)).alloc (.cells #[.int .i64 f, .bool u, .bool v, .int .i64 a, .int .i64 b, .int .i64 8, .int .i64 c, .int .i64 n] 92)).alloc (.cells #[.int .u32 0, .int .u32 0, .int .u32 0, .int .u32 0, .int .u32 0, .int .u32 0, .int .u32 0, .int .u32 0, .int .u32 0, .int .u32 0, .int .u32 0, .int .u32 0, .int .u32 0, .int .u32 0, .int .u32 0, .int .u32 0, .int .u32 0, .bool false, .bool false, .bool false, .bool false, .int .u32 0] 50) = W at K0 K1 K2 KB ⊢
 have i0 : W.cell? ⟨w.heap.size + 1, 0, none⟩ = some (.int .i64 f) := K1.out.cell 0
 have i2 : W.cell? ⟨w.heap.size + 1, 2, none⟩ = some (.bool v) := K1.out.cell 2
 have i4 : W.cell? ⟨w.heap.size + 1, 4, none⟩ = some (.int .i64 b) := K1.out.cell 4
 have i5 : W.cell? ⟨w.heap.size + 1, 5, none⟩ = some (.int .i64 8) := K1.out.cell 5
 have i6 : W.cell? ⟨w.heap.size + 1, 6, none⟩ = some (.int .i64 c) := K1.out.cell 6
 have i7 : W.cell? ⟨w.heap.size + 1, 7, none⟩ = some (.int .i64 n) := K1.out.cell 7
 have oc := (K0.out.cell c).trans HRC.out
 have ob := (K0.out.cell b).trans HRB.out
 go_upto_if 18 with fail
 go_cut [6] from 11 to 25 (fun s6 wx => s6 = .int .u32 (opX cs f v c n) ∧ W = wx)
 case first =>
  rcases hf with rfl | rfl
  ·go_wp2_with fail
   go_meet
   exact ⟨rfl, rfl⟩
  ·cases v
   ·go_wp2_with fail
    go_meet
    exact ⟨rfl, rfl⟩
   ·go_wp2_with fail
    go_meet
    exact ⟨rfl, rfl⟩
 case rest =>
  obtain ⟨rfl, rfl⟩ := hcut
  clear oc hot i0 i2 i6 i7 hcc hrc0 hrc1 HRC
  generalize hx : opX cs f v c n = x at hX0 hX1 ⊢
  generalize hy : rgV cs b = y at hrb0 hrb1 HRB ob ⊢
  have HX := hid hx
  have HY := hid hy
  clear hx hy
  obtain ⟨m, hm⟩ : ∃ m : Nat, x % 32 = (m : Int) := ⟨(x % 32).toNat, by omega⟩
  have hm31 : (m : Int) ≤ 31 := by omega
  have HM : Hid ((x % 32).toNat = m) := by unfold Hid; omega
  have hl := load_cpu K0.out HC.out.size
  have i0 : W.cell? ⟨w.heap.size + 1, 0, none⟩ = some (.int .i64 f) := K1.out.cell 0
  have i1 : W.cell? ⟨w.heap.size + 1, 1, none⟩ = some (.bool u) := K1.out.cell 1
  have i2 : W.cell? ⟨w.heap.size + 1, 2, none⟩ = some (.bool v) := K1.out.cell 2
  have i3 : W.cell? ⟨w.heap.size + 1, 3, none⟩ = some (.int .i64 a) := K1.out.cell 3
  have i4 : W.cell? ⟨w.heap.size + 1, 4, none⟩ = some (.int .i64 b) := K1.out.cell 4
  have i6 : W.cell? ⟨w.heap.size + 1, 6, none⟩ = some (.int .i64 c) := K1.out.cell 6
  have i7 : W.cell? ⟨w.heap.size + 1, 7, none⟩ = some (.int .i64 n) := K1.out.cell 7
  have hs : Hid ((((fin cs a (addS y x (u && flV cs 19))).setIfInBounds 19 (.bool (addC y x (u && flV cs 19)))).setIfInBounds 20 (.bool (addV y x (u && flV cs 19)))).size = 22) := by unfold Hid; simp [fin, HC.out.size]
  have ho : Hid (OneRow (((fin cs a (addS y x (u && flV cs 19))).setIfInBounds 19 (.bool (addC y x (u && flV cs 19)))).setIfInBounds 20 (.bool (addV y x (u && flV cs 19))))) := ((fin_one HC.out.one).set _ rfl).set _ rfl
  clear hm hm31
  go_wp2_with (go_at_call 107; (refine (summed_add cs HC.out f u v a ha b c n y x hrb0 hrb1 hX0 hX1 _).mono ?_; rintro e w1 ⟨rfl, hb1⟩; have M2 := hid (K2.out.step hb1); have MB := hid (KB.out.trans (hb1.mono KB.out.size)); have hst := store_cpu (cs := (((fin cs a (addS y x (u && flV cs 19))).setIfInBounds 19 (.bool (addC y x (u && flV cs 19)))).setIfInBounds 20 (.bool (addV y x (u && flV cs 19))))) M2.out rfl hs.out ho.out; have KRES := hid (loadVar_cpu (M2.out.setRow (((fin cs a (addS y x (u && flV cs 19))).setIfInBounds 19 (.bool (addC y x (u && flV cs 19)))).setIfInBounds 20 (.bool (addV y x (u && flV cs 19))))) hs.out); clear hb1))
  have hres := KRES.out
  refine bodyPost_ret (v := .tuple #[.agg (((fin cs a (addS y x (u && flV cs 19))).setIfInBounds 19 (.bool (addC y x (u && flV cs 19)))).setIfInBounds 20 (.bool (addV y x (u && flV cs 19)))), .bool true]) ?_ rfl ⟨by rw [HX.out, HY.out], belRow MB.out (by omega) _⟩
  simp [results, Tryz.results94, asAddr, hres]
set_option maxRecDepth 100000 in
theorem rk_9 (cs : Array Value) (hc : CpuOk cs) (f : Int) (hf : f = 0 ∨ f = 1) (u v : Bool) (a b c : Nat) (n : Int) (hr : rightB f u v a b 9 c n = true) (w : World) :
 Calls Tryz.prog 94 #[.agg cs, ins f u v a b 9 c n] w fun e w' => e = .returned (.tuple #[.agg (((fin cs a (subS (rgV cs b) (opX cs f v c n) (u && flV cs 19))).setIfInBounds 19 (.bool (subC (rgV cs b) (opX cs f v c n) (u && flV cs 19)))).setIfInBounds 20 (.bool (subV (rgV cs b) (opX cs f v c n) (u && flV cs 19)))), .bool true]) ∧ Below w.heap.size w w' := by
 have hn := reck_n (hf) hr
 have hn0 := hn.1
 have hn1 := hn.2
 clear hn
 have ha : a ≤ 15 := by have := (right_inv hr).1; omega
 have hbb : (b : Int) < 16 := by have := (right_inv hr).2.1; omega
 have hcc : (c : Int) < 16 := by have := (right_inv hr).2.2.1; omega
 obtain ⟨hrc, hrc0, hrc1⟩ := hc.rg (k := c) (by omega)
 obtain ⟨hrb, hrb0, hrb1⟩ := hc.rg (k := b) (by omega)
 obtain ⟨hX0, hX1⟩ := opX_bd hc f v (by omega : c ≤ 15) hn0 hn1
 have hot := or_top n hn0 hn1
 have HRC := hid hrc
 have HRB := hid hrb
 have HC := hid hc
 have HR := hid hr
 clear hrc hrb hc hr
 unfold ins
 obtain ⟨h0, h1, h2, hs, hB⟩ := three_made w cs #[.int .i64 f, .bool u, .bool v, .int .i64 a, .int .i64 b, .int .i64 9, .int .i64 c, .int .i64 n] #[.int .u32 0, .int .u32 0, .int .u32 0, .int .u32 0, .int .u32 0, .int .u32 0, .int .u32 0, .int .u32 0, .int .u32 0, .int .u32 0, .int .u32 0, .int .u32 0, .int .u32 0, .int .u32 0, .int .u32 0, .int .u32 0, .int .u32 0, .bool false, .bool false, .bool false, .bool false, .int .u32 0] 50 92 50
 have K0 := hid h0
 have K1 := hid h1
 have K2 := hid h2
 have KB := hid hB
 clear h0 h1 h2 hs hB
 go_enter Tryz.func94, Tryz.ntmps94
 go_upto_region 1 with fail
 generalize ((w.alloc (.cells cs 50)).alloc (.cells #[.int .i64 f, .bool u, .bool v, .int .i64 a, .int .i64 b, .int .i64 9, .int .i64 c, .int .i64 n] 92)).alloc (.cells #[.int .u32 0, .int .u32 0, .int .u32 0, .int .u32 0, .int .u32 0, .int .u32 0, .int .u32 0, .int .u32 0, .int .u32 0, .int .u32 0, .int .u32 0, .int .u32 0, .int .u32 0, .int .u32 0, .int .u32 0, .int .u32 0, .int .u32 0, .bool false, .bool false, .bool false, .bool false, .int .u32 0] 50) = W at K0 K1 K2 KB ⊢
 have i0 : W.cell? ⟨w.heap.size + 1, 0, none⟩ = some (.int .i64 f) := K1.out.cell 0
 have i2 : W.cell? ⟨w.heap.size + 1, 2, none⟩ = some (.bool v) := K1.out.cell 2
 have i4 : W.cell? ⟨w.heap.size + 1, 4, none⟩ = some (.int .i64 b) := K1.out.cell 4
 have i5 : W.cell? ⟨w.heap.size + 1, 5, none⟩ = some (.int .i64 9) := K1.out.cell 5
 have i6 : W.cell? ⟨w.heap.size + 1, 6, none⟩ = some (.int .i64 c) := K1.out.cell 6
 have i7 : W.cell? ⟨w.heap.size + 1, 7, none⟩ = some (.int .i64 n) := K1.out.cell 7
 have oc := (K0.out.cell c).trans HRC.out
 have ob := (K0.out.cell b).trans HRB.out
 go_upto_if 18 with fail
 go_cut [6] from 11 to 25 (fun s6 wx => s6 = .int .u32 (opX cs f v c n) ∧ W = wx)
 case first =>
  rcases hf with rfl | rfl
  ·go_wp2_with fail
   go_meet
   exact ⟨rfl, rfl⟩
  ·cases v
   ·go_wp2_with fail
    go_meet
    exact ⟨rfl, rfl⟩
   ·go_wp2_with fail
    go_meet
    exact ⟨rfl, rfl⟩
 case rest =>
  obtain ⟨rfl, rfl⟩ := hcut
  clear oc hot i0 i2 i6 i7 hcc hrc0 hrc1 HRC
  generalize hx : opX cs f v c n = x at hX0 hX1 ⊢
  generalize hy : rgV cs b = y at hrb0 hrb1 HRB ob ⊢
  have HX := hid hx
  have HY := hid hy
  clear hx hy
  obtain ⟨m, hm⟩ : ∃ m : Nat, x % 32 = (m : Int) := ⟨(x % 32).toNat, by omega⟩
  have hm31 : (m : Int) ≤ 31 := by omega
  have HM : Hid ((x % 32).toNat = m) := by unfold Hid; omega
  have hl := load_cpu K0.out HC.out.size
  have i0 : W.cell? ⟨w.heap.size + 1, 0, none⟩ = some (.int .i64 f) := K1.out.cell 0
  have i1 : W.cell? ⟨w.heap.size + 1, 1, none⟩ = some (.bool u) := K1.out.cell 1
  have i2 : W.cell? ⟨w.heap.size + 1, 2, none⟩ = some (.bool v) := K1.out.cell 2
  have i3 : W.cell? ⟨w.heap.size + 1, 3, none⟩ = some (.int .i64 a) := K1.out.cell 3
  have i4 : W.cell? ⟨w.heap.size + 1, 4, none⟩ = some (.int .i64 b) := K1.out.cell 4
  have i6 : W.cell? ⟨w.heap.size + 1, 6, none⟩ = some (.int .i64 c) := K1.out.cell 6
  have i7 : W.cell? ⟨w.heap.size + 1, 7, none⟩ = some (.int .i64 n) := K1.out.cell 7
  have hs : Hid ((((fin cs a (subS y x (u && flV cs 19))).setIfInBounds 19 (.bool (subC y x (u && flV cs 19)))).setIfInBounds 20 (.bool (subV y x (u && flV cs 19)))).size = 22) := by unfold Hid; simp [fin, HC.out.size]
  have ho : Hid (OneRow (((fin cs a (subS y x (u && flV cs 19))).setIfInBounds 19 (.bool (subC y x (u && flV cs 19)))).setIfInBounds 20 (.bool (subV y x (u && flV cs 19))))) := ((fin_one HC.out.one).set _ rfl).set _ rfl
  clear hm hm31
  go_wp2_with (go_at_call 107; (refine (summed_sub cs HC.out f u v a ha b c n y x hrb0 hrb1 hX0 hX1 _).mono ?_; rintro e w1 ⟨rfl, hb1⟩; have M2 := hid (K2.out.step hb1); have MB := hid (KB.out.trans (hb1.mono KB.out.size)); have hst := store_cpu (cs := (((fin cs a (subS y x (u && flV cs 19))).setIfInBounds 19 (.bool (subC y x (u && flV cs 19)))).setIfInBounds 20 (.bool (subV y x (u && flV cs 19))))) M2.out rfl hs.out ho.out; have KRES := hid (loadVar_cpu (M2.out.setRow (((fin cs a (subS y x (u && flV cs 19))).setIfInBounds 19 (.bool (subC y x (u && flV cs 19)))).setIfInBounds 20 (.bool (subV y x (u && flV cs 19))))) hs.out); clear hb1))
  have hres := KRES.out
  refine bodyPost_ret (v := .tuple #[.agg (((fin cs a (subS y x (u && flV cs 19))).setIfInBounds 19 (.bool (subC y x (u && flV cs 19)))).setIfInBounds 20 (.bool (subV y x (u && flV cs 19)))), .bool true]) ?_ rfl ⟨by rw [HX.out, HY.out], belRow MB.out (by omega) _⟩
  simp [results, Tryz.results94, asAddr, hres]
set_option maxRecDepth 100000 in
theorem rk_10 (cs : Array Value) (hc : CpuOk cs) (f : Int) (hf : f = 0 ∨ f = 1) (u v : Bool) (a b c : Nat) (n : Int) (hr : rightB f u v a b 10 c n = true) (w : World) :
 Calls Tryz.prog 94 #[.agg cs, ins f u v a b 10 c n] w fun e w' => e = .returned (.tuple #[.agg (fin (cs.setIfInBounds 16 (.int .u32 (mulH (rgV cs b) (opX cs f v c n) u))) a (mulL (rgV cs b) (opX cs f v c n) u)), .bool true]) ∧ Below w.heap.size w w' := by
 have hn := reck_n (hf) hr
 have hn0 := hn.1
 have hn1 := hn.2
 clear hn
 have ha : a ≤ 15 := by have := (right_inv hr).1; omega
 have hbb : (b : Int) < 16 := by have := (right_inv hr).2.1; omega
 have hcc : (c : Int) < 16 := by have := (right_inv hr).2.2.1; omega
 obtain ⟨hrc, hrc0, hrc1⟩ := hc.rg (k := c) (by omega)
 obtain ⟨hrb, hrb0, hrb1⟩ := hc.rg (k := b) (by omega)
 obtain ⟨hX0, hX1⟩ := opX_bd hc f v (by omega : c ≤ 15) hn0 hn1
 have hot := or_top n hn0 hn1
 have HRC := hid hrc
 have HRB := hid hrb
 have HC := hid hc
 have HR := hid hr
 clear hrc hrb hc hr
 unfold ins
 obtain ⟨h0, h1, h2, hs, hB⟩ := three_made w cs #[.int .i64 f, .bool u, .bool v, .int .i64 a, .int .i64 b, .int .i64 10, .int .i64 c, .int .i64 n] #[.int .u32 0, .int .u32 0, .int .u32 0, .int .u32 0, .int .u32 0, .int .u32 0, .int .u32 0, .int .u32 0, .int .u32 0, .int .u32 0, .int .u32 0, .int .u32 0, .int .u32 0, .int .u32 0, .int .u32 0, .int .u32 0, .int .u32 0, .bool false, .bool false, .bool false, .bool false, .int .u32 0] 50 92 50
 have K0 := hid h0
 have K1 := hid h1
 have K2 := hid h2
 have KB := hid hB
 clear h0 h1 h2 hs hB
 go_enter Tryz.func94, Tryz.ntmps94
 go_upto_region 1 with fail
 generalize ((w.alloc (.cells cs 50)).alloc (.cells #[.int .i64 f, .bool u, .bool v, .int .i64 a, .int .i64 b, .int .i64 10, .int .i64 c, .int .i64 n] 92)).alloc (.cells #[.int .u32 0, .int .u32 0, .int .u32 0, .int .u32 0, .int .u32 0, .int .u32 0, .int .u32 0, .int .u32 0, .int .u32 0, .int .u32 0, .int .u32 0, .int .u32 0, .int .u32 0, .int .u32 0, .int .u32 0, .int .u32 0, .int .u32 0, .bool false, .bool false, .bool false, .bool false, .int .u32 0] 50) = W at K0 K1 K2 KB ⊢
 have i0 : W.cell? ⟨w.heap.size + 1, 0, none⟩ = some (.int .i64 f) := K1.out.cell 0
 have i2 : W.cell? ⟨w.heap.size + 1, 2, none⟩ = some (.bool v) := K1.out.cell 2
 have i4 : W.cell? ⟨w.heap.size + 1, 4, none⟩ = some (.int .i64 b) := K1.out.cell 4
 have i5 : W.cell? ⟨w.heap.size + 1, 5, none⟩ = some (.int .i64 10) := K1.out.cell 5
 have i6 : W.cell? ⟨w.heap.size + 1, 6, none⟩ = some (.int .i64 c) := K1.out.cell 6
 have i7 : W.cell? ⟨w.heap.size + 1, 7, none⟩ = some (.int .i64 n) := K1.out.cell 7
 have oc := (K0.out.cell c).trans HRC.out
 have ob := (K0.out.cell b).trans HRB.out
 go_upto_if 18 with fail
 go_cut [6] from 11 to 25 (fun s6 wx => s6 = .int .u32 (opX cs f v c n) ∧ W = wx)
 case first =>
  rcases hf with rfl | rfl
  ·go_wp2_with fail
   go_meet
   exact ⟨rfl, rfl⟩
  ·cases v
   ·go_wp2_with fail
    go_meet
    exact ⟨rfl, rfl⟩
   ·go_wp2_with fail
    go_meet
    exact ⟨rfl, rfl⟩
 case rest =>
  obtain ⟨rfl, rfl⟩ := hcut
  clear oc hot i0 i2 i6 i7 hcc hrc0 hrc1 HRC
  generalize hx : opX cs f v c n = x at hX0 hX1 ⊢
  generalize hy : rgV cs b = y at hrb0 hrb1 HRB ob ⊢
  have HX := hid hx
  have HY := hid hy
  clear hx hy
  obtain ⟨m, hm⟩ : ∃ m : Nat, x % 32 = (m : Int) := ⟨(x % 32).toNat, by omega⟩
  have hm31 : (m : Int) ≤ 31 := by omega
  have HM : Hid ((x % 32).toNat = m) := by unfold Hid; omega
  have hl := load_cpu K0.out HC.out.size
  have i0 : W.cell? ⟨w.heap.size + 1, 0, none⟩ = some (.int .i64 f) := K1.out.cell 0
  have i1 : W.cell? ⟨w.heap.size + 1, 1, none⟩ = some (.bool u) := K1.out.cell 1
  have i2 : W.cell? ⟨w.heap.size + 1, 2, none⟩ = some (.bool v) := K1.out.cell 2
  have i3 : W.cell? ⟨w.heap.size + 1, 3, none⟩ = some (.int .i64 a) := K1.out.cell 3
  have i4 : W.cell? ⟨w.heap.size + 1, 4, none⟩ = some (.int .i64 b) := K1.out.cell 4
  have i6 : W.cell? ⟨w.heap.size + 1, 6, none⟩ = some (.int .i64 c) := K1.out.cell 6
  have i7 : W.cell? ⟨w.heap.size + 1, 7, none⟩ = some (.int .i64 n) := K1.out.cell 7
  have hs : Hid ((fin (cs.setIfInBounds 16 (.int .u32 (mulH y x u))) a (mulL y x u)).size = 22) := by unfold Hid; simp [fin, HC.out.size]
  have ho : Hid (OneRow (fin (cs.setIfInBounds 16 (.int .u32 (mulH y x u))) a (mulL y x u))) := fin_one (HC.out.one.set _ rfl)
  clear hm hm31
  go_wp2_with (go_at_call 108; (refine (product_any cs HC.out f u v a ha b 10 c n y x hrb0 hrb1 hX0 hX1 _).mono ?_; rintro e w1 ⟨rfl, hb1⟩; have M2 := hid (K2.out.step hb1); have MB := hid (KB.out.trans (hb1.mono KB.out.size)); have hst := store_cpu (cs := (fin (cs.setIfInBounds 16 (.int .u32 (mulH y x u))) a (mulL y x u))) M2.out rfl hs.out ho.out; have KRES := hid (loadVar_cpu (M2.out.setRow (fin (cs.setIfInBounds 16 (.int .u32 (mulH y x u))) a (mulL y x u))) hs.out); clear hb1))
  have hres := KRES.out
  refine bodyPost_ret (v := .tuple #[.agg (fin (cs.setIfInBounds 16 (.int .u32 (mulH y x u))) a (mulL y x u)), .bool true]) ?_ rfl ⟨by rw [HX.out, HY.out], belRow MB.out (by omega) _⟩
  simp [results, Tryz.results94, asAddr, hres]
set_option maxRecDepth 100000 in
theorem rk_11n (cs : Array Value) (hc : CpuOk cs) (f : Int) (hf : f = 0 ∨ f = 1) (u v : Bool) (a b c : Nat) (n : Int) (hd : divOk (opX cs f v c n) = false) (hr : rightB f u v a b 11 c n = true) (w : World) :
 Calls Tryz.prog 94 #[.agg cs, ins f u v a b 11 c n] w fun e w' => e = .returned (.tuple #[.agg cs, .bool false]) ∧ Below w.heap.size w w' := by
 have hn := reck_n (hf) hr
 have hn0 := hn.1
 have hn1 := hn.2
 clear hn
 have ha : a ≤ 15 := by have := (right_inv hr).1; omega
 have hbb : (b : Int) < 16 := by have := (right_inv hr).2.1; omega
 have hcc : (c : Int) < 16 := by have := (right_inv hr).2.2.1; omega
 obtain ⟨hrc, hrc0, hrc1⟩ := hc.rg (k := c) (by omega)
 obtain ⟨hrb, hrb0, hrb1⟩ := hc.rg (k := b) (by omega)
 obtain ⟨hX0, hX1⟩ := opX_bd hc f v (by omega : c ≤ 15) hn0 hn1
 have hot := or_top n hn0 hn1
 have HRC := hid hrc
 have HRB := hid hrb
 have HC := hid hc
 have HR := hid hr
 clear hrc hrb hc hr
 unfold ins
 obtain ⟨h0, h1, h2, hs, hB⟩ := three_made w cs #[.int .i64 f, .bool u, .bool v, .int .i64 a, .int .i64 b, .int .i64 11, .int .i64 c, .int .i64 n] #[.int .u32 0, .int .u32 0, .int .u32 0, .int .u32 0, .int .u32 0, .int .u32 0, .int .u32 0, .int .u32 0, .int .u32 0, .int .u32 0, .int .u32 0, .int .u32 0, .int .u32 0, .int .u32 0, .int .u32 0, .int .u32 0, .int .u32 0, .bool false, .bool false, .bool false, .bool false, .int .u32 0] 50 92 50
 have K0 := hid h0
 have K1 := hid h1
 have K2 := hid h2
 have KB := hid hB
 clear h0 h1 h2 hs hB
 go_enter Tryz.func94, Tryz.ntmps94
 go_upto_region 1 with fail
 generalize ((w.alloc (.cells cs 50)).alloc (.cells #[.int .i64 f, .bool u, .bool v, .int .i64 a, .int .i64 b, .int .i64 11, .int .i64 c, .int .i64 n] 92)).alloc (.cells #[.int .u32 0, .int .u32 0, .int .u32 0, .int .u32 0, .int .u32 0, .int .u32 0, .int .u32 0, .int .u32 0, .int .u32 0, .int .u32 0, .int .u32 0, .int .u32 0, .int .u32 0, .int .u32 0, .int .u32 0, .int .u32 0, .int .u32 0, .bool false, .bool false, .bool false, .bool false, .int .u32 0] 50) = W at K0 K1 K2 KB ⊢
 have i0 : W.cell? ⟨w.heap.size + 1, 0, none⟩ = some (.int .i64 f) := K1.out.cell 0
 have i2 : W.cell? ⟨w.heap.size + 1, 2, none⟩ = some (.bool v) := K1.out.cell 2
 have i4 : W.cell? ⟨w.heap.size + 1, 4, none⟩ = some (.int .i64 b) := K1.out.cell 4
 have i5 : W.cell? ⟨w.heap.size + 1, 5, none⟩ = some (.int .i64 11) := K1.out.cell 5
 have i6 : W.cell? ⟨w.heap.size + 1, 6, none⟩ = some (.int .i64 c) := K1.out.cell 6
 have i7 : W.cell? ⟨w.heap.size + 1, 7, none⟩ = some (.int .i64 n) := K1.out.cell 7
 have oc := (K0.out.cell c).trans HRC.out
 have ob := (K0.out.cell b).trans HRB.out
 go_upto_if 18 with fail
 go_cut [6] from 11 to 25 (fun s6 wx => s6 = .int .u32 (opX cs f v c n) ∧ W = wx)
 case first =>
  rcases hf with rfl | rfl
  ·go_wp2_with fail
   go_meet
   exact ⟨rfl, rfl⟩
  ·cases v
   ·go_wp2_with fail
    go_meet
    exact ⟨rfl, rfl⟩
   ·go_wp2_with fail
    go_meet
    exact ⟨rfl, rfl⟩
 case rest =>
  obtain ⟨rfl, rfl⟩ := hcut
  clear oc hot i0 i2 i6 i7 hcc hrc0 hrc1 HRC
  generalize hx : opX cs f v c n = x at hX0 hX1 ⊢
  generalize hy : rgV cs b = y at hrb0 hrb1 HRB ob ⊢
  have HX := hid hx
  have HY := hid hy
  clear hx hy
  obtain ⟨m, hm⟩ : ∃ m : Nat, x % 32 = (m : Int) := ⟨(x % 32).toNat, by omega⟩
  have hm31 : (m : Int) ≤ 31 := by omega
  have HM : Hid ((x % 32).toNat = m) := by unfold Hid; omega
  rw [HX.out] at hd
  have hd' : sg x ≤ 0 := by unfold divOk at hd; simpa using hd
  have hl := load_cpu K0.out HC.out.size
  have hst := store_cpu (cs := cs) K2.out rfl HC.out.size HC.out.one
  have KRES := hid (loadVar_cpu (K2.out.setRow cs) HC.out.size)
  have MB := KB
  clear hm hm31 hd
  go_wp2_with (go_at_call 105; refine (number_any _ hX0 hX1 _).mono ?_; rintro e w1 ⟨rfl, rfl⟩)
  have hres := KRES.out
  refine bodyPost_ret (v := .tuple #[.agg cs, .bool false]) ?_ rfl ⟨by rfl, belRow MB.out (by omega) _⟩
  simp [results, Tryz.results94, asAddr, hres]
set_option maxRecDepth 100000 in
theorem rk_11y (cs : Array Value) (hc : CpuOk cs) (f : Int) (hf : f = 0 ∨ f = 1) (u v : Bool) (a b c : Nat) (n : Int) (hd : divOk (opX cs f v c n) = true) (hr : rightB f u v a b 11 c n = true) (w : World) :
 Calls Tryz.prog 94 #[.agg cs, ins f u v a b 11 c n] w fun e w' => e = .returned (.tuple #[.agg (fin (cs.setIfInBounds 16 (.int .u32 (divR (rgV cs b) (opX cs f v c n)))) a (divQ (rgV cs b) (opX cs f v c n))), .bool true]) ∧ Below w.heap.size w w' := by
 have hn := reck_n (hf) hr
 have hn0 := hn.1
 have hn1 := hn.2
 clear hn
 have ha : a ≤ 15 := by have := (right_inv hr).1; omega
 have hbb : (b : Int) < 16 := by have := (right_inv hr).2.1; omega
 have hcc : (c : Int) < 16 := by have := (right_inv hr).2.2.1; omega
 obtain ⟨hrc, hrc0, hrc1⟩ := hc.rg (k := c) (by omega)
 obtain ⟨hrb, hrb0, hrb1⟩ := hc.rg (k := b) (by omega)
 obtain ⟨hX0, hX1⟩ := opX_bd hc f v (by omega : c ≤ 15) hn0 hn1
 have hot := or_top n hn0 hn1
 have HRC := hid hrc
 have HRB := hid hrb
 have HC := hid hc
 have HR := hid hr
 clear hrc hrb hc hr
 unfold ins
 obtain ⟨h0, h1, h2, hs, hB⟩ := three_made w cs #[.int .i64 f, .bool u, .bool v, .int .i64 a, .int .i64 b, .int .i64 11, .int .i64 c, .int .i64 n] #[.int .u32 0, .int .u32 0, .int .u32 0, .int .u32 0, .int .u32 0, .int .u32 0, .int .u32 0, .int .u32 0, .int .u32 0, .int .u32 0, .int .u32 0, .int .u32 0, .int .u32 0, .int .u32 0, .int .u32 0, .int .u32 0, .int .u32 0, .bool false, .bool false, .bool false, .bool false, .int .u32 0] 50 92 50
 have K0 := hid h0
 have K1 := hid h1
 have K2 := hid h2
 have KB := hid hB
 clear h0 h1 h2 hs hB
 go_enter Tryz.func94, Tryz.ntmps94
 go_upto_region 1 with fail
 generalize ((w.alloc (.cells cs 50)).alloc (.cells #[.int .i64 f, .bool u, .bool v, .int .i64 a, .int .i64 b, .int .i64 11, .int .i64 c, .int .i64 n] 92)).alloc (.cells #[.int .u32 0, .int .u32 0, .int .u32 0, .int .u32 0, .int .u32 0, .int .u32 0, .int .u32 0, .int .u32 0, .int .u32 0, .int .u32 0, .int .u32 0, .int .u32 0, .int .u32 0, .int .u32 0, .int .u32 0, .int .u32 0, .int .u32 0, .bool false, .bool false, .bool false, .bool false, .int .u32 0] 50) = W at K0 K1 K2 KB ⊢
 have i0 : W.cell? ⟨w.heap.size + 1, 0, none⟩ = some (.int .i64 f) := K1.out.cell 0
 have i2 : W.cell? ⟨w.heap.size + 1, 2, none⟩ = some (.bool v) := K1.out.cell 2
 have i4 : W.cell? ⟨w.heap.size + 1, 4, none⟩ = some (.int .i64 b) := K1.out.cell 4
 have i5 : W.cell? ⟨w.heap.size + 1, 5, none⟩ = some (.int .i64 11) := K1.out.cell 5
 have i6 : W.cell? ⟨w.heap.size + 1, 6, none⟩ = some (.int .i64 c) := K1.out.cell 6
 have i7 : W.cell? ⟨w.heap.size + 1, 7, none⟩ = some (.int .i64 n) := K1.out.cell 7
 have oc := (K0.out.cell c).trans HRC.out
 have ob := (K0.out.cell b).trans HRB.out
 go_upto_if 18 with fail
 go_cut [6] from 11 to 25 (fun s6 wx => s6 = .int .u32 (opX cs f v c n) ∧ W = wx)
 case first =>
  rcases hf with rfl | rfl
  ·go_wp2_with fail
   go_meet
   exact ⟨rfl, rfl⟩
  ·cases v
   ·go_wp2_with fail
    go_meet
    exact ⟨rfl, rfl⟩
   ·go_wp2_with fail
    go_meet
    exact ⟨rfl, rfl⟩
 case rest =>
  obtain ⟨rfl, rfl⟩ := hcut
  clear oc hot i0 i2 i6 i7 hcc hrc0 hrc1 HRC
  generalize hx : opX cs f v c n = x at hX0 hX1 ⊢
  generalize hy : rgV cs b = y at hrb0 hrb1 HRB ob ⊢
  have HX := hid hx
  have HY := hid hy
  clear hx hy
  obtain ⟨m, hm⟩ : ∃ m : Nat, x % 32 = (m : Int) := ⟨(x % 32).toNat, by omega⟩
  have hm31 : (m : Int) ≤ 31 := by omega
  have HM : Hid ((x % 32).toNat = m) := by unfold Hid; omega
  rw [HX.out] at hd
  have hd' : 0 < sg x := by unfold divOk at hd; simp at hd; omega
  obtain ⟨hsy0, hsy1⟩ := sg_bd y hrb0 hrb1
  obtain ⟨hsx0, hsx1⟩ := sg_bd x hX0 hX1
  have e1 : (sg y / sg x) % 4294967296 = divQ y x := by unfold divQ; rw [if_neg (by omega)]
  have hr0 := Int.emod_nonneg (sg y) (show sg x ≠ 0 by omega)
  have hr1 := Int.emod_lt_of_pos (sg y) hd'
  have e2 : sg y % sg x = divR y x := by unfold divR; rw [if_neg (by omega)]
  have hR := hid (divR_bd y x ⟨hrb0, hrb1⟩ ⟨hX0, hX1⟩)
  have hQ : Hid (0 ≤ divQ y x ∧ divQ y x < 4294967296) := by unfold Hid; rw [← e1]; omega
  have E1 := hid e1
  have E2 := hid e2
  obtain ⟨x16, c16⟩ := at_some (k := 16) HC.out.size (by omega)
  have d16 := (K0.out.cell 16).trans c16
  have df := K0.out.frozen
  clear hm hm31 hd e1 e2 c16
  go_upto_region 34 with (first | (go_at_call 105; refine (number_any _ (by assumption) (by assumption) _).mono ?_; rintro e w1 ⟨rfl, rfl⟩) | (go_at_call 109; refine (down_any _ _ ⟨hsy0, hsy1⟩ hd' hsx1 _).mono ?_; rintro e w1 ⟨rfl, rfl⟩))
  rw [E2.out]
  have hc2 : Hid (CpuOk (cs.setIfInBounds 16 (.int .u32 (divR y x)))) := HC.out.setW 16 (.inl (by omega)) _ hR.out.1 hR.out.2
  have L0 := hid (K0.out.set 16 (.int .u32 (divR y x)))
  have L1 := hid (K1.out.far (p := ⟨w.heap.size, 16, none⟩) (by simp) (.int .u32 (divR y x)))
  have L2 := hid (K2.out.far (p := ⟨w.heap.size, 16, none⟩) (by simp; omega) (.int .u32 (divR y x)))
  have LB := hid (KB.out.setCell (p := ⟨w.heap.size, 16, none⟩) (Nat.le_refl _) (.int .u32 (divR y x)))
  clear K0 K1 K2 KB i5 d16 df hr0 hr1
  generalize W.setCell ⟨w.heap.size, 16, none⟩ (.int .u32 (divR y x)) = W2 at L0 L1 L2 LB ⊢
  generalize hCC : cs.setIfInBounds 16 (.int .u32 (divR y x)) = CC at L0 hc2 ⊢
  have HCC := hid hCC
  clear hCC
  have hl := load_cpu L0.out hc2.out.size
  have i3 : W2.cell? ⟨w.heap.size + 1, 3, none⟩ = some (.int .i64 a) := L1.out.cell 3
  go_wp2_with (go_at_call 93; (refine (gets_any CC hc2.out a ha _ (by omega) (by omega) _).mono ?_; rintro e w1 ⟨rfl, hb1⟩; rw [E1.out]; have M2 := hid (L2.out.step hb1); have MB := hid (LB.out.trans (hb1.mono LB.out.size)); have hst := store_cpu (cs := fin CC a (divQ y x)) M2.out rfl (fin_size hc2.out.size) (fin_one hc2.out.one); have KRES := hid (loadVar_cpu (M2.out.setRow (fin CC a (divQ y x))) (fin_size hc2.out.size)); clear hb1))
  have hres := KRES.out
  refine bodyPost_ret (v := .tuple #[.agg (fin CC a (divQ y x)), .bool true]) ?_ rfl ⟨by rw [HX.out, HY.out, ← HCC.out], belRow MB.out (by omega) _⟩
  simp [results, Tryz.results94, asAddr, hres]
end Go.Proofs.YtgcknekhimpfkaaGreatDoor
